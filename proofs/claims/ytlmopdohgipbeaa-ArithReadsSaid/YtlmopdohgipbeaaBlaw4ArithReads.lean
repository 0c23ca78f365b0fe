/- Written by gen.py: each condition of the functions of law4ArithReads is the one of its body; so it is enough for its call. -/
import Derived.Test.YtlmopdohgipbeaaMlaw4ArithReads
import Derived.Test.YtlmopdohgipbeaaProg
set_option linter.unusedVariables false
set_option linter.unusedSimpArgs false
namespace Go.Den.Ytlmopdohgipbeaa
open Go Go.Den

noncomputable def hints_burinlaw4_ArithReads : Hints := Hints.mk (fun i => bif Nat.beq i 7 then some ([], .take 0 <| .take 1 <| .take 2 <| .take 3 <| .take 4 <| .take 5 <| .take 6 <| .take 7 <| .take 8 <| .take 9 <| .take 11 <| .take 12 <| .go 10 <| .take 13 <| .take 14 <| .done) else (bif Nat.beq i 19 then some ([7, 11, 12], .take 0 <| .take 1 <| .take 2 <| .take 3 <| .take 4 <| .take 5 <| .take 6 <| .take 8 <| .take 9 <| .take 10 <| .bar 7 [11, 12] <| .bar 11 [12] <| .bar 12 [] <| .take 13 <| .take 14 <| .done) else (bif Nat.beq i 21 then some ([3, 7, 8, 10], .take 0 <| .take 1 <| .take 2 <| .take 4 <| .take 5 <| .take 6 <| .bar 3 [7, 8, 10] <| .bar 7 [8, 10] <| .bar 8 [10] <| .take 9 <| .bar 10 [] <| .take 11 <| .take 12 <| .done) else (none))))
  (fun i => bif Nat.beq i 13 then some ([(7, .int .i64)], 5316911983139663196467323061768556420) else (none))
  (fun i => bif Nat.beq i 21 then some ([], 5316911983139663196467323061768556420) else (none))
set_option maxRecDepth 100000 in
theorem eq_burinlaw4_ArithReads (C : CallP) (a0_1 : Option Addr) (a0_1n : Nat) (a0_1c : Nat) (a0_2 : Int) (a0_3 : Option Addr) (a0_3n : Nat) (a0_3c : Nat) (h : Heap) (K : Value → Heap → Prop) (Kp : List PanicEntry → Heap → Prop) :
    fnD Go.Proofs.Try.prog C hints_burinlaw4_ArithReads Go.Proofs.Try.f11 [.agg #[.slice a0_1 a0_1n a0_1c, .int .i64 a0_2, .slice a0_3 a0_3n a0_3c]] h K Kp = burinlaw4_ArithReads C a0_1 a0_1n a0_1c a0_2 a0_3 a0_3n a0_3c h K Kp := by kernel_rfl

theorem call_burinlaw4_ArithReads {a0_1 : Option Addr} {a0_1n : Nat} {a0_1c : Nat} {a0_2 : Int} {a0_3 : Option Addr} {a0_3n : Nat} {a0_3c : Nat} {h : Heap} {K : Value → Heap → Prop} {Kp : List PanicEntry → Heap → Prop} (H : burinlaw4_ArithReads (CallsHP Go.Proofs.Try.prog) a0_1 a0_1n a0_1c a0_2 a0_3 a0_3n a0_3c h K Kp) : CallsHP Go.Proofs.Try.prog F_burinlaw4_ArithReads #[.agg #[.slice a0_1 a0_1n a0_1c, .int .i64 a0_2, .slice a0_3 a0_3n a0_3c]] h K Kp :=
  callsHP_of hints_burinlaw4_ArithReads (by kernel_rfl) Go.Proofs.Try.func11 (by kernel_rfl) (by rw [eq_burinlaw4_ArithReads]; exact H)

end Go.Den.Ytlmopdohgipbeaa
