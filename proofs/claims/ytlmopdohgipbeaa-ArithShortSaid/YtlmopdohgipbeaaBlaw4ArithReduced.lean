/- Written by gen.py: each condition of the functions of law4ArithReduced is the one of its body; so it is enough for its call. -/
import Derived.Test.YtlmopdohgipbeaaMlaw4ArithReduced
import Derived.Test.YtlmopdohgipbeaaProg
set_option linter.unusedVariables false
set_option linter.unusedSimpArgs false
namespace Go.Den.Ytlmopdohgipbeaa
open Go Go.Den

noncomputable def hints_burinlaw4_ArithReduced : Hints := Hints.mk (fun i => bif Nat.beq i 15 then some ([9, 15, 19, 20, 23], .take 0 <| .take 1 <| .take 2 <| .take 3 <| .take 4 <| .take 5 <| .take 6 <| .take 7 <| .take 8 <| .bar 9 [15, 19, 20, 23] <| .take 10 <| .take 11 <| .take 12 <| .take 13 <| .take 14 <| .take 16 <| .take 17 <| .take 18 <| .bar 15 [19, 20, 23] <| .bar 19 [20, 23] <| .bar 20 [23] <| .take 21 <| .take 22 <| .bar 23 [] <| .take 24 <| .take 25 <| .done) else (none))
  (fun i => bif Nat.beq i 7 then some ([(8, .int .i64)], 2475880078570758350774994692) else (none))
  (fun i => bif Nat.beq i 13 then some ([], 2475880078570758350774994692) else (none))
set_option maxRecDepth 100000 in
theorem eq_burinlaw4_ArithReduced (C : CallP) (a0_1 : Int) (a0_2 : Option Addr) (a0_2n : Nat) (a0_2c : Nat) (h : Heap) (K : Value → Heap → Prop) (Kp : List PanicEntry → Heap → Prop) :
    fnD Go.Proofs.Try.prog C hints_burinlaw4_ArithReduced Go.Proofs.Try.f9 [.agg #[.int .i64 a0_1, .slice a0_2 a0_2n a0_2c]] h K Kp = burinlaw4_ArithReduced C a0_1 a0_2 a0_2n a0_2c h K Kp := by kernel_rfl

theorem call_burinlaw4_ArithReduced {a0_1 : Int} {a0_2 : Option Addr} {a0_2n : Nat} {a0_2c : Nat} {h : Heap} {K : Value → Heap → Prop} {Kp : List PanicEntry → Heap → Prop} (H : burinlaw4_ArithReduced (CallsHP Go.Proofs.Try.prog) a0_1 a0_2 a0_2n a0_2c h K Kp) : CallsHP Go.Proofs.Try.prog F_burinlaw4_ArithReduced #[.agg #[.int .i64 a0_1, .slice a0_2 a0_2n a0_2c]] h K Kp :=
  callsHP_of hints_burinlaw4_ArithReduced (by kernel_rfl) Go.Proofs.Try.func9 (by kernel_rfl) (by rw [eq_burinlaw4_ArithReduced]; exact H)

end Go.Den.Ytlmopdohgipbeaa
