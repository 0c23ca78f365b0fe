/- Written by gen.py: each condition of the functions of law4ArithCodes is the one of its body; so it is enough for its call. -/
import Derived.Test.YtlmopdohgipbeaaMlaw4ArithCodes
import Derived.Test.YtlmopdohgipbeaaProg
set_option linter.unusedVariables false
set_option linter.unusedSimpArgs false
namespace Go.Den.Ytlmopdohgipbeaa
open Go Go.Den

noncomputable def hints_burinlaw4_ArithCodes : Hints := Hints.mk (fun i => bif Nat.beq i 4 then some ([], .keep <| .take 0 <| .take 1 <| .take 2 <| .take 3 <| .take 4 <| .take 5 <| .take 6 <| .take 7 <| .take 8 <| .take 9 <| .take 11 <| .take 12 <| .go 10 <| .take 13 <| .take 14 <| .done) else (bif Nat.beq i 12 then some ([27], .keep <| .take 0 <| .take 1 <| .take 3 <| .take 7 <| .take 9 <| .take 14 <| .take 15 <| .take 17 <| .take 21 <| .take 23 <| .take 2 <| .take 4 <| .take 5 <| .take 6 <| .take 8 <| .take 10 <| .take 11 <| .take 12 <| .take 16 <| .take 18 <| .take 19 <| .take 20 <| .take 22 <| .take 24 <| .take 25 <| .take 26 <| .go 13 <| .bar 27 [] <| .take 28 <| .done) else (bif Nat.beq i 21 then some ([6, 13, 17, 18], .take 0 <| .take 1 <| .take 2 <| .take 3 <| .take 4 <| .take 5 <| .bar 6 [13, 17, 18] <| .take 7 <| .take 8 <| .take 9 <| .take 10 <| .take 11 <| .take 12 <| .take 14 <| .take 15 <| .take 16 <| .bar 13 [17, 18] <| .bar 17 [18] <| .bar 18 [] <| .take 19 <| .take 20 <| .done) else (none))))
  (fun i => bif Nat.beq i 10 then some ([(6, .int .i64)], 5192296858534827556472902291292356) else (none))
  (fun i => bif Nat.beq i 19 then some ([], 5192296858534827556472902291292356) else (none))
set_option maxRecDepth 100000 in
theorem eq_burinlaw4_ArithCodes (C : CallP) (a0_1 : Int) (a0_2 : Option Addr) (a0_2n : Nat) (a0_2c : Nat) (h : Heap) (K : Value → Heap → Prop) (Kp : List PanicEntry → Heap → Prop) :
    fnD Go.Proofs.Try.prog C hints_burinlaw4_ArithCodes Go.Proofs.Try.f10 [.agg #[.int .i64 a0_1, .slice a0_2 a0_2n a0_2c]] h K Kp = burinlaw4_ArithCodes C a0_1 a0_2 a0_2n a0_2c h K Kp := by kernel_rfl

theorem call_burinlaw4_ArithCodes {a0_1 : Int} {a0_2 : Option Addr} {a0_2n : Nat} {a0_2c : Nat} {h : Heap} {K : Value → Heap → Prop} {Kp : List PanicEntry → Heap → Prop} (H : burinlaw4_ArithCodes (CallsHP Go.Proofs.Try.prog) a0_1 a0_2 a0_2n a0_2c h K Kp) : CallsHP Go.Proofs.Try.prog F_burinlaw4_ArithCodes #[.agg #[.int .i64 a0_1, .slice a0_2 a0_2n a0_2c]] h K Kp :=
  callsHP_of hints_burinlaw4_ArithCodes (by kernel_rfl) Go.Proofs.Try.func10 (by kernel_rfl) (by rw [eq_burinlaw4_ArithCodes]; exact H)

end Go.Den.Ytlmopdohgipbeaa
