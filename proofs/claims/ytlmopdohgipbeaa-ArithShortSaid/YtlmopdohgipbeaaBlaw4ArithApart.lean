/- Written by gen.py: each condition of the functions of law4ArithApart is the one of its body; so it is enough for its call. -/
import Derived.Test.YtlmopdohgipbeaaMlaw4ArithApart
import Derived.Test.YtlmopdohgipbeaaProg
set_option linter.unusedVariables false
set_option linter.unusedSimpArgs false
namespace Go.Den.Ytlmopdohgipbeaa
open Go Go.Den

noncomputable def hints_burinlaw4_ArithApart : Hints := Hints.mk (fun i => bif Nat.beq i 19 then some ([16], .take 0 <| .take 1 <| .take 3 <| .take 7 <| .take 9 <| .take 11 <| .take 2 <| .take 4 <| .take 5 <| .take 6 <| .take 10 <| .take 12 <| .take 13 <| .take 14 <| .take 15 <| .go 8 <| .bar 16 [] <| .done) else (none))
  (fun i => bif Nat.beq i 8 then some ([(10, .int .i64)], 20769187434139310225891609165175812) else (bif Nat.beq i 17 then some ([(13, .int .i64)], 5575186278863468351244619054040105059622912) else (none)))
  (fun i => bif Nat.beq i 16 then some ([], 20769187434139310225891609165175812) else (bif Nat.beq i 20 then some ([], 5575186278863468351244619054040105059622912) else (none)))
set_option maxRecDepth 100000 in
theorem eq_burinlaw4_ArithApart (C : CallP) (a0_1 : Int) (a0_2 : Option Addr) (a0_2n : Nat) (a0_2c : Nat) (h : Heap) (K : Value → Heap → Prop) (Kp : List PanicEntry → Heap → Prop) :
    fnD Go.Proofs.Try.prog C hints_burinlaw4_ArithApart Go.Proofs.Try.f12 [.agg #[.int .i64 a0_1, .slice a0_2 a0_2n a0_2c]] h K Kp = burinlaw4_ArithApart C a0_1 a0_2 a0_2n a0_2c h K Kp := by kernel_rfl

theorem call_burinlaw4_ArithApart {a0_1 : Int} {a0_2 : Option Addr} {a0_2n : Nat} {a0_2c : Nat} {h : Heap} {K : Value → Heap → Prop} {Kp : List PanicEntry → Heap → Prop} (H : burinlaw4_ArithApart (CallsHP Go.Proofs.Try.prog) a0_1 a0_2 a0_2n a0_2c h K Kp) : CallsHP Go.Proofs.Try.prog F_burinlaw4_ArithApart #[.agg #[.int .i64 a0_1, .slice a0_2 a0_2n a0_2c]] h K Kp :=
  callsHP_of hints_burinlaw4_ArithApart (by kernel_rfl) Go.Proofs.Try.func12 (by kernel_rfl) (by rw [eq_burinlaw4_ArithApart]; exact H)

end Go.Den.Ytlmopdohgipbeaa
