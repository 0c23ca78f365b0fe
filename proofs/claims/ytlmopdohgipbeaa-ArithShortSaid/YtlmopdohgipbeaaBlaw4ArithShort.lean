/- Written by gen.py: each condition of the functions of law4ArithShort is the one of its body; so it is enough for its call. -/
import Derived.Test.YtlmopdohgipbeaaMlaw4ArithShort
import Derived.Test.YtlmopdohgipbeaaProg
set_option linter.unusedVariables false
set_option linter.unusedSimpArgs false
namespace Go.Den.Ytlmopdohgipbeaa
open Go Go.Den

noncomputable def hints_burinlaw4_ArithShort : Hints := Hints.mk (fun i => none)
  (fun i => bif Nat.beq i 6 then some ([(6, .int .i64)], 562949919867332) else (none))
  (fun i => none)
set_option maxRecDepth 100000 in
theorem eq_burinlaw4_ArithShort (C : CallP) (a0_1 : Int) (a0_2 : Option Addr) (a0_2n : Nat) (a0_2c : Nat) (h : Heap) (K : Value → Heap → Prop) (Kp : List PanicEntry → Heap → Prop) :
    fnD Go.Proofs.Try.prog C hints_burinlaw4_ArithShort Go.Proofs.Try.f6 [.agg #[.int .i64 a0_1, .slice a0_2 a0_2n a0_2c]] h K Kp = burinlaw4_ArithShort C a0_1 a0_2 a0_2n a0_2c h K Kp := by kernel_rfl

theorem call_burinlaw4_ArithShort {a0_1 : Int} {a0_2 : Option Addr} {a0_2n : Nat} {a0_2c : Nat} {h : Heap} {K : Value → Heap → Prop} {Kp : List PanicEntry → Heap → Prop} (H : burinlaw4_ArithShort (CallsHP Go.Proofs.Try.prog) a0_1 a0_2 a0_2n a0_2c h K Kp) : CallsHP Go.Proofs.Try.prog F_burinlaw4_ArithShort #[.agg #[.int .i64 a0_1, .slice a0_2 a0_2n a0_2c]] h K Kp :=
  callsHP_of hints_burinlaw4_ArithShort (by kernel_rfl) Go.Proofs.Try.func6 (by kernel_rfl) (by rw [eq_burinlaw4_ArithShort]; exact H)

end Go.Den.Ytlmopdohgipbeaa
