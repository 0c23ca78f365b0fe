/- Written by gen.py: each condition of the functions of law4x is the one of its body; so it is enough for its call. -/
import Derived.Test.YtlmopdohgipbeaaMlaw4x
import Derived.Test.YtlmopdohgipbeaaProg
set_option linter.unusedVariables false
set_option linter.unusedSimpArgs false
namespace Go.Den.Ytlmopdohgipbeaa
open Go Go.Den

noncomputable def hints_burinlaw4_wakes : Hints := Hints.mk (fun i => none)
  (fun i => bif Nat.beq i 5 then some ([(3, .int .i64)], 4293918729) else (bif Nat.beq i 14 then some ([(7, .int .i64)], 151115583336640570983297) else (none)))
  (fun i => none)
set_option maxRecDepth 100000 in
theorem eq_burinlaw4_wakes (C : CallP)  (h : Heap) (K : Value → Heap → Prop) (Kp : List PanicEntry → Heap → Prop) :
    fnD Go.Proofs.Try.prog C hints_burinlaw4_wakes Go.Proofs.Try.f36 [] h K Kp = burinlaw4_wakes C  h K Kp := by kernel_rfl

theorem call_burinlaw4_wakes  {h : Heap} {K : Value → Heap → Prop} {Kp : List PanicEntry → Heap → Prop} (H : burinlaw4_wakes (CallsHP Go.Proofs.Try.prog)  h K Kp) : CallsHP Go.Proofs.Try.prog F_burinlaw4_wakes #[] h K Kp :=
  callsHP_of hints_burinlaw4_wakes (by kernel_rfl) Go.Proofs.Try.func36 (by kernel_rfl) (by rw [eq_burinlaw4_wakes]; exact H)

noncomputable def hints_burinlaw4_known : Hints := Hints.mk (fun i => none)
  (fun i => none)
  (fun i => none)
set_option maxRecDepth 100000 in
theorem eq_burinlaw4_known (C : CallP)  (h : Heap) (K : Value → Heap → Prop) (Kp : List PanicEntry → Heap → Prop) :
    fnD Go.Proofs.Try.prog C hints_burinlaw4_known Go.Proofs.Try.f37 [] h K Kp = burinlaw4_known C  h K Kp := by kernel_rfl

theorem call_burinlaw4_known  {h : Heap} {K : Value → Heap → Prop} {Kp : List PanicEntry → Heap → Prop} (H : burinlaw4_known (CallsHP Go.Proofs.Try.prog)  h K Kp) : CallsHP Go.Proofs.Try.prog F_burinlaw4_known #[] h K Kp :=
  callsHP_of hints_burinlaw4_known (by kernel_rfl) Go.Proofs.Try.func37 (by kernel_rfl) (by rw [eq_burinlaw4_known]; exact H)

end Go.Den.Ytlmopdohgipbeaa
