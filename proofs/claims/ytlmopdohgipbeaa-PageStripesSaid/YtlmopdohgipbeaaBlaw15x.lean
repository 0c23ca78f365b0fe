/- Written by gen.py: each condition of the functions of law15x is the one of its body; so it is enough for its call. -/
import Derived.Test.YtlmopdohgipbeaaMlaw15x
import Derived.Test.YtlmopdohgipbeaaProg
set_option linter.unusedVariables false
set_option linter.unusedSimpArgs false
namespace Go.Den.Ytlmopdohgipbeaa
open Go Go.Den

noncomputable def hints_burinlaw15_wakes : Hints := Hints.mk (fun i => none)
  (fun i => none)
  (fun i => none)
set_option maxRecDepth 100000 in
theorem eq_burinlaw15_wakes (C : CallP)  (h : Heap) (K : Value → Heap → Prop) (Kp : List PanicEntry → Heap → Prop) :
    fnD Go.Proofs.Try.prog C hints_burinlaw15_wakes Go.Proofs.Try.f15 [] h K Kp = burinlaw15_wakes C  h K Kp := by kernel_rfl

theorem call_burinlaw15_wakes  {h : Heap} {K : Value → Heap → Prop} {Kp : List PanicEntry → Heap → Prop} (H : burinlaw15_wakes (CallsHP Go.Proofs.Try.prog)  h K Kp) : CallsHP Go.Proofs.Try.prog F_burinlaw15_wakes #[] h K Kp :=
  callsHP_of hints_burinlaw15_wakes (by kernel_rfl) Go.Proofs.Try.func15 (by kernel_rfl) (by rw [eq_burinlaw15_wakes]; exact H)

end Go.Den.Ytlmopdohgipbeaa
