/- Written by gen.py: each condition of the functions of law4ArithKnown is the one of its body; so it is enough for its call. -/
import Derived.Test.YtlmopdohgipbeaaMlaw4ArithKnown
import Derived.Test.YtlmopdohgipbeaaProg
set_option linter.unusedVariables false
set_option linter.unusedSimpArgs false
namespace Go.Den.Ytlmopdohgipbeaa
open Go Go.Den

noncomputable def hints_burinlaw4_ArithKnown : Hints := Hints.mk (fun i => bif Nat.beq i 20 then some ([3, 7, 8, 10], .take 0 <| .take 1 <| .take 2 <| .take 4 <| .take 5 <| .take 6 <| .bar 3 [7, 8, 10] <| .bar 7 [8, 10] <| .bar 8 [10] <| .take 9 <| .bar 10 [] <| .take 11 <| .take 12 <| .done) else (none))
  (fun i => bif Nat.beq i 6 then some ([(5, .int .i64)], 281474909601825) else (bif Nat.beq i 15 then some ([(9, .int .i64)], 20282409584762204492468670434817) else (none)))
  (fun i => none)
set_option maxRecDepth 100000 in
theorem eq_burinlaw4_ArithKnown (C : CallP)  (h : Heap) (K : Value → Heap → Prop) (Kp : List PanicEntry → Heap → Prop) :
    fnD Go.Proofs.Try.prog C hints_burinlaw4_ArithKnown Go.Proofs.Try.f7 [] h K Kp = burinlaw4_ArithKnown C  h K Kp := by kernel_rfl

theorem call_burinlaw4_ArithKnown  {h : Heap} {K : Value → Heap → Prop} {Kp : List PanicEntry → Heap → Prop} (H : burinlaw4_ArithKnown (CallsHP Go.Proofs.Try.prog)  h K Kp) : CallsHP Go.Proofs.Try.prog F_burinlaw4_ArithKnown #[] h K Kp :=
  callsHP_of hints_burinlaw4_ArithKnown (by kernel_rfl) Go.Proofs.Try.func7 (by kernel_rfl) (by rw [eq_burinlaw4_ArithKnown]; exact H)

end Go.Den.Ytlmopdohgipbeaa
