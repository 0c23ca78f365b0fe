/- Written by gen.py: each condition of the functions of slices is the one of its body; so it is enough for its call. -/
import Derived.Test.YtlmopdohgipbeaaMslices
import Derived.Test.YtlmopdohgipbeaaProg
set_option linter.unusedVariables false
set_option linter.unusedSimpArgs false
namespace Go.Den.Ytlmopdohgipbeaa
open Go Go.Den

noncomputable def hints_slices_Clone_uint64_uint64 : Hints := Hints.mk (fun i => none)
  (fun i => none)
  (fun i => none)
set_option maxRecDepth 100000 in
theorem eq_slices_Clone_uint64_uint64 (C : CallP) (s : Option Addr) (sn : Nat) (sc : Nat) (h : Heap) (K : Value → Heap → Prop) (Kp : List PanicEntry → Heap → Prop) :
    fnD Go.Proofs.Try.prog C hints_slices_Clone_uint64_uint64 Go.Proofs.Try.f90 [.slice s sn sc] h K Kp = slices_Clone_uint64_uint64 C s sn sc h K Kp := by kernel_rfl

theorem call_slices_Clone_uint64_uint64 {s : Option Addr} {sn : Nat} {sc : Nat} {h : Heap} {K : Value → Heap → Prop} {Kp : List PanicEntry → Heap → Prop} (H : slices_Clone_uint64_uint64 (CallsHP Go.Proofs.Try.prog) s sn sc h K Kp) : CallsHP Go.Proofs.Try.prog F_slices_Clone_uint64_uint64 #[.slice s sn sc] h K Kp :=
  callsHP_of hints_slices_Clone_uint64_uint64 (by kernel_rfl) Go.Proofs.Try.func90 (by kernel_rfl) (by rw [eq_slices_Clone_uint64_uint64]; exact H)

end Go.Den.Ytlmopdohgipbeaa
