/- The given statement RefineTopSaid is proved of the given program; there are no further conditions. W6: put together by wip/tools/bundle.py: RfTop. -/
import Derived.Test.YtcicfilkdhhnmaaW1
import Derived.Test.YtcicfilkdhhnmaaW2
import Derived.Test.YtcicfilkdhhnmaaW3
import Derived.Test.YtcicfilkdhhnmaaW4
import Derived.Test.YtcicfilkdhhnmaaW5
import Derived.Test.YtcicfilkdhhnmaaRows

/- RfTop: the given statement RefineTopSaid. -/
namespace Go.Proofs.Ytcicfilkdhhnmaa
open Go.ChangeShapes Go.WideShapes Go.ChangeAt Go.RowKit
set_option linter.unusedVariables false

theorem refineTop_walk (W : World) {cs : Array Value} (hsz : cs.size = Try.prog.cellsOf 45) (hw : Go.Den.WDx Try.prog W.heap 45 cs.toList) : Calls Try.prog 10 #[.agg cs] W fun e W' => e = .returned (.bool true) ∧ Below W.heap.size W W' :=
  walk_of ((Go.Bm.refTop_arg (h := W.heap) (K := fun v h' => v = .bool true ∧ Go.Den.hext W.heap h') (Kp := fun _ _ => False) hsz hw fun h' e => ⟨rfl, e⟩).2 W rfl)

set_option maxRecDepth 100000 in
theorem refineTop_lifted (os : Os) (started : os.Started) (H : Type) (enc : TypeId × Value → H) :
    ReturnsInHanded {} Try.checked os 10 .any (Rows.refineTopSpec.pre6 enc Try.prog Try.f10 Rows.refineTopRow.domain false) (Rows.refineTopSpec.post enc Try.prog Try.f10 false true false false) := by
  refine returnsInHanded_of_change_sized (C := Try.checked) own started (by kernel_rfl) Try.func10
    (ChangeSpec.witness6 (enc := enc) (C := Try.checked) false ⟨#[], #[.agg #[.int .i64 0, .int .i64 0, .slice none 0 0, .int .i64 0, .int .i64 0, .slice none 0 0, .int .i64 0, .int .i64 0]], []⟩ 8 (by kernel_rfl) (by kernel_rfl) (by kernel_rfl) (by kernel_rfl)) ?_
  intro W base args ds gs before hval0 hW hcnd hz _
  have hval : ∀ (j : Nat) t v, Try.f10.params[j]? = some t → args[j]? = some v → Value.okWide Try.prog W .any base t v := hval0
  have hz : ∀ n ∈ DataW.weightsEach Try.prog (Try.f10.params.toList ++ Rows.refineTopSpec.plain.varTypes Try.prog) (ds ++ gs), n ≤ reachBytes := fun n hn => by simpa using List.all_eq_true.1 hz n hn
  have hW' := hW
  obtain ⟨p, q, hA0, hV, rfl, hfz, hnd⟩ := hW
  have hA : DataW.TrodAll enc Try.prog W 0 (fun _ => true) true Try.f10.params.toList args.toList ds p := hA0
  rw [Try.params10] at hA hval hz
  obtain ⟨v0, vs0, d0, ds0, p0, q0, hargs, rfl, rfl, h0, r0⟩ := trodAll_cons hA
  obtain ⟨rfl, rfl, rfl⟩ := trodAll_nil r0
  obtain rfl : args = #[v0] := by cases args; simp_all
  obtain ⟨rfl, rfl⟩ := trodVars_none hV
  obtain ⟨cs, rfl, hsz⟩ := okWide_struct Try.underlying45 (hval 0 45 v0 rfl rfl)
  have hwd : Go.Den.WDx Try.prog W.heap 45 cs.toList := by
    obtain ⟨f, hf⟩ := h0
    exact ⟨f, Go.Den.wd_of hf fun n hn => hz n (DataW.weights_mem_each (j := 0) rfl rfl n hn)⟩
  clear hA0 hval0
  simp only [List.append_nil] at hW'
  refine (refineTop_walk W hsz hwd).mono fun e W' ⟨he, hb⟩ => ?_
  subst he
  refine ⟨_, rfl, [d0], [], _, [], p0, [], hW', ?_, ?_, ?_, hb.frame _, fun h => Bool.noConfusion h⟩
  · exact trodAll_cons_mk (shut_bool Go.Proofs.Try.underlying4 _) trodAll_mk0
  · exact ⟨p0, [], Below.trod laidOut (by kernel_rfl) (of_decide_eq_true (by kernel_rfl)) h0 hb (fun x hx => by simpa using hW'.lt x hx), rfl, (List.append_nil p0).symm⟩
  · rfl

theorem refineTop_over : Rows.refineTopRow.holds Try.pinned (OpenSpec.ofChange Rows.refineTopSpec) :=
  OpenClaim.holds_of_wide 10 Try.f10 rfl rfl rfl rfl rfl rfl rfl ⟨rfl, rfl, rfl, rfl, rfl⟩ rfl rfl rfl rfl rfl (by kernel_rfl) Try.func10 (by kernel_rfl)
    (of_decide_eq_true (by kernel_rfl)) (by unfold Func.isWrapper; first | (rw [if_pos (by decide +kernel)]; kernel_rfl) | (rw [if_neg (by decide +kernel)]; exact ⟨rfl, rfl⟩))
    (fun os started H enc _ => refineTop_lifted os started H enc)

theorem refineTop_proved : Rows.RefineTopSaid := refineTop_over

#print axioms refineTop_proved
end Go.Proofs.Ytcicfilkdhhnmaa
