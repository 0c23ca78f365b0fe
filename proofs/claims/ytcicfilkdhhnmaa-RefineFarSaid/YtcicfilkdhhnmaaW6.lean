/- The given statement RefineFarSaid is proved of the given program; there are no further conditions. W6: put together by wip/tools/bundle.py: RfAFar ArLink2 RfFar. -/
import Derived.Test.YtcicfilkdhhnmaaW1
import Derived.Test.YtcicfilkdhhnmaaW2
import Derived.Test.YtcicfilkdhhnmaaW3
import Derived.Test.YtcicfilkdhhnmaaW4
import Derived.Test.YtcicfilkdhhnmaaW5
import Derived.Test.YtcicfilkdhhnmaaProg
import Derived.WalkKit
import Derived.ProofKit
import Derived.OpenShut
import Derived.Carry
import Derived.Deep.SlicePairs
import Derived.Lib.SmallJoins
import Derived.Test.YtcicfilkdhhnmaaRows

/- RfAFar: an ask as it comes in as an argument: the law RefineFar over it. -/
set_option linter.unusedVariables false
set_option linter.unusedSimpArgs false
namespace Go.Bm
open Go Go.Den Go.Den.Ytcicfilkdhhnmaa
theorem refFar_arg {h : Heap} {cs : Array Value} (hsz : cs.size = TP.cellsOf T_burinlaw8_Ask) (hw : WDx TP h T_burinlaw8_Ask cs.toList) {K : Value → Heap → Prop} {Kp : List PanicEntry → Heap → Prop} (hk : ∀ h', hext h h' → K (.bool true) h') :
    CP F_burinlaw8_RefineFar #[.agg cs] h K Kp := by
  obtain ⟨w, b, q1, c1, ws, w2, b2, q2, c2, ws2, x, y, e, g1, g2, g3, g4, g5, g6⟩ := wd_ask hw
  obtain rfl : cs = #[.int .i64 w, .int .i64 b, .slice q1 ws.length c1, .int .i64 w2, .int .i64 b2, .slice q2 ws2.length c2, .int .i64 x, .int .i64 y] := by
    apply Array.toList_inj.1
    rw [e]
  exact refFar_law g1 g2 g3 g4 g5 g6 hk
end Go.Bm

/- ArLink2: what a law's walk hands on. -/
namespace Go.Proofs.Ytcicfilkdhhnmaa
open Go.ChangeShapes Go.WideShapes Go.ChangeAt Go.RowKit
set_option linter.unusedVariables false

theorem own : ownKnob Try.prog.godebug = none := by kernel_rfl
theorem laidOut : laidOutB Try.prog = true := by kernel_rfl

/-- What a call that keeps all old rows leaves, as a row's statement asks it. -/
theorem below_of {W W' : World} (hk : Go.Den.keeps W W') (h : Go.Den.hext W.heap W'.heap) : Below W.heap.size W W' :=
  ⟨hk.1, hk.2.1, hk.2.2, h.1, fun k hlt => h.2 k hlt⟩

theorem walk_of {f : FuncId} {args : Array Value} {W : World}
    (h : Calls Try.prog f args W fun e w' => Go.Den.keeps W w' ∧ match e with
      | .returned v => v = .bool true ∧ Go.Den.hext W.heap w'.heap
      | .panicked c => False
      | .outgrown => False) : Calls Try.prog f args W fun e W' => e = .returned (.bool true) ∧ Below W.heap.size W W' := by
  refine h.mono fun e W' he => ?_
  obtain ⟨hk, he⟩ := he
  cases e with
  | returned v => exact ⟨by rw [he.1], below_of hk he.2⟩
  | panicked c => exact he.elim
  | outgrown => exact he.elim

end Go.Proofs.Ytcicfilkdhhnmaa

/- RfFar: the given statement RefineFarSaid. -/
namespace Go.Proofs.Ytcicfilkdhhnmaa
open Go.ChangeShapes Go.WideShapes Go.ChangeAt Go.RowKit
set_option linter.unusedVariables false

theorem refineFar_walk (W : World) {cs : Array Value} (hsz : cs.size = Try.prog.cellsOf 45) (hw : Go.Den.WDx Try.prog W.heap 45 cs.toList) : Calls Try.prog 9 #[.agg cs] W fun e W' => e = .returned (.bool true) ∧ Below W.heap.size W W' :=
  walk_of ((Go.Bm.refFar_arg (h := W.heap) (K := fun v h' => v = .bool true ∧ Go.Den.hext W.heap h') (Kp := fun _ _ => False) hsz hw fun h' e => ⟨rfl, e⟩).2 W rfl)

set_option maxRecDepth 100000 in
theorem refineFar_lifted (os : Os) (started : os.Started) (H : Type) (enc : TypeId × Value → H) :
    ReturnsInHanded {} Try.checked os 9 .any (Rows.refineFarSpec.pre6 enc Try.prog Try.f9 Rows.refineFarRow.domain false) (Rows.refineFarSpec.post enc Try.prog Try.f9 false true false false) := by
  refine returnsInHanded_of_change_sized (C := Try.checked) own started (by kernel_rfl) Try.func9
    (ChangeSpec.witness6 (enc := enc) (C := Try.checked) false ⟨#[], #[.agg #[.int .i64 0, .int .i64 0, .slice none 0 0, .int .i64 0, .int .i64 0, .slice none 0 0, .int .i64 0, .int .i64 0]], []⟩ 8 (by kernel_rfl) (by kernel_rfl) (by kernel_rfl) (by kernel_rfl)) ?_
  intro W base args ds gs before hval0 hW hcnd hz _
  have hval : ∀ (j : Nat) t v, Try.f9.params[j]? = some t → args[j]? = some v → Value.okWide Try.prog W .any base t v := hval0
  have hz : ∀ n ∈ DataW.weightsEach Try.prog (Try.f9.params.toList ++ Rows.refineFarSpec.plain.varTypes Try.prog) (ds ++ gs), n ≤ reachBytes := fun n hn => by simpa using List.all_eq_true.1 hz n hn
  have hW' := hW
  obtain ⟨p, q, hA0, hV, rfl, hfz, hnd⟩ := hW
  have hA : DataW.TrodAll enc Try.prog W 0 (fun _ => true) true Try.f9.params.toList args.toList ds p := hA0
  rw [Try.params9] at hA hval hz
  obtain ⟨v0, vs0, d0, ds0, p0, q0, hargs, rfl, rfl, h0, r0⟩ := trodAll_cons hA
  obtain ⟨rfl, rfl, rfl⟩ := trodAll_nil r0
  obtain rfl : args = #[v0] := by cases args; simp_all
  obtain ⟨rfl, rfl⟩ := trodVars_none hV
  obtain ⟨cs, rfl, hsz⟩ := okWide_struct Try.underlying45 (hval 0 45 v0 rfl rfl)
  have hwd : Go.Den.WDx Try.prog W.heap 45 cs.toList := by
    obtain ⟨f, hf⟩ := h0
    exact ⟨f, Go.Den.wd_of hf fun n hn => hz n (DataW.weights_mem_each (j := 0) rfl rfl n hn)⟩
  clear hA0 hval0
  simp only [List.append_nil] at hW'
  refine (refineFar_walk W hsz hwd).mono fun e W' ⟨he, hb⟩ => ?_
  subst he
  refine ⟨_, rfl, [d0], [], _, [], p0, [], hW', ?_, ?_, ?_, hb.frame _, fun h => Bool.noConfusion h⟩
  · exact trodAll_cons_mk (shut_bool Go.Proofs.Try.underlying4 _) trodAll_mk0
  · exact ⟨p0, [], Below.trod laidOut (by kernel_rfl) (of_decide_eq_true (by kernel_rfl)) h0 hb (fun x hx => by simpa using hW'.lt x hx), rfl, (List.append_nil p0).symm⟩
  · rfl

theorem refineFar_over : Rows.refineFarRow.holds Try.pinned (OpenSpec.ofChange Rows.refineFarSpec) :=
  OpenClaim.holds_of_wide 9 Try.f9 rfl rfl rfl rfl rfl rfl rfl ⟨rfl, rfl, rfl, rfl, rfl⟩ rfl rfl rfl rfl rfl (by kernel_rfl) Try.func9 (by kernel_rfl)
    (of_decide_eq_true (by kernel_rfl)) (by unfold Func.isWrapper; first | (rw [if_pos (by decide +kernel)]; kernel_rfl) | (rw [if_neg (by decide +kernel)]; exact ⟨rfl, rfl⟩))
    (fun os started H enc _ => refineFar_lifted os started H enc)

theorem refineFar_proved : Rows.RefineFarSaid := refineFar_over

#print axioms refineFar_proved
end Go.Proofs.Ytcicfilkdhhnmaa
