/- DenH: a region of operations: one after the other; and in whatever order its edges allow, said by one order that is checked. No program in sight. -/
import Derived.Test.YtlmopdohgipbeaaDenG
set_option linter.unusedVariables false
set_option linter.unusedSimpArgs false
namespace Go.Den

/-! ### what depends on what -/
section
variable {md : Region.Mode} {ops : Array Oper}

inductive Dep (md : Region.Mode) (ops : Array Oper) : Nat → Nat → Prop
  | one {j i : Nat} {o : Oper} {e : Edge} : ops[j]? = some o → e ∈ o.after → Region.binds md e = true → e.on = i → Dep md ops j i
  | more {j m i : Nat} : Dep md ops j m → Dep md ops m i → Dep md ops j i

def ClosedL (md : Region.Mode) (ops : Array Oper) (listed : Array Bool) : Prop :=
  ∀ j o, ops[j]? = some o → listed.getD j false = true → ∀ e ∈ o.after, Region.binds md e = true → listed.getD e.on false = true

theorem ClosedL.dep {listed : Array Bool} (hc : ClosedL md ops listed) {j i : Nat} (h : Dep md ops j i) :
    (∀ o, ops[j]? = some o → ∀ e ∈ o.after, Region.binds md e = true → listed.getD e.on false = true) → listed.getD i false = true := by
  induction h with
  | one ho he hb hon => intro hj; subst hon; exact hj _ ho _ he hb
  | more h1 h2 ih1 ih2 => intro hj; exact ih2 fun o ho e he hb => hc _ o ho (ih1 hj) e he hb

theorem ClosedL.ready {listed : Array Bool} (hc : ClosedL md ops listed) {j i : Nat} (h : Dep md ops j i) (hj : j ∈ Region.ready md ops listed) : listed.getD i false = true := by
  obtain ⟨_, o, ho, hall⟩ := mem_ready.1 hj
  refine hc.dep h fun o' ho' => ?_
  have : o' = o := Option.some.inj (ho'.symm.trans ho)
  subst this
  exact hall

theorem ClosedL.set {listed : Array Bool} (hc : ClosedL md ops listed) {j : Nat} (hj : j ∈ Region.ready md ops listed) : ClosedL md ops (listed.setIfInBounds j true) := by
  obtain ⟨_, o, ho, hall⟩ := mem_ready.1 hj
  intro k ok hk hl e he hb
  by_cases hjk : j = k
  · subst hjk
    have : ok = o := Option.some.inj (hk.symm.trans ho)
    subst this
    exact getD_set_true (hall e he hb)
  · rw [getD_set_ne false hjk] at hl
    exact getD_set_true (hc k ok hk hl e he hb)

theorem getD_rep (m j : Nat) : (Array.replicate m false).getD j false = false := by
  rcases Nat.lt_or_ge j m with h | h
  · simp [h]
  · simp [h]
theorem ClosedL.start (m : Nat) : ClosedL md ops (Array.replicate m false) := by
  intro j o _ hl
  rw [getD_rep] at hl
  cases hl

def maskOne (md : Region.Mode) (acc : List Nat) (es : List Edge) (m : Nat) : Nat := match es with
  | [] => m
  | e :: es => maskOne md acc es (match Region.binds md e with
    | true => m ||| (1 <<< e.on) ||| acc.getD e.on 0
    | false => m)
def masks (md : Region.Mode) : List Oper → List Nat → List Nat
  | [], acc => acc
  | o :: rest, acc => masks md rest (acc ++ [maskOne md acc o.after.toList 0])

theorem maskOne_spec {acc : List Nat} {j : Nat} {o : Oper} (ho : ops[j]? = some o) (hacc : ∀ k i, (acc.getD k 0).testBit i = true → Dep md ops k i) :
    ∀ (es : List Edge) (m : Nat), (∀ e ∈ es, e ∈ o.after) → (∀ i, m.testBit i = true → Dep md ops j i) → ∀ i, (maskOne md acc es m).testBit i = true → Dep md ops j i
  | [], m, _, hm, i, h => hm i h
  | e :: es, m, he, hm, i, h => by
    refine maskOne_spec ho hacc es _ (fun e' h' => he e' (by simp [h'])) ?_ i h
    intro k hk
    split at hk
    · rename_i hb
      rw [Nat.testBit_or, Nat.testBit_or, Bool.or_eq_true, Bool.or_eq_true] at hk
      have h1 : Dep md ops j e.on := .one ho (he e (by simp)) hb rfl
      rcases hk with (hk | hk) | hk
      · exact hm k hk
      · rw [Nat.one_shiftLeft, Nat.testBit_two_pow] at hk
        have : e.on = k := by simpa using hk
        rw [← this]
        exact h1
      · exact .more h1 (hacc _ _ hk)
    · exact hm k hk

theorem masks_spec : ∀ (l : List Oper) (acc : List Nat), (∀ k, l[k]? = ops[acc.length + k]?) → (∀ k i, (acc.getD k 0).testBit i = true → Dep md ops k i) →
    ∀ k i, ((masks md l acc).getD k 0).testBit i = true → Dep md ops k i
  | [], acc, _, hacc => hacc
  | o :: rest, acc, hl, hacc => by
    refine masks_spec rest _ (fun k => ?_) (fun k i h => ?_)
    · have := hl (k + 1)
      simp only [List.getElem?_cons_succ] at this
      rw [this, List.length_append, List.length_singleton]
      congr 1
      omega
    · have ho : ops[acc.length]? = some o := by have := hl 0; simpa using this.symm
      rcases Nat.lt_trichotomy k acc.length with hk | hk | hk
      · rw [List.getD_eq_getElem?_getD, List.getElem?_append_left hk, ← List.getD_eq_getElem?_getD] at h
        exact hacc k i h
      · subst hk
        rw [List.getD_eq_getElem?_getD, List.getElem?_append_right (Nat.le_refl _)] at h
        simp only [Nat.sub_self, List.getElem?_cons_zero, Option.getD_some] at h
        exact maskOne_spec ho hacc o.after.toList 0 (fun e he => by simpa using he) (fun i h => by simp at h) i h
      · rw [List.getD_eq_getElem?_getD, List.getElem?_eq_none (by simp; omega)] at h
        simp at h

def depB (md : Region.Mode) (ops : Array Oper) (j i : Nat) : Bool := ((masks md ops.toList []).getD j 0).testBit i
theorem depB_spec {j i : Nat} (h : depB md ops j i = true) : Dep md ops j i :=
  masks_spec ops.toList [] (fun k => by simp) (fun k i h => by simp at h) j i h

end

/-! ### any order, with barriers -/
section
variable {P : Program} {md : Region.Mode} {ops : Array Oper} {Q : Exit → Act → World → Prop} {bar : Nat → Bool} {S : World → Prop}

def wpAnyE (P : Program) (md : Region.Mode) (ops : Array Oper) (Q : Exit → Act → World → Prop) (bar : Nat → Bool) (S : World → Prop) : Nat → Array Bool → Act → World → Prop
  | 0, listed, a, w => Region.ready md ops listed = [] ∧ Q .normal a w
  | fuel + 1, listed, a, w =>
    (Region.ready md ops listed = [] → Q .normal a w) ∧
    ∀ i ∈ Region.ready md ops listed, wpOp P ops Q i (fun a' w' => (bar i = true → wpAny P md ops Q fuel (listed.setIfInBounds i true) a' w') ∧
      (bar i = false → S w' ∧ wpAnyE P md ops Q bar S fuel (listed.setIfInBounds i true) a' w')) a w

theorem wpAny_of_E : ∀ (fuel : Nat) (listed : Array Bool) (a : Act) (w : World), wpAnyE P md ops Q bar S fuel listed a w → wpAny P md ops Q fuel listed a w
  | 0, _, _, _, h => h
  | fuel + 1, _, _, _, h => ⟨h.1, fun i hi => wpOp_mono (fun a' w' h' => by
      cases hb : bar i with
      | true => exact h'.1 hb
      | false => exact wpAny_of_E fuel _ a' w' (h'.2 hb).2) (h.2 i hi)⟩

theorem wpAnyE_mono {S' : World → Prop} (hS : ∀ w, S w → S' w) : ∀ (fuel : Nat) (listed : Array Bool) (a : Act) (w : World), wpAnyE P md ops Q bar S fuel listed a w → wpAnyE P md ops Q bar S' fuel listed a w
  | 0, _, _, _, h => h
  | fuel + 1, _, _, _, h => ⟨h.1, fun i hi => wpOp_mono (fun a' w' h' => ⟨h'.1, fun hb => ⟨hS _ (h'.2 hb).1, wpAnyE_mono hS fuel _ a' w' (h'.2 hb).2⟩⟩) (h.2 i hi)⟩

theorem wpAnyE_first {i : Nat} {oi : Oper} {v : Value} (Yl : Act → Prop) (hi : ops[i]? = some oi)
    (hY1 : ∀ a w, S w → Yl a → ∀ K : Act → World → Prop, K (a.put oi.dst v) w → wpOp P ops Q i K a w)
    (hY2 : ∀ j oj, ops[j]? = some oj → oi.apart ops oj = true → ∀ (K : Act → World → Prop) a w, Yl a → wpOp P ops Q j K (a.put oi.dst v) w → wpOp P ops Q j (fun a' w' => Yl a' ∧ K (a'.put oi.dst v) w') a w)
    (hB : ∀ j (listed : Array Bool) fuel a' w', bar j = true → ClosedL md ops listed → j ∈ Region.ready md ops listed → i ∈ Region.ready md ops (listed.setIfInBounds j true) →
      (∀ k ok, ops[k]? = some ok → k ≠ i → (listed.setIfInBounds j true).getD k true = false → (∀ e ∈ ok.after, Region.binds md e = true → e.on ≠ i) → oi.apart ops ok = true) →
      Yl a' → wpAny P md ops Q fuel ((listed.setIfInBounds j true).setIfInBounds i true) (a'.put oi.dst v) w' → wpAny P md ops Q (fuel + 1) (listed.setIfInBounds j true) a' w') :
    ∀ (fuel : Nat) (listed : Array Bool) (a : Act) (w : World), ClosedL md ops listed →
      (∀ j oj, ops[j]? = some oj → j ≠ i → listed.getD j true = false → (∀ e ∈ oj.after, Region.binds md e = true → e.on ≠ i) → oi.apart ops oj = true) →
      i ∈ Region.ready md ops listed → bar i = false → Yl a → S w →
      wpAnyE P md ops Q bar S fuel (listed.setIfInBounds i true) (a.put oi.dst v) w → wpAnyE P md ops Q bar S (fuel + 1) listed a w := by
  intro fuel
  induction fuel with
  | zero =>
    intro listed a w _ _ hr hbi hy hS H
    refine ⟨fun h => (by rw [h] at hr; cases hr), fun j hj => ?_⟩
    by_cases hji : j = i
    · subst hji
      exact hY1 a w hS hy _ ⟨fun e => (by rw [hbi] at e; cases e), fun _ => ⟨hS, H⟩⟩
    · have := ready_mono hj hji
      rw [H.1] at this
      cases this
  | succ fuel ih =>
    intro listed a w hcl hfree hr hbi hy hS H
    refine ⟨fun h => (by rw [h] at hr; cases hr), fun j hj => ?_⟩
    by_cases hji : j = i
    · subst hji
      exact hY1 a w hS hy _ ⟨fun e => (by rw [hbi] at e; cases e), fun _ => ⟨hS, H⟩⟩
    · have h1 := H.2 j (ready_mono hj hji)
      obtain ⟨hjun, oj, hoj, hall⟩ := mem_ready.1 hj
      have hnot : ∀ e ∈ oj.after, Region.binds md e = true → e.on ≠ i := fun e he hb heq => by
        have h1 := hall e he hb
        have h0 := (mem_ready.1 hr).1
        rw [heq] at h1
        rcases Nat.lt_or_ge i listed.size with h' | h'
        · simp [h'] at h0 h1; rw [h0] at h1; cases h1
        · simp [Array.getElem?_eq_none h'] at h1
      have h2 := hY2 j oj hoj (hfree j oj hoj hji hjun hnot) _ a w hy h1
      have hfree' : ∀ k ok, ops[k]? = some ok → k ≠ i → (listed.setIfInBounds j true).getD k true = false →
          (∀ e ∈ ok.after, Region.binds md e = true → e.on ≠ i) → oi.apart ops ok = true := fun k ok hk hki hun hno => by
        refine hfree k ok hk hki ?_ hno
        by_cases hjk : j = k
        · subst hjk; exact hjun
        · rw [getD_set_ne true hjk] at hun; exact hun
      refine wpOp_mono (fun a' w' h3 => ?_) h2
      obtain ⟨hy', h4, h5⟩ := h3
      refine ⟨fun hb => ?_, fun hb => ?_⟩
      · have h6 := h4 hb
        rw [Array.setIfInBounds_comm _ _ (Ne.symm hji)] at h6
        exact hB j listed fuel a' w' hb hcl hj (ready_mono hr (Ne.symm hji)) hfree' hy' h6
      · obtain ⟨hS', h6⟩ := h5 hb
        rw [Array.setIfInBounds_comm _ _ (Ne.symm hji)] at h6
        exact ⟨hS', ih (listed.setIfInBounds j true) a' w' (hcl.set hj) hfree' (ready_mono hr (Ne.symm hji)) hbi hy' hS' h6⟩

end
end Go.Den
