/- DenA: what a computation of the model does to the heap, said by one function on the heap alone (the draws of the tape put aside). No program in sight. -/
import Derived.Orders
import Derived.OrdersHeld
import Derived.Scope
import Derived.KernelRfl
set_option linter.unusedVariables false
set_option linter.unusedSimpArgs false
namespace Go.Den

abbrev Heap := Array Obj

def hcell (h : Heap) (a : Addr) : Option Value :=
  match h[a.block]? with
  | some (.cells c _ _) => if a.spot.isSome then none else c[a.off]?
  | _ => none

def hfrozen (h : Heap) (a : Addr) : Bool :=
  match h[a.block]? with
  | some (.cells _ _ (lo, hi)) => lo ≤ a.off && a.off < hi
  | _ => false

def hset (h : Heap) (a : Addr) (v : Value) : Heap :=
  h.modify a.block fun
    | .cells c elem frozen => .cells (if a.spot.isSome then c else c.setIfInBounds a.off v) elem frozen
    | o => o

theorem cell_eq (w : World) (a : Addr) : w.cell? a = hcell w.heap a := rfl
theorem frozen_eq (w : World) (a : Addr) : w.frozen? a = hfrozen w.heap a := rfl
theorem setCell_heap (w : World) (a : Addr) (v : Value) : (w.setCell a v).heap = hset w.heap a v := rfl

/-- All but the heap and the count of draws is as it was. -/
def keeps (w w' : World) : Prop := w'.os = w.os ∧ w'.tape = w.tape ∧ w'.output = w.output
theorem keeps.refl (w : World) : keeps w w := ⟨rfl, rfl, rfl⟩
theorem keeps.trans {a b c : World} (h : keeps a b) (k : keeps b c) : keeps a c :=
  ⟨k.1.trans h.1, k.2.1.trans h.2.1, k.2.2.trans h.2.2⟩

/-- The weakest condition on the heap under which a computation goes through and ends in 'K'. -/
def wpS (P : Program) (qt : Bool) {α : Type} : Sem α → Heap → (α → Heap → Prop) → Prop
  | .pure a, h, K => K a h
  | .load _ a k, h, K => ∃ v, hcell h a = some v ∧ wpS P qt (k v) h K
  | .store _ a v k, h, K => qt = false ∧ v.oneCell' = true ∧ (hcell h a).isSome = true ∧ hfrozen h a = false ∧ wpS P qt k (hset h a v) K
  | .new o k, h, K => qt = false ∧ wpS P qt (k h.size) (h.push o) K
  | .shape r k, h, K => wpS P qt (k (match h[r]? with | some (.cells c elem _) => some (elem, c.size) | _ => none)) h K
  | .freeze _ _ _, _, _ => False
  | .frozen a k, h, K => wpS P qt (k (hfrozen h a)) h K
  | .getObj r k, h, K => match h[r]? with
    | some (.cells ..) => False
    | some o => wpS P qt (k o) h K
    | none => False
  | .setObj r o k, h, K => match h[r]? with
    | some (.cells ..) => False
    | some _ => qt = false ∧ wpS P qt k (h.setIfInBounds r o) K
    | none => False
  | .choose x k, h, K => qt = false ∧ if x.forced then wpS P qt (k 0) h K else ∀ t, wpS P qt (k (x.cut t)) h K
  | .sys _ _, _, _ => False
  | .program k, h, K => wpS P qt (k P) h K
  | .mark _ k, h, K => wpS P qt k h K
  | .halt _, _, _ => False

theorem wpS_run {P : Program} {qt : Bool} {α : Type} (s : Sem α) : ∀ {h : Heap} {K : α → Heap → Prop}, wpS P qt s h K → ∀ {w : World}, w.heap = h →
    ∃ a w', s.run P w = .ok a w' ∧ keeps w w' ∧ (qt = true → w' = w) ∧ K a w'.heap := by
  induction s with
  | pure a => intro h K H w hw; exact ⟨a, w, rfl, keeps.refl w, fun _ => rfl, hw ▸ H⟩
  | load m a k ih =>
    intro h K ⟨v, hv, H⟩ w hw
    subst hw
    obtain ⟨x, w', hr, hk, hq, hK⟩ := ih v H rfl
    refine ⟨x, w', ?_, hk, hq, hK⟩
    simp only [Sem.run, cell_eq, hv]
    exact hr
  | store m a v k ih =>
    intro h K ⟨h0, h1, h2, h3, H⟩ w hw
    subst hw
    obtain ⟨x, w', hr, hk, hq, hK⟩ := ih H (w := w.setCell a v) (setCell_heap w a v)
    refine ⟨x, w', ?_, hk, fun e => (by rw [h0] at e; cases e), hK⟩
    obtain ⟨u, hu⟩ := Option.isSome_iff_exists.1 h2
    rw [← hr]
    cases v <;> first | (simp [Value.oneCell'] at h1; done) | simp [Sem.run, cell_eq, hu, frozen_eq, h3]
  | new o k ih =>
    intro h K ⟨h0, H⟩ w hw
    subst hw
    obtain ⟨x, w', hr, hk, hq, hK⟩ := ih _ H (w := { w with heap := w.heap.push o }) rfl
    exact ⟨x, w', hr, hk, fun e => (by rw [h0] at e; cases e), hK⟩
  | shape r k ih =>
    intro h K H w hw
    subst hw
    obtain ⟨x, w', hr, hk, hq, hK⟩ := ih _ H (w := w) rfl
    exact ⟨x, w', hr, hk, hq, hK⟩
  | freeze a n k ih => intro h K H; exact H.elim
  | frozen a k ih =>
    intro h K H w hw
    subst hw
    obtain ⟨x, w', hr, hk, hq, hK⟩ := ih _ H (w := w) rfl
    exact ⟨x, w', hr, hk, hq, hK⟩
  | getObj r k ih =>
    intro h K H w hw
    subst hw
    simp only [wpS] at H
    split at H
    · exact H.elim
    · rename_i o hn ho
      obtain ⟨x, w', hr, hk, hq, hK⟩ := ih _ H (w := w) rfl
      refine ⟨x, w', ?_, hk, hq, hK⟩
      simp only [Sem.run, ho]
      exact hr
    · exact H.elim
  | setObj r o k ih =>
    intro h K H w hw
    subst hw
    simp only [wpS] at H
    split at H
    · exact H.elim
    · rename_i o' hn ho
      obtain ⟨h0, H⟩ := H
      obtain ⟨x, w', hr, hk, hq, hK⟩ := ih H (w := { w with heap := w.heap.setIfInBounds r o }) rfl
      refine ⟨x, w', ?_, hk, fun e => (by rw [h0] at e; cases e), hK⟩
      simp only [Sem.run, ho]
      exact hr
    · exact H.elim
  | choose y k ih =>
    intro h K H w hw
    subst hw
    simp only [wpS] at H
    obtain ⟨h0, H⟩ := H
    by_cases hy : y.forced = true
    · rw [if_pos hy] at H
      obtain ⟨x, w', hr, hk, hq, hK⟩ := ih _ H (w := w) rfl
      refine ⟨x, w', ?_, hk, hq, hK⟩
      simp only [Sem.run, hy, if_true]
      exact hr
    · rw [if_neg hy] at H
      obtain ⟨x, w', hr, hk, hq, hK⟩ := ih _ (H (w.tape w.drawn y)) (w := { w with drawn := w.drawn + 1 }) rfl
      refine ⟨x, w', ?_, hk, fun e => (by rw [h0] at e; cases e), hK⟩
      simp only [Sem.run, hy]
      exact hr
  | sys c k ih => intro h K H; exact H.elim
  | program k ih =>
    intro h K H w hw
    subst hw
    obtain ⟨x, w', hr, hk, hq, hK⟩ := ih _ H (w := w) rfl
    exact ⟨x, w', hr, hk, hq, hK⟩
  | mark m k ih =>
    intro h K H w hw
    subst hw
    obtain ⟨x, w', hr, hk, hq, hK⟩ := ih H (w := w) rfl
    exact ⟨x, w', hr, hk, hq, hK⟩
  | halt x => intro h K H; exact H.elim

theorem wpS_bind {P : Program} {qt : Bool} {α β : Type} (s : Sem α) (f : α → Sem β) : ∀ (h : Heap) (K : β → Heap → Prop),
    wpS P qt (s >>= f) h K = wpS P qt s h fun a h' => wpS P qt (f a) h' K := by
  have key : ∀ (h : Heap) (K : β → Heap → Prop), wpS P qt (s.bind f) h K = wpS P qt s h fun a h' => wpS P qt (f a) h' K := by
    induction s with
    | pure a => intro h K; rfl
    | load m a k ih => intro h K; simp only [Sem.bind, wpS, ih]
    | store m a v k ih => intro h K; simp only [Sem.bind, wpS, ih]
    | new o k ih => intro h K; simp only [Sem.bind, wpS, ih]
    | shape r k ih => intro h K; simp only [Sem.bind, wpS, ih]
    | freeze a n k ih => intro h K; simp only [Sem.bind, wpS]
    | frozen a k ih => intro h K; simp only [Sem.bind, wpS, ih]
    | getObj r k ih => intro h K; simp only [Sem.bind, wpS, ih]
    | setObj r o k ih => intro h K; simp only [Sem.bind, wpS, ih]
    | choose q k ih => intro h K; simp only [Sem.bind, wpS, ih]
    | sys c k ih => intro h K; simp only [Sem.bind, wpS]
    | program k ih => intro h K; simp only [Sem.bind, wpS, ih]
    | mark m k ih => intro h K; simp only [Sem.bind, wpS, ih]
    | halt x => intro h K; simp only [Sem.bind, wpS]
  exact key

theorem wpS_pure {P : Program} {qt : Bool} {α : Type} (a : α) (h : Heap) (K : α → Heap → Prop) : wpS P qt (pure a : Sem α) h K = K a h := rfl

theorem wpS_mono {P : Program} {qt : Bool} {α : Type} (s : Sem α) : ∀ {h : Heap} {K K' : α → Heap → Prop}, wpS P qt s h K → (∀ a h, K a h → K' a h) → wpS P qt s h K' := by
  induction s with
  | pure a => intro h K K' H m; exact m _ _ H
  | load _ a k ih => intro h K K' ⟨v, hv, H⟩ m; exact ⟨v, hv, ih v H m⟩
  | store _ a v k ih => intro h K K' ⟨h0, h1, h2, h3, H⟩ m; exact ⟨h0, h1, h2, h3, ih H m⟩
  | new o k ih => intro h K K' ⟨h0, H⟩ m; exact ⟨h0, ih _ H m⟩
  | shape r k ih => intro h K K' H m; exact ih _ H m
  | freeze a n k ih => intro h K K' H m; exact H
  | frozen a k ih => intro h K K' H m; exact ih _ H m
  | getObj r k ih =>
    intro h K K' H m
    simp only [wpS] at H ⊢
    split
    · rename_i ho; simp only [ho] at H
    · rename_i o hn ho
      split at H
      · exact H.elim
      · rename_i o2 hn2 ho2
        have : o = o2 := Option.some.inj (ho.symm.trans ho2)
        subst this
        exact ih _ H m
      · exact H.elim
    · rename_i ho; simp only [ho] at H
  | setObj r o k ih =>
    intro h K K' H m
    simp only [wpS] at H ⊢
    split
    · rename_i ho; simp only [ho] at H
    · rename_i o1 hn ho
      split at H
      · exact H.elim
      · exact ⟨H.1, ih H.2 m⟩
      · exact H.elim
    · rename_i ho; simp only [ho] at H
  | choose q k ih =>
    intro h K K' H m
    simp only [wpS] at H ⊢
    obtain ⟨h0, H⟩ := H
    refine ⟨h0, ?_⟩
    split
    · rename_i hq; rw [if_pos hq] at H; exact ih _ H m
    · rename_i hq; rw [if_neg hq] at H; exact fun t => ih _ (H t) m
  | sys c k ih => intro h K K' H m; exact H
  | program k ih => intro h K K' H m; exact ih _ H m
  | mark _ k ih => intro h K K' H m; exact ih H m
  | halt x => intro h K K' H m; exact H

end Go.Den
