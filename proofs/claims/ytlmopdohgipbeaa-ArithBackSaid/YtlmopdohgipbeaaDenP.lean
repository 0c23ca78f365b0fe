/- DenP: known rows in any order; a slice that grows from nothing. No program in sight. -/
import Derived.Test.YtlmopdohgipbeaaDenO
set_option linter.unusedVariables false
set_option linter.unusedSimpArgs false
namespace Go.Den

section
variable {h0 h : Heap} {F : List Nat} {L L' A B D X Y Z : List Ent}

theorem Hp.pw (H : Hp h0 F h L) : L.Pairwise fun a b => a.b ≠ b.b := by
  rw [List.pairwise_iff_getElem]
  intro i j hi hj hij he
  have := H.nd i L[i] j L[j] (List.getElem?_eq_getElem hi) (List.getElem?_eq_getElem hj) he
  omega
theorem Hp.mk' (fr : Fr F h0 h) (bl : ∀ e ∈ L, Blk h e.b e.t e.cs) (wr : ∀ e ∈ L, e.w = true → e.b ∈ F ∨ h0.size ≤ e.b) (pw : L.Pairwise fun a b => a.b ≠ b.b) : Hp h0 F h L := by
  refine ⟨fr, fun k e he => bl e (List.mem_of_getElem? he), fun k e he => wr e (List.mem_of_getElem? he), fun k e k' e' h1 h2 hb => ?_⟩
  obtain ⟨l1, e1⟩ := List.getElem?_eq_some_iff.1 h1
  obtain ⟨l2, e2⟩ := List.getElem?_eq_some_iff.1 h2
  subst e1 e2
  rcases Nat.lt_trichotomy k k' with hlt | he | hlt
  · exact absurd hb (List.pairwise_iff_getElem.1 pw k k' l1 l2 hlt)
  · exact he
  · exact absurd hb.symm (List.pairwise_iff_getElem.1 pw k' k l2 l1 hlt)
theorem Hp.mem (H : Hp h0 F h L) : ∀ e ∈ L, Blk h e.b e.t e.cs := fun e he => by
  obtain ⟨k, hk⟩ := List.getElem?_of_mem he
  exact H.bl k e hk
theorem Hp.memw (H : Hp h0 F h L) : ∀ e ∈ L, e.w = true → e.b ∈ F ∨ h0.size ≤ e.b := fun e he => by
  obtain ⟨k, hk⟩ := List.getElem?_of_mem he
  exact H.wr k e hk
theorem Hp.perm (H : Hp h0 F h L) (p : L.Perm L') : Hp h0 F h L' :=
  Hp.mk' H.fr (fun e he => H.mem e (p.mem_iff.2 he)) (fun e he => H.memw e (p.mem_iff.2 he)) ((List.Perm.pairwise_iff (fun {a b} h => Ne.symm h) p).1 H.pw)
theorem Hp.sub (H : Hp h0 F h L) (s : L'.Sublist L) : Hp h0 F h L' :=
  Hp.mk' H.fr (fun e he => H.mem e (s.mem he)) (fun e he => H.memw e (s.mem he)) (H.pw.sublist s)
theorem Hp.pre (H : Hp h0 F h (X ++ Y)) : Hp h0 F h X := H.sub (List.sublist_append_left X Y)
theorem Hp.suf (H : Hp h0 F h (X ++ Y)) : Hp h0 F h Y := H.sub (List.sublist_append_right X Y)
theorem Hp.mid (H : Hp h0 F h (X ++ Y ++ Z)) : Hp h0 F h (X ++ Z) := H.sub (List.Sublist.append (List.sublist_append_left X Y) (List.Sublist.refl Z))
theorem Hp.rot (H : Hp h0 F h (X ++ Y)) : Hp h0 F h (Y ++ X) := H.perm List.perm_append_comm
theorem Hp.swap (H : Hp h0 F h (X ++ Y ++ Z)) : Hp h0 F h (X ++ Z ++ Y) := H.perm (by
  rw [List.append_assoc, List.append_assoc]
  exact List.Perm.append_left X List.perm_append_comm)
theorem Hp.asc (H : Hp h0 F h (X ++ Y ++ Z)) : Hp h0 F h (X ++ (Y ++ Z)) := H.as (List.append_assoc X Y Z)
theorem Hp.asc' (H : Hp h0 F h (X ++ (Y ++ Z))) : Hp h0 F h (X ++ Y ++ Z) := H.as (List.append_assoc X Y Z).symm

/-- As 'back', where no row is left over. -/
def setL : List Ent → List Nat → List Ent → List Ent
  | L, [], _ => L
  | L, i :: ix, b :: B => setL (L.set i b) ix B
  | L, _ :: _, [] => L
theorem setAll_setL : ∀ (ix : List Nat) (L B : List Ent), B.length = ix.length → setAll L ix B = setL L ix B
  | [], L, B, h => by
    have : B = [] := List.length_eq_zero_iff.1 h
    subst this
    unfold setAll setL
    exact List.append_nil L
  | i :: ix, L, [], h => by cases h
  | i :: ix, L, b :: B, h => by
    unfold setAll setL
    exact setAll_setL ix _ B (by simpa using h)
theorem Hp.put {h' : Heap} (H : Hp h0 F h L) (ix : List Nat) (hnd : ix.Nodup) (hA : ix.map (fun k => L[k]?) = A.map some) (hw : A.all Ent.w = true) (H' : Hp h (A.map Ent.b) h' B) (hB : B.all Ent.w = true) (hBl : B.length = ix.length) :
    Hp h0 F h' (setL L ix B) := (H.back ix hnd hA hw H' hB (by omega)).as (setAll_setL ix L B hBl)
/-- What is looked at only. -/
def Ent.ro (e : Ent) : Ent := { e with w := false }
theorem Hp.look (H : Hp h0 F h L) : Hp h [] h (L.map Ent.ro) := by
  refine Hp.mk' (Fr.refl _ _) (fun e he => ?_) (fun e he hw => ?_) ?_
  · obtain ⟨x, hx, rfl⟩ := List.mem_map.1 he
    exact H.mem x hx
  · obtain ⟨x, hx, rfl⟩ := List.mem_map.1 he
    cases hw
  · exact List.Pairwise.map _ (fun a b h => h) H.pw
theorem Hp.rdO_mem (H : Hp h0 F h L) {b n : Nat} {w : Bool} {t : TypeId} {cs rest : List Value} (he : (⟨b, w, t, cs ++ rest⟩ : Ent) ∈ L) (hn : cs.length = n) : Go.Den.rdO h (some ⟨b, 0, none⟩) n cs := by
  obtain ⟨k, hk⟩ := List.getElem?_of_mem he
  have h1 := rdO_hp H k (o := 0) (n := n) hk (by simp; omega)
  rw [List.drop_zero, List.take_append_of_le_length (by omega), List.take_of_length_le (by omega)] at h1
  exact h1

/-- A slice and its row: none yet, or a row of one's own in which 'xs' stand. -/
def Slot (t : TypeId) (sz : Nat) (D : List Ent) (q : Option Addr) (n c : Nat) (xs : List Value) : Prop :=
  xs.length = n * sz ∧ ((D = [] ∧ q = none ∧ n = 0 ∧ c = 0) ∨ ∃ b rest, D = [⟨b, true, t, xs ++ rest⟩] ∧ q = some ⟨b, 0, none⟩ ∧ (xs ++ rest).length = c * sz)
theorem Slot.nil (t : TypeId) (sz : Nat) : Slot t sz [] none 0 0 [] := ⟨by simp, .inl ⟨rfl, rfl, rfl, rfl⟩⟩
theorem Slot.one {t : TypeId} {sz b n c : Nat} {xs rest : List Value} (h1 : xs.length = n * sz) (h2 : (xs ++ rest).length = c * sz) : Slot t sz [⟨b, true, t, xs ++ rest⟩] (some ⟨b, 0, none⟩) n c xs := ⟨h1, .inr ⟨b, rest, rfl, rfl, h2⟩⟩
theorem Slot.w {t : TypeId} {sz n c : Nat} {q : Option Addr} {xs : List Value} (hd : Slot t sz D q n c xs) : D.all Ent.w = true := by
  rcases hd.2 with ⟨rfl, _⟩ | ⟨b, rest, rfl, _⟩ <;> rfl
/-- A cell of it. -/
theorem Slot.cell {t : TypeId} {sz n c i : Nat} {q : Option Addr} {xs : List Value} {v : Value} (hd : Slot t sz D q n c xs) (H : Hp h0 F h (A ++ (D ++ B))) (hv : xs[i]? = some v) : ∃ b, q = some ⟨b, 0, none⟩ ∧ hcell h ⟨b, i, none⟩ = some v := by
  obtain ⟨hl, ⟨rfl, rfl, rfl, rfl⟩ | ⟨b, rest, rfl, rfl, hc⟩⟩ := hd
  · have := (List.getElem?_eq_some_iff.1 hv).1; omega
  · exact ⟨b, rfl, H.cell A.length (by rw [List.getElem?_append_right (Nat.le_refl _), Nat.sub_self]; rfl) (by rw [List.getElem?_append_left (List.getElem?_eq_some_iff.1 hv).1]; exact hv)⟩
theorem Slot.rdO {t : TypeId} {sz n c : Nat} {q : Option Addr} {xs : List Value} (hd : Slot t sz D q n c xs) (H : Hp h0 F h (A ++ (D ++ B))) : rdO h q (n * sz) xs := by
  obtain ⟨hl, ⟨rfl, rfl, rfl, rfl⟩ | ⟨b, rest, rfl, rfl, hc⟩⟩ := hd
  · rw [Nat.zero_mul] at hl ⊢
    rw [List.length_eq_zero_iff.1 hl]
    exact rfl
  · have h1 := rdO_hp H A.length (o := 0) (n := n * sz) (by rw [List.getElem?_append_right (Nat.le_refl _), Nat.sub_self]; rfl) (by simp; omega)
    rw [List.drop_zero, List.take_append_of_le_length (by omega), List.take_of_length_le (by omega)] at h1
    exact h1
/-- append onto it. -/
theorem Slot.app {t : TypeId} {sz by_ n c m : Nat} {q : Option Addr} {xs z : List Value} (hd : Slot t sz D q n c xs) (H : Hp h0 F h (A ++ (D ++ B))) (hz : z.length = sz) {src : Option Addr} {new : List Value} (hr : Go.Den.rdO h src (m * sz) new) (hm : new.length = m * sz)
    (hnew : ∀ v ∈ new, v.oneCell' = true) (hm1 : 1 ≤ m) (hby : (n + m) * by_ ≤ 70368744177664)
    {K : Option Addr → Nat → Nat → Heap → Prop} (hk : ∀ (D' : List Ent) (q' : Option Addr) (c' : Nat) h', Slot t sz D' q' (n + m) c' (xs ++ new) → Hp h0 F h' (A ++ (D' ++ B)) → K q' (n + m) c' h') : appC h t sz by_ z q n c src m K := by
  obtain ⟨hl, ⟨rfl, rfl, rfl, rfl⟩ | ⟨b, rest, rfl, rfl, hc⟩⟩ := hd
  · rw [Nat.zero_mul] at hl
    have hx : xs = [] := List.length_eq_zero_iff.1 hl
    subst hx
    refine appC_newZ H hz hr hm hm1 (by rw [Nat.zero_add] at hby; exact hby) fun b' rest' c' h' h1 h2 he H' => ?_
    have := hk [⟨b', true, t, new ++ rest'⟩] (some ⟨b', 0, none⟩) c' h' (by
      have := Slot.one (t := t) (b := b') (n := 0 + m) (c := c') (xs := new) (rest := rest') (by rw [Nat.zero_add]; exact hm) h1
      exact this) (H'.perm (by
        rw [List.nil_append, List.append_assoc]
        exact List.Perm.append_left A List.perm_append_comm))
    rw [Nat.zero_add] at this
    exact this
  · refine appC_ownZ H A.length (by rw [List.getElem?_append_right (Nat.le_refl _), Nat.sub_self]; rfl) hz hl hc hr hm hnew hby fun b' rest' c' h' h1 h2 H' => ?_
    refine hk [⟨b', true, t, (xs ++ new) ++ rest'⟩] _ c' h' (Slot.one (by rw [List.length_append, hl, hm, ← Nat.add_mul]) h1) (H'.as ?_)
    rw [List.set_append_right _ _ (Nat.le_refl _), Nat.sub_self]
    rfl
end

end Go.Den
