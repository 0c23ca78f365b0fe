/- DenN: what is known of a heap: a list of whole rows, each with its cells; the rules by which loads, stores, new rows and appends meet it. No program in sight. -/
import Derived.Test.YtlmopdohgipbeaaDenM
set_option linter.unusedVariables false
set_option linter.unusedSimpArgs false
namespace Go.Den

theorem add_mk (b o n : Nat) : (⟨b, o, none⟩ : Addr).add n = ⟨b, o + n, none⟩ := by
  unfold Addr.add
  split
  · rename_i h; subst h; rfl
  · rfl

/-- A whole row. -/
def Blk (h : Heap) (b : Nat) (t : TypeId) (cs : List Value) : Prop := h[b]? = some (.cells cs.toArray t (0, 0))

section
variable {h h' : Heap} {b : Nat} {t : TypeId} {cs : List Value}
theorem Blk.lt (H : Blk h b t cs) : b < h.size := by
  rcases Nat.lt_or_ge b h.size with hlt | hge
  · exact hlt
  · unfold Blk at H; rw [Array.getElem?_eq_none hge] at H; cases H
theorem Blk.cell (H : Blk h b t cs) (i : Nat) : hcell h ⟨b, i, none⟩ = cs[i]? := by
  unfold Blk at H; simp [hcell, H]
theorem Blk.frozen (H : Blk h b t cs) (i : Nat) : hfrozen h ⟨b, i, none⟩ = false := by
  unfold Blk at H; simp [hfrozen, H]
theorem hset_size (h : Heap) (a : Addr) (v : Value) : (hset h a v).size = h.size := by simp [hset]
theorem Blk.set (H : Blk h b t cs) (i : Nat) (v : Value) : Blk (hset h ⟨b, i, none⟩ v) b t (cs.set i v) := by
  unfold Blk at H ⊢
  simp [hset, Array.getElem?_modify, H]
theorem hset_ne (h : Heap) (a : Addr) (v : Value) {b : Nat} (hb : a.block ≠ b) : (hset h a v)[b]? = h[b]? := by
  simp [hset, Array.getElem?_modify, hb]
theorem Blk.push (H : Blk h b t cs) (o : Obj) : Blk (h.push o) b t cs := by
  have := H.lt
  unfold Blk at H ⊢
  rw [Array.getElem?_push_lt this]
  rw [← H]
  simp [this]
theorem Blk.new (h : Heap) (t : TypeId) (cs : List Value) : Blk (h.push (.cells cs.toArray t)) h.size t cs := by
  unfold Blk
  simp
end

/-- All rows but these are as they were. -/
def Fr (F : List Nat) (h h' : Heap) : Prop := h.size ≤ h'.size ∧ ∀ b, b < h.size → b ∉ F → h'[b]? = h[b]?
theorem Fr.refl (F : List Nat) (h : Heap) : Fr F h h := ⟨Nat.le_refl _, fun _ _ _ => rfl⟩

/-- A row that is known: where it lies, may it be written, its elements' type, its cells. -/
structure Ent where
  b : Nat
  w : Bool
  t : TypeId
  cs : List Value

structure Hp (h0 : Heap) (F : List Nat) (h : Heap) (L : List Ent) : Prop where
  fr : Fr F h0 h
  bl : ∀ (k : Nat) (e : Ent), L[k]? = some e → Blk h e.b e.t e.cs
  wr : ∀ (k : Nat) (e : Ent), L[k]? = some e → e.w = true → e.b ∈ F ∨ h0.size ≤ e.b
  nd : ∀ (k : Nat) (e : Ent) (k' : Nat) (e' : Ent), L[k]? = some e → L[k']? = some e' → e.b = e'.b → k = k'

section
variable {h0 h : Heap} {F : List Nat} {L : List Ent}

theorem Hp.nil (h : Heap) (F : List Nat) : Hp h F h [] := ⟨Fr.refl F h, fun k e he => by simp at he, fun k e he => by simp at he, fun k e k' e' he => by simp at he⟩

theorem Hp.lt (H : Hp h0 F h L) {k : Nat} {e : Ent} (he : L[k]? = some e) : e.b < h.size := (H.bl k e he).lt

theorem Hp.cell (H : Hp h0 F h L) (k : Nat) {b : Nat} {w : Bool} {t : TypeId} {cs : List Value} {i : Nat} {v : Value} (he : L[k]? = some ⟨b, w, t, cs⟩) (hv : cs[i]? = some v) : hcell h ⟨b, i, none⟩ = some v := by
  rw [(H.bl k _ he).cell]; exact hv

/-- A store into a row that is known. -/
theorem Hp.set (H : Hp h0 F h L) (k : Nat) {b : Nat} {t : TypeId} {cs : List Value} (he : L[k]? = some ⟨b, true, t, cs⟩) (i : Nat) (v : Value) :
    Hp h0 F (hset h ⟨b, i, none⟩ v) (L.set k ⟨b, true, t, cs.set i v⟩) := by
  have hk : k < L.length := (List.getElem?_eq_some_iff.1 he).1
  have hget : ∀ (j : Nat) (e : Ent), (L.set k ⟨b, true, t, cs.set i v⟩)[j]? = some e → (j = k ∧ e = ⟨b, true, t, cs.set i v⟩) ∨ (j ≠ k ∧ L[j]? = some e) := fun j e hj => by
    by_cases hjk : j = k
    · subst hjk
      rw [List.getElem?_set_self hk] at hj
      exact .inl ⟨rfl, (Option.some.inj hj).symm⟩
    · rw [List.getElem?_set_ne (Ne.symm hjk)] at hj
      exact .inr ⟨hjk, hj⟩
  refine ⟨⟨by rw [hset_size]; exact H.fr.1, fun b' hb' hF => ?_⟩, fun j e hj => ?_, fun j e hj hw => ?_, fun j e j' e' hj hj' hb => ?_⟩
  · have hne : b ≠ b' := fun e => by
      subst e
      rcases H.wr k _ he rfl with h1 | h1
      · exact hF h1
      · simp only at h1; omega
    rw [hset_ne h ⟨b, i, none⟩ v hne]
    exact H.fr.2 b' hb' hF
  · rcases hget j e hj with ⟨rfl, rfl⟩ | ⟨hjk, hj'⟩
    · exact (H.bl j _ he).set i v
    · have hne : b ≠ e.b := fun hb => hjk (H.nd j e k _ hj' he hb.symm)
      unfold Blk
      rw [hset_ne h ⟨b, i, none⟩ v hne]
      exact H.bl j e hj'
  · rcases hget j e hj with ⟨rfl, rfl⟩ | ⟨hjk, hj'⟩
    · exact H.wr j ⟨b, true, t, cs⟩ he rfl
    · exact H.wr j e hj' hw
  · have key : ∀ (j : Nat) (e : Ent), (L.set k ⟨b, true, t, cs.set i v⟩)[j]? = some e → ∃ e', L[j]? = some e' ∧ e'.b = e.b := fun j e hj => by
      rcases hget j e hj with ⟨rfl, rfl⟩ | ⟨_, h2⟩
      · exact ⟨_, he, rfl⟩
      · exact ⟨e, h2, rfl⟩
    obtain ⟨e1, h1, h2⟩ := key j e hj
    obtain ⟨e3, h3, h4⟩ := key j' e' hj'
    exact H.nd j e1 j' e3 h1 h3 (by rw [h2, h4]; exact hb)

/-- A new row. -/
theorem Hp.new (H : Hp h0 F h L) (t : TypeId) (cs : List Value) : Hp h0 F (h.push (.cells cs.toArray t)) (L ++ [⟨h.size, true, t, cs⟩]) := by
  have hget : ∀ (j : Nat) (e : Ent), (L ++ [(⟨h.size, true, t, cs⟩ : Ent)])[j]? = some e → (j < L.length ∧ L[j]? = some e) ∨ (j = L.length ∧ e = ⟨h.size, true, t, cs⟩) := fun j e hj => by
    rcases Nat.lt_trichotomy j L.length with hl | hl | hl
    · rw [List.getElem?_append_left hl] at hj; exact .inl ⟨hl, hj⟩
    · subst hl; simp at hj; exact .inr ⟨rfl, hj.symm⟩
    · rw [List.getElem?_eq_none (by simp; omega)] at hj; cases hj
  refine ⟨⟨by simp; exact Nat.le_succ_of_le H.fr.1, fun b' hb' hF => ?_⟩, fun j e hj => ?_, fun j e hj hw => ?_, fun j e j' e' hj hj' hb => ?_⟩
  · have : b' < h.size := Nat.lt_of_lt_of_le hb' H.fr.1
    rw [Array.getElem?_push_lt this, ← H.fr.2 b' hb' hF]
    simp [this]
  · rcases hget j e hj with ⟨_, h1⟩ | ⟨_, rfl⟩
    · exact (H.bl j e h1).push _
    · exact Blk.new h t cs
  · rcases hget j e hj with ⟨_, h1⟩ | ⟨_, rfl⟩
    · exact H.wr j e h1 hw
    · exact .inr H.fr.1
  · rcases hget j e hj with ⟨_, h1⟩ | ⟨h1, rfl⟩ <;> rcases hget j' e' hj' with ⟨_, h2⟩ | ⟨h2, rfl⟩
    · exact H.nd j e j' e' h1 h2 hb
    · have := H.lt h1; simp only at hb; omega
    · have := H.lt h2; simp only at hb; omega
    · omega

/-- Rows may be forgotten. -/
theorem Hp.take (H : Hp h0 F h L) (n : Nat) : Hp h0 F h (L.take n) := by
  have hget : ∀ (j : Nat) (e : Ent), (L.take n)[j]? = some e → L[j]? = some e := fun j e hj => by
    rw [List.getElem?_take] at hj
    split at hj
    · exact hj
    · cases hj
  exact ⟨H.fr, fun k e he => H.bl k e (hget k e he), fun k e he => H.wr k e (hget k e he), fun k e k' e' h1 h2 => H.nd k e k' e' (hget k e h1) (hget k' e' h2)⟩

/-- Rows may be picked. -/
theorem Hp.pick (H : Hp h0 F h L) (ix : List Nat) (hix : ix.Nodup) {L' : List Ent} (hL : ix.map (fun k => L[k]?) = L'.map some) : Hp h0 F h L' := by
  have hget : ∀ (j : Nat) (e : Ent), L'[j]? = some e → ∃ k, ix[j]? = some k ∧ L[k]? = some e := fun j e hj => by
    have h1 : (L'.map some)[j]? = some (some e) := by rw [List.getElem?_map, hj]; rfl
    rw [← hL, List.getElem?_map] at h1
    cases hk : ix[j]? with
    | none => rw [hk] at h1; cases h1
    | some k => rw [hk] at h1; exact ⟨k, rfl, Option.some.inj h1⟩
  refine ⟨H.fr, fun j e he => ?_, fun j e he => ?_, fun j e j' e' h1 h2 hb => ?_⟩
  · obtain ⟨k, _, h1⟩ := hget j e he; exact H.bl k e h1
  · obtain ⟨k, _, h1⟩ := hget j e he; exact H.wr k e h1
  · obtain ⟨k, h3, h4⟩ := hget j e h1
    obtain ⟨k', h5, h6⟩ := hget j' e' h2
    have := H.nd k e k' e' h4 h6 hb
    subst this
    obtain ⟨hj, h7⟩ := List.getElem?_eq_some_iff.1 h3
    obtain ⟨hj', h8⟩ := List.getElem?_eq_some_iff.1 h5
    rcases Nat.lt_trichotomy j j' with hlt | he | hlt
    · exact absurd (h7.trans h8.symm) (List.pairwise_iff_getElem.1 hix j j' hj hj' hlt)
    · exact he
    · exact absurd (h8.trans h7.symm) (List.pairwise_iff_getElem.1 hix j' j hj' hj hlt)

/-- Another row in a known one's place: a new one. -/
theorem Hp.replace (H : Hp h0 F h L) (k : Nat) (hk : k < L.length) (t : TypeId) (cs : List Value) : Hp h0 F (h.push (.cells cs.toArray t)) (L.set k ⟨h.size, true, t, cs⟩) := by
  have H2 := H.new t cs
  have hget : ∀ (j : Nat) (e : Ent), (L.set k ⟨h.size, true, t, cs⟩)[j]? = some e → (j = k ∧ e = ⟨h.size, true, t, cs⟩) ∨ (j ≠ k ∧ L[j]? = some e) := fun j e hj => by
    by_cases hjk : j = k
    · subst hjk
      rw [List.getElem?_set_self hk] at hj
      exact .inl ⟨rfl, (Option.some.inj hj).symm⟩
    · rw [List.getElem?_set_ne (Ne.symm hjk)] at hj
      exact .inr ⟨hjk, hj⟩
  refine ⟨H2.fr, fun j e hj => ?_, fun j e hj hw => ?_, fun j e j' e' hj hj' hb => ?_⟩
  · rcases hget j e hj with ⟨_, rfl⟩ | ⟨_, h1⟩
    · exact Blk.new h t cs
    · exact (H.bl j e h1).push _
  · rcases hget j e hj with ⟨_, rfl⟩ | ⟨_, h1⟩
    · exact .inr H.fr.1
    · exact H.wr j e h1 hw
  · rcases hget j e hj with ⟨h1, rfl⟩ | ⟨_, h1⟩ <;> rcases hget j' e' hj' with ⟨h2, rfl⟩ | ⟨_, h2⟩
    · omega
    · have := H.lt h2; simp only at hb; omega
    · have := H.lt h1; simp only at hb; omega
    · exact H.nd j e j' e' h1 h2 hb

end

/-! ### the rules -/
section
variable {h0 h : Heap} {F : List Nat} {L : List Ent}

theorem ldI_hp (H : Hp h0 F h L) (k : Nat) {b : Nat} {w : Bool} {t : TypeId} {cs : List Value} {i : Nat} {kd : IntKind} {x : Int} {K : Int → Prop} (he : L[k]? = some ⟨b, w, t, cs⟩) (hv : cs[i]? = some (.int kd x)) (hk : K x) :
    ldI h ⟨b, i, none⟩ kd K := ldI_of (H.cell k he hv) hk
theorem stV_hp (H : Hp h0 F h L) (k : Nat) {b : Nat} {t : TypeId} {cs : List Value} {i : Nat} {v : Value} {K : Heap → Prop} (he : L[k]? = some ⟨b, true, t, cs⟩) (hi : i < cs.length) (hv : v.oneCell' = true)
    (hk : ∀ h', h'.size = h.size → Hp h0 F h' (L.set k ⟨b, true, t, cs.set i v⟩) → K h') : stV h ⟨b, i, none⟩ v K :=
  stV_of (u := cs[i]) hv (H.cell k he (List.getElem?_eq_getElem hi)) ((H.bl k _ he).frozen i) (hk _ (hset_size h _ v) (H.set k he i v))
theorem newC_hp (H : Hp h0 F h L) {t : TypeId} {cs : List Value} {K : Nat → Heap → Prop} (hk : ∀ r h', Hp h0 F h' (L ++ [⟨r, true, t, cs⟩]) → K r h') : newC h cs t K := hk _ _ (H.new t cs)

theorem stVs_hp {b : Nat} {t : TypeId} {K : Heap → Prop} {o : Nat} : ∀ {vs : List Value} {h : Heap} {L : List Ent} {cs : List Value} {k i : Nat}, Hp h0 F h L → L[k]? = some ⟨b, true, t, cs⟩ → o + i + vs.length ≤ cs.length → (∀ v ∈ vs, v.oneCell' = true) →
    (∀ h', h'.size = h.size → Hp h0 F h' (L.set k ⟨b, true, t, cs.take (o + i) ++ vs ++ cs.drop (o + i + vs.length)⟩) → K h') → stVs h ⟨b, o, none⟩ i vs K
  | [], h, L, cs, k, i, H, he, hl, hv, hk => by
    refine hk h rfl ?_
    have : L.set k ⟨b, true, t, cs.take (o + i) ++ [] ++ cs.drop (o + i + 0)⟩ = L := by
      rw [List.append_nil, Nat.add_zero, List.take_append_drop]
      apply List.ext_getElem?
      intro j
      by_cases hj : k = j
      · subst hj
        rw [List.getElem?_set_self (List.getElem?_eq_some_iff.1 he).1, he]
      · rw [List.getElem?_set_ne hj]
    simp only [List.length_nil]
    rw [this]
    exact H
  | v :: vs, h, L, cs, k, i, H, he, hl, hv, hk => by
    simp only [List.length_cons] at hl
    unfold stVs
    rw [add_mk]
    have hlt : o + i < cs.length := by omega
    refine stV_hp H k he hlt (hv v (by simp)) fun h1 hs1 H1 => ?_
    have hkl : k < L.length := (List.getElem?_eq_some_iff.1 he).1
    refine stVs_hp (vs := vs) (k := k) (i := i + 1) (cs := cs.set (o + i) v) H1 (by rw [List.getElem?_set_self hkl]) (by simp; omega) (fun u hu => hv u (by simp [hu])) fun h2 hs2 H2 => hk h2 (hs2.trans hs1) ?_
    have e1 : (cs.set (o + i) v).take (o + (i + 1)) ++ vs ++ (cs.set (o + i) v).drop (o + (i + 1) + vs.length) = cs.take (o + i) ++ (v :: vs) ++ cs.drop (o + i + (v :: vs).length) := by
      have h3 : (cs.set (o + i) v).take (o + (i + 1)) = cs.take (o + i) ++ [v] := by
        rw [show o + (i + 1) = (o + i) + 1 by omega, List.take_succ_eq_append_getElem (by simpa using hlt), List.take_set_of_le (Nat.le_refl _)]
        simp
      have h4 : (cs.set (o + i) v).drop (o + (i + 1) + vs.length) = cs.drop (o + i + (v :: vs).length) := by
        rw [List.drop_set_of_lt (by omega)]
        congr 1
        simp only [List.length_cons]
        omega
      rw [h3, h4]
      simp
    rw [e1, List.set_set] at H2
    exact H2

/-- Reading a piece of a known row. -/
theorem rdO_hp (H : Hp h0 F h L) (k : Nat) {b o n : Nat} {w : Bool} {t : TypeId} {cs : List Value} (he : L[k]? = some ⟨b, w, t, cs⟩) (hn : o + n ≤ cs.length) : rdO h (some ⟨b, o, none⟩) n ((cs.drop o).take n) := by
  refine ⟨by simp; omega, fun j v hj => ?_⟩
  rw [add_mk]
  refine H.cell k he ?_
  rw [List.getElem?_take] at hj
  split at hj
  · rw [List.getElem?_drop] at hj; exact hj
  · cases hj

/-- append onto a row of one's own, of elements of one cell: 'xs' stand there, room behind them. -/
theorem appC_own (H : Hp h0 F h L) (k : Nat) {b : Nat} {t : TypeId} {xs rest : List Value} (he : L[k]? = some ⟨b, true, t, xs ++ rest⟩) {by_ n c m : Nat} {z : Value} (hn : n = xs.length) (hc : c = (xs ++ rest).length)
    {src : Option Addr} {new : List Value} (hr : rdO h src (m * 1) new) (hm : new.length = m) (hnew : ∀ v ∈ new, v.oneCell' = true) (hby : (n + m) * by_ ≤ 70368744177664)
    {K : Option Addr → Nat → Nat → Heap → Prop}
    (hk : ∀ (b' : Nat) (rest' : List Value) h', Hp h0 F h' (L.set k ⟨b', true, t, (xs ++ new) ++ rest'⟩) → K (some ⟨b', 0, none⟩) (n + m) ((xs ++ new) ++ rest').length h') :
    appC h t 1 by_ [z] (some ⟨b, 0, none⟩) n c src m K := by
  refine ⟨new, hr, ?_⟩
  have hkl : k < L.length := (List.getElem?_eq_some_iff.1 he).1
  by_cases hroom : n + m ≤ c
  · rw [if_pos hroom]
    simp only [List.length_append] at hc
    show stVs h ((⟨b, 0, none⟩ : Addr).add (n * 1)) 0 new _
    rw [add_mk]
    have hoff : 0 + n * 1 + 0 = xs.length := by omega
    refine stVs_hp H he (by simp; omega) hnew fun h' hs H' => ?_
    have e1 : (xs ++ rest).take (0 + n * 1 + 0) ++ new ++ (xs ++ rest).drop (0 + n * 1 + 0 + new.length) = (xs ++ new) ++ rest.drop new.length := by
      rw [hoff, List.take_left, List.drop_append, List.drop_eq_nil_of_le (by omega)]
      simp
    rw [e1] at H'
    have h2 := hk b (rest.drop new.length) h' H'
    have hc' : c = ((xs ++ new) ++ rest.drop new.length).length := by simp; omega
    rw [hc']
    exact h2
  · rw [if_neg hroom]
    refine ⟨hby, xs, ?_, fun cap hcap => ?_⟩
    · have h1 := rdO_hp H k (o := 0) (n := n * 1) he (by simp; omega)
      rw [List.drop_zero, List.take_append_of_le_length (by omega), List.take_of_length_le (by omega)] at h1
      exact h1
    · have h2 := hk h.size (repZ [z] (cap - (n + m))) _ (H.replace k hkl t _)
      have hl : ((xs ++ new) ++ repZ [z] (cap - (n + m))).length = cap := by
        simp only [List.length_append, repZ_length, List.length_singleton]
        omega
      rw [hl] at h2
      exact h2

end
end Go.Den
