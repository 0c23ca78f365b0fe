/- DenO: calls on rows of one's own (a frame), rows of two parts, numbers. No program in sight. -/
import Derived.Test.YtlmopdohgipbeaaDenN
import Derived.Laws.BitsLemmas
set_option linter.unusedVariables false
set_option linter.unusedSimpArgs false
namespace Go.Den

theorem Hp.as {h0 h : Heap} {F : List Nat} {L L' : List Ent} (H : Hp h0 F h L) (e : L = L') : Hp h0 F h L' := e ▸ H

/-! ### a frame -/
/-- The entries 'ix' of 'L' get new values, in order; what is left of them is put behind. -/
def setAll : List Ent → List Nat → List Ent → List Ent
  | L, [], B => L ++ B
  | L, i :: ix, b :: B => setAll (L.set i b) ix B
  | _, _ :: _, [] => []
theorem setAll_nil (L B : List Ent) : setAll L [] B = L ++ B := by unfold setAll; rfl

theorem setAll_get : ∀ (ix : List Nat) (L B : List Ent) (j : Nat) (e : Ent), ix.Nodup → (∀ i ∈ ix, i < L.length) → (setAll L ix B)[j]? = some e →
    (j < L.length ∧ j ∉ ix ∧ L[j]? = some e) ∨ ∃ m, B[m]? = some e ∧ ((m < ix.length ∧ ix[m]? = some j) ∨ (ix.length ≤ m ∧ j = L.length + (m - ix.length)))
  | [], L, B, j, e, _, _, h => by
    unfold setAll at h
    rcases Nat.lt_or_ge j L.length with hl | hl
    · rw [List.getElem?_append_left hl] at h
      exact .inl ⟨hl, by simp, h⟩
    · rw [List.getElem?_append_right hl] at h
      exact .inr ⟨j - L.length, h, .inr ⟨by simp, by simp; omega⟩⟩
  | i :: ix, L, b :: B, j, e, hnd, hlt, h => by
    unfold setAll at h
    have hi : i < L.length := hlt i (by simp)
    have hnd' := List.nodup_cons.1 hnd
    rcases setAll_get ix (L.set i b) B j e hnd'.2 (fun k hk => by rw [List.length_set]; exact hlt k (by simp [hk])) h with ⟨h1, h2, h3⟩ | ⟨m, h1, h2⟩
    · rw [List.length_set] at h1
      by_cases hj : j = i
      · subst hj
        rw [List.getElem?_set_self hi] at h3
        exact .inr ⟨0, h3, .inl ⟨by simp, by simp⟩⟩
      · rw [List.getElem?_set_ne (Ne.symm hj)] at h3
        exact .inl ⟨h1, by simp [hj, h2], h3⟩
    · refine .inr ⟨m + 1, by simpa using h1, ?_⟩
      rcases h2 with ⟨h3, h4⟩ | ⟨h3, h4⟩
      · exact .inl ⟨by simp; omega, by simpa using h4⟩
      · rw [List.length_set] at h4
        exact .inr ⟨by simp; omega, by simp; omega⟩
  | _ :: _, _, [], j, e, _, _, h => by simp [setAll] at h

theorem get_inj {ix : List Nat} (hnd : ix.Nodup) {m m' j : Nat} (h1 : ix[m]? = some j) (h2 : ix[m']? = some j) : m = m' := by
  obtain ⟨l1, e1⟩ := List.getElem?_eq_some_iff.1 h1
  obtain ⟨l2, e2⟩ := List.getElem?_eq_some_iff.1 h2
  rcases Nat.lt_trichotomy m m' with hlt | he | hlt
  · exact absurd (e1.trans e2.symm) (List.pairwise_iff_getElem.1 hnd m m' l1 l2 hlt)
  · exact he
  · exact absurd (e2.trans e1.symm) (List.pairwise_iff_getElem.1 hnd m' m l2 l1 hlt)

section
variable {h0 h h' : Heap} {F : List Nat} {L A B : List Ent}

theorem ix_get {ix : List Nat} (hA : ix.map (fun k => L[k]?) = A.map some) {j : Nat} {e : Ent} (hj : A[j]? = some e) : ∃ k, ix[j]? = some k ∧ L[k]? = some e := by
  have h1 : (A.map some)[j]? = some (some e) := by rw [List.getElem?_map, hj]; rfl
  rw [← hA, List.getElem?_map] at h1
  cases hk : ix[j]? with
  | none => rw [hk] at h1; cases h1
  | some k => rw [hk] at h1; exact ⟨k, rfl, Option.some.inj h1⟩

/-- The rows that are handed over. -/
theorem Hp.give (H : Hp h0 F h L) (ix : List Nat) (hnd : ix.Nodup) (hA : ix.map (fun k => L[k]?) = A.map some) : Hp h (A.map Ent.b) h A := by
  have H1 := H.pick ix hnd hA
  refine ⟨Fr.refl _ _, H1.bl, fun k e he _ => .inl ?_, H1.nd⟩
  exact List.mem_map.2 ⟨e, List.mem_of_getElem? he, rfl⟩

/-- ... and what comes back. -/
theorem Hp.back (H : Hp h0 F h L) (ix : List Nat) (hnd : ix.Nodup) (hA : ix.map (fun k => L[k]?) = A.map some) (hw : A.all Ent.w = true) (H' : Hp h (A.map Ent.b) h' B) (hB : B.all Ent.w = true) (hBl : ix.length ≤ B.length) :
    Hp h0 F h' (setAll L ix B) := by
  have hAw : ∀ e ∈ A, e.w = true := List.all_eq_true.1 hw
  have hBw : ∀ e ∈ B, e.w = true := List.all_eq_true.1 hB
  have hixlt : ∀ i ∈ ix, i < L.length := fun i hi => by
    obtain ⟨m, hm⟩ := List.getElem?_of_mem hi
    have h1 : (ix.map fun k => L[k]?)[m]? = some L[i]? := by rw [List.getElem?_map, hm]; rfl
    rw [hA, List.getElem?_map] at h1
    cases hk : A[m]? with
    | none => rw [hk] at h1; cases h1
    | some e =>
      rw [hk] at h1
      exact (List.getElem?_eq_some_iff.1 (Option.some.inj h1).symm).1
  have hmemA : ∀ b ∈ A.map Ent.b, ∃ k e, k ∈ ix ∧ L[k]? = some e ∧ e.b = b ∧ e.w = true := fun b hb => by
    obtain ⟨e, he, rfl⟩ := List.mem_map.1 hb
    obtain ⟨j, hj⟩ := List.getElem?_of_mem he
    obtain ⟨k, hk1, hk2⟩ := ix_get hA hj
    exact ⟨k, e, List.mem_of_getElem? hk1, hk2, rfl, hAw e he⟩
  have hown : ∀ b ∈ A.map Ent.b, b ∈ F ∨ h0.size ≤ b := fun b hb => by
    obtain ⟨k, e, _, h2, rfl, h4⟩ := hmemA b hb
    exact H.wr k e h2 h4
  have hnot : ∀ {j e}, j ∉ ix → L[j]? = some e → e.b ∉ A.map Ent.b := fun {j e} hj he hb => by
    obtain ⟨k, e', h1, h2, h3, _⟩ := hmemA _ hb
    exact hj (H.nd k e' j e h2 he h3 ▸ h1)
  refine ⟨⟨Nat.le_trans H.fr.1 H'.fr.1, fun b hb hF => ?_⟩, fun j e he => ?_, fun j e he hwt => ?_, fun j e j' e' he he' hb => ?_⟩
  · have hlt : b < h.size := Nat.lt_of_lt_of_le hb H.fr.1
    rw [H'.fr.2 b hlt (fun hm => by
      rcases hown b hm with h1 | h1
      · exact hF h1
      · omega)]
    exact H.fr.2 b hb hF
  · rcases setAll_get ix L B j e hnd hixlt he with ⟨h1, h2, h3⟩ | ⟨m, h1, _⟩
    · have := H.bl j e h3
      unfold Blk at this ⊢
      rw [H'.fr.2 e.b (H.lt h3) (hnot h2 h3)]
      exact this
    · exact H'.bl m e h1
  · rcases setAll_get ix L B j e hnd hixlt he with ⟨h1, h2, h3⟩ | ⟨m, h1, _⟩
    · exact H.wr j e h3 hwt
    · rcases H'.wr m e h1 hwt with h4 | h4
      · exact hown _ h4
      · exact .inr (Nat.le_trans H.fr.1 h4)
  · rcases setAll_get ix L B j e hnd hixlt he with ⟨h1, h2, h3⟩ | ⟨m, h1, h2⟩ <;> rcases setAll_get ix L B j' e' hnd hixlt he' with ⟨g1, g2, g3⟩ | ⟨m', g1, g2⟩
    · exact H.nd j e j' e' h3 g3 hb
    · exfalso
      rcases H'.wr m' e' g1 (hBw e' (List.mem_of_getElem? g1)) with h4 | h4
      · exact hnot h2 h3 (hb ▸ h4)
      · have := H.lt h3; omega
    · exfalso
      rcases H'.wr m e h1 (hBw e (List.mem_of_getElem? h1)) with h4 | h4
      · exact hnot g2 g3 (hb ▸ h4)
      · have := H.lt g3; omega
    · have := H'.nd m e m' e' h1 g1 hb
      subst this
      rcases h2 with ⟨h3, h4⟩ | ⟨h3, h4⟩ <;> rcases g2 with ⟨g3, g4⟩ | ⟨g3, g4⟩
      · rw [h4] at g4; exact Option.some.inj g4
      · omega
      · omega
      · omega

theorem Hp.hext (H : Hp h [] h' L) : hext h h' := ⟨H.fr.1, fun b hb => H.fr.2 b hb (by simp)⟩
theorem Fr.cell (H : Fr F h h') {a : Addr} (ha : a.block ∉ F) {v : Value} (hc : hcell h a = some v) : hcell h' a = some v := by
  have hlt : a.block < h.size := by
    rcases Nat.lt_or_ge a.block h.size with h1 | h1
    · exact h1
    · simp [hcell, Array.getElem?_eq_none h1] at hc
  simp only [hcell] at hc ⊢
  rw [H.2 _ hlt ha]
  exact hc
theorem add_block (a : Addr) (n : Nat) : (a.add n).block = a.block := by
  unfold Addr.add; split <;> rfl
theorem Fr.rdO (H : Fr F h h') {a : Option Addr} (ha : ∀ x ∈ a, x.block ∉ F) {n : Nat} {vs : List Value} (hr : rdO h a n vs) : rdO h' a n vs := by
  cases a with
  | none => exact hr
  | some a => exact ⟨hr.1, fun j v hj => H.cell (by rw [add_block]; exact ha a rfl) (hr.2 j v hj)⟩
theorem Hp.rdO (H : Hp h0 [] h L) {a : Option Addr} {n : Nat} {vs : List Value} (hr : rdO h0 a n vs) : rdO h a n vs := H.fr.rdO (fun _ _ => by simp) hr
end

theorem ptr_some_eq (a : Addr) (K : Addr → Prop) : ptr (some a) K = K a := rfl

theorem Hp.ext {h0 h h' : Heap} {F : List Nat} {L : List Ent} (H : Hp h0 F h L) (e : Go.Den.hext h h') : Hp h0 F h' L :=
  ⟨⟨Nat.le_trans H.fr.1 e.1, fun b hb hF => (e.2 b (Nat.lt_of_lt_of_le hb H.fr.1)).trans (H.fr.2 b hb hF)⟩,
   fun k en hk => by
    have h1 := H.bl k en hk
    unfold Blk at h1 ⊢
    rw [e.2 _ (H.lt hk)]
    exact h1, H.wr, H.nd⟩
/-- New rows only. -/
theorem Hp.join {h0 h h' : Heap} {F : List Nat} {L B : List Ent} (H : Hp h0 F h L) (H' : Hp h [] h' B) (hB : B.all Ent.w = true) : Hp h0 F h' (L ++ B) :=
  (H.back (A := []) [] List.nodup_nil rfl rfl H' hB (Nat.zero_le _)).as (setAll_nil L B)
theorem ldAll_hp {h0 h : Heap} {F : List Nat} {L : List Ent} (H : Hp h0 F h L) (k : Nat) {b n : Nat} {w : Bool} {t : TypeId} {cs : List Value} {K : List Value → Prop} (he : L[k]? = some ⟨b, w, t, cs⟩) (hn : cs.length = n) (hk : K cs) : ldAll h ⟨b, 0, none⟩ n K := by
  refine ⟨cs, ⟨hn, fun j v hj => ?_⟩, hk⟩
  rw [add_mk, Nat.zero_add]
  exact H.cell k he hj
/-- A whole row is written anew. -/
theorem stVs_all {h0 h : Heap} {F : List Nat} {L : List Ent} (H : Hp h0 F h L) (k : Nat) {b : Nat} {t : TypeId} {cs vs : List Value} {K : Heap → Prop} (he : L[k]? = some ⟨b, true, t, cs⟩) (hn : vs.length = cs.length) (hv : ∀ v ∈ vs, v.oneCell' = true)
    (hk : ∀ h', h'.size = h.size → Hp h0 F h' (L.set k ⟨b, true, t, vs⟩) → K h') : stVs h ⟨b, 0, none⟩ 0 vs K :=
  stVs_hp H he (by omega) hv fun h' hs H' => hk h' hs (by
    simp only [Nat.zero_add, List.take_zero, List.nil_append, hn, List.drop_length, List.append_nil] at H'
    exact H')
/-- append onto nothing: a new row. -/
theorem appC_new {h0 h : Heap} {F : List Nat} {L : List Ent} (H : Hp h0 F h L) {t : TypeId} {by_ m : Nat} {z : Value} {src : Option Addr} {new : List Value} (hr : rdO h src (m * 1) new) (hm : new.length = m) (hm1 : 1 ≤ m) (hby : m * by_ ≤ 70368744177664)
    {K : Option Addr → Nat → Nat → Heap → Prop} (hk : ∀ (b' : Nat) (rest' : List Value) h', Go.Den.hext h h' → Hp h0 F h' (L ++ [⟨b', true, t, new ++ rest'⟩]) → K (some ⟨b', 0, none⟩) m (m + rest'.length) h') :
    appC h t 1 by_ [z] none 0 0 src m K := by
  refine ⟨new, hr, ?_⟩
  rw [if_neg (by omega), Nat.zero_add]
  refine ⟨hby, [], rfl, fun cap hcap => ?_⟩
  have h2 := hk h.size (repZ [z] (cap - m)) _ (hext.push h _) (H.new t _)
  have hl : m + (repZ [z] (cap - m)).length = cap := by
    simp only [repZ_length, List.length_singleton]
    omega
  rw [hl] at h2
  exact h2
/-- append, elements of 'sz' cells, onto a row of one's own. -/
theorem appC_ownZ {h0 h : Heap} {F : List Nat} {L : List Ent} (H : Hp h0 F h L) (k : Nat) {b : Nat} {t : TypeId} {xs rest : List Value} (he : L[k]? = some ⟨b, true, t, xs ++ rest⟩) {sz by_ n c m : Nat} {z : List Value} (hz : z.length = sz)
    (hn : xs.length = n * sz) (hc : (xs ++ rest).length = c * sz) {src : Option Addr} {new : List Value} (hr : rdO h src (m * sz) new) (hm : new.length = m * sz) (hnew : ∀ v ∈ new, v.oneCell' = true) (hby : (n + m) * by_ ≤ 70368744177664)
    {K : Option Addr → Nat → Nat → Heap → Prop}
    (hk : ∀ (b' : Nat) (rest' : List Value) (c' : Nat) h', ((xs ++ new) ++ rest').length = c' * sz → n + m ≤ c' → Hp h0 F h' (L.set k ⟨b', true, t, (xs ++ new) ++ rest'⟩) → K (some ⟨b', 0, none⟩) (n + m) c' h') :
    appC h t sz by_ z (some ⟨b, 0, none⟩) n c src m K := by
  refine ⟨new, hr, ?_⟩
  have hkl : k < L.length := (List.getElem?_eq_some_iff.1 he).1
  by_cases hroom : n + m ≤ c
  · rw [if_pos hroom]
    have hmul : (n + m) * sz ≤ c * sz := Nat.mul_le_mul_right _ hroom
    rw [Nat.add_mul] at hmul
    simp only [List.length_append] at hc
    show stVs h ((⟨b, 0, none⟩ : Addr).add (n * sz)) 0 new _
    rw [add_mk]
    have hoff : 0 + n * sz + 0 = xs.length := by omega
    refine stVs_hp H he (by simp; omega) hnew fun h' hs H' => ?_
    have e1 : (xs ++ rest).take (0 + n * sz + 0) ++ new ++ (xs ++ rest).drop (0 + n * sz + 0 + new.length) = (xs ++ new) ++ rest.drop new.length := by
      rw [hoff, List.take_left, List.drop_append, List.drop_eq_nil_of_le (by omega)]
      simp
    rw [e1] at H'
    exact hk b (rest.drop new.length) c h' (by simp; omega) hroom H'
  · rw [if_neg hroom]
    refine ⟨hby, xs, ?_, fun cap hcap => ?_⟩
    · have h1 := rdO_hp H k (o := 0) (n := n * sz) he (by simp; omega)
      rw [List.drop_zero, List.take_append_of_le_length (by omega), List.take_of_length_le (by omega)] at h1
      exact h1
    · refine hk h.size (repZ z (cap - (n + m))) cap _ ?_ hcap (H.replace k hkl t _)
      simp only [List.length_append, repZ_length, hz, hn, hm]
      have : cap * sz = (n + m) * sz + (cap - (n + m)) * sz := by rw [← Nat.add_mul]; congr 1; omega
      rw [this, Nat.add_mul]
/-- append, elements of 'sz' cells, onto nothing: a new row. -/
theorem appC_newZ {h0 h : Heap} {F : List Nat} {L : List Ent} (H : Hp h0 F h L) {t : TypeId} {sz by_ m : Nat} {z : List Value} (hz : z.length = sz) {src : Option Addr} {new : List Value} (hr : rdO h src (m * sz) new) (hm : new.length = m * sz) (hm1 : 1 ≤ m) (hby : m * by_ ≤ 70368744177664)
    {K : Option Addr → Nat → Nat → Heap → Prop} (hk : ∀ (b' : Nat) (rest' : List Value) (c' : Nat) h', (new ++ rest').length = c' * sz → m ≤ c' → hext h h' → Hp h0 F h' (L ++ [⟨b', true, t, new ++ rest'⟩]) → K (some ⟨b', 0, none⟩) m c' h') :
    appC h t sz by_ z none 0 0 src m K := by
  refine ⟨new, hr, ?_⟩
  rw [if_neg (by omega), Nat.zero_add]
  refine ⟨hby, [], by rw [Nat.zero_mul]; rfl, fun cap hcap => ?_⟩
  refine hk h.size (repZ z (cap - m)) cap _ ?_ hcap (hext.push h _) (H.new t _)
  simp only [List.length_append, repZ_length, hz, hm]
  rw [← Nat.add_mul]; congr 1; omega
theorem repZ_one (z : Value) : ∀ n, repZ [z] n = List.replicate n z
  | 0 => rfl
  | n + 1 => by rw [repZ, repZ_one z n]; rfl

/-! ### rows of two parts -/
theorem app_get {R T : List Value} {m : Nat} (hR : R.length = m) (j : Nat) {v : Value} (h : T[j]? = some v) : (R ++ T)[m + j]? = some v := by
  subst hR
  rw [List.getElem?_append_right (Nat.le_add_right _ _), Nat.add_sub_cancel_left]
  exact h
theorem stV_hr {h0 h : Heap} {F : List Nat} {L : List Ent} (H : Hp h0 F h L) (k : Nat) {b : Nat} {t : TypeId} {R T : List Value} {m : Nat} (he : L[k]? = some ⟨b, true, t, R ++ T⟩) (hR : R.length = m) (j : Nat) {v : Value} {K : Heap → Prop}
    (hj : j < T.length) (hv : v.oneCell' = true) (hk : ∀ h', h'.size = h.size → Hp h0 F h' (L.set k ⟨b, true, t, R ++ T.set j v⟩) → K h') : stV h ⟨b, m + j, none⟩ v K :=
  stV_hp H k he (by simp; omega) hv fun h' hs H' => hk h' hs (by
    have : (R ++ T).set (m + j) v = R ++ T.set j v := by
      subst hR
      rw [List.set_append_right _ _ (Nat.le_add_right _ _), Nat.add_sub_cancel_left]
    rw [← this]
    exact H')

/-! ### numbers -/
theorem u8_in (n : Nat) (h : n < 256) : IntKind.u8.wrap (n : Int) = n := by rw [IntKind.wrap_u8]; omega
theorem u32_in (n : Nat) (h : n < 4294967296) : IntKind.u32.wrap (n : Int) = n := by rw [IntKind.wrap_u32]; omega
theorem u32_at (x : Int) (n : Nat) (e : x = n) (h : n < 4294967296) : IntKind.u32.wrap x = n := by subst e; exact u32_in n h
theorem i64_in (x : Int) (h1 : -9223372036854775808 ≤ x) (h2 : x < 9223372036854775808) : IntKind.i64.wrap x = x := by rw [IntKind.wrap_i64]; omega
theorem i64_at (x y : Int) (e : x = y) (h1 : -9223372036854775808 ≤ y) (h2 : y < 9223372036854775808) : IntKind.i64.wrap x = y := by rw [e]; exact i64_in y h1 h2
theorem u64_in (x : Int) (h1 : 0 ≤ x) (h2 : x < 18446744073709551616) : IntKind.u64.wrap x = x := by
  simp [IntKind.wrap, IntKind.bits, IntKind.signed]; omega
theorem u64_at (x y : Int) (e : x = y) (h1 : 0 ≤ y) (h2 : y < 18446744073709551616) : IntKind.u64.wrap x = y := by rw [e]; exact u64_in y h1 h2

theorem cast_lt {n j : Nat} (h : n < 2 ^ j) : ((n : Nat) : Int) < 2 ^ j := by exact_mod_cast h
theorem bits_nat3 (k : IntKind) (j : Nat) (hj : j ≤ k.bits) (hk : ∀ n : Int, 0 ≤ n → n < 2 ^ j → k.wrap n = n) (a b : Nat) (ha : a < 2 ^ j) (hb : b < 2 ^ j) : bitI .xor k a b = ((a ^^^ b : Nat) : Int) := by
  have hp : 2 ^ j ≤ 2 ^ k.bits := Nat.pow_le_pow_right (by decide) hj
  have ha' : a % 2 ^ k.bits = a := Nat.mod_eq_of_lt (Nat.lt_of_lt_of_le ha hp)
  have hb' : b % 2 ^ k.bits = b := Nat.mod_eq_of_lt (Nat.lt_of_lt_of_le hb hp)
  simp only [bitI, bits, BitVec.ofInt_natCast, BitVec.toNat_xor, BitVec.toNat_ofNat, ha', hb']
  exact hk _ (Int.natCast_nonneg _) (cast_lt (Nat.xor_lt_two_pow ha hb))
theorem wr8 (n : Int) (h₀ : 0 ≤ n) (h₁ : n < 2 ^ 8) : IntKind.u8.wrap n = n := by rw [IntKind.wrap_u8]; omega
theorem wr32 (n : Int) (h₀ : 0 ≤ n) (h₁ : n < 2 ^ 32) : IntKind.u32.wrap n = n := by rw [IntKind.wrap_u32]; omega
theorem wr63 (n : Int) (h₀ : 0 ≤ n) (h₁ : n < 2 ^ 63) : IntKind.i64.wrap n = n := by rw [IntKind.wrap_i64]; omega
theorem wr64 (n : Int) (h₀ : 0 ≤ n) (h₁ : n < 2 ^ 64) : IntKind.u64.wrap n = n := u64_in n h₀ (by omega)

theorem and8 (a b : Nat) (ha : a < 256) (hb : b < 256) : bitI .and .u8 a b = ((a &&& b : Nat) : Int) := (bits_nat .u8 8 (by decide) wr8 a b ha hb).1
theorem or8 (a b : Nat) (ha : a < 256) (hb : b < 256) : bitI .or .u8 a b = ((a ||| b : Nat) : Int) := (bits_nat .u8 8 (by decide) wr8 a b ha hb).2
theorem xor8 (a b : Nat) (ha : a < 256) (hb : b < 256) : bitI .xor .u8 a b = ((a ^^^ b : Nat) : Int) := bits_nat3 .u8 8 (by decide) wr8 a b ha hb
theorem and32 (a b : Nat) (ha : a < 4294967296) (hb : b < 4294967296) : bitI .and .u32 a b = ((a &&& b : Nat) : Int) := (bits_nat .u32 32 (by decide) wr32 a b ha hb).1
theorem or32 (a b : Nat) (ha : a < 4294967296) (hb : b < 4294967296) : bitI .or .u32 a b = ((a ||| b : Nat) : Int) := (bits_nat .u32 32 (by decide) wr32 a b ha hb).2
theorem and63 (a b : Nat) (ha : a < 9223372036854775808) (hb : b < 9223372036854775808) : bitI .and .i64 a b = ((a &&& b : Nat) : Int) := (bits_nat .i64 63 (by decide) wr63 a b ha hb).1
theorem xor63 (a b : Nat) (ha : a < 9223372036854775808) (hb : b < 9223372036854775808) : bitI .xor .i64 a b = ((a ^^^ b : Nat) : Int) := bits_nat3 .i64 63 (by decide) wr63 a b ha hb
theorem and64 (a b : Nat) (ha : a < 18446744073709551616) (hb : b < 18446744073709551616) : bitI .and .u64 a b = ((a &&& b : Nat) : Int) := (bits_nat .u64 64 (by decide) wr64 a b ha hb).1
theorem or64 (a b : Nat) (ha : a < 18446744073709551616) (hb : b < 18446744073709551616) : bitI .or .u64 a b = ((a ||| b : Nat) : Int) := (bits_nat .u64 64 (by decide) wr64 a b ha hb).2
/-- The last bit of any number of 64 bits. -/
theorem and63_1 (x : Int) : bitI .and .i64 x 1 = x % 2 := by
  have e : bitI .and .i64 x 1 = IntKind.i64.wrap (((BitVec.ofInt 64 x &&& BitVec.ofInt 64 1).toNat : Nat) : Int) := rfl
  rw [e, BitVec.toNat_and, BitVec.toNat_ofInt, BitVec.toNat_ofInt]
  have e1 : ((1 : Int) % ((2 ^ 64 : Nat) : Int)).toNat = 1 := by decide
  rw [e1, Nat.and_one_is_mod, wr63 _ (by omega) (by omega)]
  omega

theorem shl_of {k : IntKind} {x i : Nat} (hi : i ≤ k.bits) {z : Int} (e : k.wrap ((x * 2 ^ i : Nat) : Int) = z) : shlI k (x : Int) (i : Int) = z := by
  unfold shlI
  rw [Int.toNat_natCast, Nat.min_eq_left hi, ← e]
  congr 1
theorem shr_of {k : IntKind} {x i : Nat} (hi : i ≤ k.bits) : shrI k (x : Int) (i : Int) = ((x / 2 ^ i : Nat) : Int) := by
  unfold shrI
  rw [Int.toNat_natCast, Nat.min_eq_left hi]
  have : ((2 : Int) ^ i) = ((2 ^ i : Nat) : Int) := by simp
  rw [this]
  exact (Int.ofNat_fdiv x (2 ^ i)).symm
theorem tmod_nat (a b : Nat) : ((a : Int).tmod (b : Int)) = ((a % b : Nat) : Int) := (Int.ofNat_tmod a b).symm
theorem tdiv_nat (a b : Nat) : ((a : Int).tdiv (b : Int)) = ((a / b : Nat) : Int) := (Int.ofNat_tdiv a b).symm

end Go.Den
