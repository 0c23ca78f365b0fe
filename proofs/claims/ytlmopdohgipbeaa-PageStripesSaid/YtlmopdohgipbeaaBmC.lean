/- BmC: maps: New, From, Plain, Fill, Blit. -/
import Derived.Test.YtlmopdohgipbeaaBmB
set_option linter.unusedVariables false
set_option linter.unusedSimpArgs false
namespace Go.Bm
open Go Go.Den Go.Den.Ytlmopdohgipbeaa

def mapE (p q w h n c : Nat) : Ent := ⟨p, true, T_bitmap_Map, [.int .i64 (w : Nat), .int .i64 (h : Nat), .int .i64 (wds w : Nat), .slice (at0 q) n c]⟩
def mapL (p q w h : Nat) (ws : List Nat) (rest : List Value) : List Ent := [mapE p q w h ws.length (ws.length + rest.length), ⟨q, true, T_uint64, u64s ws ++ rest⟩]
theorem row_rdO {h0 h : Heap} {F : List Nat} {L : List Ent} (H : Hp h0 F h L) (k : Nat) {b : Nat} {w : Bool} {t : TypeId} {xs : List Nat} {rest : List Value} (he : L[k]? = some ⟨b, w, t, u64s xs ++ rest⟩) : rdO h (at0 b) (xs.length * 1) (u64s xs) := by
  have h2 := rdO_hp H k (o := 0) (n := xs.length * 1) he (by rw [List.length_append, u64s_length]; omega)
  rw [List.drop_zero, List.take_append_of_le_length (by rw [u64s_length]; omega), List.take_of_length_le (by rw [u64s_length]; omega)] at h2
  exact h2
theorem get_app {R T : List Value} {i : Nat} {v : Value} (h : R[i]? = some v) : (R ++ T)[i]? = some v := by
  rw [List.getElem?_append_left (List.getElem?_eq_some_iff.1 h).1]; exact h
theorem u64s_setr (ws : List Nat) (rest : List Value) (i v : Nat) (h : i < ws.length) : (u64s ws ++ rest).set i (.int .u64 (v : Int)) = u64s (ws.set i v) ++ rest := by
  rw [List.set_append_left _ _ (by rw [u64s_length]; exact h), ← u64s_set]

set_option maxRecDepth 100000 in
theorem clone_ok {hB : Heap} {q : Option Addr} {c : Nat} {ws : List Nat} (hr : rdO hB q (ws.length * 1) (u64s ws)) (h1 : 1 ≤ ws.length) (hl : ws.length < 1048577) {K : Value → Heap → Prop} {Kp : List PanicEntry → Heap → Prop}
    (hk : ∀ o rest h, Hp hB [] h [⟨o, true, T_uint64, u64s ws ++ rest⟩] → K (.slice (at0 o) ws.length (ws.length + rest.length)) h) : CP F_slices_Clone_uint64_uint64 #[.slice q ws.length c] hB K Kp := by
  refine call_slices_Clone_uint64_uint64 ?_
  unfold slices_Clone_uint64_uint64
  have H := Hp.nil hB []
  obtain ⟨a, ha, _⟩ := rdO_cell hr (u64s_get (getD_get (l := ws) (i := 0) h1))
  subst ha
  refine bcase_false (by rfl) ?_
  refine newC_hp H fun r h H => ?_
  refine appC_own H 0 (xs := []) (rest := []) rfl rfl rfl (H.rdO hr) (u64s_length ws) (u64s_cells ws) (by show (0 + ws.length) * 8 ≤ _; omega) fun o rest h H => ?_
  rw [List.nil_append, List.length_append, u64s_length, List.length_nil, Nat.zero_add]
  exact hk o rest h (H.as (by simp))

set_option maxRecDepth 100000 in
theorem newM_ok {hB : Heap} {w h' : Int} {K : Value → Heap → Prop} {Kp : List PanicEntry → Heap → Prop}
    (hg : ∀ (W X : Nat) p q h, w = (W : Nat) → h' = (X : Nat) → SizeP w h' → Hp hB [] h (mapL p q W X (List.replicate (X * wds W) 0) []) → K (.tuple #[.pointer (at0 p), .int .i64 0]) h)
    (hbad : ¬ SizeP w h' → K (.tuple #[.pointer none, .int .i64 20]) hB) : CP F_bitmap_New #[.int .i64 w, .int .i64 h'] hB K Kp := by
  refine call_bitmap_New ?_
  unfold bitmap_New
  have H := Hp.nil hB []
  refine sized_ok fun b hb => ?_
  refine ⟨_, rfl, ?_⟩
  refine bcase_not (fun h1 => ?_) fun h1 => ?_
  · exact hbad fun hs => by rw [hb.2 hs] at h1; cases h1
  obtain ⟨W, X, rfl, rfl, hW1, hW2, hX1, hX2, hWX⟩ := size_nat (hb.1 h1)
  have hhw := hw_le hW1 hWX
  refine bindI_of (((W + 63 : Nat) : Int)) (by exact i64_at _ _ (by omega) (by omega) (by omega)) ?_
  refine bindI_of (((wds W : Nat) : Int)) (by exact i64_at _ _ (tdiv_nat (W + 63) 64) (by unfold wds; omega) (by unfold wds; omega)) ?_
  obtain ⟨N, hN⟩ : ∃ N, N = X * wds W := ⟨_, rfl⟩
  refine bindI_of (((N : Nat) : Int)) (by exact i64_at _ _ (by rw [hN, Int.natCast_mul]) (by omega) (by omega)) ?_
  refine needs_of (by simp; omega) ?_
  simp only [Int.toNat_natCast, u64s_zero]
  refine newC_hp H fun q h H => ?_
  refine newC_hp H fun p h H => ?_
  refine hg W X p q _ rfl rfl (hb.1 h1) (H.pick [1, 0] (by decide) ?_)
  rw [hN]
  simp [mapL, mapE, u64s]

set_option maxRecDepth 100000 in
theorem from_ok {hB : Heap} {w h' : Int} {q : Option Addr} {c : Nat} {ws : List Nat} (hr : rdO hB q (ws.length * 1) (u64s ws)) (hw : W64 ws) (hl : ws.length < 140737488351300) {K : Value → Heap → Prop} {Kp : List PanicEntry → Heap → Prop}
    (hg : ∀ (W X : Nat) p q rest h, w = (W : Nat) → h' = (X : Nat) → MayP w h' ws → Hp hB [] h (mapL p q W X ws rest) → K (.tuple #[.pointer (at0 p), .int .i64 0]) h)
    (hbad : ∀ h, ¬ MayP w h' ws → hext hB h → K (.tuple #[.pointer none, .int .i64 21]) h) : CP F_bitmap_From #[.agg #[.int .i64 w, .int .i64 h', .slice q ws.length c]] hB K Kp := by
  refine call_bitmap_From ?_
  unfold bitmap_From
  have H := Hp.nil hB []
  refine newC_hp H fun r h H => ?_
  try simp only [ptr_some_eq, add_mk, Nat.zero_add, Nat.add_zero]
  refine ldI_of (H.cell 0 rfl rfl) ?_
  refine ldI_of (H.cell 0 rfl rfl) ?_
  refine ldS_of (H.cell 0 rfl rfl) ?_
  refine check_ok (H.rdO hr) hw hl fun b h2 hb e => ?_
  have H := H.ext e
  refine ⟨_, rfl, ?_⟩
  refine bcase_not (fun h1 => ?_) fun h1 => ?_
  · exact hbad _ (fun hs => by rw [hb.2 hs] at h1; cases h1) H.hext
  have hm := hb.1 h1
  obtain ⟨W, X, rfl, rfl, hW1, hW2, hX1, hX2, hWX⟩ := size_nat hm.1
  have hhw := hw_le hW1 hWX
  have hlen : ws.length = X * wds W := hm.2.1
  have hw1 := wds_pos hW1
  have hpos : 1 ≤ X * wds W := Nat.mul_pos hX1 hw1
  refine ldI_of (H.cell 0 rfl rfl) ?_
  refine ldI_of (H.cell 0 rfl rfl) ?_
  refine ldI_of (H.cell 0 rfl rfl) ?_
  refine bindI_of (((W + 63 : Nat) : Int)) (by exact i64_at _ _ (by omega) (by omega) (by omega)) ?_
  refine bindI_of (((wds W : Nat) : Int)) (by exact i64_at _ _ (tdiv_nat (W + 63) 64) (by unfold wds; omega) (by unfold wds; omega)) ?_
  refine ldS_of (H.cell 0 rfl rfl) ?_
  refine clone_ok (H.rdO hr) (by omega) (by omega) fun o rest h' H' => ?_
  refine ⟨_, _, _, rfl, H'.hext, ?_⟩
  replace H := H.join H' rfl
  refine newC_hp H fun p h H => ?_
  exact hg W X p o rest _ rfl rfl hm (H.pick [2, 1] (by decide) rfl)

set_option maxRecDepth 100000 in
theorem plain_ok {h0 h : Heap} {F : List Nat} {L : List Ent} (H : Hp h0 F h L) (kp kq : Nat) {p q W X : Nat} {w : Bool} {ws : List Nat} {rest : List Value} (hp : L[kp]? = some (mapE p q W X ws.length (ws.length + rest.length))) (hq : L[kq]? = some ⟨q, w, T_uint64, u64s ws ++ rest⟩)
    (h1 : 1 ≤ ws.length) (hl : ws.length < 1048577) {K : Value → Heap → Prop} {Kp : List PanicEntry → Heap → Prop}
    (hk : ∀ o orest h', Hp h0 F h' (L ++ [⟨o, true, T_uint64, u64s ws ++ orest⟩]) → K (.agg #[.int .i64 (W : Nat), .int .i64 (X : Nat), .slice (at0 o) ws.length (ws.length + orest.length)]) h') :
    CP F_bitmap_Map_Plain #[.pointer (at0 p)] h K Kp := by
  refine call_bitmap_Map_Plain ?_
  unfold bitmap_Map_Plain
  have hkp : kp < L.length := (List.getElem?_eq_some_iff.1 hp).1
  have hkq : kq < L.length := (List.getElem?_eq_some_iff.1 hq).1
  refine newC_hp H fun r h H => ?_
  have hp2 : (L ++ [(⟨r, true, T_api_Bitmap, [.int .i64 0, .int .i64 0, .slice none 0 0]⟩ : Ent)])[kp]? = some (mapE p q W X ws.length (ws.length + rest.length)) := by rw [List.getElem?_append_left hkp]; exact hp
  have hq2 : (L ++ [(⟨r, true, T_api_Bitmap, [.int .i64 0, .int .i64 0, .slice none 0 0]⟩ : Ent)])[kq]? = some ⟨q, w, T_uint64, u64s ws ++ rest⟩ := by rw [List.getElem?_append_left hkq]; exact hq
  try simp only [ptr_some_eq, add_mk, Nat.zero_add, Nat.add_zero]
  refine ldI_of (H.cell kp hp2 (i := 0) rfl) ?_
  refine ldI_of (H.cell kp hp2 (i := 1) rfl) ?_
  refine ldS_of (H.cell kp hp2 (i := 3) rfl) ?_
  refine clone_ok (row_rdO H kq hq2) h1 hl fun o orest h' H' => ?_
  refine ⟨_, _, _, rfl, H'.hext, ?_⟩
  have H := ((H.join H' rfl).swap).rot
  refine stV_hp H 0 rfl (by first | exact Nat.le_of_ble_eq_true rfl | simp) rfl fun h hsz H => ?_
  refine stV_hp H 0 rfl (by first | exact Nat.le_of_ble_eq_true rfl | simp) rfl fun h hsz H => ?_
  refine stV_hp H 0 rfl (by first | exact Nat.le_of_ble_eq_true rfl | simp) rfl fun h hsz H => ?_
  refine ldI_of (H.cell 0 rfl rfl) ?_
  refine ldI_of (H.cell 0 rfl rfl) ?_
  refine ldS_of (H.cell 0 rfl rfl) ?_
  exact hk o orest _ (H.suf (X := [⟨r, true, T_api_Bitmap, [.int .i64 (W : Nat), .int .i64 (X : Nat), .slice (at0 o) ws.length (ws.length + orest.length)]⟩]))

/-! ### going over words -/
/-- Rows that are done are as they shall be, and the row 'j' up to word 'i'. -/
def Inv (X wd : Nat) (F old : Nat → Nat → Bool) (D : Nat → Bool) (j i : Nat) (R : List Nat) : Prop :=
  R.length = X * wd ∧ W64 R ∧ ∀ y, y < X → ∀ x, x < 64 * wd → pix R wd x y = if D y = true ∨ y = j ∧ x / 64 < i then F x y else old x y
section
variable {X wd : Nat} {F old : Nat → Nat → Bool} {D : Nat → Bool} {j i : Nat} {R : List Nat}
theorem Inv.word (h : Inv X wd F old D j i R) (hD : D j = false) (hj : j < X) (hi : i < wd) {b : Nat} (hb : b < 64) : (R.getD (j * wd + i) 0).testBit b = old (64 * i + (63 - b)) j := by
  have := h.2.2 j hj (64 * i + (63 - b)) (by omega)
  rw [if_neg (by rw [hD]; simp; omega)] at this
  unfold pix at this
  rw [show (64 * i + (63 - b)) / 64 = i by omega, show 63 - (64 * i + (63 - b)) % 64 = b by omega] at this
  exact this
theorem Inv.step (h : Inv X wd F old D j i R) (hj : j < X) (hi : i < wd) {v : Nat} (hv : v < M64) (hb : ∀ b, b < 64 → v.testBit b = F (64 * i + (63 - b)) j) : Inv X wd F old D j (i + 1) (R.set (j * wd + i) v) := by
  obtain ⟨h1, h2, h3⟩ := h
  refine ⟨by rw [List.length_set]; exact h1, h2.set hv, fun y hy x hx => ?_⟩
  rw [pix_set h1 hi hj hx]
  by_cases h4 : y = j ∧ x / 64 = i
  · rw [if_pos h4, if_pos (.inr ⟨h4.1, by omega⟩), hb _ (by omega), h4.1]
    congr 1
    omega
  · rw [if_neg h4, h3 y hy x hx]
    have : (D y = true ∨ y = j ∧ x / 64 < i) ↔ (D y = true ∨ y = j ∧ x / 64 < i + 1) := by
      constructor
      · rintro (h5 | ⟨h5, h6⟩)
        · exact .inl h5
        · exact .inr ⟨h5, by omega⟩
      · rintro (h5 | ⟨h5, h6⟩)
        · exact .inl h5
        · exact .inr ⟨h5, by
            have : x / 64 ≠ i := fun e => h4 ⟨h5, e⟩
            omega⟩
    simp only [this]
theorem Inv.row (h : Inv X wd F old D j i R) (he : ∀ x, 64 * i ≤ x → x < 64 * wd → F x j = old x j) {D' : Nat → Bool} (hD : ∀ y, D' y = true ↔ D y = true ∨ y = j) {j' i' : Nat} (hs : ∀ x, x < 64 * i' → x < 64 * wd → F x j' = old x j') : Inv X wd F old D' j' i' R := by
  obtain ⟨h1, h2, h3⟩ := h
  refine ⟨h1, h2, fun y hy x hx => ?_⟩
  rw [h3 y hy x hx]
  by_cases h4 : D y = true
  · rw [if_pos (.inl h4), if_pos (.inl ((hD y).2 (.inl h4)))]
  by_cases h5 : y = j
  · rw [if_pos (.inl ((hD y).2 (.inr h5)) : D' y = true ∨ _)]
    by_cases h6 : x / 64 < i
    · rw [if_pos (.inr ⟨h5, h6⟩)]
    · rw [if_neg (by rintro (h7 | h7); exact h4 h7; exact h6 h7.2), h5]
      exact (he x (by omega) hx).symm
  · rw [if_neg (by rintro (h7 | h7); exact h4 h7; exact h5 h7.1)]
    by_cases h6 : y = j' ∧ x / 64 < i'
    · rw [if_pos (.inr h6), h6.1]
      exact (hs x (by omega) hx).symm
    · rw [if_neg]
      rintro (h7 | h7)
      · rcases (hD y).1 h7 with h8 | h8
        · exact h4 h8
        · exact h5 h8
      · exact h6 h7
end
theorem mul_cast {a b : Nat} : ((a : Int) * (b : Int)) = ((a * b : Nat) : Int) := (Int.natCast_mul a b).symm

set_option maxRecDepth 100000 in
theorem fill_ok {h0 h : Heap} {FF : List Nat} {p q W X : Nat} {ws : List Nat} {rest : List Value} (H : Hp h0 FF h (mapL p q W X ws rest)) (hs : SizeP (W : Int) (X : Int)) (hl : ws.length = X * wds W) (hw : W64 ws) {x y w g bit : Int} (hx : InI x) (hy : InI y) (hwi : InI w) (hgi : InI g)
    (hw0 : 0 ≤ w) (hg0 : 0 ≤ g) (hbit : bit = 0 ∨ bit = 1) {K : Value → Heap → Prop} {Kp : List PanicEntry → Heap → Prop}
    (hk : ∀ R h', R.length = X * wds W → W64 R → (∀ Y, Y < X → ∀ x', x' < 64 * wds W → pix R (wds W) x' Y = if x ≤ x' ∧ (x' : Int) < x + w ∧ x' < W ∧ y ≤ Y ∧ (Y : Int) < y + g then decide (bit = 1) else pix ws (wds W) x' Y) → Hp h0 FF h' (mapL p q W X R rest) → K (.int .i64 0) h') :
    CP F_bitmap_Map_Fill #[.pointer (at0 p), .int .i64 x, .int .i64 y, .int .i64 w, .int .i64 g, .int .i64 bit] h K Kp := by
  refine call_bitmap_Map_Fill ?_
  unfold bitmap_Map_Fill
  obtain ⟨W', X', e1, e2, hW1, hW2, hX1, hX2, hWX⟩ := size_nat hs
  obtain rfl : W = W' := by omega
  obtain rfl : X = X' := by omega
  clear e1 e2
  have hhw := hw_le hW1 hWX
  have hwl := wds_le hW1
  refine ⟨fun vs h' => h' = h, ?_, ?_⟩
  · refine bcase_dec (fun h1 => by omega) fun h1 => ?_
    refine bcase_dec (fun h2 => by omega) fun h2 => ?_
    refine bcase_ne (fun h3 => ?_) fun h3 => rfl
    refine bcase_ne (fun h4 => by omega) fun h4 => rfl
  · rintro h' u rfl
    try simp only [ptr_some_eq, add_mk, Nat.zero_add, Nat.add_zero]
    refine ldI_of (H.cell 0 rfl rfl) ?_
    refine cut_ok hx hwi (by omega) fun s1 l1 c1 => ?_
    refine ⟨_, _, rfl, ?_⟩
    unfold InI at hx hy hwi hgi
    refine bindI_of ((x + s1)) (by exact i64_in _ (by omega) (by omega)) ?_
    refine ldI_of (H.cell 0 rfl rfl) ?_
    refine cut_ok ⟨by omega, by omega⟩ ⟨by omega, by omega⟩ (by omega) fun s2 l2 c2 => ?_
    refine ⟨_, _, rfl, ?_⟩
    refine bindI_of ((y + s2)) (by exact i64_in _ (by omega) (by omega)) ?_
    refine bcase_eq (fun h3 => ?_) fun h3 => ?_
    · refine hk ws _ hl hw (fun Y hY x' hx' => ?_) H
      rw [if_neg (by omega)]
    refine bcase_eq (fun h4 => ?_) fun h4 => ?_
    · refine hk ws _ hl hw (fun Y hY x' hx' => ?_) H
      rw [if_neg (by omega)]
    have c1 := c1.resolve_left (by omega)
    have c2 := c2.resolve_left (by omega)
    obtain ⟨tx, htx⟩ : ∃ tx : Nat, x + s1 = (tx : Nat) := ⟨(x + s1).toNat, by omega⟩
    obtain ⟨ty, hty⟩ : ∃ ty : Nat, y + s2 = (ty : Nat) := ⟨(y + s2).toNat, by omega⟩
    obtain ⟨wide, rfl⟩ : ∃ n : Nat, l1 = (n : Nat) := ⟨l1.toNat, by omega⟩
    obtain ⟨high, rfl⟩ : ∃ n : Nat, l2 = (n : Nat) := ⟨l2.toNat, by omega⟩
    rw [htx, hty]
    have hwide : 1 ≤ wide ∧ tx + wide ≤ W := by omega
    have hhigh : 1 ≤ high ∧ ty + high ≤ X := by omega
    let FF' : Nat → Nat → Bool := fun x' Y => if tx ≤ x' ∧ x' < tx + wide ∧ ty ≤ Y ∧ Y < ty + high then decide (bit = 1) else pix ws (wds W) x' Y
    have hF : ∀ x' Y, FF' x' Y = if tx ≤ x' ∧ x' < tx + wide ∧ ty ≤ Y ∧ Y < ty + high then decide (bit = 1) else pix ws (wds W) x' Y := fun _ _ => rfl
    have hlast : (tx + wide - 1) / 64 < wds W := by unfold wds; omega
    refine ⟨fun n vs h => ∃ (j : Nat) (R : List Nat), j + n = ty + high ∧ ty ≤ j ∧ vs = [.int .i64 (j : Int)] ∧ Inv X (wds W) FF' (pix ws (wds W)) (fun Y => decide (Y < j)) j (tx / 64) R ∧ Hp h0 FF h (mapL p q W X R rest),
      ⟨high, ty, ws, by omega, Nat.le_refl _, rfl, ⟨hl, hw, fun Y hY x' hx' => ?_⟩, H⟩, ?_⟩
    · simp only [hF, decide_eq_true_eq]
      split
      · rw [if_neg (by omega)]
      · rfl
    clear H
    rintro n h u xx ⟨j, R, hjn, hj, hxx, hI, H⟩
    injection hxx with hxx
    injection hxx with _ hxx
    subst hxx
    refine bindI_of (((ty + high : Nat) : Int)) (by exact i64_at _ _ (by omega) (by omega) (by omega)) ?_
    refine bcase_dec (fun h5 => ?_) fun h5 => ?_
    · have h5 : j < ty + high := by omega
      have hjX : j < X := by omega
      refine bindI_of (((tx / 64 : Nat) : Int)) (by exact i64_at _ _ (tdiv_nat tx 64) (by omega) (by omega)) ?_
      refine ⟨fun n vs h => ∃ (i : Nat) (R : List Nat), i + n = (tx + wide - 1) / 64 + 1 ∧ tx / 64 ≤ i ∧ vs = [.int .i64 (i : Int)] ∧ Inv X (wds W) FF' (pix ws (wds W)) (fun Y => decide (Y < j)) j i R ∧ Hp h0 FF h (mapL p q W X R rest),
        ⟨(tx + wide - 1) / 64 + 1 - tx / 64, tx / 64, R, by omega, Nat.le_refl _, rfl, hI, H⟩, ?_⟩
      clear H hI
      rintro n2 h u2 xx ⟨i, R, hin, hi, hxx, hI, H⟩
      injection hxx with hxx
      injection hxx with _ hxx
      subst hxx
      refine bindI_of (((tx + wide : Nat) : Int)) (by exact i64_at _ _ (by omega) (by omega) (by omega)) ?_
      refine bindI_of (((tx + wide - 1 : Nat) : Int)) (by exact i64_at _ _ (by omega) (by omega) (by omega)) ?_
      refine bindI_of ((((tx + wide - 1) / 64 : Nat) : Int)) (by exact i64_at _ _ (tdiv_nat (tx + wide - 1) 64) (by omega) (by omega)) ?_
      refine bcase_dec (fun h6 => ?_) fun h6 => ?_
      · have h6 : i ≤ (tx + wide - 1) / 64 := by omega
        have hiw : i < wds W := by omega
        have hidx := idx_lt hiw hjX
        have hjw : j * wds W ≤ X * wds W := Nat.mul_le_mul_right _ (by omega)
        refine ldS_of (H.cell 0 rfl rfl) ?_
        refine ldI_of (H.cell 0 rfl rfl) ?_
        refine bindI_of (((j * wds W : Nat) : Int)) (by exact i64_at _ _ mul_cast (by omega) (by omega)) ?_
        refine bindI_of (((j * wds W + i : Nat) : Int)) (by exact i64_at _ _ (by omega) (by omega) (by omega)) ?_
        have hRl := hI.1
        refine needs_of (by omega) ?_
        try simp only [ptr_some_eq, add_mk, Nat.zero_add, Int.toNat_natCast, Nat.mul_one]
        refine ldI_of (H.cell 1 rfl (get_app (u64s_get (getD_get (l := R) (i := j * wds W + i) (by omega))))) ?_
        refine mask_ok (by omega) (by omega) fun M hM hMb => ?_
        refine ⟨_, rfl, hext.refl _, ?_⟩
        have hv := hI.2.1.get (j * wds W + i)
        refine bindI_of _ (andNot64 _ _ hv hM) ?_
        refine needs_of (by omega) ?_
        try simp only [ptr_some_eq, add_mk, Nat.zero_add, Int.toNat_natCast, Nat.mul_one]
        refine stV_hp H 1 rfl (by rw [List.length_append, u64s_length]; omega) rfl fun h hsz H => ?_
        rw [u64s_setr _ _ _ _ (by omega)] at H
        have hwb := fun b (hb : b < 64) => hI.word (by simp) hjX hiw hb
        have hmb : ∀ b, b < 64 → FF' (64 * i + (63 - b)) j = if M.testBit b = true then decide (bit = 1) else (R.getD (j * wds W + i) 0).testBit b := fun b hb => by
          rw [hF, hMb b hb, hwb b hb]
          simp only [decide_eq_true_eq]
          by_cases h7 : tx ≤ 64 * i + (63 - b) ∧ 64 * i + (63 - b) < tx + wide
          · rw [if_pos ⟨h7.1, h7.2, by omega, by omega⟩, if_pos h7]
          · rw [if_neg (fun h8 => h7 ⟨h8.1, h8.2.1⟩), if_neg h7]
        have fin : ∀ (h : Heap) (v : Nat), v < M64 → (∀ b, b < 64 → v.testBit b = FF' (64 * i + (63 - b)) j) → Hp h0 FF h (mapL p q W X (R.set (j * wds W + i) v) rest) → ∃ m, m < n2 ∧ ∃ (i : Nat) (R : List Nat), i + m = (tx + wide - 1) / 64 + 1 ∧ tx / 64 ≤ i ∧ [Value.int .i64 (((i : Nat) : Int))] = [.int .i64 (i : Int)] ∧ True := fun _ _ _ _ _ => ⟨0, by omega, (tx + wide - 1) / 64 + 1, R, by omega, by omega, rfl, trivial⟩
        clear fin
        rcases hbit with hbit | hbit
        · subst hbit
          refine bcase_false (by rfl) ?_
          refine bindI_of (((i + 1 : Nat) : Int)) (by exact i64_at _ _ (by omega) (by omega) (by omega)) ?_
          refine ⟨n2 - 1, by omega, i + 1, _, by omega, by omega, rfl, hI.step hjX hiw (v := R.getD (j * wds W + i) 0 &&& wnot M) (and_lt hv) (fun b hb => ?_), H.as (by simp [mapL, mapE])⟩
          rw [hmb b hb, Nat.testBit_and, wnot_bit hM hb]
          cases M.testBit b <;> simp
        · subst hbit
          refine bcase_true (by rfl) ?_
          have H : Hp h0 FF h (mapL p q W X (R.set (j * wds W + i) (R.getD (j * wds W + i) 0 &&& wnot M)) rest) := H.as (by simp [mapL, mapE])
          refine ldS_of (H.cell 0 rfl rfl) ?_
          refine ldI_of (H.cell 0 rfl rfl) ?_
          refine bindI_of (((j * wds W : Nat) : Int)) (by exact i64_at _ _ mul_cast (by omega) (by omega)) ?_
          refine bindI_of (((j * wds W + i : Nat) : Int)) (by exact i64_at _ _ (by omega) (by omega) (by omega)) ?_
          refine needs_of (by rw [List.length_set]; omega) ?_
          try simp only [ptr_some_eq, add_mk, Nat.zero_add, Int.toNat_natCast, Nat.mul_one]
          have hg : (R.set (j * wds W + i) (R.getD (j * wds W + i) 0 &&& wnot M))[j * wds W + i]? = some (R.getD (j * wds W + i) 0 &&& wnot M) := List.getElem?_set_self (by omega)
          refine ldI_of (H.cell 1 rfl (get_app (u64s_get hg))) ?_
          refine mask_ok (by omega) (by omega) fun M' hM' hMb' => ?_
          have hMM : M' = M := word_ext hM' hM fun b hb => by rw [hMb b hb, hMb' b hb]
          subst hMM
          refine ⟨_, rfl, hext.refl _, ?_⟩
          refine bindI_of _ (or64 _ _ (and_lt hv) hM) ?_
          refine needs_of (by rw [List.length_set]; omega) ?_
          try simp only [ptr_some_eq, add_mk, Nat.zero_add, Int.toNat_natCast, Nat.mul_one]
          refine stV_hp H 1 rfl (by rw [List.length_append, u64s_length, List.length_set]; omega) rfl fun h hsz H => ?_
          rw [u64s_setr _ _ _ _ (by rw [List.length_set]; omega), List.set_set] at H
          refine bindI_of (((i + 1 : Nat) : Int)) (by exact i64_at _ _ (by omega) (by omega) (by omega)) ?_
          refine ⟨n2 - 1, by omega, i + 1, _, by omega, by omega, rfl, hI.step hjX hiw (v := R.getD (j * wds W + i) 0 &&& wnot M' ||| M') (or_lt (and_lt hv) hM) (fun b hb => ?_), H.as (by simp [mapL, mapE])⟩
          rw [hmb b hb, Nat.testBit_or, Nat.testBit_and, wnot_bit hM hb]
          cases M'.testBit b <;> simp
      · have h6 : (tx + wide - 1) / 64 < i := by omega
        refine bindI_of (((j + 1 : Nat) : Int)) (by exact i64_at _ _ (by omega) (by omega) (by omega)) ?_
        refine ⟨n - 1, by omega, j + 1, R, by omega, by omega, rfl, hI.row (fun x' h7 h8 => ?_) (fun Y => by simp; omega) (fun x' h7 h8 => ?_), H⟩
        · rw [hF, if_neg (by omega)]
        · rw [hF, if_neg (by omega)]
    · have h5 : j = ty + high := by omega
      refine hk R _ hI.1 hI.2.1 (fun Y hY x' hx' => ?_) H
      rw [hI.2.2 Y hY x' hx']
      simp only [hF, decide_eq_true_eq]
      by_cases h6 : tx ≤ x' ∧ x' < tx + wide ∧ ty ≤ Y ∧ Y < ty + high
      · rw [if_pos (.inl (by omega)), if_pos h6, if_pos (by omega)]
      · rw [if_neg (show ¬ (x ≤ x' ∧ (x' : Int) < x + w ∧ x' < W ∧ y ≤ Y ∧ (Y : Int) < y + g) by omega), if_neg h6]
        split <;> rfl

end Go.Bm
