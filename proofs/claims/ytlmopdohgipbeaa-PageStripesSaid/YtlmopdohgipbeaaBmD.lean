/- BmD: maps: operations, Blit. -/
import Derived.Test.YtlmopdohgipbeaaBmC
set_option linter.unusedVariables false
set_option linter.unusedSimpArgs false
namespace Go.Bm
open Go Go.Den Go.Den.Ytlmopdohgipbeaa

def opsV : List Value := [.func (.func F_bitmap_operations_c1) #[] #[], .func (.func F_bitmap_operations_c2) #[] #[], .func (.func F_bitmap_operations_c3) #[] #[], .func (.func F_bitmap_operations_c4) #[] #[], .func (.func F_bitmap_operations_c5) #[] #[]]
theorem operations_ok {hB : Heap} {K : Value → Heap → Prop} {Kp : List PanicEntry → Heap → Prop} (hk : ∀ o h, Hp hB [] h [⟨o, true, T_func_uint64_uint64_uint64, opsV⟩] → K (.slice (at0 o) 5 5) h) : CP F_bitmap_operations #[] hB K Kp := by
  refine call_bitmap_operations ?_
  unfold bitmap_operations
  have H := Hp.nil hB []
  refine newC_hp H fun o h H => ?_
  exact hk o _ H
theorem does_ok {h : Heap} {op d s : Nat} (hop : op < 5) (hd : d < M64) (hs : s < M64) {f : Value} (hf : opsV[op]? = some f) {K : Value → Heap → Prop} {Kp : List PanicEntry → Heap → Prop}
    (hk : ∀ v : Nat, v < M64 → (∀ b, b < 64 → v.testBit b = opB op (d.testBit b) (s.testBit b)) → K (.int .u64 (v : Nat)) h) : callD CP Kp f [.int .u64 (d : Nat), .int .u64 (s : Nat)] h K := by
  match op, hop with
  | 0, _ =>
    obtain rfl : _ = f := Option.some.inj hf
    refine call_bitmap_operations_c1 ?_
    unfold bitmap_operations_c1
    refine bindI_of _ (or64 _ _ hd hs) (hk _ (or_lt hd hs) fun b hb => ?_)
    rw [Nat.testBit_or]; rfl
  | 1, _ =>
    obtain rfl : _ = f := Option.some.inj hf
    refine call_bitmap_operations_c2 ?_
    unfold bitmap_operations_c2
    refine bindI_of _ (and64 _ _ hd hs) (hk _ (and_lt hd) fun b hb => ?_)
    rw [Nat.testBit_and]; rfl
  | 2, _ =>
    obtain rfl : _ = f := Option.some.inj hf
    refine call_bitmap_operations_c3 ?_
    unfold bitmap_operations_c3
    refine bindI_of _ (xor64 _ _ hd hs) (hk _ (xor_lt hd hs) fun b hb => ?_)
    rw [Nat.testBit_xor]; rfl
  | 3, _ =>
    obtain rfl : _ = f := Option.some.inj hf
    refine call_bitmap_operations_c4 ?_
    unfold bitmap_operations_c4
    refine bindI_of _ (xor64 _ _ hd hs) ?_
    have hm : IntKind.u64.max = ((18446744073709551615 : Nat) : Int) := by decide
    rw [hm]
    refine bindI_of _ (xor64 _ _ (by decide) (xor_lt hd hs)) (hk _ (xor_lt (by decide) (xor_lt hd hs)) fun b hb => ?_)
    rw [Nat.testBit_xor, Nat.testBit_xor, show 18446744073709551615 = 2 ^ 64 - 1 from rfl, Nat.testBit_two_pow_sub_one, decide_eq_true hb]
    show (true ^^ (d.testBit b ^^ s.testBit b)) = !(d.testBit b != s.testBit b)
    cases d.testBit b <;> cases s.testBit b <;> rfl
  | 4, _ =>
    obtain rfl : _ = f := Option.some.inj hf
    refine call_bitmap_operations_c5 ?_
    unfold bitmap_operations_c5
    exact hk _ hs fun b hb => rfl

theorem opB_cell {o op : Nat} {h : Heap} {FF : List Nat} {h0 : Heap} {L : List Ent} (H : Hp h0 FF h L) (k : Nat) {w : Bool} (hk : L[k]? = some ⟨o, w, T_func_uint64_uint64_uint64, opsV⟩) (hop : op < 5) : ∃ f, opsV[op]? = some f ∧ hcell h ⟨o, op, none⟩ = some f := by
  have : op < opsV.length := hop
  exact ⟨opsV[op], List.getElem?_eq_getElem this, H.cell k hk (List.getElem?_eq_getElem this)⟩
/-- A row of a map, as words. -/
def rowW (S : List Nat) (swd r : Nat) : List Nat := (S.drop (r * swd)).take swd
theorem rowW_len {S : List Nat} {swd r SX : Nat} (hl : S.length = SX * swd) (hr : r < SX) : (rowW S swd r).length = swd := by
  unfold rowW
  rw [List.length_take, List.length_drop, hl]
  have : (r + 1) * swd ≤ SX * swd := Nat.mul_le_mul_right _ hr
  rw [Nat.add_mul, Nat.one_mul] at this
  omega
theorem rowW_w {S : List Nat} (hw : W64 S) (swd r : Nat) : W64 (rowW S swd r) := fun v hv => hw v (List.mem_of_mem_drop (List.mem_of_mem_take hv))
theorem rowW_pix {S : List Nat} {swd r x : Nat} (hx : x < 64 * swd) : rowB (rowW S swd r) (x : Int) = pix S swd x r := by
  unfold rowB pix rowW
  rw [decide_eq_true (by omega), Bool.true_and, Int.toNat_natCast]
  congr 1
  rw [List.getD_eq_getElem?_getD, List.getD_eq_getElem?_getD, List.getElem?_take_of_lt (by omega), List.getElem?_drop]

set_option maxRecDepth 100000 in
set_option maxHeartbeats 1000000 in
theorem blit_ok {h0 h : Heap} {FF : List Nat} {p q W X p2 q2 W2 X2 : Nat} {ws ws2 : List Nat} {rest rest2 : List Value} (H : Hp h0 FF h (mapL p q W X ws rest ++ mapL p2 q2 W2 X2 ws2 rest2)) (hs : SizeP (W : Int) (X : Int)) (hl : ws.length = X * wds W) (hw : W64 ws)
    (hs2 : SizeP (W2 : Int) (X2 : Int)) (hl2 : ws2.length = X2 * wds W2) (hw2 : W64 ws2) {sx sy w g dx dy : Int} {op : Nat} (hsx : InI sx) (hsy : InI sy) (hwi : InI w) (hgi : InI g) (hdx : InI dx) (hdy : InI dy) (hw0 : 0 ≤ w) (hg0 : 0 ≤ g) (hop : op < 5)
    {K : Value → Heap → Prop} {Kp : List PanicEntry → Heap → Prop}
    (hk : ∀ R h', R.length = X * wds W → W64 R → (∀ Y, Y < X → ∀ x', x' < 64 * wds W → pix R (wds W) x' Y =
        if dx ≤ x' ∧ (x' : Int) < dx + w ∧ x' < W ∧ dy ≤ Y ∧ (Y : Int) < dy + g ∧ 0 ≤ sx + (x' - dx) ∧ sx + (x' - dx) < W2 ∧ 0 ≤ sy + (Y - dy) ∧ sy + (Y - dy) < X2 then opB op (pix ws (wds W) x' Y) (pix ws2 (wds W2) (sx + (x' - dx)).toNat (sy + (Y - dy)).toNat) else pix ws (wds W) x' Y) →
      Hp h0 FF h' (mapL p q W X R rest ++ mapL p2 q2 W2 X2 ws2 rest2) → K (.int .i64 0) h') :
    CP F_bitmap_Map_Blit #[.pointer (at0 p), .pointer (at0 p2), .int .i64 sx, .int .i64 sy, .int .i64 w, .int .i64 g, .int .i64 dx, .int .i64 dy, .int .i64 (op : Nat)] h K Kp := by
  refine call_bitmap_Map_Blit ?_
  unfold bitmap_Map_Blit
  obtain ⟨W', X', e1, e2, hW1, hW2, hX1, hX2, hWX⟩ := size_nat hs
  obtain rfl : W = W' := by omega
  obtain rfl : X = X' := by omega
  obtain ⟨W', X', e3, e4, hV1, hV2, hY1, hY2, hVY⟩ := size_nat hs2
  obtain rfl : W2 = W' := by omega
  obtain rfl : X2 = X' := by omega
  clear e1 e2 e3 e4
  have hhw := hw_le hW1 hWX
  have hwl := wds_le hW1
  have hhw2 := hw_le hV1 hVY
  have hwl2 := wds_le hV1
  have hwp2 := wds_pos hV1
  refine bcase_false (by rfl) ?_
  refine bcase_dec (fun h1 => by omega) fun h1 => ?_
  refine bcase_dec (fun h2 => by omega) fun h2 => ?_
  refine bcase_dec (fun h3 => by omega) fun h3 => ?_
  refine bcase_dec (fun h4 => by omega) fun h4 => ?_
  clear h1 h2 h3 h4
  try simp only [ptr_some_eq, add_mk, Nat.zero_add, Nat.add_zero]
  refine ldI_of (H.cell 2 rfl (i := 0) rfl) ?_
  refine ldI_of (H.cell 0 rfl rfl) ?_
  refine both_ok hsx hdx hwi (by omega) (by omega) fun f1 t1 l1 c1 => ?_
  refine ⟨_, _, _, rfl, ?_⟩
  refine ldI_of (H.cell 2 rfl (i := 1) rfl) ?_
  refine ldI_of (H.cell 0 rfl rfl) ?_
  refine both_ok hsy hdy hgi (by omega) (by omega) fun f2 t2 l2 c2 => ?_
  refine ⟨_, _, _, rfl, ?_⟩
  have none : (l1 = 0 ∨ l2 = 0) → K (.int .i64 0) h := fun hz => by
    refine hk ws _ hl hw (fun Y hY x' hx' => ?_) H
    rw [if_neg]
    rintro ⟨g1, g2, g3, g4, g5, g6, g7, g8, g9⟩
    rcases hz with hz | hz
    · rcases c1 with ⟨_, c1⟩ | c1
      · exact c1 (x' - dx) (by omega) (by omega) (by omega) (by omega) (by omega) (by omega)
      · omega
    · rcases c2 with ⟨_, c2⟩ | c2
      · exact c2 (Y - dy) (by omega) (by omega) (by omega) (by omega) (by omega) (by omega)
      · omega
  refine bcase_eq (fun h3 => none (.inl h3)) fun h3 => ?_
  refine bcase_eq (fun h4 => none (.inr h4)) fun h4 => ?_
  clear none
  obtain ⟨a1, a2, a3, a4, a5, a6, a7, a8, a9⟩ := c1.resolve_left (fun h => h3 h.1)
  obtain ⟨b1, b2, b3, b4, b5, b6, b7, b8, b9⟩ := c2.resolve_left (fun h => h4 h.1)
  clear c1 c2 h3 h4
  obtain ⟨fx, rfl⟩ : ∃ n : Nat, f1 = (n : Nat) := ⟨f1.toNat, by omega⟩
  obtain ⟨tx, rfl⟩ : ∃ n : Nat, t1 = (n : Nat) := ⟨t1.toNat, by omega⟩
  obtain ⟨wide, rfl⟩ : ∃ n : Nat, l1 = (n : Nat) := ⟨l1.toNat, by omega⟩
  obtain ⟨fy, rfl⟩ : ∃ n : Nat, f2 = (n : Nat) := ⟨f2.toNat, by omega⟩
  obtain ⟨ty, rfl⟩ : ∃ n : Nat, t2 = (n : Nat) := ⟨t2.toNat, by omega⟩
  obtain ⟨high, rfl⟩ : ∃ n : Nat, l2 = (n : Nat) := ⟨l2.toNat, by omega⟩
  refine operations_ok fun o h' H' => ?_
  replace H := H.join H' rfl
  clear H'
  refine ⟨_, _, _, rfl, ?_⟩
  refine needs_of (by omega) ?_
  obtain ⟨fv, hfv, hfc⟩ := opB_cell H 4 rfl hop
  simp only [ptr_some_eq, add_mk, Nat.zero_add, Int.toNat_natCast, Nat.mul_one]
  refine ldV_of hfc ?_
  refine ldI_of (H.cell 2 rfl (i := 2) rfl) ?_
  refine needs_of (by simp; omega) ?_
  simp only [Int.toNat_natCast, u64s_zero]
  refine newC_hp H fun rw h H => ?_
  -- what shall be
  let G : Nat → Nat → Bool := fun x' Y => if tx ≤ x' ∧ x' < tx + wide ∧ ty ≤ Y ∧ Y < ty + high then opB op (pix ws (wds W) x' Y) (pix ws2 (wds W2) (fx + (x' - tx)) (fy + (Y - ty))) else pix ws (wds W) x' Y
  have hG : ∀ x' Y, G x' Y = if tx ≤ x' ∧ x' < tx + wide ∧ ty ≤ Y ∧ Y < ty + high then opB op (pix ws (wds W) x' Y) (pix ws2 (wds W2) (fx + (x' - tx)) (fy + (Y - ty))) else pix ws (wds W) x' Y := fun _ _ => rfl
  have hlast : (tx + wide - 1) / 64 < wds W := by unfold wds; omega
  have hsrc : W2 ≤ 64 * wds W2 := by unfold wds; omega
  let D : Nat → Nat → Bool := fun n Y => if fy < ty then decide (ty + (high - n) ≤ Y ∧ Y < ty + high) else decide (ty ≤ Y ∧ Y < ty + n)
  have hD : ∀ n Y, D n Y = true ↔ (fy < ty ∧ ty + (high - n) ≤ Y ∧ Y < ty + high) ∨ (¬ fy < ty ∧ ty ≤ Y ∧ Y < ty + n) := fun n Y => by
    show (if fy < ty then _ else _) = true ↔ _
    by_cases h1 : fy < ty
    · rw [if_pos h1, decide_eq_true_eq]; omega
    · rw [if_neg h1, decide_eq_true_eq]; omega
  have hrw0 : W64 (List.replicate (wds W2) 0) := W64.zero _
  refine ⟨fun n vs h => ∃ (j J0 : Nat) (R rs : List Nat), j + n = high ∧ vs = [.int .i64 (j : Int)] ∧ rs.length = wds W2 ∧ Inv X (wds W) G (pix ws (wds W)) (D j) J0 (tx / 64) R ∧ J0 < X ∧
      Hp h0 FF h (mapL p q W X R rest ++ mapL p2 q2 W2 X2 ws2 rest2 ++ [⟨o, true, T_func_uint64_uint64_uint64, opsV⟩] ++ [⟨rw, true, T_uint64, u64s rs⟩]),
    ⟨high, 0, 0, ws, List.replicate (wds W2) 0, by omega, rfl, by simp, ⟨hl, hw, fun Y hY x' hx' => ?_⟩, by omega, H⟩, ?_⟩
  · by_cases h5 : D 0 Y = true ∨ Y = 0 ∧ x' / 64 < tx / 64
    · rw [if_pos h5, hG, if_neg]
      rcases h5 with h5 | h5
      · have := (hD 0 Y).1 h5; omega
      · omega
    · rw [if_neg h5]
  clear H hrw0
  rintro n h u xx ⟨j, J0, R, rs, hjn, hxx, hrs, hI, hJ0, H⟩
  injection hxx with hxx
  injection hxx with _ hxx
  subst hxx
  refine bcase_dec (fun h5 => ?_) fun h5 => ?_
  · have h5 : j < high := by omega
    -- the row that is gone over
    obtain ⟨jj, hjj⟩ : ∃ jj : Nat, jj = if fy < ty then high - 1 - j else j := ⟨_, rfl⟩
    have hjj2 : fy < ty ∧ jj + j + 1 = high ∨ ¬ fy < ty ∧ jj = j := by
      by_cases h1 : fy < ty
      · rw [if_pos h1] at hjj; left; omega
      · rw [if_neg h1] at hjj; right; exact ⟨h1, hjj⟩
    refine ⟨fun vs h' => h' = h ∧ vs = [.int .i64 (jj : Int)], ?_, ?_⟩
    · refine bcase_dec (fun h6 => ?_) fun h6 => ?_
      · refine bindI_of (((high - 1 : Nat) : Int)) (by exact i64_at _ _ (by omega) (by omega) (by omega)) ?_
        refine bindI_of (((jj : Nat) : Int)) (by exact i64_at _ _ (by omega) (by omega) (by omega)) ?_
        exact ⟨by first | rfl | trivial, rfl⟩
      · have : jj = j := by omega
        rw [this]
        exact ⟨by first | rfl | trivial, rfl⟩
    · rintro h' u' x39 ⟨rfl, hx39⟩
      injection hx39 with hx39
      injection hx39 with _ hx39
      subst hx39
      have hjh : jj < high := by omega
      have hsrow : fy + jj < X2 := by omega
      have hdrow : ty + jj < X := by omega
      have hrow2 : (fy + jj + 1) * wds W2 ≤ X2 * wds W2 := Nat.mul_le_mul_right _ (by omega)
      have hrow2' : (fy + jj + 1) * wds W2 = (fy + jj) * wds W2 + wds W2 := by rw [Nat.add_mul, Nat.one_mul]
      refine bindI_of (((fy + jj : Nat) : Int)) (by exact i64_at _ _ (by omega) (by omega) (by omega)) ?_
      try simp only [ptr_some_eq, add_mk, Nat.zero_add, Nat.add_zero]
      refine ldI_of (H.cell 2 rfl (i := 2) rfl) ?_
      refine bindI_of ((((fy + jj) * wds W2 : Nat) : Int)) (by exact i64_at _ _ mul_cast (by omega) (by omega)) ?_
      generalize hat : (fy + jj) * wds W2 = at_ at hrow2 hrow2' ⊢
      refine ldS_of (H.cell 2 rfl (i := 3) rfl) ?_
      refine ldI_of (H.cell 2 rfl (i := 2) rfl) ?_
      refine bindI_of (((at_ + wds W2 : Nat) : Int)) (by exact i64_at _ _ (by omega) (by omega) (by omega)) ?_
      refine ldI_of (H.cell 2 rfl (i := 2) rfl) ?_
      refine bindI_of (((at_ + wds W2 : Nat) : Int)) (by exact i64_at _ _ (by omega) (by omega) (by omega)) ?_
      refine needs_of (by omega) ?_
      refine needs_of (by omega) ?_
      refine needs_of (by omega) ?_
      simp only [Int.toNat_natCast]
      have hsub : subA (at0 q2) (at_ + wds W2) at_ 1 = some ⟨q2, at_, none⟩ := by
        unfold subA
        rw [if_neg (by omega)]
        show some ((⟨q2, 0, none⟩ : Addr).add (at_ * 1)) = _
        rw [add_mk]; simp
      rw [hsub]
      have hmin : Nat.min (at_ + wds W2 - at_) (wds W2) = wds W2 := by
        show min (at_ + wds W2 - at_) (wds W2) = _
        omega
      have hnew : ((u64s ws2 ++ rest2).drop at_).take (wds W2 * 1) = u64s (rowW ws2 (wds W2) (fy + jj)) := by
        unfold rowW
        rw [hat, Nat.mul_one, List.drop_append_of_le_length (by rw [u64s_length]; omega), List.take_append_of_le_length (by rw [List.length_drop, u64s_length]; omega)]
        unfold u64s
        rw [List.map_take, List.map_drop]
      have hrd := rdO_hp H 3 (o := at_) (n := wds W2 * 1) rfl (by rw [List.length_append, u64s_length]; omega)
      rw [hnew] at hrd
      have hrl := rowW_len hl2 hsrow
      refine ⟨_, by rw [hmin]; exact hrd, ?_⟩
      refine stVs_all H 5 rfl (by rw [u64s_length, u64s_length, hrl, hrs]) (u64s_cells _) fun h' hsz H => ?_
      have H : Hp h0 FF h' (mapL p q W X R rest ++ mapL p2 q2 W2 X2 ws2 rest2 ++ [⟨o, true, T_func_uint64_uint64_uint64, opsV⟩] ++ [⟨rw, true, T_uint64, u64s (rowW ws2 (wds W2) (fy + jj))⟩]) := H
      have hrwp := fun x (hx : x < 64 * wds W2) => rowW_pix (S := ws2) (swd := wds W2) (r := fy + jj) hx
      have hrww := rowW_w hw2 (wds W2) (fy + jj)
      generalize rowW ws2 (wds W2) (fy + jj) = rw2 at H hrl hrwp hrww
      have hDj : D j (ty + jj) = false := by
        rw [← Bool.not_eq_true, hD]; omega
      have hI2 : Inv X (wds W) G (pix ws (wds W)) (D j) (ty + jj) (tx / 64) R := by
        refine ⟨hI.1, hI.2.1, fun Y hY x' hx' => ?_⟩
        rw [hI.2.2 Y hY x' hx']
        have e : ∀ Y, x' / 64 < tx / 64 → G x' Y = pix ws (wds W) x' Y := fun Y h6 => by rw [hG, if_neg (by omega)]
        by_cases h6 : D j Y = true
        · rw [if_pos (.inl h6), if_pos (.inl h6)]
        · by_cases h7 : x' / 64 < tx / 64
          · have := e Y h7
            split <;> split <;> first | rfl | exact this | exact this.symm
          · rw [if_neg (by rintro (h8 | h8); exact h6 h8; exact h7 h8.2), if_neg (by rintro (h8 | h8); exact h6 h8; exact h7 h8.2)]
      clear hI
      refine bindI_of (((tx / 64 : Nat) : Int)) (by exact i64_at _ _ (tdiv_nat tx 64) (by omega) (by omega)) ?_
      refine ⟨fun n vs h => ∃ (i : Nat) (R : List Nat), i + n = (tx + wide - 1) / 64 + 1 ∧ tx / 64 ≤ i ∧ vs = [.int .i64 (i : Int)] ∧ Inv X (wds W) G (pix ws (wds W)) (D j) (ty + jj) i R ∧
          Hp h0 FF h (mapL p q W X R rest ++ mapL p2 q2 W2 X2 ws2 rest2 ++ [⟨o, true, T_func_uint64_uint64_uint64, opsV⟩] ++ [⟨rw, true, T_uint64, u64s rw2⟩]),
        ⟨(tx + wide - 1) / 64 + 1 - tx / 64, tx / 64, R, by omega, Nat.le_refl _, rfl, hI2, H⟩, ?_⟩
      clear H hI2
      rintro n2 h u2 xx ⟨i, R, hin, hi, hxx, hI, H⟩
      injection hxx with hxx
      injection hxx with _ hxx
      subst hxx
      refine bindI_of (((tx + wide : Nat) : Int)) (by exact i64_at _ _ (by omega) (by omega) (by omega)) ?_
      refine bindI_of (((tx + wide - 1 : Nat) : Int)) (by exact i64_at _ _ (by omega) (by omega) (by omega)) ?_
      refine bindI_of ((((tx + wide - 1) / 64 : Nat) : Int)) (by exact i64_at _ _ (tdiv_nat (tx + wide - 1) 64) (by omega) (by omega)) ?_
      refine bcase_dec (fun h6 => ?_) fun h6 => ?_
      · have h6 : i ≤ (tx + wide - 1) / 64 := by omega
        have hiw : i < wds W := by omega
        have hidx := idx_lt hiw hdrow
        have hjw : (ty + jj) * wds W ≤ X * wds W := Nat.mul_le_mul_right _ (by omega)
        have hRl := hI.1
        refine bindI_of (((ty + jj : Nat) : Int)) (by exact i64_at _ _ (by omega) (by omega) (by omega)) ?_
        refine ldS_of (H.cell 0 rfl rfl) ?_
        refine ldI_of (H.cell 0 rfl rfl) ?_
        refine bindI_of ((((ty + jj) * wds W : Nat) : Int)) (by exact i64_at _ _ mul_cast (by omega) (by omega)) ?_
        refine bindI_of ((((ty + jj) * wds W + i : Nat) : Int)) (by exact i64_at _ _ (by omega) (by omega) (by omega)) ?_
        refine needs_of (by omega) ?_
        try simp only [ptr_some_eq, add_mk, Nat.zero_add, Int.toNat_natCast, Nat.mul_one]
        refine mask_ok (by omega) (by omega) fun M hM hMb => ?_
        refine ⟨_, rfl, ?_⟩
        refine bindI_of (((64 * i : Nat) : Int)) (by exact i64_at _ _ (by omega) (by omega) (by omega)) ?_
        refine bindI_of (((fx + 64 * i : Nat) : Int)) (by exact i64_at _ _ (by omega) (by omega) (by omega)) ?_
        refine bindI_of ((((fx + 64 * i : Nat) : Int) - (tx : Nat))) (by exact i64_in _ (by omega) (by omega)) ?_
        have hcell := H.cell 1 rfl (get_app (u64s_get (getD_get (l := R) (i := (ty + jj) * wds W + i) (by omega))))
        have hv := hI.2.1.get ((ty + jj) * wds W + i)
        refine ldI_of hcell ?_
        refine bindI_of _ (andNot64 _ _ hv hM) ?_
        refine ldI_of hcell ?_
        have hrr := row_rdO (xs := rw2) (rest := []) H 5 (b := rw) (w := true) (t := T_uint64) (by rw [List.append_nil]; rfl)
        rw [← hrl]
        refine word_ok hrr hrww (by omega) (by omega) fun V hV hVb => ?_
        refine ⟨_, rfl, hext.refl _, ?_⟩
        refine does_ok hop hv hV hfv fun v hvv hvb => ?_
        refine ⟨_, rfl, hext.refl _, ?_⟩
        refine bindI_of _ (and64 _ _ hvv hM) ?_
        refine bindI_of _ (or64 _ _ (and_lt hv) (and_lt hvv)) ?_
        refine stV_hp H 1 rfl (by rw [List.length_append, u64s_length]; omega) rfl fun h hsz H => ?_
        rw [u64s_setr _ _ _ _ (by omega)] at H
        refine bindI_of (((i + 1 : Nat) : Int)) (by exact i64_at _ _ (by omega) (by omega) (by omega)) ?_
        refine ⟨n2 - 1, by omega, i + 1, _, by omega, by omega, rfl, hI.step hdrow hiw (v := R.getD ((ty + jj) * wds W + i) 0 &&& wnot M ||| v &&& M) (or_lt (and_lt hv) (and_lt hvv)) (fun b hb => ?_), H.as (by simp [mapL, mapE])⟩
        have hwb := hI.word hDj hdrow hiw hb
        rw [Nat.testBit_or, Nat.testBit_and, Nat.testBit_and, wnot_bit hM hb, hvb b hb, hMb b hb, hVb b hb, hwb, hG]
        by_cases h7 : tx ≤ 64 * i + (63 - b) ∧ 64 * i + (63 - b) < tx + wide
        · rw [decide_eq_true h7, if_pos ⟨h7.1, h7.2, by omega, by omega⟩]
          have e1 : ((fx + 64 * i : Nat) : Int) - (tx : Nat) + (63 - (b : Int)) = ((fx + (64 * i + (63 - b) - tx) : Nat) : Int) := by omega
          have e2 : ty + jj - ty = jj := by omega
          rw [e1, hrwp _ (by omega), e2]
          simp
        · rw [decide_eq_false h7, if_neg (fun h8 => h7 ⟨h8.1, h8.2.1⟩)]
          simp
      · have h6 : (tx + wide - 1) / 64 < i := by omega
        refine bindI_of (((j + 1 : Nat) : Int)) (by exact i64_at _ _ (by omega) (by omega) (by omega)) ?_
        refine ⟨n - 1, by omega, j + 1, ty + jj, R, rw2, by omega, rfl, hrl, hI.row (fun x' h7 h8 => ?_) (fun Y => ?_) (fun x' h7 h8 => ?_), hdrow, H⟩
        · rw [hG, if_neg (by omega)]
        · rw [hD, hD]; omega
        · rw [hG, if_neg (by omega)]
  · have h5 : j = high := by omega
    subst h5
    refine hk R _ hI.1 hI.2.1 (fun Y hY x' hx' => ?_) (H.pre.pre)
    rw [hI.2.2 Y hY x' hx']
    have e1 : (D j Y = true ∨ Y = J0 ∧ x' / 64 < tx / 64) → G x' Y = if tx ≤ x' ∧ x' < tx + wide ∧ ty ≤ Y ∧ Y < ty + j then opB op (pix ws (wds W) x' Y) (pix ws2 (wds W2) (fx + (x' - tx)) (fy + (Y - ty))) else pix ws (wds W) x' Y := fun _ => hG x' Y
    by_cases h6 : tx ≤ x' ∧ x' < tx + wide ∧ ty ≤ Y ∧ Y < ty + j
    · rw [if_pos (.inl ((hD j Y).2 (by omega))), hG, if_pos h6, if_pos (by omega)]
      congr 2 <;> omega
    · have hno : ¬ (dx ≤ x' ∧ (x' : Int) < dx + w ∧ x' < W ∧ dy ≤ Y ∧ (Y : Int) < dy + g ∧ 0 ≤ sx + (x' - dx) ∧ sx + (x' - dx) < W2 ∧ 0 ≤ sy + (Y - dy) ∧ sy + (Y - dy) < X2) := by
        rintro ⟨g1, g2, g3, g4, g5, g6, g7, g8, g9⟩
        have k1 := a9 (x' - dx) (by omega) (by omega) (by omega) (by omega) (by omega) (by omega)
        have k2 := b9 (Y - dy) (by omega) (by omega) (by omega) (by omega) (by omega) (by omega)
        exact h6 (by omega)
      rw [if_neg hno]
      split
      · rw [hG, if_neg h6]
      · rfl

end Go.Bm
