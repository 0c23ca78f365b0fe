/- PgH: the law PageStripes, said of memory. -/
import Derived.Test.YtlmopdohgipbeaaPgG
import Derived.Test.YtlmopdohgipbeaaBlaw15PageStripes
set_option linter.unusedVariables false
set_option linter.unusedSimpArgs false
namespace Go.Bm
open Go Go.Den Go.Den.Ytlmopdohgipbeaa

theorem add_four (a : Addr) (j : Nat) : (a.add 4).add j = a.add (4 + j) := by
  unfold Addr.add
  by_cases hj : j = 0
  · subst hj; simp
  · simp [hj]; omega
theorem size_part {W X n : Nat} (hs : SizeP (W : Int) (X : Int)) (h1 : 1 ≤ n) (h2 : n ≤ X) : SizeP (W : Int) (n : Int) := by
  obtain ⟨W', X', e1, e2, hW1, hW2, hX1, hX2, hWX⟩ := size_nat hs
  obtain rfl : W = W' := by omega
  obtain rfl : X = X' := by omega
  have := Nat.mul_le_mul_left W h2
  unfold SizeP
  rw [mul_cast]
  omega
/-- What stands when the rows above 'y' are laid. -/
def DoneP (W X y : Nat) (ows ws : List Nat) : Prop := ws.length = X * wds W ∧ W64 ws ∧ ∀ Y, Y < X → ∀ x', x' < 64 * wds W → pix ws (wds W) x' Y = if Y < y then pix ows (wds W) x' Y else decide (x' < W)
theorem DoneP.step {W X S y n nx : Nat} {ows ws R R2 : List Nat} (hm : MayP (W : Int) (X : Int) ows) (h : DoneP W X y ows ws) (hy : y < X) (hn : n = min S (X - y))
    (hR : ∀ Y, Y < n → ∀ x', x' < 64 * wds W → pix R (wds W) x' Y = pix ows (wds W) x' (Y + y)) (h2 : LaidP ⟨W, X, 1, S, ws, nx, false⟩ 0 (y : Int) 4 W n R R2) : DoneP W X (y + S) ows R2 := by
  refine ⟨h2.1, h2.2.1, fun Y hY x' hx' => ?_⟩
  have e2 := h2.2.2 Y hY x' hx'
  have e1 := h.2.2 Y hY x' hx'
  dsimp only at e2
  rw [e2, e1]
  by_cases c1 : Y < y
  · rw [if_neg (by omega), if_pos c1, if_pos (by omega)]
  by_cases c2 : Y < y + n
  · by_cases c3 : x' < W
    · rw [if_pos (by omega), show ((x' : Int) - 0).toNat = x' by omega, hR _ (by omega) _ hx', show ((Y : Int) - (y : Int)).toNat + y = Y by omega, if_neg c1, if_pos (by omega)]
      rfl
    · rw [if_neg (by omega), if_neg c1, if_pos (by omega), pix_of_may hm hY (by omega) hx', decide_eq_false c3]
  · rw [if_neg (by omega), if_neg c1, if_neg (by omega)]
theorem DoneP.all {W X y : Nat} {ows ws : List Nat} (hm : MayP (W : Int) (X : Int) ows) (hw : W64 ows) (h : DoneP W X y ows ws) (hy : X ≤ y) : ws = ows :=
  pix_ext h.1 (may_len hm) h.2.1 hw fun Y hY x' hx' => by rw [h.2.2 Y hY x' hx', if_pos (by omega)]

set_option maxRecDepth 100000 in
set_option maxHeartbeats 2000000 in
theorem stripes_law {hB : Heap} {w0 x0 d0 s0 : Int} {sq : Option Addr} {slen scap : Nat} {dq : Option Addr} {dlen dcap : Nat} (hv : OpsV hB sq slen)
    {K : Value → Heap → Prop} {Kp : List PanicEntry → Heap → Prop} (hk : ∀ h', hext hB h' → K (.bool true) h') :
    CP F_burinlaw15_PageStripes #[.agg #[.int .i64 w0, .int .i64 x0, .int .i64 d0, .int .i64 s0, .slice sq slen scap, .slice dq dlen dcap]] hB K Kp := by
  refine call_burinlaw15_PageStripes ?_
  unfold burinlaw15_PageStripes
  have H := Hp.nil hB []
  refine newC_hp H fun e h H => ?_
  generalize hE : (⟨e, true, T_burinlaw15_Script, [.int .i64 w0, .int .i64 x0, .int .i64 d0, .int .i64 s0, .slice sq slen scap, .slice dq dlen dcap]⟩ : Ent) = E at H
  have hcE : ∀ {h : Heap} {L : List Ent} {i : Nat} {v : Value} (k : Nat), Hp hB [] h L → L[k]? = some E → ([.int .i64 w0, .int .i64 x0, .int .i64 d0, .int .i64 s0, .slice sq slen scap, .slice dq dlen dcap] : List Value)[i]? = some v → hcell h ⟨e, i, none⟩ = some v := fun k H he hv => by
    rw [← hE] at he
    exact H.cell k he hv
  refine ⟨fun n vs h' => ∃ i : Nat, i + n = 4 ∧ vs = [.int .i64 (i : Int)] ∧ Hp hB [] h' [E], ⟨4, 0, rfl, rfl, H⟩, ?_⟩
  clear H
  rintro n h u xx ⟨i, hin, hxx, H⟩
  injection hxx with hxx
  injection hxx with _ hxx
  subst hxx
  try simp only [ptr_some_eq, add_mk, Nat.zero_add, Nat.add_zero]
  refine ldS_of (hcE 0 H rfl (i := 4) rfl) ?_
  refine bcase_dec (fun h3 => ?_) fun h3 => wakes15_ok fun h' e => ⟨_, rfl, hk _ (H.hext.trans e)⟩
  refine bcase_dec (fun h4 => ?_) fun h4 => wakes15_ok fun h' e => ⟨_, rfl, hk _ (H.hext.trans e)⟩
  have h3 : i < slen := by omega
  have h4 : i < 4 := by omega
  refine ldS_of (hcE 0 H rfl (i := 4) rfl) ?_
  refine needs_of (by omega) ?_
  obtain ⟨a, od, ox, oy, oop, ow, ob, ows, hsq, hop⟩ := hv i h3
  obtain ⟨oq, oc, hc6, hor⟩ := hop.c6
  rw [hsq]
  simp only [ptr_some_eq, Int.toNat_natCast, add_four, Nat.add_zero, Nat.reduceAdd]
  refine ldI_of (H.fr.cell (by simp) hop.c4) ?_
  refine ldI_of (H.fr.cell (by simp) hop.c5) ?_
  refine ldS_of (H.fr.cell (by simp) hc6) ?_
  refine newC_hp H fun r21 h H => ?_
  try simp only [ptr_some_eq, add_mk, Nat.zero_add, Nat.add_zero]
  refine stV_hp H 1 rfl (by first | exact Nat.le_of_ble_eq_true rfl | simp) rfl fun h hsz H => ?_
  refine stV_hp H 1 rfl (by first | exact Nat.le_of_ble_eq_true rfl | simp) rfl fun h hsz H => ?_
  refine stV_hp H 1 rfl (by first | exact Nat.le_of_ble_eq_true rfl | simp) rfl fun h hsz H => ?_
  refine ldI_of (H.cell 1 rfl rfl) ?_
  refine ldI_of (H.cell 1 rfl rfl) ?_
  refine ldS_of (H.cell 1 rfl rfl) ?_
  refine may_ok (H.rdO hor) hop.w64 hop.len fun b h' hb e1 => ?_
  have H : Hp hB [] h' ([E] ++ [⟨r21, true, T_api_Bitmap, [.int .i64 ow, .int .i64 ob, .slice oq ows.length oc]⟩]) := H.ext e1
  clear e1
  refine ⟨_, rfl, ?_⟩
  have skip : ∀ h' (T : List Ent), Hp hB [] h' ([E] ++ T) → ∃ m, m < n ∧ ∃ i' : Nat, i' + m = 4 ∧ [Value.int .i64 ((i + 1 : Nat) : Int)] = [.int .i64 (i' : Int)] ∧ Hp hB [] h' [E] := fun h' T H =>
    ⟨n - 1, by omega, i + 1, by omega, rfl, H.pre⟩
  refine bcase_not (fun h5 => ?_) fun h5 => ?_
  · refine bindI_of (((i + 1 : Nat) : Int)) (by exact i64_at _ _ (by omega) (by omega) (by omega)) ?_
    exact skip _ _ H
  have hm := hb.1 h5
  obtain ⟨W, X, rfl, rfl, hW1, hW2, hX1, hX2, hWX⟩ := size_nat hm.1
  refine ldI_of (H.cell 1 rfl rfl) ?_
  refine ldI_of (H.cell 1 rfl rfl) ?_
  refine bindI_of (((W * X : Nat) : Int)) (by exact i64_at _ _ mul_cast (by omega) (by omega)) ?_
  refine bcase_dec (fun h6 => ?_) fun h6 => ?_
  · refine bindI_of (((i + 1 : Nat) : Int)) (by exact i64_at _ _ (by omega) (by omega) (by omega)) ?_
    exact skip _ _ H
  refine ldI_of (H.cell 1 rfl rfl) ?_
  refine bcase_dec (fun h7 => ?_) fun h7 => ?_
  · refine bindI_of (((i + 1 : Nat) : Int)) (by exact i64_at _ _ (by omega) (by omega) (by omega)) ?_
    exact skip _ _ H
  refine ldS_of (hcE 0 H rfl (i := 4) rfl) ?_
  refine needs_of (by omega) ?_
  rw [hsq]
  simp only [ptr_some_eq, Int.toNat_natCast]
  refine ldI_of (H.fr.cell (by simp) hop.c2) ?_
  refine ldI_of (H.cell 1 rfl rfl) ?_
  refine wi_ok (by omega) (by omega) fun z1 hz1 hz2 => ?_
  refine ⟨_, rfl, ?_⟩
  obtain ⟨S, hS⟩ : ∃ S : Nat, 1 + z1 = (S : Int) := ⟨(1 + z1).toNat, by omega⟩
  refine bindI_of (((S : Nat) : Int)) (by exact i64_at _ _ hS (by omega) (by omega)) ?_
  have hS1 : 1 ≤ S := by omega
  have hS2 : S ≤ X := by omega
  have hX60 : X ≤ 60 := by omega
  clear hS hz1 hz2
  refine ldI_of (H.cell 1 rfl rfl) ?_
  refine ldI_of (H.cell 1 rfl rfl) ?_
  have hsh : SheetP (W : Int) (X : Int) 1 (S : Int) := ⟨hm.1, .inr rfl, by omega, by omega⟩
  refine pnew_ok (fun G p m q rest h hw hx hd hss _ hn hdn hf H' => ?_) fun _ hbad _ => absurd hsh hbad
  obtain ⟨W1, X1, d, s, ws0, nx, dn⟩ := G
  dsimp only at hw hx hd hss hn hdn hf
  obtain rfl : W = W1 := by omega
  obtain rfl : X = X1 := by omega
  obtain rfl : d = 1 := by omega
  obtain rfl : S = s := by omega
  obtain rfl : nx = 0 := hn
  obtain rfl : dn = false := hdn
  replace H := H.join H' rfl
  clear H' hw hx hd hss
  refine ⟨_, _, rfl, ?_⟩
  refine bcase_false (by rfl) ?_
  refine bcase_false (by rfl) ?_
  generalize hO : (⟨r21, true, T_api_Bitmap, [.int .i64 (W : Nat), .int .i64 (X : Nat), .slice oq ows.length oc]⟩ : Ent) = O at H
  have hcO : ∀ {h : Heap} {L : List Ent} {i : Nat} {v : Value} (k : Nat), Hp hB [] h L → L[k]? = some O → ([.int .i64 (W : Nat), .int .i64 (X : Nat), .slice oq ows.length oc] : List Value)[i]? = some v → hcell h ⟨r21, i, none⟩ = some v := fun k H he hv => by
    rw [← hO] at he
    exact H.cell k he hv
  refine ⟨fun k vs h' => ∃ (y : Nat) (ws : List Nat), k = X - y ∧ y ≤ X + S ∧ vs = [.int .i64 (y : Int)] ∧ DoneP W X y ows ws ∧ Hp hB [] h' ([E] ++ [O] ++ pgL p m q rest ⟨W, X, 1, S, ws, min y X, false⟩), ⟨X - 0, 0, ws0, rfl, by omega, rfl, ⟨hf.1, hf.2.1, fun Y hY x' hx' => ?_⟩, by rw [Nat.zero_min]; exact H⟩, ?_⟩
  · have := hf.2.2 Y hY x' hx'
    rw [this, if_neg (by omega)]
    simp
  clear H hf ws0
  rintro k h u xx ⟨y, ws, rfl, hyb, hxx, hdone, H⟩
  injection hxx with hxx
  injection hxx with _ hxx
  subst hxx
  have hok : PgOk ⟨W, X, 1, S, ws, min y X, false⟩ := ⟨hm.1, hdone.1, hdone.2.1, Nat.min_le_right _ _, by show S ≤ 1048576; omega⟩
  have hwl := wds_le hW1
  have hws := hw_le hW1 hWX
  try simp only [ptr_some_eq, add_mk, Nat.zero_add, Nat.add_zero]
  refine ldI_of (hcO 1 H rfl (i := 1) rfl) ?_
  refine bcase_dec (fun h8 => ?_) fun h8 => ?_
  · have h8 : y < X := by omega
    have hmy : min y X = y := by omega
    rw [hmy] at H hok
    refine ⟨fun vs h' => h' = h ∧ vs = [.int .i64 ((min S (X - y) : Nat) : Int)], ?_, ?_⟩
    · refine ldI_of (hcO 1 H rfl (i := 1) rfl) ?_
      refine bindI_of (((X - y : Nat) : Int)) (by exact i64_at _ _ (by omega) (by omega) (by omega)) ?_
      refine bcase_dec (fun h9 => ?_) fun h9 => ?_
      · refine ldI_of (hcO 1 H rfl (i := 1) rfl) ?_
        refine bindI_of (((X - y : Nat) : Int)) (by exact i64_at _ _ (by omega) (by omega) (by omega)) ?_
        refine ⟨by first | rfl | trivial, ?_⟩
        congr 2
        omega
      · refine ⟨by first | rfl | trivial, ?_⟩
        congr 2
        omega
    rintro h' u' xl ⟨rfl, hxl⟩
    injection hxl with hxl
    injection hxl with _ hxl
    subst hxl
    obtain ⟨nn, hnn⟩ : ∃ nn : Nat, min S (X - y) = nn := ⟨_, rfl⟩
    rw [hnn]
    have hsn : SizeP (W : Int) (nn : Int) := size_part hm.1 (by omega) (by omega)
    have hnw : nn * wds W ≤ 1048576 := Nat.le_trans (Nat.mul_le_mul_right _ (show nn ≤ X by omega)) hws
    refine ldI_of (hcO 1 H rfl (i := 0) rfl) ?_
    refine white_ok' hsn fun row qr h hrl hrw hrz H' => ?_
    replace H := H.join H' rfl
    clear H'
    refine ⟨_, _, _, _, _, rfl, ?_⟩
    refine newC_hp H fun r74 h H => ?_
    try simp only [ptr_some_eq, add_mk, Nat.zero_add, Nat.add_zero]
    refine stV_hp H 6 rfl (by first | exact Nat.le_of_ble_eq_true rfl | simp) rfl fun h hsz H => ?_
    refine stV_hp H 6 rfl (by first | exact Nat.le_of_ble_eq_true rfl | simp) rfl fun h hsz H => ?_
    refine stV_hp H 6 rfl (by first | exact Nat.le_of_ble_eq_true rfl | simp) rfl fun h hsz H => ?_
    refine ldI_of (H.cell 6 rfl rfl) ?_
    refine ldI_of (H.cell 6 rfl rfl) ?_
    refine ldS_of (H.cell 6 rfl rfl) ?_
    refine bindI_of ((-(y : Int))) (by exact i64_at _ _ (by omega) (by omega) (by omega)) ?_
    refine ldI_of (hcO 1 H rfl (i := 0) rfl) ?_
    refine ldI_of (hcO 1 H rfl (i := 1) rfl) ?_
    refine ldS_of (hcO 1 H rfl (i := 2) rfl) ?_
    refine part_ok (n := nn) (j := y) (ws := row) (rest := []) (op := 4) H 5 rfl hsn hrl hrw hrz (fun h' R H' => H'.rdO hor) hm hop.w64 (by omega) (.inr rfl) fun R h' k1 k2 k3 k4 H' => ?_
    have H := H'
    clear H'
    have H : Hp hB [] h' ([E] ++ [O] ++ pgL p m q rest ⟨W, X, 1, S, ws, y, false⟩ ++ [⟨qr, true, T_uint64, u64s R ++ []⟩] ++ [⟨r74, true, T_api_Bitmap, [.int .i64 (W : Nat), .int .i64 (nn : Nat), .slice (at0 qr) row.length row.length]⟩]) := H
    generalize hB6 : (⟨r74, true, T_api_Bitmap, [.int .i64 (W : Nat), .int .i64 (nn : Nat), .slice (at0 qr) row.length row.length]⟩ : Ent) = B6 at H
    have hs1 : SizeP (W : Int) ((1 : Nat) : Int) := size_part hm.1 (by omega) (by omega)
    have hs2 : SizeP ((1 : Nat) : Int) ((S + 1 : Nat) : Int) := by unfold SizeP; omega
    refine ⟨fun vs h' => Hp hB [] h' ([E] ++ [O] ++ pgL p m q rest ⟨W, X, 1, S, ws, y, false⟩ ++ [⟨qr, true, T_uint64, u64s R ++ []⟩] ++ [B6]), ?_, ?_⟩
    · refine bcase_dec (fun h9 => ?_) fun h9 => ?_
      · refine bindI_of (((y : Int) - 1)) (by exact i64_in _ (by omega) (by omega)) ?_
        refine ldI_of (hcO 1 H rfl (i := 0) rfl) ?_
        refine white_ok' (X := 1) hs1 fun r1 q1 h hrl hrw hrz H' => ?_
        replace H := H.join H' rfl
        clear H'
        refine ⟨_, _, _, _, _, rfl, ?_⟩
        refine padd_ok (H.give [2, 3, 4] (by decide) rfl) hok (row_rdO H 7 (rest := []) rfl) hrw (by rw [hrl]; omega) ⟨by omega, by omega⟩ ⟨by omega, by omega⟩ ⟨by omega, by omega⟩ fun e1 g1 h' ha H' => ?_
        obtain ⟨rfl, rfl⟩ := ha.late (by omega) (may_of_pix hs1 hrl hrw fun y _ x _ _ => hrz x y) (.inr (.inl (by show (y : Int) - 1 < (y : Nat); omega)))
        clear ha
        replace H := H.put [2, 3, 4] (by decide) rfl rfl H' rfl rfl
        clear H'
        have H := H.take 7
        refine ⟨_, rfl, ?_⟩
        refine bcase_false (by rfl) ?_
        refine bindI_of (((S + 1 : Nat) : Int)) (by exact i64_at _ _ (by omega) (by omega) (by omega)) ?_
        refine white_ok' (W := 1) hs2 fun r2 q2 h hrl2 hrw2 hrz2 H' => ?_
        replace H := H.join H' rfl
        clear H'
        refine ⟨_, _, _, _, _, rfl, ?_⟩
        refine padd_ok (g := ⟨W, X, 1, S, ws, y, false⟩) (H.give [2, 3, 4] (by decide) rfl) hok (row_rdO H 7 (rest := []) rfl) hrw2 (by rw [hrl2]; have : wds 1 = 1 := rfl; rw [this]; omega) ⟨by omega, by omega⟩ ⟨by omega, by omega⟩ ⟨by omega, by omega⟩ fun e1 g1 h' ha H' => ?_
        obtain ⟨rfl, rfl⟩ := ha.late (by omega) (may_of_pix hs2 hrl2 hrw2 fun y _ x _ _ => hrz2 x y) (.inr (.inr ⟨by show S ≠ 0; omega, by show ((S : Nat) : Int) - ((S + 1 : Nat) : Int) < (y : Int) - (y : Nat); omega⟩))
        clear ha
        replace H := H.put [2, 3, 4] (by decide) rfl rfl H' rfl rfl
        clear H'
        have H := H.take 7
        refine ⟨_, rfl, ?_⟩
        refine bcase_false (by rfl) ?_
        exact H
      · refine bindI_of (((S + 1 : Nat) : Int)) (by exact i64_at _ _ (by omega) (by omega) (by omega)) ?_
        refine white_ok' (W := 1) hs2 fun r2 q2 h hrl2 hrw2 hrz2 H' => ?_
        replace H := H.join H' rfl
        clear H'
        refine ⟨_, _, _, _, _, rfl, ?_⟩
        refine padd_ok (g := ⟨W, X, 1, S, ws, y, false⟩) (H.give [2, 3, 4] (by decide) rfl) hok (row_rdO H 7 (rest := []) rfl) hrw2 (by rw [hrl2]; have : wds 1 = 1 := rfl; rw [this]; omega) ⟨by omega, by omega⟩ ⟨by omega, by omega⟩ ⟨by omega, by omega⟩ fun e1 g1 h' ha H' => ?_
        obtain ⟨rfl, rfl⟩ := ha.late (by omega) (may_of_pix hs2 hrl2 hrw2 fun y _ x _ _ => hrz2 x y) (.inr (.inr ⟨by show S ≠ 0; omega, by show ((S : Nat) : Int) - ((S + 1 : Nat) : Int) < (y : Int) - (y : Nat); omega⟩))
        clear ha
        replace H := H.put [2, 3, 4] (by decide) rfl rfl H' rfl rfl
        clear H'
        have H := H.take 7
        refine ⟨_, rfl, ?_⟩
        refine bcase_false (by rfl) ?_
        exact H
    · clear H
      rintro h u H
      refine pend_ok (g := ⟨W, X, 1, S, ws, y, false⟩) (H.give [2, 3, 4] (by decide) rfl) hok fun e1 w1 b1 bs g1 D qo dc h' he hd H' => ?_
      have H := Go.Bm.Hp.backD H [2, 3, 4] (by decide) rfl rfl H' rfl hd.w rfl
      clear H'
      obtain ⟨rfl, rfl, rfl, rfl, rfl⟩ := he.bad (.inr ⟨by show S ≠ 0; omega, h8⟩)
      clear he
      have H := Hp.pre (Y := D) H
      clear hd
      refine ⟨_, _, _, _, _, _, rfl, ?_⟩
      refine newC_hp H fun r125 h H => ?_
      try simp only [ptr_some_eq, add_mk, Nat.zero_add, Nat.add_zero]
      refine stV_hp H 7 rfl (by first | exact Nat.le_of_ble_eq_true rfl | simp) rfl fun h hsz H => ?_
      refine stV_hp H 7 rfl (by first | exact Nat.le_of_ble_eq_true rfl | simp) rfl fun h hsz H => ?_
      refine stV_hp H 7 rfl (by first | exact Nat.le_of_ble_eq_true rfl | simp) rfl fun h hsz H => ?_
      refine bcase_false (by rfl) ?_
      refine pnext_ok (g := ⟨W, X, 1, S, ws, y, false⟩) H 2 rfl ?_
      refine ⟨_, rfl, ?_⟩
      refine bcase_false (by simp) ?_
      have H : Hp hB [] h ([E] ++ [O] ++ pgL p m q rest ⟨W, X, 1, S, ws, y, false⟩ ++ [⟨qr, true, T_uint64, u64s R ++ []⟩] ++ [⟨r74, true, T_api_Bitmap, [.int .i64 (W : Nat), .int .i64 (nn : Nat), .slice (at0 qr) row.length row.length]⟩]) := by rw [hB6]; exact H.take 7
      refine ldI_of (H.cell 6 rfl rfl) ?_
      refine ldI_of (H.cell 6 rfl rfl) ?_
      refine ldS_of (H.cell 6 rfl rfl) ?_
      have hr := row_rdO H 5 (xs := R) (rest := []) rfl
      rw [hrl, ← k1]
      refine padd_ok (g := ⟨W, X, 1, S, ws, y, false⟩) (H.give [2, 3, 4] (by decide) rfl) hok hr k2 (by rw [k1]; omega) ⟨by omega, by omega⟩ ⟨by omega, by omega⟩ ⟨by omega, by omega⟩ fun e1 g1 h' ha H' => ?_
      obtain ⟨rfl, R2, hR2, rfl⟩ := ha.laid (by omega) k3 (by
        rintro (l | l | l)
        · cases l
        · exact absurd l (by show ¬ ((y : Int)) < ((y : Nat) : Int); omega)
        · exact absurd l.2 (by show ¬ ((S : Nat) : Int) - (nn : Nat) < (y : Int) - (y : Nat); omega))
      clear ha
      replace H := H.put [2, 3, 4] (by decide) rfl rfl H' rfl rfl
      clear H'
      have H := H.take 5
      have hd2 : DoneP W X (y + S) ows R2 := hdone.step hm h8 hnn.symm k4 hR2
      have hok2 : PgOk ⟨W, X, 1, S, R2, y, false⟩ := ⟨hm.1, hd2.1, hd2.2.1, by show y ≤ X; omega, by show S ≤ 1048576; omega⟩
      refine ⟨_, rfl, ?_⟩
      refine bcase_false (by rfl) ?_
      refine bindI_of (((y + nn : Nat) : Int)) (by exact i64_at _ _ (by omega) (by omega) (by omega)) ?_
      have hst1 : stripeG ⟨W, X, 1, S, R2, y, false⟩ ((y + nn : Nat) : Int) = (151, ⟨W, X, 1, S, R2, y, false⟩) := by
        unfold stripeG
        rw [if_pos (.inr (.inr (.inr (by show ((y + nn : Nat) : Int) ≠ ((min (y + S) X : Nat) : Int) - 1; omega))))]
      have hst2 : stripeG ⟨W, X, 1, S, R2, y, false⟩ (((y + nn : Nat) : Int) - 1) = (0, ⟨W, X, 1, S, R2, min (y + S) X, false⟩) := by
        unfold stripeG
        rw [if_neg]
        rintro (l | l | l | l)
        · cases l
        · exact absurd l (by show ¬ S = 0; omega)
        · exact absurd l (by show ¬ y = X; omega)
        · exact l (by show ((y + nn : Nat) : Int) - 1 = ((min (y + S) X : Nat) : Int) - 1; omega)
      refine pstripe_ok (g := ⟨W, X, 1, S, R2, y, false⟩) (H.give [2, 3, 4] (by decide) rfl) hok2 fun h' H' => ?_
      rw [hst1] at H' ⊢
      replace H := H.put [2, 3, 4] (by decide) rfl rfl H' rfl rfl
      clear H'
      refine ⟨_, rfl, ?_⟩
      refine bcase_false (by rfl) ?_
      refine bindI_of (((y + nn : Nat) : Int)) (by exact i64_at _ _ (by omega) (by omega) (by omega)) ?_
      refine bindI_of ((((y + nn : Nat) : Int) - 1)) (by exact i64_in _ (by omega) (by omega)) ?_
      refine pstripe_ok (g := ⟨W, X, 1, S, R2, y, false⟩) (H.give [2, 3, 4] (by decide) rfl) hok2 fun h' H' => ?_
      rw [hst2] at H' ⊢
      replace H := H.put [2, 3, 4] (by decide) rfl rfl H' rfl rfl
      clear H'
      refine ⟨_, rfl, ?_⟩
      refine bcase_false (by rfl) ?_
      refine bindI_of (((y + S : Nat) : Int)) (by exact i64_at _ _ (by omega) (by omega) (by omega)) ?_
      exact ⟨X - (y + S), by omega, y + S, R2, rfl, by omega, rfl, hd2, H⟩
  · have hmy : min y X = X := by omega
    rw [hmy] at H hok
    have hEq := hdone.all hm hop.w64 (by omega)
    refine pend_ok (g := ⟨W, X, 1, S, ws, X, false⟩) (H.give [2, 3, 4] (by decide) rfl) hok fun e1 w1 b1 bs g1 D qo dc h' he hd H' => ?_
    have H := Go.Bm.Hp.backD H [2, 3, 4] (by decide) rfl rfl H' rfl hd.w rfl
    clear H'
    obtain ⟨rfl, rfl, rfl, hbs, rfl⟩ := he.good (by
      rintro (l | l)
      · cases l
      · exact absurd l.2 (Nat.lt_irrefl _))
    obtain rfl : ws = bs := hbs.symm
    clear he
    refine ⟨_, _, _, _, _, _, rfl, ?_⟩
    have H : Hp hB [] h' (([E] ++ [O] ++ pgL p m q rest ⟨W, X, 1, S, ws, X, true⟩) ++ D) := H
    refine newC_hp H fun r155 h H => ?_
    have H := H.rot
    try simp only [ptr_some_eq, add_mk, Nat.zero_add, Nat.add_zero]
    refine stV_hp H 0 rfl (by first | exact Nat.le_of_ble_eq_true rfl | simp) rfl fun h hsz H => ?_
    refine stV_hp H 0 rfl (by first | exact Nat.le_of_ble_eq_true rfl | simp) rfl fun h hsz H => ?_
    refine stV_hp H 0 rfl (by first | exact Nat.le_of_ble_eq_true rfl | simp) rfl fun h hsz H => ?_
    refine bcase_false (by rfl) ?_
    refine ldI_of (H.cell 0 rfl rfl) ?_
    refine ldI_of (H.cell 0 rfl rfl) ?_
    refine ldS_of (H.cell 0 rfl rfl) ?_
    have H : Hp hB [] h ([⟨r155, true, T_api_Bitmap, [.int .i64 (W : Nat), .int .i64 (X : Nat), .slice qo ws.length dc]⟩] ++ (([E] ++ [O] ++ pgL p m q rest ⟨W, X, 1, S, ws, X, true⟩) ++ D)) := H
    have H := Hp.suf (X := [_]) H
    have k1 := Slot.rdO' hd H fun e he => List.mem_append_right _ he
    have H := Hp.pre (Y := D) H
    refine ldI_of (hcO 1 H rfl (i := 0) rfl) ?_
    refine ldI_of (hcO 1 H rfl (i := 1) rfl) ?_
    refine ldS_of (hcO 1 H rfl (i := 2) rfl) ?_
    refine eqB_ok (xs := ws) (ys := ows) k1 (H.rdO hor) (by rw [hdone.1]; omega) fun h' e' => ?_
    have H := H.ext e'
    refine ⟨_, rfl, ?_⟩
    refine bcase_false (by simp [hEq]) ?_
    refine ldI_of (hcO 1 H rfl (i := 1) rfl) ?_
    have hokd : PgOk ⟨W, X, 1, S, ws, X, true⟩ := ⟨hm.1, hdone.1, hdone.2.1, Nat.le_refl _, by show S ≤ 1048576; omega⟩
    have hst : stripeG ⟨W, X, 1, S, ws, X, true⟩ ((X : Nat) : Int) = (151, ⟨W, X, 1, S, ws, X, true⟩) := by
      unfold stripeG
      rw [if_pos (.inl rfl)]
    refine pstripe_ok (g := ⟨W, X, 1, S, ws, X, true⟩) (H.give [2, 3, 4] (by decide) rfl) hokd fun h' H' => ?_
    rw [hst] at H' ⊢
    replace H := H.put [2, 3, 4] (by decide) rfl rfl H' rfl rfl
    clear H'
    refine ⟨_, rfl, ?_⟩
    refine bcase_false (by rfl) ?_
    refine bindI_of (((i + 1 : Nat) : Int)) (by exact i64_at _ _ (by omega) (by omega) (by omega)) ?_
    exact skip _ (O :: pgL p m q rest ⟨W, X, 1, S, ws, X, true⟩) H

theorem stripes_arg {h : Heap} {cs : Array Value} (hsz : cs.size = TP.cellsOf T_burinlaw15_Script) (hw : WDx TP h T_burinlaw15_Script cs.toList) {K : Value → Heap → Prop} {Kp : List PanicEntry → Heap → Prop} (hk : ∀ h', hext h h' → K (.bool true) h') :
    CP F_burinlaw15_PageStripes #[.agg cs] h K Kp := by
  obtain ⟨w, x, d, s, sq, slen, scap, dq, dlen, dcap, rfl, ho, hd, _, _⟩ := script15_arg hw
  exact stripes_law ho hk

end Go.Bm
