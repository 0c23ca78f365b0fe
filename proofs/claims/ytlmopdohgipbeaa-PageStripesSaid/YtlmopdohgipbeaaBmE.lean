/- BmE: the reference's bitmaps: White, Get, Put, Do, Lay, CopyBitmap, EqWords, EqBitmap. -/
import Derived.Test.YtlmopdohgipbeaaBmD
set_option linter.unusedVariables false
set_option linter.unusedSimpArgs false
namespace Go.Bm
open Go Go.Den Go.Den.Ytlmopdohgipbeaa

set_option maxRecDepth 100000 in
theorem white_ok {hB : Heap} {W X : Nat} (hs : SizeP (W : Int) (X : Int)) {K : Value → Heap → Prop} {Kp : List PanicEntry → Heap → Prop}
    (hk : ∀ q h, Hp hB [] h [⟨q, true, T_uint64, u64s (List.replicate (X * wds W) 0)⟩] → K (.agg #[.int .i64 (W : Nat), .int .i64 (X : Nat), .slice (at0 q) (X * wds W) (X * wds W)]) h) :
    CP F_burinref0_White #[.int .i64 (W : Nat), .int .i64 (X : Nat)] hB K Kp := by
  refine call_burinref0_White ?_
  unfold burinref0_White
  obtain ⟨W', X', e1, e2, hW1, hW2, hX1, hX2, hWX⟩ := size_nat hs
  obtain rfl : W = W' := by omega
  obtain rfl : X = X' := by omega
  have hhw := hw_le hW1 hWX
  have H := Hp.nil hB []
  refine newC_hp H fun r h H => ?_
  refine words_ok (by omega) ?_
  refine ⟨_, rfl, ?_⟩
  obtain ⟨N, hN⟩ : ∃ N, N = X * wds W := ⟨_, rfl⟩
  refine bindI_of (((N : Nat) : Int)) (by exact i64_at _ _ (by rw [hN]; exact mul_cast) (by omega) (by omega)) ?_
  refine needs_of (by simp; omega) ?_
  simp only [Int.toNat_natCast, u64s_zero]
  refine newC_hp H fun q h H => ?_
  try simp only [ptr_some_eq, add_mk, Nat.zero_add, Nat.add_zero]
  refine stV_hp H 0 rfl (by first | exact Nat.le_of_ble_eq_true rfl | simp) rfl fun h hsz H => ?_
  refine stV_hp H 0 rfl (by first | exact Nat.le_of_ble_eq_true rfl | simp) rfl fun h hsz H => ?_
  refine stV_hp H 0 rfl (by first | exact Nat.le_of_ble_eq_true rfl | simp) rfl fun h hsz H => ?_
  refine ldI_of (H.cell 0 rfl rfl) ?_
  refine ldI_of (H.cell 0 rfl rfl) ?_
  refine ldS_of (H.cell 0 rfl rfl) ?_
  have := hk q _ (H.pick [1] (by decide) (L' := [⟨q, true, T_uint64, u64s (List.replicate (X * wds W) 0)⟩]) (by rw [← hN]; rfl))
  rw [hN]
  exact this

def getP (ws : List Nat) (W X : Nat) (x y : Int) : Bool := decide (0 ≤ x ∧ 0 ≤ y ∧ x < W ∧ y < X) && pix ws (wds W) x.toNat y.toNat
theorem div_lt_wds {W x : Nat} (h : x < W) : x / 64 < wds W := by unfold wds; omega
set_option maxRecDepth 100000 in
theorem get_ok {hB : Heap} {q : Option Addr} {c W X : Nat} {ws : List Nat} (hr : rdO hB q (ws.length * 1) (u64s ws)) (hw : W64 ws) (hs : SizeP (W : Int) (X : Int)) (hl : ws.length = X * wds W) {x y : Int} {K : Value → Heap → Prop} {Kp : List PanicEntry → Heap → Prop}
    (hk : ∀ h, hext hB h → K (.int .i64 ((getP ws W X x y).toNat : Nat)) h) : CP F_burinref0_Get #[.agg #[.int .i64 (W : Nat), .int .i64 (X : Nat), .slice q ws.length c], .int .i64 x, .int .i64 y] hB K Kp := by
  refine call_burinref0_Get ?_
  unfold burinref0_Get
  obtain ⟨W', X', e1, e2, hW1, hW2, hX1, hX2, hWX⟩ := size_nat hs
  obtain rfl : W = W' := by omega
  obtain rfl : X = X' := by omega
  have hhw := hw_le hW1 hWX
  have hwl := wds_le hW1
  have H := Hp.nil hB []
  refine newC_hp H fun r h H => ?_
  have no : ∀ h, Hp hB [] h [⟨r, true, T_api_Bitmap, [.int .i64 (W : Nat), .int .i64 (X : Nat), .slice q ws.length c]⟩] → ¬ (0 ≤ x ∧ 0 ≤ y ∧ x < W ∧ y < X) → K (.int .i64 0) h := fun h H hno => by
    have := hk h H.hext
    unfold getP at this
    rw [decide_eq_false hno] at this
    exact this
  refine bcase_dec (fun h1 => no _ H (by omega)) fun h1 => ?_
  refine bcase_dec (fun h2 => no _ H (by omega)) fun h2 => ?_
  try simp only [ptr_some_eq, add_mk, Nat.zero_add, Nat.add_zero]
  refine ldI_of (H.cell 0 rfl rfl) ?_
  refine bcase_dec (fun h3 => no _ H (by omega)) fun h3 => ?_
  refine ldI_of (H.cell 0 rfl rfl) ?_
  refine bcase_dec (fun h4 => no _ H (by omega)) fun h4 => ?_
  obtain ⟨a, rfl⟩ : ∃ a : Nat, x = (a : Nat) := ⟨x.toNat, by omega⟩
  obtain ⟨b, rfl⟩ : ∃ b : Nat, y = (b : Nat) := ⟨y.toNat, by omega⟩
  have haw := div_lt_wds (show a < W by omega)
  have hidx := idx_lt haw (show b < X by omega)
  have hbw : b * wds W ≤ X * wds W := Nat.mul_le_mul_right _ (by omega)
  have h64 := Nat.mod_lt a (show 64 > 0 by decide)
  refine bindI_of (((a / 64 : Nat) : Int)) (by exact i64_at _ _ (tdiv_nat a 64) (by omega) (by omega)) ?_
  refine bindI_of (((a % 64 : Nat) : Int)) (by exact tmod_nat a 64) ?_
  refine bindI_of (((63 - a % 64 : Nat) : Int)) (by exact i64_at _ _ (by omega) (by omega) (by omega)) ?_
  refine bindI_of (((63 - a % 64 : Nat) : Int)) (by exact u64_in _ (by omega) (by omega)) ?_
  refine ldS_of (H.cell 0 rfl rfl) ?_
  refine ldI_of (H.cell 0 rfl rfl) ?_
  refine words_ok (by omega) ?_
  refine ⟨_, rfl, hext.refl _, ?_⟩
  refine bindI_of (((b * wds W : Nat) : Int)) (by exact i64_at _ _ mul_cast (by omega) (by omega)) ?_
  refine bindI_of (((b * wds W + a / 64 : Nat) : Int)) (by exact i64_at _ _ (by omega) (by omega) (by omega)) ?_
  refine needs_of (by omega) ?_
  obtain ⟨ad, had, hc⟩ := rdO_cell (H.rdO hr) (u64s_get (getD_get (l := ws) (i := b * wds W + a / 64) (by omega)))
  subst had
  simp only [ptr_some_eq, Int.toNat_natCast, Nat.mul_one]
  refine ldI_of hc ?_
  refine needs_of (by omega) ?_
  have hv := hw.get (b * wds W + a / 64)
  have hres := hk _ H.hext
  unfold getP pix at hres
  rw [decide_eq_true (by omega), Bool.true_and, Int.toNat_natCast, Int.toNat_natCast] at hres
  generalize ws.getD (b * wds W + a / 64) 0 = v at hv hres ⊢
  refine bindI_of (((v / 2 ^ (63 - a % 64) : Nat) : Int)) (by exact shr_of (by show 63 - a % 64 ≤ 64; omega)) ?_
  have hlt := Nat.lt_of_le_of_lt (Nat.div_le_self v (2 ^ (63 - a % 64))) hv
  refine bindI_of (((v / 2 ^ (63 - a % 64) % 2 : Nat) : Int)) (by exact (and64 _ 1 hlt (by decide)).trans (by rw [Nat.and_one_is_mod])) ?_
  refine bindI_of (((v / 2 ^ (63 - a % 64) % 2 : Nat) : Int)) (by exact i64_in _ (by omega) (by omega)) ?_
  have e : v / 2 ^ (63 - a % 64) % 2 = (v.testBit (63 - a % 64)).toNat := (Nat.toNat_testBit v _).symm
  rw [e]
  exact hres

theorem pow_bit {j k : Nat} : (2 ^ j).testBit k = decide (j = k) := Nat.testBit_two_pow
set_option maxRecDepth 100000 in
theorem put_ok {h0 h : Heap} {FF : List Nat} {L : List Ent} {q c W X : Nat} {ws : List Nat} {rest : List Value} (H : Hp h0 FF h L) (kq : Nat) (hq : L[kq]? = some ⟨q, true, T_uint64, u64s ws ++ rest⟩) (hw : W64 ws) (hs : SizeP (W : Int) (X : Int)) (hl : ws.length = X * wds W) {a b : Nat} (ha : a < W) (hb : b < X) {bit : Bool}
    {K : Value → Heap → Prop} {Kp : List PanicEntry → Heap → Prop}
    (hk : ∀ R h', R.length = ws.length → W64 R → (∀ y, y < X → ∀ x, x < 64 * wds W → pix R (wds W) x y = if y = b ∧ x = a then bit else pix ws (wds W) x y) → Hp h0 FF h' (L.set kq ⟨q, true, T_uint64, u64s R ++ rest⟩) → K (.tuple #[]) h') :
    CP F_burinref0_Put #[.agg #[.int .i64 (W : Nat), .int .i64 (X : Nat), .slice (at0 q) ws.length c], .int .i64 (a : Nat), .int .i64 (b : Nat), .int .i64 (bit.toNat : Nat)] h K Kp := by
  refine call_burinref0_Put ?_
  unfold burinref0_Put
  obtain ⟨W', X', e1, e2, hW1, hW2, hX1, hX2, hWX⟩ := size_nat hs
  obtain rfl : W = W' := by omega
  obtain rfl : X = X' := by omega
  have hhw := hw_le hW1 hWX
  have hwl := wds_le hW1
  have hkl : kq < L.length := (List.getElem?_eq_some_iff.1 hq).1
  refine newC_hp H fun r h H => ?_
  have H := H.rot
  have hq1 : ∀ e : Ent, ([e] ++ L)[kq + 1]? = some ⟨q, true, T_uint64, u64s ws ++ rest⟩ := fun e => by rw [List.singleton_append, List.getElem?_cons_succ]; exact hq
  try simp only [ptr_some_eq, add_mk, Nat.zero_add, Nat.add_zero]
  refine ldI_of (H.cell 0 rfl rfl) ?_
  refine words_ok (by omega) ?_
  refine ⟨_, rfl, ?_⟩
  have haw := div_lt_wds ha
  have hidx := idx_lt haw hb
  have hbw : b * wds W ≤ X * wds W := Nat.mul_le_mul_right _ (by omega)
  have h64 := Nat.mod_lt a (show 64 > 0 by decide)
  refine bindI_of (((b * wds W : Nat) : Int)) (by exact i64_at _ _ mul_cast (by omega) (by omega)) ?_
  refine bindI_of (((a / 64 : Nat) : Int)) (by exact i64_at _ _ (tdiv_nat a 64) (by omega) (by omega)) ?_
  refine bindI_of (((b * wds W + a / 64 : Nat) : Int)) (by exact i64_at _ _ (by omega) (by omega) (by omega)) ?_
  refine bindI_of (((a % 64 : Nat) : Int)) (by exact tmod_nat a 64) ?_
  refine bindI_of (((63 - a % 64 : Nat) : Int)) (by exact i64_at _ _ (by omega) (by omega) (by omega)) ?_
  refine bindI_of (((63 - a % 64 : Nat) : Int)) (by exact u64_in _ (by omega) (by omega)) ?_
  refine needs_of (by omega) ?_
  have hp : 2 ^ (63 - a % 64) < M64 := by rw [M64_pow]; exact Nat.pow_lt_pow_right (by decide) (by omega)
  refine bindI_of (((2 ^ (63 - a % 64) : Nat) : Int)) (by exact shl_of (x := 1) (by show 63 - a % 64 ≤ 64; omega) (by rw [Nat.one_mul, u64_wrap, Nat.mod_eq_of_lt hp])) ?_
  refine ldS_of (H.cell 0 rfl rfl) ?_
  refine ldS_of (H.cell 0 rfl rfl) ?_
  refine needs_of (by omega) ?_
  try simp only [ptr_some_eq, add_mk, Nat.zero_add, Int.toNat_natCast, Nat.mul_one]
  have hv := hw.get (b * wds W + a / 64)
  refine ldI_of (H.cell (kq + 1) (hq1 _) (get_app (u64s_get (getD_get (l := ws) (i := b * wds W + a / 64) (by omega))))) ?_
  refine bindI_of _ (andNot64 _ _ hv hp) ?_
  refine needs_of (by omega) ?_
  try simp only [ptr_some_eq, add_mk, Nat.zero_add, Int.toNat_natCast, Nat.mul_one]
  refine stV_hp H (kq + 1) (hq1 _) (by rw [List.length_append, u64s_length]; omega) rfl fun h hsz H => ?_
  rw [u64s_setr _ _ _ _ (by omega), List.singleton_append, List.set_cons_succ] at H
  have fin : ∀ v : Nat, v < M64 → (∀ j, j < 64 → v.testBit j = if j = 63 - a % 64 then bit else (ws.getD (b * wds W + a / 64) 0).testBit j) → ∀ h', Hp h0 FF h' (⟨r, true, T_api_Bitmap, [.int .i64 (W : Nat), .int .i64 (X : Nat), .slice (at0 q) ws.length c]⟩ :: L.set kq ⟨q, true, T_uint64, u64s (ws.set (b * wds W + a / 64) v) ++ rest⟩) → K (.tuple #[]) h' := by
    intro v hvv hvb h' H
    refine hk _ h' (by rw [List.length_set]) (hw.set hvv) (fun y hy x hx => ?_) (Hp.suf (X := [_]) H)
    rw [pix_set hl haw hb hx]
    by_cases h1 : y = b ∧ x / 64 = a / 64
    · rw [if_pos h1, hvb _ (by omega)]
      by_cases h2 : x = a
      · subst h2
        rw [if_pos rfl, if_pos ⟨h1.1, rfl⟩]
      · rw [if_neg (by omega), if_neg (fun h => h2 h.2)]
        unfold pix
        rw [h1.1, h1.2]
    · rw [if_neg h1, if_neg]
      rintro ⟨h2, h3⟩
      exact h1 ⟨h2, by rw [h3]⟩
  have hbits : ∀ j, j < 64 → (ws.getD (b * wds W + a / 64) 0 &&& wnot (2 ^ (63 - a % 64))).testBit j = if j = 63 - a % 64 then false else (ws.getD (b * wds W + a / 64) 0).testBit j := fun j hj => by
    rw [Nat.testBit_and, wnot_bit hp hj, pow_bit]
    by_cases h1 : j = 63 - a % 64
    · rw [if_pos h1, decide_eq_true h1.symm]; simp
    · rw [if_neg h1, decide_eq_false (fun h => h1 h.symm)]; simp
  cases bit with
  | false =>
    refine bcase_false (by rfl) ?_
    exact fin _ (and_lt hv) hbits _ H
  | true =>
    refine bcase_true (by rfl) ?_
    refine ldS_of (H.cell 0 rfl rfl) ?_
    refine ldS_of (H.cell 0 rfl rfl) ?_
    refine needs_of (by omega) ?_
    try simp only [ptr_some_eq, add_mk, Nat.zero_add, Int.toNat_natCast, Nat.mul_one]
    have hq3 : ∀ (e : Ent) (R : List Nat), (e :: L.set kq ⟨q, true, T_uint64, u64s R ++ rest⟩)[kq + 1]? = some ⟨q, true, T_uint64, u64s R ++ rest⟩ := fun e R => by rw [List.getElem?_cons_succ, List.getElem?_set_self hkl]
    have hg : (ws.set (b * wds W + a / 64) (ws.getD (b * wds W + a / 64) 0 &&& wnot (2 ^ (63 - a % 64))))[b * wds W + a / 64]? = some (ws.getD (b * wds W + a / 64) 0 &&& wnot (2 ^ (63 - a % 64))) := List.getElem?_set_self (by omega)
    refine ldI_of (H.cell (kq + 1) (hq3 _ _) (get_app (u64s_get hg))) ?_
    refine bindI_of _ (or64 _ _ (and_lt hv) hp) ?_
    refine needs_of (by omega) ?_
    try simp only [ptr_some_eq, add_mk, Nat.zero_add, Int.toNat_natCast, Nat.mul_one]
    refine stV_hp H (kq + 1) (hq3 _ _) (by rw [List.length_append, u64s_length, List.length_set]; omega) rfl fun h hsz H => ?_
    rw [u64s_setr _ _ _ _ (by rw [List.length_set]; omega), List.set_set, List.set_cons_succ, List.set_set] at H
    refine fin _ (or_lt (and_lt hv) hp) (fun j hj => ?_) _ H
    rw [Nat.testBit_or, hbits j hj, pow_bit]
    by_cases h1 : j = 63 - a % 64
    · rw [if_pos h1, if_pos h1, decide_eq_true h1.symm]; simp
    · rw [if_neg h1, if_neg h1, decide_eq_false (fun h => h1 h.symm)]; simp

theorem do_ok {h : Heap} {op : Nat} (hop : op < 5) {d s : Bool} {K : Value → Heap → Prop} {Kp : List PanicEntry → Heap → Prop} (hk : K (.int .i64 ((opB op d s).toNat : Nat)) h) : CP F_burinref0_Do #[.int .i64 (op : Nat), .int .i64 (d.toNat : Nat), .int .i64 (s.toNat : Nat)] h K Kp := by
  refine call_burinref0_Do ?_
  unfold burinref0_Do
  have key : ∀ (x : Int) (b : Bool), x = ((b.toNat : Nat) : Int) → b = opB op d s → K (.int .i64 x) h := fun x b hx hb => by subst hb; rw [hx]; exact hk
  match op, hop with
  | 0, _ =>
    refine bcase_true (by rfl) ?_
    refine bindI_gen fun z e => ?_
    subst e
    refine key _ (d || s) ?_ rfl
    cases d <;> cases s <;> decide
  | 1, _ =>
    refine bcase_false (by rfl) ?_
    refine bcase_true (by rfl) ?_
    refine bindI_gen fun z e => ?_
    subst e
    refine key _ (d && s) ?_ rfl
    cases d <;> cases s <;> decide
  | 2, _ =>
    refine bcase_false (by rfl) ?_
    refine bcase_false (by rfl) ?_
    refine bcase_true (by rfl) ?_
    refine bindI_gen fun z e => ?_
    subst e
    refine key _ (d != s) ?_ rfl
    cases d <;> cases s <;> decide
  | 3, _ =>
    refine bcase_false (by rfl) ?_
    refine bcase_false (by rfl) ?_
    refine bcase_false (by rfl) ?_
    refine bcase_true (by rfl) ?_
    refine bindI_gen fun z e => ?_
    subst e
    refine bindI_gen fun z e => ?_
    subst e
    refine key _ (!(d != s)) ?_ rfl
    cases d <;> cases s <;> decide
  | 4, _ =>
    refine bcase_false (by rfl) ?_
    refine bcase_false (by rfl) ?_
    refine bcase_false (by rfl) ?_
    refine bcase_false (by rfl) ?_
    exact key _ s rfl rfl

set_option maxRecDepth 100000 in
theorem copyB_ok {hB : Heap} {q : Option Addr} {c : Nat} {w g : Int} {ws : List Nat} (hr : rdO hB q (ws.length * 1) (u64s ws)) (h1 : 1 ≤ ws.length) (hl : ws.length < 1048577) {K : Value → Heap → Prop} {Kp : List PanicEntry → Heap → Prop}
    (hk : ∀ o rest h, Hp hB [] h [⟨o, true, T_uint64, u64s ws ++ rest⟩] → K (.agg #[.int .i64 w, .int .i64 g, .slice (at0 o) ws.length (ws.length + rest.length)]) h) :
    CP F_burinref0_CopyBitmap #[.agg #[.int .i64 w, .int .i64 g, .slice q ws.length c]] hB K Kp := by
  refine call_burinref0_CopyBitmap ?_
  unfold burinref0_CopyBitmap
  have H := Hp.nil hB []
  refine newC_hp H fun r h H => ?_
  refine newC_hp H fun r2 h H => ?_
  try simp only [ptr_some_eq, add_mk, Nat.zero_add, Nat.add_zero]
  refine ldI_of (H.cell 0 rfl rfl) ?_
  refine ldI_of (H.cell 0 rfl rfl) ?_
  refine ldS_of (H.cell 0 rfl rfl) ?_
  refine appC_new H (H.rdO hr) (u64s_length ws) h1 (by omega) fun o rest h e H => ⟨e, ?_⟩
  refine stV_hp H 1 rfl (Nat.le_of_ble_eq_true rfl) rfl fun h hsz H => ?_
  refine stV_hp H 1 rfl (Nat.le_of_ble_eq_true rfl) rfl fun h hsz H => ?_
  refine stV_hp H 1 rfl (Nat.le_of_ble_eq_true rfl) rfl fun h hsz H => ?_
  refine ldI_of (H.cell 1 rfl rfl) ?_
  refine ldI_of (H.cell 1 rfl rfl) ?_
  refine ldS_of (H.cell 1 rfl rfl) ?_
  exact hk o rest _ (H.pick [2] (by decide) rfl)

theorem eqW_ok {h : Heap} {a b : Option Addr} {ac bc : Nat} {xs ys : List Nat} (ha : rdO h a (xs.length * 1) (u64s xs)) (hb : rdO h b (ys.length * 1) (u64s ys)) (hlen : xs.length < 140737488351300)
    {K : Value → Heap → Prop} {Kp : List PanicEntry → Heap → Prop} (hk : K (.bool (decide (xs = ys))) h) : CP F_burinref0_EqWords #[.slice a xs.length ac, .slice b ys.length bc] h K Kp := by
  refine call_burinref0_EqWords ?_
  unfold burinref0_EqWords
  refine bcase_ne (fun h1 => ?_) fun h1 => ?_
  · rw [decide_eq_false (fun e => h1 (by rw [e]))] at hk
    exact hk
  have h1 : xs.length = ys.length := by omega
  refine ⟨fun n vs h' => ∃ i : Nat, i + n = xs.length ∧ vs = [.int .i64 (i : Int)] ∧ h' = h ∧ ∀ j, j < i → xs[j]? = ys[j]?, ⟨xs.length, 0, by omega, rfl, rfl, fun j hj => by omega⟩, ?_⟩
  rintro n h' u x ⟨i, hin, hx, rfl, he⟩
  injection hx with hx
  injection hx with _ hx
  subst hx
  refine bcase_dec (fun h2 => ?_) fun h2 => ?_
  · have h2 : i < xs.length := by omega
    refine needs_of (by omega) ?_
    obtain ⟨p, hp, hc⟩ := rdO_cell ha (u64s_get (getD_get h2))
    obtain ⟨p2, hp2, hc2⟩ := rdO_cell hb (u64s_get (getD_get (show i < ys.length by omega)))
    subst hp hp2
    simp only [ptr_some_eq, Int.toNat_natCast, Nat.mul_one]
    refine needs_of (by omega) ?_
    refine ldI_of hc ?_
    refine ldI_of hc2 ?_
    refine bcase_ne (fun h3 => ?_) fun h3 => ?_
    · rw [decide_eq_false (fun e => h3 (by rw [e]))] at hk
      exact hk
    · refine bindI_of (((i + 1 : Nat) : Int)) (by exact i64_at _ _ (by omega) (by omega) (by omega)) ?_
      refine ⟨n - 1, by omega, i + 1, by omega, rfl, by first | rfl | trivial, fun j hj => ?_⟩
      rcases Nat.lt_or_ge j i with h4 | h4
      · exact he j h4
      · have : j = i := by omega
        subst this
        rw [getD_get h2, getD_get (show j < ys.length by omega)]
        congr 1
        omega
  · have : xs = ys := by
      apply List.ext_getElem?
      intro j
      rcases Nat.lt_or_ge j i with h4 | h4
      · exact he j h4
      · rw [List.getElem?_eq_none (by omega), List.getElem?_eq_none (by omega)]
    rw [decide_eq_true this] at hk
    exact hk
set_option maxRecDepth 100000 in
theorem eqB_ok {hB : Heap} {a b : Option Addr} {ac bc : Nat} {w g w' g' : Int} {xs ys : List Nat} (ha : rdO hB a (xs.length * 1) (u64s xs)) (hb : rdO hB b (ys.length * 1) (u64s ys)) (hlen : xs.length < 140737488351300)
    {K : Value → Heap → Prop} {Kp : List PanicEntry → Heap → Prop} (hk : ∀ h, hext hB h → K (.bool (decide (w = w' ∧ g = g' ∧ xs = ys))) h) : CP F_burinref0_EqBitmap #[.agg #[.int .i64 w, .int .i64 g, .slice a xs.length ac], .agg #[.int .i64 w', .int .i64 g', .slice b ys.length bc]] hB K Kp := by
  refine call_burinref0_EqBitmap ?_
  unfold burinref0_EqBitmap
  have H := Hp.nil hB []
  refine newC_hp H fun r h H => ?_
  refine newC_hp H fun r2 h H => ?_
  try simp only [ptr_some_eq, add_mk, Nat.zero_add, Nat.add_zero]
  refine ldI_of (H.cell 0 rfl rfl) ?_
  refine ldI_of (H.cell 1 rfl rfl) ?_
  have hk := hk _ H.hext
  refine bcase_eq (fun h1 => ?_) fun h1 => ?_
  · refine ldI_of (H.cell 0 rfl rfl) ?_
    refine ldI_of (H.cell 1 rfl rfl) ?_
    refine bcase_eq (fun h2 => ?_) fun h2 => ?_
    · refine ldS_of (H.cell 0 rfl rfl) ?_
      refine ldS_of (H.cell 1 rfl rfl) ?_
      refine eqW_ok (H.rdO ha) (H.rdO hb) hlen ?_
      refine ⟨_, rfl, ?_⟩
      have e : decide (xs = ys) = decide (w = w' ∧ g = g' ∧ xs = ys) := by rw [decide_eq_decide]; simp [h1, h2]
      rw [e]
      exact hk
    · rw [decide_eq_false (fun e => h2 e.2.1)] at hk
      exact hk
  · rw [decide_eq_false (fun e => h1 e.1)] at hk
    exact hk

/-! ### Lay -/
set_option maxRecDepth 100000 in
set_option maxHeartbeats 1000000 in
theorem lay_ok {h0 h : Heap} {FF : List Nat} {L : List Ent} {q c W X : Nat} {ws : List Nat} {rest : List Value} (H : Hp h0 FF h L) (kq : Nat) (hq : L[kq]? = some ⟨q, true, T_uint64, u64s ws ++ rest⟩) (hs : SizeP (W : Int) (X : Int)) (hl : ws.length = X * wds W) (hw : W64 ws)
    {q2 : Option Addr} {c2 W2 X2 : Nat} {ws2 : List Nat} (hr2 : ∀ h' R, Hp h0 FF h' (L.set kq ⟨q, true, T_uint64, u64s R ++ rest⟩) → rdO h' q2 (ws2.length * 1) (u64s ws2)) (hs2 : SizeP (W2 : Int) (X2 : Int)) (hl2 : ws2.length = X2 * wds W2) (hw2 : W64 ws2)
    {x y : Int} (hx : InI x) (hy : InI y) {op : Nat} (hop : op < 5) {K : Value → Heap → Prop} {Kp : List PanicEntry → Heap → Prop}
    (hk : ∀ R h', R.length = X * wds W → W64 R → (∀ Y, Y < X → ∀ x', x' < 64 * wds W → pix R (wds W) x' Y =
        if x ≤ x' ∧ (x' : Int) < x + W2 ∧ x' < W ∧ y ≤ Y ∧ (Y : Int) < y + X2 then opB op (pix ws (wds W) x' Y) (pix ws2 (wds W2) (x' - x).toNat (Y - y).toNat) else pix ws (wds W) x' Y) →
      Hp h0 FF h' (L.set kq ⟨q, true, T_uint64, u64s R ++ rest⟩) → K (.tuple #[]) h') :
    CP F_burinref0_Lay #[.agg #[.int .i64 (W : Nat), .int .i64 (X : Nat), .slice (at0 q) ws.length c], .int .i64 x, .int .i64 y, .int .i64 (op : Nat), .agg #[.int .i64 (W2 : Nat), .int .i64 (X2 : Nat), .slice q2 ws2.length c2]] h K Kp := by
  refine call_burinref0_Lay ?_
  unfold burinref0_Lay
  obtain ⟨W', X', e1, e2, hW1, hW2, hX1, hX2, hWX⟩ := size_nat hs
  obtain rfl : W = W' := by omega
  obtain rfl : X = X' := by omega
  obtain ⟨W', X', e3, e4, hV1, hV2, hY1, hY2, hVY⟩ := size_nat hs2
  obtain rfl : W2 = W' := by omega
  obtain rfl : X2 = X' := by omega
  clear e1 e2 e3 e4
  unfold InI at hx hy
  have hkl : kq < L.length := (List.getElem?_eq_some_iff.1 hq).1
  have hset : L.set kq ⟨q, true, T_uint64, u64s ws ++ rest⟩ = L := by
    apply List.ext_getElem?
    intro j
    by_cases hj : kq = j
    · subst hj; rw [List.getElem?_set_self hkl, hq]
    · rw [List.getElem?_set_ne hj]
  have done : ∀ h T, (x ≥ W ∨ y ≥ X ∨ x ≤ -(W2 : Int) ∨ y ≤ -(X2 : Int)) → Hp h0 FF h (L ++ T) → K (.tuple #[]) h := fun h T hz H => by
    refine hk ws h hl hw (fun Y hY x' hx' => ?_) (H.pre.as hset.symm)
    rw [if_neg (by omega)]
  refine newC_hp H fun r h H => ?_
  refine newC_hp H fun r2 h H => ?_
  rw [List.append_assoc] at H
  have hT0 : ∀ (A B : Ent) (h : Heap), Hp h0 FF h (L ++ ([A] ++ [B])) → Hp h0 FF h ([A] ++ [B] ++ L) := fun _ _ _ H => H.rot
  have HR := hT0 _ _ _ H
  try simp only [ptr_some_eq, add_mk, Nat.zero_add, Nat.add_zero]
  refine ldI_of (HR.cell 0 rfl rfl) ?_
  refine bcase_dec (fun h1 => done _ _ (.inl h1) H) fun h1 => ?_
  refine ldI_of (HR.cell 0 rfl rfl) ?_
  refine bcase_dec (fun h2 => done _ _ (.inr (.inl h2)) H) fun h2 => ?_
  refine ldI_of (HR.cell 1 rfl rfl) ?_
  refine bindI_of ((-(W2 : Int))) (by exact i64_at _ _ (by omega) (by omega) (by omega)) ?_
  refine bcase_dec (fun h3 => done _ _ (.inr (.inr (.inl h3))) H) fun h3 => ?_
  refine ldI_of (HR.cell 1 rfl rfl) ?_
  refine bindI_of ((-(X2 : Int))) (by exact i64_at _ _ (by omega) (by omega) (by omega)) ?_
  refine bcase_dec (fun h4 => done _ _ (.inr (.inr (.inr h4))) H) fun h4 => ?_
  clear done H hT0
  let G : Nat → Nat → Bool := fun x' Y => if x ≤ x' ∧ (x' : Int) < x + W2 ∧ x' < W ∧ y ≤ Y ∧ (Y : Int) < y + X2 then opB op (pix ws (wds W) x' Y) (pix ws2 (wds W2) (x' - x).toNat (Y - y).toNat) else pix ws (wds W) x' Y
  have hG : ∀ x' Y : Nat, G x' Y = if x ≤ x' ∧ (x' : Int) < x + W2 ∧ x' < W ∧ y ≤ Y ∧ (Y : Int) < y + X2 then opB op (pix ws (wds W) x' Y) (pix ws2 (wds W2) (x' - x).toNat (Y - y).toNat) else pix ws (wds W) x' Y := fun _ _ => rfl
  let TT : List Ent := [⟨r, true, T_api_Bitmap, [.int .i64 (W : Nat), .int .i64 (X : Nat), .slice (at0 q) ws.length c]⟩, ⟨r2, true, T_api_Bitmap, [.int .i64 (W2 : Nat), .int .i64 (X2 : Nat), .slice q2 ws2.length c2]⟩]
  have hTT : TT = [⟨r, true, T_api_Bitmap, [.int .i64 (W : Nat), .int .i64 (X : Nat), .slice (at0 q) ws.length c]⟩, ⟨r2, true, T_api_Bitmap, [.int .i64 (W2 : Nat), .int .i64 (X2 : Nat), .slice q2 ws2.length c2]⟩] := rfl
  -- the state: rows done, and 'i' pixels of row 'j'
  let St : Nat → Nat → Heap → List Nat → Prop := fun j i h R => R.length = X * wds W ∧ W64 R ∧ (∀ Y, Y < X → ∀ x', x' < 64 * wds W → pix R (wds W) x' Y = if (Y : Int) - y < j ∨ (Y : Int) - y = j ∧ (x' : Int) - x < i then G x' Y else pix ws (wds W) x' Y) ∧
    Hp h0 FF h (TT ++ L.set kq ⟨q, true, T_uint64, u64s R ++ rest⟩)
  have hSt : ∀ j i h R, St j i h R ↔ R.length = X * wds W ∧ W64 R ∧ (∀ Y, Y < X → ∀ x', x' < 64 * wds W → pix R (wds W) x' Y = if (Y : Int) - y < j ∨ (Y : Int) - y = j ∧ (x' : Int) - x < i then G x' Y else pix ws (wds W) x' Y) ∧
    Hp h0 FF h (TT ++ L.set kq ⟨q, true, T_uint64, u64s R ++ rest⟩) := fun _ _ _ _ => Iff.rfl
  refine ⟨fun n vs h => ∃ (j : Nat) (R : List Nat), j + n = X2 ∧ vs = [.int .i64 (j : Int)] ∧ St j 0 h R, ⟨X2, 0, ws, by omega, rfl, (hSt _ _ _ _).2 ⟨hl, hw, fun Y hY x' hx' => ?_, HR.as (by rw [hset, hTT]; rfl)⟩⟩, ?_⟩
  · split
    · rw [hG, if_neg (by omega)]
    · rfl
  clear HR
  rintro n h u xx ⟨j, R, hjn, hxx, hst⟩
  injection hxx with hxx
  injection hxx with _ hxx
  subst hxx
  have H := ((hSt _ _ _ _).1 hst).2.2.2
  refine ldI_of (H.cell 1 rfl (i := 1) rfl) ?_
  refine bcase_dec (fun h5 => ?_) fun h5 => ?_
  · have h5 : j < X2 := by omega
    refine ⟨fun n vs h => ∃ (i : Nat) (R : List Nat), i + n = W2 ∧ vs = [.int .i64 (i : Int)] ∧ St j i h R, ⟨W2, 0, R, by omega, rfl, hst⟩, ?_⟩
    clear H hst
    rintro n2 h u2 xx ⟨i, R, hin, hxx, hst⟩
    injection hxx with hxx
    injection hxx with _ hxx
    subst hxx
    have H := ((hSt _ _ _ _).1 hst).2.2.2
    refine ldI_of (H.cell 1 rfl (i := 0) rfl) ?_
    refine bcase_dec (fun h6 => ?_) fun h6 => ?_
    · have h6 : i < W2 := by omega
      refine ⟨fun vs h' => h' = h ∧ vs = [.bool (decide (0 ≤ x + i ∧ x + i < W ∧ 0 ≤ y + j ∧ y + j < X))], ?_, ?_⟩
      · have no : ¬ (0 ≤ x + i ∧ x + i < W ∧ 0 ≤ y + j ∧ y + j < X) → (h = h ∧ [Value.bool false] = [.bool (decide (0 ≤ x + i ∧ x + i < W ∧ 0 ≤ y + j ∧ y + j < X))]) := fun hn => ⟨rfl, by rw [decide_eq_false hn]⟩
        refine bindI_of ((x + i)) (by exact i64_in _ (by omega) (by omega)) ?_
        refine bcase_dec (fun k1 => ?_) fun k1 => no (by omega)
        refine bindI_of ((x + i)) (by exact i64_in _ (by omega) (by omega)) ?_
        refine ldI_of (H.cell 0 rfl (i := 0) rfl) ?_
        refine bcase_dec (fun k2 => ?_) fun k2 => no (by omega)
        refine bindI_of ((y + j)) (by exact i64_in _ (by omega) (by omega)) ?_
        refine bcase_dec (fun k3 => ?_) fun k3 => no (by omega)
        refine bindI_of ((y + j)) (by exact i64_in _ (by omega) (by omega)) ?_
        refine ldI_of (H.cell 0 rfl (i := 1) rfl) ?_
        refine ⟨by first | rfl | trivial, ?_⟩
        congr 2
        rw [decide_eq_decide]
        omega
      · rintro h' u' xb ⟨rfl, hxb⟩
        injection hxb with hxb
        injection hxb with hxb
        subst hxb
        obtain ⟨g1, g2, g3, _⟩ := (hSt _ _ _ _).1 hst
        refine bcase_dec (fun h7 => ?_) fun h7 => ?_
        · obtain ⟨a, ha⟩ : ∃ a : Nat, x + i = (a : Nat) := ⟨(x + i).toNat, by omega⟩
          obtain ⟨b, hb⟩ : ∃ b : Nat, y + j = (b : Nat) := ⟨(y + j).toNat, by omega⟩
          refine bindI_of (((a : Nat) : Int)) (by rw [ha]; exact i64_in _ (by omega) (by omega)) ?_
          refine bindI_of (((b : Nat) : Int)) (by rw [hb]; exact i64_in _ (by omega) (by omega)) ?_
          refine bindI_of (((a : Nat) : Int)) (by rw [ha]; exact i64_in _ (by omega) (by omega)) ?_
          refine bindI_of (((b : Nat) : Int)) (by rw [hb]; exact i64_in _ (by omega) (by omega)) ?_
          refine ldI_of (H.cell 0 rfl (i := 0) rfl) ?_
          refine ldI_of (H.cell 0 rfl (i := 1) rfl) ?_
          refine ldS_of (H.cell 0 rfl (i := 2) rfl) ?_
          refine ldI_of (H.cell 0 rfl (i := 0) rfl) ?_
          refine ldI_of (H.cell 0 rfl (i := 1) rfl) ?_
          refine ldS_of (H.cell 0 rfl (i := 2) rfl) ?_
          refine ldI_of (H.cell 1 rfl (i := 0) rfl) ?_
          refine ldI_of (H.cell 1 rfl (i := 1) rfl) ?_
          refine ldS_of (H.cell 1 rfl (i := 2) rfl) ?_
          have hqR : ∀ {T : List Ent}, T.length = 2 → (T ++ L.set kq ⟨q, true, T_uint64, u64s R ++ rest⟩)[2 + kq]? = some ⟨q, true, T_uint64, u64s R ++ rest⟩ := fun {T} hT => by
            rw [List.getElem?_append_right (by omega), hT, Nat.add_sub_cancel_left, List.getElem?_set_self hkl]
          have hlen : ws.length = R.length := by omega
          rw [hlen]
          refine get_ok (row_rdO H (2 + kq) (hqR rfl)) g2 hs g1 fun h2 e2 => ?_
          refine ⟨_, rfl, e2, ?_⟩
          have H2 := H.ext e2
          refine get_ok (hr2 _ R (Hp.suf (X := TT) H2)) hw2 hs2 hl2 fun h3 e3 => ?_
          refine ⟨_, rfl, e3, ?_⟩
          have H3 := H2.ext e3
          refine do_ok hop ?_
          refine ⟨_, rfl, hext.refl _, ?_⟩
          refine put_ok H3 (2 + kq) (hqR rfl) g2 hs g1 (by omega) (by omega) fun R' h' k1 k2 k3 H' => ?_
          have H' : Hp h0 FF h' (TT ++ L.set kq ⟨q, true, T_uint64, u64s R' ++ rest⟩) := H'.as (by
            rw [List.set_append_right _ _ (by show 2 ≤ 2 + kq; omega)]
            show TT ++ (L.set kq _).set (2 + kq - 2) _ = _
            rw [Nat.add_sub_cancel_left, List.set_set])
          refine bindI_of (((i + 1 : Nat) : Int)) (by exact i64_at _ _ (by omega) (by omega) (by omega)) ?_
          refine ⟨n2 - 1, by omega, i + 1, R', by omega, rfl, (hSt _ _ _ _).2 ⟨by omega, k2, fun Y hY x' hx' => ?_, H'⟩⟩
          rw [k3 Y hY x' hx']
          by_cases h8 : Y = b ∧ x' = a
          · obtain ⟨rfl, rfl⟩ := h8
            rw [if_pos ⟨rfl, rfl⟩, if_pos (by omega), hG, if_pos (by omega)]
            have e1 : getP R W X (x' : Int) (Y : Int) = pix ws (wds W) x' Y := by
              unfold getP
              rw [decide_eq_true (by omega), Bool.true_and, Int.toNat_natCast, Int.toNat_natCast, g3 Y hY x' hx', if_neg (by omega)]
            have e2 : getP ws2 W2 X2 (i : Int) (j : Int) = pix ws2 (wds W2) (x' - x).toNat (Y - y).toNat := by
              unfold getP
              rw [decide_eq_true (by omega), Bool.true_and]
              congr 1 <;> omega
            rw [e1, e2]
          · rw [if_neg h8, g3 Y hY x' hx']
            have : ((Y : Int) - y < j ∨ (Y : Int) - y = j ∧ (x' : Int) - x < i) ↔ ((Y : Int) - y < j ∨ (Y : Int) - y = j ∧ (x' : Int) - x < ((i + 1 : Nat) : Int)) := by omega
            simp only [this]
        · refine bindI_of (((i + 1 : Nat) : Int)) (by exact i64_at _ _ (by omega) (by omega) (by omega)) ?_
          refine ⟨n2 - 1, by omega, i + 1, R, by omega, rfl, (hSt _ _ _ _).2 ⟨g1, g2, fun Y hY x' hx' => ?_, H⟩⟩
          rw [g3 Y hY x' hx']
          by_cases h8 : (Y : Int) - y = j ∧ (x' : Int) - x = i
          · rw [if_neg (by omega), if_pos (by omega), hG, if_neg (by omega)]
          · have : ((Y : Int) - y < j ∨ (Y : Int) - y = j ∧ (x' : Int) - x < i) ↔ ((Y : Int) - y < j ∨ (Y : Int) - y = j ∧ (x' : Int) - x < ((i + 1 : Nat) : Int)) := by omega
            simp only [this]
    · have h6 : i = W2 := by omega
      subst h6
      obtain ⟨g1, g2, g3, _⟩ := (hSt _ _ _ _).1 hst
      refine bindI_of (((j + 1 : Nat) : Int)) (by exact i64_at _ _ (by omega) (by omega) (by omega)) ?_
      refine ⟨n - 1, by omega, j + 1, R, by omega, rfl, (hSt _ _ _ _).2 ⟨g1, g2, fun Y hY x' hx' => ?_, H⟩⟩
      rw [g3 Y hY x' hx']
      by_cases h7 : (Y : Int) - y < j
      · rw [if_pos (.inl h7), if_pos (.inl (by omega))]
      · by_cases h8 : (Y : Int) - y = j
        · rw [if_pos (show _ ∨ _ from .inl (by omega) : (Y : Int) - y < ((j + 1 : Nat) : Int) ∨ (Y : Int) - y = ((j + 1 : Nat) : Int) ∧ (x' : Int) - x < ((0 : Nat) : Int))]
          split
          · rfl
          · rw [hG, if_neg (by omega)]
        · rw [if_neg (by omega)]
          split
          · rw [hG, if_neg (by omega)]
          · rfl
  · have h5 : j = X2 := by omega
    subst h5
    obtain ⟨g1, g2, g3, _⟩ := (hSt _ _ _ _).1 hst
    refine hk R h g1 g2 (fun Y hY x' hx' => ?_) (Hp.suf (X := TT) H)
    rw [g3 Y hY x' hx', ← hG]
    split
    · rfl
    · rw [hG, if_neg (by omega)]

end Go.Bm
