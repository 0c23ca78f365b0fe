/- W4: put together by wip/tools/bundle.py: BmB BmC BmD BmE RfA Au Mwhole Bwhole WhA RfB WhB WhC WhD ArF ArG ArH WhE Mburinref5 Bburinref5. -/
import Derived.Test.YteakipgcanafoaaW1
import Derived.Test.YteakipgcanafoaaW2
import Derived.Test.YteakipgcanafoaaW3
import Derived.Test.YteakipgcanafoaaProg

/- BmB: sizes, masks, words: the small functions of bitmap and of burinref0. -/
set_option linter.unusedVariables false
set_option linter.unusedSimpArgs false
namespace Go.Bm
open Go Go.Den Go.Den.Yteakipgcanafoaa

abbrev CP : CallP := CallsHP Go.Proofs.Try.prog
abbrev at0 (p : Nat) : Option Addr := some ⟨p, 0, none⟩
theorem bcase_dec {p : Prop} [Decidable p] {X Y : Prop} (ht : p → X) (hf : ¬ p → Y) : bcase (decide p) X Y :=
  bcase_of (fun h => ht (of_decide_eq_true h)) fun h => hf (of_decide_eq_false h)
theorem bcase_eq {a b : Int} {X Y : Prop} (ht : a = b → X) (hf : a ≠ b → Y) : bcase (a == b) X Y :=
  bcase_of (fun h => ht (by simpa using h)) fun h => hf (by simpa using h)
theorem bcase_ne {a b : Int} {X Y : Prop} (ht : a ≠ b → X) (hf : a = b → Y) : bcase (a != b) X Y :=
  bcase_of (fun h => ht (by simpa using h)) fun h => hf (by simpa using h)
theorem bcase_not {b : Bool} {X Y : Prop} (ht : b = false → X) (hf : b = true → Y) : bcase (!b) X Y :=
  bcase_of (fun h => ht (by simpa using h)) fun h => hf (by simpa using h)
theorem add_zero' (a : Addr) : a.add 0 = a := by unfold Addr.add; rw [if_pos rfl]
theorem rdO_cell {h : Heap} {a : Option Addr} {n : Nat} {cs : List Value} (hr : rdO h a n cs) {i : Nat} {v : Value} (hi : cs[i]? = some v) : ∃ ad, a = some ad ∧ hcell h (ad.add i) = some v := by
  cases a with
  | none => unfold rdO at hr; rw [hr] at hi; simp at hi
  | some ad => exact ⟨ad, rfl, hr.2 i v hi⟩

/-! ### sizes -/
def SizeP (w h : Int) : Prop := 1 ≤ w ∧ 1 ≤ h ∧ w ≤ 1048576 ∧ h ≤ 1048576 ∧ w * h ≤ 1048576
theorem prod_le {w h : Int} (h1 : 1 ≤ w) (h2 : 1 ≤ h) (h3 : w ≤ 1048576) (h4 : h ≤ 1048576) : 1 ≤ w * h ∧ w * h ≤ 1099511627776 := by
  constructor
  · have := Int.mul_le_mul h1 h2 (by omega) (by omega)
    omega
  · have := Int.mul_le_mul h3 h4 (by omega) (by omega)
    omega
theorem sized_ok {h : Heap} {w h' : Int} {K : Value → Heap → Prop} {Kp : List PanicEntry → Heap → Prop} (hk : ∀ b : Bool, (b = true ↔ SizeP w h') → K (.bool b) h) : CP F_bitmap_sized #[.int .i64 w, .int .i64 h'] h K Kp := by
  refine call_bitmap_sized ?_
  unfold bitmap_sized
  refine bcase_dec (fun h1 => ?_) fun h1 => hk false (by simp [SizeP]; omega)
  refine bcase_dec (fun h2 => ?_) fun h2 => hk false (by simp [SizeP]; omega)
  refine bcase_dec (fun h3 => ?_) fun h3 => hk false (by simp [SizeP]; omega)
  refine bcase_dec (fun h4 => ?_) fun h4 => hk false (by simp [SizeP]; omega)
  obtain ⟨g1, g2⟩ := prod_le h1 h2 h3 h4
  refine bindI_of ((w * h')) (by exact i64_in _ (by omega) (by omega)) ?_
  exact hk _ (by simp [SizeP]; omega)
theorem rsize_ok {h : Heap} {w h' : Int} {K : Value → Heap → Prop} {Kp : List PanicEntry → Heap → Prop} (hk : ∀ b : Bool, (b = true ↔ SizeP w h') → K (.bool b) h) : CP F_burinref0_Size #[.int .i64 w, .int .i64 h'] h K Kp := by
  refine call_burinref0_Size ?_
  unfold burinref0_Size
  refine bcase_dec (fun h1 => ?_) fun h1 => hk false (by simp [SizeP]; omega)
  refine bcase_dec (fun h2 => ?_) fun h2 => hk false (by simp [SizeP]; omega)
  refine bcase_dec (fun h3 => ?_) fun h3 => hk false (by simp [SizeP]; omega)
  refine needs_of (by first | exact ⟨rfl, by omega⟩ | exact ⟨trivial, by omega⟩) ?_
  obtain ⟨W, rfl⟩ : ∃ W : Nat, w = (W : Nat) := ⟨w.toNat, by omega⟩
  obtain ⟨X, rfl⟩ : ∃ X : Nat, h' = (X : Nat) := ⟨h'.toNat, by omega⟩
  have hW : 1 ≤ W := by omega
  have hq := Nat.div_le_self 1048576 W
  obtain ⟨Q, hQ⟩ : ∃ Q, Q = 1048576 / W := ⟨_, rfl⟩
  refine bindI_of (((Q : Nat) : Int)) (by exact i64_at _ _ (by rw [hQ]; exact tdiv_nat 1048576 W) (by omega) (by omega)) ?_
  refine hk _ ?_
  rw [decide_eq_true_iff]
  have hm := Nat.le_div_iff_mul_le (k := W) (x := X) (y := 1048576) (by omega)
  unfold SizeP
  constructor
  · intro h5
    have h6 : X ≤ 1048576 / W := by omega
    have h7 := hm.1 h6
    rw [Nat.mul_comm] at h7
    refine ⟨h1, h2, h3, by omega, ?_⟩
    rw [← Int.natCast_mul]
    omega
  · rintro ⟨_, _, _, _, h7⟩
    rw [← Int.natCast_mul] at h7
    have h8 : W * X ≤ 1048576 := by omega
    rw [Nat.mul_comm] at h8
    have := hm.2 h8
    omega
theorem words_ok {h : Heap} {w : Nat} (hw : w ≤ 1048576) {K : Value → Heap → Prop} {Kp : List PanicEntry → Heap → Prop} (hk : K (.int .i64 (wds w : Nat)) h) : CP F_burinref0_words #[.int .i64 (w : Nat)] h K Kp := by
  refine call_burinref0_words ?_
  unfold burinref0_words
  refine bindI_of (((w + 63 : Nat) : Int)) (by exact i64_at _ _ (by omega) (by omega) (by omega)) ?_
  refine bindI_of (((wds w : Nat) : Int)) (by exact i64_at _ _ (tdiv_nat (w + 63) 64) (by unfold wds; omega) (by unfold wds; omega)) ?_
  exact hk

/-- What is behind the last pixel of a row: so many bits. -/
def padn (w : Nat) : Nat := (64 - w % 64) % 64
theorem last_ok {h : Heap} {w : Nat} {K : Value → Heap → Prop} {Kp : List PanicEntry → Heap → Prop} (hk : ∀ L : Nat, L < M64 → (∀ j, j < 64 → L.testBit j = decide (padn w ≤ j)) → K (.int .u64 (L : Nat)) h) : CP F_bitmap_last #[.int .i64 (w : Nat)] h K Kp := by
  refine call_bitmap_last ?_
  unfold bitmap_last
  have h64 := Nat.mod_lt w (show 64 > 0 by decide)
  refine bindI_of (((w % 64 : Nat) : Int)) (by exact tmod_nat w 64) ?_
  refine bindI_of (((64 - w % 64 : Nat) : Int)) (by exact i64_at _ _ (by omega) (by omega) (by omega)) ?_
  refine bindI_of (((padn w : Nat) : Int)) (by exact tmod_nat (64 - w % 64) 64) ?_
  have hp : padn w < 64 := Nat.mod_lt _ (by decide)
  refine needs_of (by omega) ?_
  have hlt : 18446744073709551615 * 2 ^ padn w % M64 < M64 := Nat.mod_lt _ (by decide)
  refine bindI_of (((18446744073709551615 * 2 ^ padn w % M64 : Nat) : Int)) (by exact shl_of (x := 18446744073709551615) (i := padn w) (by show padn w ≤ 64; omega) (by simp [IntKind.wrap, IntKind.bits, IntKind.signed])) ?_
  refine hk _ hlt fun j hj => ?_
  rw [M64_pow, Nat.testBit_mod_two_pow, decide_eq_true hj, Bool.true_and, show 18446744073709551615 = 2 ^ 64 - 1 from rfl, Nat.testBit_mul_two_pow, Nat.testBit_two_pow_sub_one]
  by_cases h1 : padn w ≤ j
  · simp [h1]; omega
  · simp [h1]

/-- May a bitmap be? -/
def MayP (w h : Int) (ws : List Nat) : Prop := SizeP w h ∧ ws.length = h.toNat * wds w.toNat ∧ ∀ y, y < h.toNat → ws.getD (y * wds w.toNat + (wds w.toNat - 1)) 0 % 2 ^ padn w.toNat = 0
theorem mod_zero_bits {v s : Nat} : v % 2 ^ s = 0 ↔ ∀ j, j < s → v.testBit j = false := by
  constructor
  · intro h j hj
    have := Nat.testBit_mod_two_pow v s j
    rw [h, decide_eq_true hj, Bool.true_and, Nat.zero_testBit] at this
    exact this.symm
  · intro h
    apply Nat.eq_of_testBit_eq
    intro j
    rw [Nat.testBit_mod_two_pow, Nat.zero_testBit]
    by_cases hj : j < s
    · rw [h j hj]; simp
    · simp [hj]
theorem not_last {v L w : Nat} (hv : v < M64) (hL : L < M64) (h : ∀ j, j < 64 → L.testBit j = decide (padn w ≤ j)) : v &&& wnot L = 0 ↔ v % 2 ^ padn w = 0 := by
  have hp : padn w < 64 := Nat.mod_lt _ (by decide)
  rw [mod_zero_bits]
  constructor
  · intro h1 j hj
    have : (v &&& wnot L).testBit j = false := by rw [h1]; exact Nat.zero_testBit j
    rw [Nat.testBit_and, wnot_bit hL (by omega), h j (by omega)] at this
    simpa [show ¬ padn w ≤ j by omega] using this
  · intro h1
    apply Nat.eq_of_testBit_eq
    intro j
    rw [Nat.zero_testBit, Nat.testBit_and]
    rcases Nat.lt_or_ge j 64 with hj | hj
    · rw [wnot_bit hL hj, h j hj]
      by_cases h2 : padn w ≤ j
      · simp [h2]
      · rw [h1 j (by omega)]; simp
    · rw [bits_lt hv hj]; simp
theorem size_nat {w h : Int} (hs : SizeP w h) : ∃ W H : Nat, w = (W : Nat) ∧ h = (H : Nat) ∧ 1 ≤ W ∧ W ≤ 1048576 ∧ 1 ≤ H ∧ H ≤ 1048576 ∧ W * H ≤ 1048576 := by
  obtain ⟨h1, h2, h3, h4, h5⟩ := hs
  refine ⟨w.toNat, h.toNat, by omega, by omega, by omega, by omega, by omega, by omega, ?_⟩
  have e1 : ((w.toNat : Nat) : Int) = w := by omega
  have e2 : ((h.toNat : Nat) : Int) = h := by omega
  have : ((w.toNat * h.toNat : Nat) : Int) ≤ 1048576 := by rw [Int.natCast_mul, e1, e2]; exact h5
  omega
theorem wds_pos {w : Nat} (h : 1 ≤ w) : 1 ≤ wds w := by unfold wds; omega
theorem wds_le {w : Nat} (h : 1 ≤ w) : wds w ≤ w := by unfold wds; omega
theorem hw_le {W H : Nat} (h1 : 1 ≤ W) (h : W * H ≤ 1048576) : H * wds W ≤ 1048576 :=
  Nat.le_trans (Nat.mul_le_mul_left H (wds_le h1)) (by rw [Nat.mul_comm]; exact h)

set_option maxRecDepth 100000 in
theorem check_ok {hB : Heap} {w h' : Int} {q : Option Addr} {c : Nat} {ws : List Nat} (hr : rdO hB q (ws.length * 1) (u64s ws)) (hw : W64 ws) (hl : ws.length < 140737488351300) {K : Value → Heap → Prop} {Kp : List PanicEntry → Heap → Prop}
    (hk : ∀ (b : Bool) h, (b = true ↔ MayP w h' ws) → hext hB h → K (.bool b) h) : CP F_bitmap_Check #[.agg #[.int .i64 w, .int .i64 h', .slice q ws.length c]] hB K Kp := by
  refine call_bitmap_Check ?_
  unfold bitmap_Check
  have H := Hp.nil hB []
  refine newC_hp H fun r h H => ?_
  try simp only [ptr_some_eq, add_mk, Nat.zero_add, Nat.add_zero]
  refine ldI_of (H.cell 0 rfl rfl) ?_
  refine ldI_of (H.cell 0 rfl rfl) ?_
  refine sized_ok fun b hb => ?_
  refine ⟨_, rfl, ?_⟩
  refine bcase_not (fun h1 => ?_) fun h1 => ?_
  · refine hk false _ ⟨(fun h => Bool.noConfusion h), fun hm => ?_⟩ H.hext
    have := hb.2 hm.1
    rw [h1] at this; cases this
  obtain ⟨W, X, rfl, rfl, hW1, hW2, hX1, hX2, hWX⟩ := size_nat (hb.1 h1)
  have hwd := wds_pos hW1
  have hwl := wds_le hW1
  have hhw := hw_le hW1 hWX
  refine ldI_of (H.cell 0 rfl rfl) ?_
  refine bindI_of (((W + 63 : Nat) : Int)) (by exact i64_at _ _ (by omega) (by omega) (by omega)) ?_
  refine bindI_of (((wds W : Nat) : Int)) (by exact i64_at _ _ (tdiv_nat (W + 63) 64) (by unfold wds; omega) (by unfold wds; omega)) ?_
  refine ldS_of (H.cell 0 rfl rfl) ?_
  refine ldI_of (H.cell 0 rfl rfl) ?_
  refine bindI_of (((X * wds W : Nat) : Int)) (by exact i64_at _ _ (by rw [Int.natCast_mul]) (by omega) (by omega)) ?_
  refine bcase_ne (fun h2 => ?_) fun h2 => ?_
  · exact hk false _ ⟨(fun h => Bool.noConfusion h), fun hm => absurd (by exact_mod_cast hm.2.1) h2⟩ H.hext
  have h2 : ws.length = X * wds W := by exact_mod_cast h2
  refine ldI_of (H.cell 0 rfl rfl) ?_
  refine ⟨fun n vs h => ∃ y : Nat, y + n = X ∧ vs = [.int .i64 (y : Int)] ∧ Hp hB [] h [⟨r, true, T_api_Bitmap, [.int .i64 (W : Nat), .int .i64 (X : Nat), .slice q ws.length c]⟩] ∧ ∀ y', y' < y → ws.getD (y' * wds W + (wds W - 1)) 0 % 2 ^ padn W = 0, ⟨X, 0, by omega, rfl, H, fun y' h => by omega⟩, ?_⟩
  clear H
  rintro n h u x ⟨y, hyn, hx, H, hz⟩
  injection hx with hx
  injection hx with _ hx
  subst hx
  refine bcase_dec (fun h3 => ?_) fun h3 => ?_
  · have h3 : y < X := by omega
    have hil := idx_lt (c := wds W - 1) (wd := wds W) (y := y) (h := X) (by omega) h3
    refine bindI_of (((y * wds W : Nat) : Int)) (by exact i64_at _ _ (by rw [Int.natCast_mul]) (by omega) (by omega)) ?_
    refine bindI_of (((y * wds W + wds W : Nat) : Int)) (by exact i64_at _ _ (by omega) (by omega) (by omega)) ?_
    refine bindI_of (((y * wds W + (wds W - 1) : Nat) : Int)) (by exact i64_at _ _ (by omega) (by omega) (by omega)) ?_
    refine ldS_of (H.cell 0 rfl rfl) ?_
    refine needs_of (by omega) ?_
    obtain ⟨a, ha, hc⟩ := rdO_cell (H.rdO hr) (u64s_get (getD_get (l := ws) (i := y * wds W + (wds W - 1)) (by omega)))
    subst ha
    simp only [ptr_some_eq, Int.toNat_natCast, Nat.mul_one]
    refine ldI_of hc ?_
    refine ldI_of (H.cell 0 rfl rfl) ?_
    refine last_ok fun L hL hLb => ?_
    refine ⟨_, rfl, hext.refl _, ?_⟩
    have hv := hw.get (y * wds W + (wds W - 1))
    have hnl := not_last hv hL hLb
    refine bindI_of _ (andNot64 _ _ hv hL) ?_
    refine bcase_ne (fun h4 => ?_) fun h4 => ?_
    · exact hk false _ ⟨(fun h => Bool.noConfusion h), fun hm => absurd (by exact_mod_cast hnl.2 (hm.2.2 y (by simpa using h3))) h4⟩ H.hext
    · refine bindI_of (((y + 1 : Nat) : Int)) (by exact i64_at _ _ (by omega) (by omega) (by omega)) ?_
      refine ⟨n - 1, by omega, y + 1, by omega, rfl, H, fun y' hy' => ?_⟩
      rcases Nat.lt_or_ge y' y with h5 | h5
      · exact hz y' h5
      · have : y' = y := by omega
        subst this
        exact hnl.1 (by exact_mod_cast h4)
  · have h3 : y = X := by omega
    subst h3
    exact hk true _ ⟨fun _ => ⟨hb.1 h1, by simpa using h2, fun y' hy' => by simpa using hz y' (by simpa using hy')⟩, fun _ => rfl⟩ H.hext

theorem shl_zero {v s : Nat} (hs : s ≤ 64) : v * 2 ^ s % M64 = 0 ↔ v % 2 ^ (64 - s) = 0 := by
  have e : M64 = 2 ^ (64 - s) * 2 ^ s := by rw [← Nat.pow_add, show 64 - s + s = 64 by omega]
  rw [e, Nat.mul_mod_mul_right]
  constructor
  · intro h
    rcases Nat.mul_eq_zero.1 h with h1 | h1
    · exact h1
    · have := Nat.two_pow_pos s; omega
  · intro h; rw [h, Nat.zero_mul]
set_option maxRecDepth 100000 in
theorem may_ok {hB : Heap} {w h' : Int} {q : Option Addr} {c : Nat} {ws : List Nat} (hr : rdO hB q (ws.length * 1) (u64s ws)) (hw : W64 ws) (hl : ws.length < 140737488351300) {K : Value → Heap → Prop} {Kp : List PanicEntry → Heap → Prop}
    (hk : ∀ (b : Bool) h, (b = true ↔ MayP w h' ws) → hext hB h → K (.bool b) h) : CP F_burinref0_May #[.agg #[.int .i64 w, .int .i64 h', .slice q ws.length c]] hB K Kp := by
  refine call_burinref0_May ?_
  unfold burinref0_May
  have H := Hp.nil hB []
  refine newC_hp H fun r h H => ?_
  try simp only [ptr_some_eq, add_mk, Nat.zero_add, Nat.add_zero]
  refine ldI_of (H.cell 0 rfl rfl) ?_
  refine ldI_of (H.cell 0 rfl rfl) ?_
  refine rsize_ok fun b hb => ?_
  refine ⟨_, rfl, ?_⟩
  refine bcase_not (fun h1 => ?_) fun h1 => ?_
  · refine ⟨hext.refl _, hk false _ ⟨(fun h => Bool.noConfusion h), fun hm => ?_⟩ H.hext⟩
    have := hb.2 hm.1
    rw [h1] at this; cases this
  obtain ⟨W, X, rfl, rfl, hW1, hW2, hX1, hX2, hWX⟩ := size_nat (hb.1 h1)
  have hwd := wds_pos hW1
  have hwl := wds_le hW1
  have hhw := hw_le hW1 hWX
  refine ldS_of (H.cell 0 rfl rfl) ?_
  refine ldI_of (H.cell 0 rfl rfl) ?_
  refine ldI_of (H.cell 0 rfl rfl) ?_
  refine words_ok (by omega) ?_
  refine ⟨_, rfl, hext.refl _, ?_⟩
  refine bindI_of (((X * wds W : Nat) : Int)) (by exact i64_at _ _ (by rw [Int.natCast_mul]) (by omega) (by omega)) ?_
  refine bcase_ne (fun h2 => ?_) fun h2 => ?_
  · exact hk false _ ⟨(fun h => Bool.noConfusion h), fun hm => absurd (by exact_mod_cast hm.2.1) h2⟩ H.hext
  have h2 : ws.length = X * wds W := by exact_mod_cast h2
  refine ldI_of (H.cell 0 rfl rfl) ?_
  have h64 := Nat.mod_lt W (show 64 > 0 by decide)
  refine bindI_of (((W % 64 : Nat) : Int)) (by exact tmod_nat W 64) ?_
  refine bcase_eq (fun h3 => ?_) fun h3 => ?_
  · have h3 : W % 64 = 0 := by omega
    refine hk true _ ⟨fun _ => ⟨hb.1 h1, by simpa using h2, fun y' hy' => ?_⟩, fun _ => rfl⟩ H.hext
    have : padn W = 0 := by unfold padn; rw [h3]
    simp [this, Nat.mod_one]
  have h3 : W % 64 ≠ 0 := by omega
  have hpad : padn W = 64 - W % 64 := by unfold padn; omega
  refine ⟨fun n vs h => ∃ y : Nat, y + n = X ∧ vs = [.int .i64 (y : Int)] ∧ Hp hB [] h [⟨r, true, T_api_Bitmap, [.int .i64 (W : Nat), .int .i64 (X : Nat), .slice q ws.length c]⟩] ∧ ∀ y', y' < y → ws.getD (y' * wds W + (wds W - 1)) 0 % 2 ^ padn W = 0, ⟨X, 0, by omega, rfl, H, fun y' h => by omega⟩, ?_⟩
  clear H
  rintro n h u x ⟨y, hyn, hx, H, hz⟩
  injection hx with hx
  injection hx with _ hx
  subst hx
  refine ldI_of (H.cell 0 rfl rfl) ?_
  refine bcase_dec (fun h4 => ?_) fun h4 => ?_
  · have h4 : y < X := by omega
    have hil := idx_lt (c := wds W - 1) (wd := wds W) (y := y) (h := X) (by omega) h4
    refine bindI_of (((y + 1 : Nat) : Int)) (by exact i64_at _ _ (by omega) (by omega) (by omega)) ?_
    refine ldS_of (H.cell 0 rfl rfl) ?_
    refine ldI_of (H.cell 0 rfl rfl) ?_
    refine ldI_of (H.cell 0 rfl rfl) ?_
    refine bindI_of (((W % 64 : Nat) : Int)) (by exact tmod_nat W 64) ?_
    refine bindI_of (((W % 64 : Nat) : Int)) (by exact u64_in _ (by omega) (by omega)) ?_
    refine words_ok (by omega) ?_
    refine ⟨_, rfl, hext.refl _, ?_⟩
    have hyw : (y + 1) * wds W = y * wds W + wds W := by rw [Nat.add_mul, Nat.one_mul]
    refine bindI_of (((y * wds W + wds W : Nat) : Int)) (by exact i64_at _ _ (by rw [← Int.natCast_mul, hyw]) (by omega) (by omega)) ?_
    refine bindI_of (((y * wds W + (wds W - 1) : Nat) : Int)) (by exact i64_at _ _ (by omega) (by omega) (by omega)) ?_
    refine needs_of (by omega) ?_
    obtain ⟨a, ha, hc⟩ := rdO_cell (H.rdO hr) (u64s_get (getD_get (l := ws) (i := y * wds W + (wds W - 1)) (by omega)))
    subst ha
    simp only [ptr_some_eq, Int.toNat_natCast, Nat.mul_one]
    refine ldI_of hc ?_
    refine needs_of (by omega) ?_
    have hv := hw.get (y * wds W + (wds W - 1))
    generalize hvv : ws.getD (y * wds W + (wds W - 1)) 0 = v at hv ⊢
    refine bindI_of (((v * 2 ^ (W % 64) % M64 : Nat) : Int)) (by exact shl_of (i := W % 64) (by show W % 64 ≤ 64; omega) (by simp [IntKind.wrap, IntKind.bits, IntKind.signed])) ?_
    have hnl := shl_zero (v := v) (s := W % 64) (by omega)
    rw [← hpad] at hnl
    refine bcase_ne (fun h5 => ?_) fun h5 => ?_
    · refine hk false _ ⟨(fun h => Bool.noConfusion h), fun hm => absurd (by exact_mod_cast hnl.2 (by rw [← hvv]; exact hm.2.2 y (by simpa using h4))) h5⟩ H.hext
    · refine bindI_of (((y + 1 : Nat) : Int)) (by exact i64_at _ _ (by omega) (by omega) (by omega)) ?_
      refine ⟨n - 1, by omega, y + 1, by omega, rfl, H, fun y' hy' => ?_⟩
      rcases Nat.lt_or_ge y' y with h6 | h6
      · exact hz y' h6
      · have : y' = y := by omega
        subst this
        rw [hvv]
        exact hnl.1 (by exact_mod_cast h5)
  · have h4 : y = X := by omega
    subst h4
    exact hk true _ ⟨fun _ => ⟨hb.1 h1, by simpa using h2, fun y' hy' => by simpa using hz y' (by simpa using hy')⟩, fun _ => rfl⟩ H.hext

/-! ### cuts -/
def InI (x : Int) : Prop := -9223372036854775808 ≤ x ∧ x < 9223372036854775808
theorem min_of {a b : Int} {K : Int → Prop} (h : ∀ m, (m = a ∧ a ≤ b ∨ m = b ∧ b ≤ a) → K m) : bindI (minI a b) K := by
  refine bindI_gen fun m e => h m ?_
  unfold minI at e
  split at e <;> omega
theorem max_of {a b : Int} {K : Int → Prop} (h : ∀ m, (m = a ∧ b ≤ a ∨ m = b ∧ a ≤ b) → K m) : bindI (maxI a b) K := by
  refine bindI_gen fun m e => h m ?_
  unfold maxI at e
  split at e <;> omega
/-- What is left of 'n' places from 'off' on, in a size. -/
theorem cut_ok {h : Heap} {off n size : Int} (ho : InI off) (hn : InI n) (hs : 1 ≤ size ∧ size ≤ 1048576) {K : Value → Heap → Prop} {Kp : List PanicEntry → Heap → Prop}
    (hk : ∀ skip left : Int, (left = 0 ∧ skip = 0 ∧ (n ≤ 0 ∨ size ≤ off ∨ off + n ≤ 0) ∨ 1 ≤ left ∧ 0 ≤ skip ∧ 0 ≤ off + skip ∧ off + skip + left ≤ size ∧ skip + left ≤ n ∧ (skip = 0 ∨ off + skip = 0) ∧ (off + skip + left = size ∨ skip + left = n)) → K (.tuple #[.int .i64 skip, .int .i64 left]) h) :
    CP F_bitmap_cut #[.int .i64 off, .int .i64 n, .int .i64 size] h K Kp := by
  refine call_bitmap_cut ?_
  unfold bitmap_cut
  unfold InI at ho hn
  refine ⟨fun vs h' => h' = h ∧ vs = [.bool (decide (n ≤ 0 ∨ size ≤ off ∨ off + n ≤ 0))], ?_, ?_⟩
  · refine bcase_dec (fun h1 => ⟨rfl, ?_⟩) fun h1 => ?_
    · simp [h1]
    refine bcase_dec (fun h2 => ⟨rfl, ?_⟩) fun h2 => ?_
    · have : size ≤ off := by omega
      simp [this]
    refine bindI_of ((-n)) (by exact i64_at _ _ (by omega) (by omega) (by omega)) ?_
    refine ⟨by first | rfl | trivial, ?_⟩
    congr 2
    rw [decide_eq_decide]
    omega
  · rintro h' u x ⟨rfl, hx⟩
    injection hx with hx
    injection hx with hx
    subst hx
    refine bcase_dec (fun h1 => ?_) fun h1 => ?_
    · exact hk 0 0 (.inl ⟨rfl, rfl, h1⟩)
    refine bcase_dec (fun h2 => ?_) fun h2 => ?_
    · refine bindI_of ((size - off)) (by exact i64_in _ (by omega) (by omega)) ?_
      refine min_of fun m hm => ?_
      exact hk 0 m (.inr (by omega))
    · refine bindI_of ((-off)) (by exact i64_at _ _ (by omega) (by omega) (by omega)) ?_
      refine bindI_of ((n + off)) (by exact i64_in _ (by omega) (by omega)) ?_
      refine min_of fun m hm => ?_
      exact hk (-off) m (.inr (by omega))
theorem both_ok {h : Heap} {a asz b bs n : Int} (ha : InI a) (hb : InI b) (hn : InI n) (h1 : 1 ≤ asz ∧ asz ≤ 1048576) (h2 : 1 ≤ bs ∧ bs ≤ 1048576) {K : Value → Heap → Prop} {Kp : List PanicEntry → Heap → Prop}
    (hk : ∀ f t l : Int, ((l = 0 ∧ ∀ k, 0 ≤ k → k < n → 0 ≤ a + k → a + k < asz → 0 ≤ b + k → b + k < bs → False) ∨
        1 ≤ l ∧ t - b = f - a ∧ 0 ≤ f ∧ f + l ≤ asz ∧ 0 ≤ t ∧ t + l ≤ bs ∧ a ≤ f ∧ f + l ≤ a + n ∧ ∀ k, 0 ≤ k → k < n → 0 ≤ a + k → a + k < asz → 0 ≤ b + k → b + k < bs → t ≤ b + k ∧ b + k < t + l) → K (.tuple #[.int .i64 f, .int .i64 t, .int .i64 l]) h) :
    CP F_bitmap_both #[.int .i64 a, .int .i64 asz, .int .i64 b, .int .i64 bs, .int .i64 n] h K Kp := by
  refine call_bitmap_both ?_
  unfold bitmap_both
  refine cut_ok ha hn h1 fun s1 l1 c1 => ?_
  refine ⟨_, _, rfl, ?_⟩
  unfold InI at ha hb hn
  refine bcase_eq (fun h3 => ?_) fun h3 => ?_
  · exact hk 0 0 0 (.inl ⟨rfl, fun k _ _ _ _ _ _ => by omega⟩)
  have c1 := c1.resolve_left (by omega)
  refine bindI_of ((9223372036854775807 - s1)) (by exact i64_in _ (by omega) (by omega)) ?_
  refine bcase_dec (fun h4 => ?_) fun h4 => ?_
  · exact hk 0 0 0 (.inl ⟨rfl, fun k _ _ _ _ _ _ => by omega⟩)
  refine bindI_of ((a + s1)) (by exact i64_in _ (by omega) (by omega)) ?_
  refine bindI_of ((b + s1)) (by exact i64_in _ (by omega) (by omega)) ?_
  refine cut_ok ⟨by omega, by omega⟩ ⟨by omega, by omega⟩ h2 fun s2 l2 c2 => ?_
  refine ⟨_, _, rfl, ?_⟩
  rcases c2 with ⟨e1, e2, e3⟩ | c2
  · subst e1 e2
    refine bindI_of ((a + s1)) (by exact i64_at _ _ (by omega) (by omega) (by omega)) ?_
    refine bindI_of ((b + s1)) (by exact i64_at _ _ (by omega) (by omega) (by omega)) ?_
    exact hk _ _ 0 (.inl ⟨rfl, fun k _ _ _ _ _ _ => by omega⟩)
  · refine bindI_of ((a + s1 + s2)) (by exact i64_in _ (by omega) (by omega)) ?_
    refine bindI_of ((b + s1 + s2)) (by exact i64_in _ (by omega) (by omega)) ?_
    refine hk _ _ l2 (.inr ⟨by omega, by omega, by omega, by omega, by omega, by omega, by omega, by omega, fun k _ _ _ _ _ _ => by omega⟩)

/-! ### masks, words -/
theorem mask_ok {h : Heap} {i x n : Nat} (hi : 64 * i < x + n) (hb : x + n ≤ 4194304) {K : Value → Heap → Prop} {Kp : List PanicEntry → Heap → Prop}
    (hk : ∀ M : Nat, M < M64 → (∀ j, j < 64 → M.testBit j = decide (x ≤ 64 * i + (63 - j) ∧ 64 * i + (63 - j) < x + n)) → K (.int .u64 (M : Nat)) h) :
    CP F_bitmap_mask #[.int .i64 (i : Nat), .int .i64 (x : Nat), .int .i64 (n : Nat)] h K Kp := by
  refine call_bitmap_mask ?_
  unfold bitmap_mask
  refine bindI_of (((64 * i : Nat) : Int)) (by exact i64_at _ _ (by omega) (by omega) (by omega)) ?_
  refine bindI_of ((((x : Nat) : Int) - ((64 * i : Nat) : Int))) (by exact i64_in _ (by omega) (by omega)) ?_
  refine max_of fun m1 hm1 => ?_
  obtain ⟨p, rfl⟩ : ∃ p : Nat, m1 = (p : Nat) := ⟨m1.toNat, by omega⟩
  refine bindI_of (((x + n : Nat) : Int)) (by exact i64_at _ _ (by omega) (by omega) (by omega)) ?_
  refine bindI_of (((64 * i : Nat) : Int)) (by exact i64_at _ _ (by omega) (by omega) (by omega)) ?_
  refine bindI_of (((x + n - 64 * i : Nat) : Int)) (by exact i64_at _ _ (by omega) (by omega) (by omega)) ?_
  refine min_of fun m2 hm2 => ?_
  obtain ⟨q, rfl⟩ : ∃ q : Nat, m2 = (q : Nat) := ⟨m2.toNat, by omega⟩
  have hq64 : q ≤ 64 := by omega
  have hsh : ∀ p : Nat, shrI .u64 (18446744073709551615 : Int) (p : Int) = ((18446744073709551615 / 2 ^ min p 64 : Nat) : Int) := by
    intro p
    rcases Nat.lt_or_ge 64 p with h1 | h1
    · have e : min p 64 = 64 := by omega
      rw [e]
      have e2 : shrI .u64 (18446744073709551615 : Int) (p : Int) = shrI .u64 (18446744073709551615 : Int) ((64 : Nat) : Int) := by
        unfold shrI
        rw [Int.toNat_natCast, Int.toNat_natCast]
        have : Nat.min p IntKind.u64.bits = Nat.min 64 IntKind.u64.bits := by
          show min p 64 = min 64 64
          omega
        first | rw [this] | (simp only [Nat.min_def] at this ⊢; rw [this])
      rw [e2]
      exact shr_of (k := .u64) (x := 18446744073709551615) (i := 64) (by decide)
    · have e : min p 64 = p := by omega
      rw [e]
      exact shr_of (k := .u64) (x := 18446744073709551615) (i := p) h1
  have hlt : ∀ p : Nat, 18446744073709551615 / 2 ^ p < M64 := fun p => Nat.lt_of_le_of_lt (Nat.div_le_self _ _) (by decide)
  refine needs_of (by omega) ?_
  refine bindI_of _ (hsh p) ?_
  refine needs_of (by omega) ?_
  refine bindI_of _ (hsh q) ?_
  refine bindI_of _ (andNot64 _ _ (hlt _) (hlt _)) ?_
  refine hk _ (and_lt (hlt _)) fun j hj => ?_
  rw [Nat.testBit_and, wnot_bit (hlt _) hj, ones_shr (by omega), ones_shr (by omega)]
  rw [← decide_not, ← Bool.decide_and, decide_eq_decide]
  omega

theorem shr_bit {v s j : Nat} : (v / 2 ^ s).testBit j = v.testBit (j + s) := Nat.testBit_div_two_pow v j
theorem shl_bit {v s j : Nat} (hj : j < 64) : (v * 2 ^ s % M64).testBit j = (decide (s ≤ j) && v.testBit (j - s)) := by
  rw [M64_pow, Nat.testBit_mod_two_pow, decide_eq_true hj, Bool.true_and, Nat.testBit_mul_two_pow]
theorem u64_wrap (x : Nat) : IntKind.u64.wrap (x : Int) = ((x % M64 : Nat) : Int) := by simp [IntKind.wrap, IntKind.bits, IntKind.signed]

theorem word_pos {h : Heap} {q : Option Addr} {c : Nat} {ws : List Nat} (hr : rdO h q (ws.length * 1) (u64s ws)) (hw : W64 ws) (hl : ws.length < 1048577) {x : Nat} (hx : x < 1000000000) {K : Value → Heap → Prop} {Kp : List PanicEntry → Heap → Prop}
    (hk : ∀ V : Nat, V < M64 → (∀ j, j < 64 → V.testBit j = rowB ws ((x : Int) + (63 - (j : Int)))) → K (.int .u64 (V : Nat)) h) :
    CP F_bitmap_word #[.slice q ws.length c, .int .i64 (x : Nat)] h K Kp := by
  refine call_bitmap_word ?_
  unfold bitmap_word
  simp only [decide_eq_false (show ¬ ((x : Nat) : Int) < 0 by omega)]
  refine bcase_false rfl ?_
  refine bindI_of (((x / 64 : Nat) : Int)) (by exact i64_at _ _ (tdiv_nat x 64) (by omega) (by omega)) ?_
  have hrow : ∀ j : Nat, j < 64 → rowB ws ((x : Int) + (63 - (j : Int))) = (ws.getD ((x + (63 - j)) / 64) 0).testBit (63 - (x + (63 - j)) % 64) := fun j hj => by
    unfold rowB
    have : ((x : Int) + (63 - (j : Int))).toNat = x + (63 - j) := by omega
    rw [this, decide_eq_true (by omega), Bool.true_and]
  have hout : ∀ i, ws.length ≤ i → ws.getD i 0 = 0 := fun i hi => by rw [List.getD_eq_getElem?_getD, List.getElem?_eq_none hi]; rfl
  refine bcase_dec (fun h1 => ?_) fun h1 => ?_
  · refine hk 0 (by decide) fun j hj => ?_
    rw [hrow j hj, hout _ (by omega), Nat.zero_testBit, Nat.zero_testBit]
  have h1 : x / 64 < ws.length := by omega
  refine needs_of (by omega) ?_
  obtain ⟨a, ha, hc⟩ := rdO_cell hr (u64s_get (getD_get (l := ws) (i := x / 64) h1))
  subst ha
  simp only [ptr_some_eq, Int.toNat_natCast, Nat.mul_one]
  refine ldI_of hc ?_
  have hx64 := Nat.mod_lt x (show 64 > 0 by decide)
  refine bindI_of (((x % 64 : Nat) : Int)) (by exact tmod_nat x 64) ?_
  refine needs_of (by omega) ?_
  have hv := hw.get (x / 64)
  refine bindI_of (((ws.getD (x / 64) 0 * 2 ^ (x % 64) % M64 : Nat) : Int)) (by exact shl_of (i := x % 64) (by show x % 64 ≤ 64; omega) (u64_wrap _)) ?_
  have hv2 : ws.getD (x / 64) 0 * 2 ^ (x % 64) % M64 < M64 := Nat.mod_lt _ (by decide)
  refine ⟨fun vs h' => h' = h ∧ vs = [.bool (decide (0 < x % 64 ∧ x / 64 + 1 < ws.length))], ?_, ?_⟩
  · refine bindI_of (((x % 64 : Nat) : Int)) (by exact tmod_nat x 64) ?_
    refine bcase_dec (fun h2 => ?_) fun h2 => ?_
    · refine bindI_of (((x / 64 + 1 : Nat) : Int)) (by exact i64_at _ _ (by omega) (by omega) (by omega)) ?_
      refine ⟨by first | rfl | trivial, ?_⟩
      congr 2
      rw [decide_eq_decide]
      omega
    · refine ⟨by first | rfl | trivial, ?_⟩
      congr 2
      rw [eq_comm, decide_eq_false_iff_not]
      omega
  · rintro h' u y ⟨rfl, hy⟩
    injection hy with hy
    injection hy with hy
    subst hy
    refine bcase_dec (fun h2 => ?_) fun h2 => ?_
    · refine bindI_of (((x / 64 + 1 : Nat) : Int)) (by exact i64_at _ _ (by omega) (by omega) (by omega)) ?_
      refine needs_of (by omega) ?_
      obtain ⟨a', ha', hc'⟩ := rdO_cell hr (u64s_get (getD_get (l := ws) (i := x / 64 + 1) h2.2))
      injection ha' with ha'
      subst ha'
      refine ldI_of hc' ?_
      refine bindI_of (((x % 64 : Nat) : Int)) (by exact tmod_nat x 64) ?_
      refine bindI_of (((64 - x % 64 : Nat) : Int)) (by exact i64_at _ _ (by omega) (by omega) (by omega)) ?_
      refine needs_of (by omega) ?_
      have hv3 : ws.getD (x / 64 + 1) 0 / 2 ^ (64 - x % 64) < M64 := Nat.lt_of_le_of_lt (Nat.div_le_self _ _) (hw.get _)
      refine bindI_of (((ws.getD (x / 64 + 1) 0 / 2 ^ (64 - x % 64) : Nat) : Int)) (by exact shr_of (by show 64 - x % 64 ≤ 64; omega)) ?_
      refine bindI_of _ (or64 _ _ hv2 hv3) ?_
      refine hk _ (or_lt hv2 hv3) fun j hj => ?_
      rw [hrow j hj, Nat.testBit_or, shl_bit hj, shr_bit]
      by_cases h3 : x % 64 ≤ j
      · rw [decide_eq_true h3, Bool.true_and, bits_lt (hw.get _) (show 64 ≤ j + (64 - x % 64) by omega), Bool.or_false]
        congr 1
        · rw [show (x + (63 - j)) / 64 = x / 64 by omega]
        · omega
      · rw [decide_eq_false h3, Bool.false_and, Bool.false_or]
        congr 1
        · rw [show (x + (63 - j)) / 64 = x / 64 + 1 by omega]
        · omega
    · refine hk _ hv2 fun j hj => ?_
      rw [hrow j hj, shl_bit hj]
      by_cases h3 : x % 64 ≤ j
      · rw [decide_eq_true h3, Bool.true_and]
        congr 1
        · rw [show (x + (63 - j)) / 64 = x / 64 by omega]
        · omega
      · rw [decide_eq_false h3, Bool.false_and, hout ((x + (63 - j)) / 64) (by omega), Nat.zero_testBit]
theorem word_ok {h : Heap} {q : Option Addr} {c : Nat} {ws : List Nat} (hr : rdO h q (ws.length * 1) (u64s ws)) (hw : W64 ws) (hl : ws.length < 1048577) {x : Int} (hx : -1000000000 ≤ x ∧ x < 1000000000) {K : Value → Heap → Prop} {Kp : List PanicEntry → Heap → Prop}
    (hk : ∀ V : Nat, V < M64 → (∀ j, j < 64 → V.testBit j = rowB ws (x + (63 - (j : Int)))) → K (.int .u64 (V : Nat)) h) :
    CP F_bitmap_word #[.slice q ws.length c, .int .i64 x] h K Kp := by
  rcases Int.lt_or_le x 0 with h1 | h1
  · refine call_bitmap_word ?_
    unfold bitmap_word
    simp only [decide_eq_true h1]
    refine bcase_true rfl ?_
    refine word_pos (x := 0) hr hw hl (by omega) fun V hV hb => ?_
    refine ⟨_, rfl, ?_⟩
    obtain ⟨p, hp⟩ : ∃ p : Nat, x = -(p : Int) := ⟨(-x).toNat, by omega⟩
    subst hp
    refine bindI_of (((p : Nat) : Int)) (by exact i64_at _ _ (by omega) (by omega) (by omega)) ?_
    refine needs_of (by omega) ?_
    have hs : shrI .u64 (V : Int) (p : Int) = ((V / 2 ^ min p 64 : Nat) : Int) := by
      rcases Nat.lt_or_ge 64 p with h1 | h1
      · have e : min p 64 = 64 := by omega
        rw [e]
        have e2 : shrI .u64 (V : Int) (p : Int) = shrI .u64 (V : Int) ((64 : Nat) : Int) := by
          unfold shrI
          rw [Int.toNat_natCast, Int.toNat_natCast]
          have : Nat.min p IntKind.u64.bits = Nat.min 64 IntKind.u64.bits := by
            show min p 64 = min 64 64
            omega
          first | rw [this] | (simp only [Nat.min_def] at this ⊢; rw [this])
        rw [e2]
        exact shr_of (k := .u64) (i := 64) (by decide)
      · have e : min p 64 = p := by omega
        rw [e]
        exact shr_of (k := .u64) (i := p) h1
    refine bindI_of _ hs ?_
    refine hk _ (Nat.lt_of_le_of_lt (Nat.div_le_self _ _) hV) fun j hj => ?_
    rw [shr_bit]
    by_cases h2 : j + min p 64 < 64
    · rw [hb _ h2]
      congr 1
      omega
    · rw [bits_lt hV (by omega)]
      unfold rowB
      rw [decide_eq_false (by omega), Bool.false_and]
  · obtain ⟨X, rfl⟩ : ∃ X : Nat, x = (X : Nat) := ⟨x.toNat, by omega⟩
    exact word_pos hr hw hl (by omega) hk

end Go.Bm

/- BmC: maps: New, From, Plain, Fill, Blit. -/
set_option linter.unusedVariables false
set_option linter.unusedSimpArgs false
namespace Go.Bm
open Go Go.Den Go.Den.Yteakipgcanafoaa

def mapE (p q w h n c : Nat) : Ent := ⟨p, true, T_bitmap_Map, [.int .i64 (w : Nat), .int .i64 (h : Nat), .int .i64 (wds w : Nat), .slice (at0 q) n c]⟩
def mapL (p q w h : Nat) (ws : List Nat) (rest : List Value) : List Ent := [mapE p q w h ws.length (ws.length + rest.length), ⟨q, true, T_uint64, u64s ws ++ rest⟩]
theorem row_rdO {h0 h : Heap} {F : List Nat} {L : List Ent} (H : Hp h0 F h L) (k : Nat) {b : Nat} {w : Bool} {t : TypeId} {xs : List Nat} {rest : List Value} (he : L[k]? = some ⟨b, w, t, u64s xs ++ rest⟩) : rdO h (at0 b) (xs.length * 1) (u64s xs) := by
  have h2 := rdO_hp H k (o := 0) (n := xs.length * 1) he (by rw [List.length_append, u64s_length]; omega)
  rw [List.drop_zero, List.take_append_of_le_length (by rw [u64s_length]; omega), List.take_of_length_le (by rw [u64s_length]; omega)] at h2
  exact h2
theorem get_app {R T : List Value} {i : Nat} {v : Value} (h : R[i]? = some v) : (R ++ T)[i]? = some v := by
  rw [List.getElem?_append_left (List.getElem?_eq_some_iff.1 h).1]; exact h
theorem u64s_setr (ws : List Nat) (rest : List Value) (i v : Nat) (h : i < ws.length) : (u64s ws ++ rest).set i (.int .u64 (v : Int)) = u64s (ws.set i v) ++ rest := by
  rw [List.set_append_left _ _ (by rw [u64s_length]; exact h), ← u64s_set]

set_option maxRecDepth 100000 in
theorem clone_ok {hB : Heap} {q : Option Addr} {c : Nat} {ws : List Nat} (hr : rdO hB q (ws.length * 1) (u64s ws)) (h1 : 1 ≤ ws.length) (hl : ws.length < 1048577) {K : Value → Heap → Prop} {Kp : List PanicEntry → Heap → Prop}
    (hk : ∀ o rest h, Hp hB [] h [⟨o, true, T_uint64, u64s ws ++ rest⟩] → K (.slice (at0 o) ws.length (ws.length + rest.length)) h) : CP F_slices_Clone_uint64_uint64 #[.slice q ws.length c] hB K Kp := by
  refine call_slices_Clone_uint64_uint64 ?_
  unfold slices_Clone_uint64_uint64
  have H := Hp.nil hB []
  obtain ⟨a, ha, _⟩ := rdO_cell hr (u64s_get (getD_get (l := ws) (i := 0) h1))
  subst ha
  refine bcase_false (by rfl) ?_
  refine newC_hp H fun r h H => ?_
  refine appC_own H 0 (xs := []) (rest := []) rfl rfl rfl (H.rdO hr) (u64s_length ws) (u64s_cells ws) (by show (0 + ws.length) * 8 ≤ _; omega) fun o rest h H => ?_
  rw [List.nil_append, List.length_append, u64s_length, List.length_nil, Nat.zero_add]
  exact hk o rest h (H.as (by simp))

set_option maxRecDepth 100000 in
theorem newM_ok {hB : Heap} {w h' : Int} {K : Value → Heap → Prop} {Kp : List PanicEntry → Heap → Prop}
    (hg : ∀ (W X : Nat) p q h, w = (W : Nat) → h' = (X : Nat) → SizeP w h' → Hp hB [] h (mapL p q W X (List.replicate (X * wds W) 0) []) → K (.tuple #[.pointer (at0 p), .int .i64 0]) h)
    (hbad : ¬ SizeP w h' → K (.tuple #[.pointer none, .int .i64 20]) hB) : CP F_bitmap_New #[.int .i64 w, .int .i64 h'] hB K Kp := by
  refine call_bitmap_New ?_
  unfold bitmap_New
  have H := Hp.nil hB []
  refine sized_ok fun b hb => ?_
  refine ⟨_, rfl, ?_⟩
  refine bcase_not (fun h1 => ?_) fun h1 => ?_
  · exact hbad fun hs => by rw [hb.2 hs] at h1; cases h1
  obtain ⟨W, X, rfl, rfl, hW1, hW2, hX1, hX2, hWX⟩ := size_nat (hb.1 h1)
  have hhw := hw_le hW1 hWX
  refine bindI_of (((W + 63 : Nat) : Int)) (by exact i64_at _ _ (by omega) (by omega) (by omega)) ?_
  refine bindI_of (((wds W : Nat) : Int)) (by exact i64_at _ _ (tdiv_nat (W + 63) 64) (by unfold wds; omega) (by unfold wds; omega)) ?_
  obtain ⟨N, hN⟩ : ∃ N, N = X * wds W := ⟨_, rfl⟩
  refine bindI_of (((N : Nat) : Int)) (by exact i64_at _ _ (by rw [hN, Int.natCast_mul]) (by omega) (by omega)) ?_
  refine needs_of (by simp; omega) ?_
  simp only [Int.toNat_natCast, u64s_zero]
  refine newC_hp H fun q h H => ?_
  refine newC_hp H fun p h H => ?_
  refine hg W X p q _ rfl rfl (hb.1 h1) (H.pick [1, 0] (by decide) ?_)
  rw [hN]
  simp [mapL, mapE, u64s]

set_option maxRecDepth 100000 in
theorem from_ok {hB : Heap} {w h' : Int} {q : Option Addr} {c : Nat} {ws : List Nat} (hr : rdO hB q (ws.length * 1) (u64s ws)) (hw : W64 ws) (hl : ws.length < 140737488351300) {K : Value → Heap → Prop} {Kp : List PanicEntry → Heap → Prop}
    (hg : ∀ (W X : Nat) p q rest h, w = (W : Nat) → h' = (X : Nat) → MayP w h' ws → Hp hB [] h (mapL p q W X ws rest) → K (.tuple #[.pointer (at0 p), .int .i64 0]) h)
    (hbad : ∀ h, ¬ MayP w h' ws → hext hB h → K (.tuple #[.pointer none, .int .i64 21]) h) : CP F_bitmap_From #[.agg #[.int .i64 w, .int .i64 h', .slice q ws.length c]] hB K Kp := by
  refine call_bitmap_From ?_
  unfold bitmap_From
  have H := Hp.nil hB []
  refine newC_hp H fun r h H => ?_
  try simp only [ptr_some_eq, add_mk, Nat.zero_add, Nat.add_zero]
  refine ldI_of (H.cell 0 rfl rfl) ?_
  refine ldI_of (H.cell 0 rfl rfl) ?_
  refine ldS_of (H.cell 0 rfl rfl) ?_
  refine check_ok (H.rdO hr) hw hl fun b h2 hb e => ?_
  have H := H.ext e
  refine ⟨_, rfl, ?_⟩
  refine bcase_not (fun h1 => ?_) fun h1 => ?_
  · exact hbad _ (fun hs => by rw [hb.2 hs] at h1; cases h1) H.hext
  have hm := hb.1 h1
  obtain ⟨W, X, rfl, rfl, hW1, hW2, hX1, hX2, hWX⟩ := size_nat hm.1
  have hhw := hw_le hW1 hWX
  have hlen : ws.length = X * wds W := hm.2.1
  have hw1 := wds_pos hW1
  have hpos : 1 ≤ X * wds W := Nat.mul_pos hX1 hw1
  refine ldI_of (H.cell 0 rfl rfl) ?_
  refine ldI_of (H.cell 0 rfl rfl) ?_
  refine ldI_of (H.cell 0 rfl rfl) ?_
  refine bindI_of (((W + 63 : Nat) : Int)) (by exact i64_at _ _ (by omega) (by omega) (by omega)) ?_
  refine bindI_of (((wds W : Nat) : Int)) (by exact i64_at _ _ (tdiv_nat (W + 63) 64) (by unfold wds; omega) (by unfold wds; omega)) ?_
  refine ldS_of (H.cell 0 rfl rfl) ?_
  refine clone_ok (H.rdO hr) (by omega) (by omega) fun o rest h' H' => ?_
  refine ⟨_, _, _, rfl, H'.hext, ?_⟩
  replace H := H.join H' rfl
  refine newC_hp H fun p h H => ?_
  exact hg W X p o rest _ rfl rfl hm (H.pick [2, 1] (by decide) rfl)

set_option maxRecDepth 100000 in
theorem plain_ok {h0 h : Heap} {F : List Nat} {L : List Ent} (H : Hp h0 F h L) (kp kq : Nat) {p q W X : Nat} {w : Bool} {ws : List Nat} {rest : List Value} (hp : L[kp]? = some (mapE p q W X ws.length (ws.length + rest.length))) (hq : L[kq]? = some ⟨q, w, T_uint64, u64s ws ++ rest⟩)
    (h1 : 1 ≤ ws.length) (hl : ws.length < 1048577) {K : Value → Heap → Prop} {Kp : List PanicEntry → Heap → Prop}
    (hk : ∀ o orest h', Hp h0 F h' (L ++ [⟨o, true, T_uint64, u64s ws ++ orest⟩]) → K (.agg #[.int .i64 (W : Nat), .int .i64 (X : Nat), .slice (at0 o) ws.length (ws.length + orest.length)]) h') :
    CP F_bitmap_Map_Plain #[.pointer (at0 p)] h K Kp := by
  refine call_bitmap_Map_Plain ?_
  unfold bitmap_Map_Plain
  have hkp : kp < L.length := (List.getElem?_eq_some_iff.1 hp).1
  have hkq : kq < L.length := (List.getElem?_eq_some_iff.1 hq).1
  refine newC_hp H fun r h H => ?_
  have hp2 : (L ++ [(⟨r, true, T_api_Bitmap, [.int .i64 0, .int .i64 0, .slice none 0 0]⟩ : Ent)])[kp]? = some (mapE p q W X ws.length (ws.length + rest.length)) := by rw [List.getElem?_append_left hkp]; exact hp
  have hq2 : (L ++ [(⟨r, true, T_api_Bitmap, [.int .i64 0, .int .i64 0, .slice none 0 0]⟩ : Ent)])[kq]? = some ⟨q, w, T_uint64, u64s ws ++ rest⟩ := by rw [List.getElem?_append_left hkq]; exact hq
  try simp only [ptr_some_eq, add_mk, Nat.zero_add, Nat.add_zero]
  refine ldI_of (H.cell kp hp2 (i := 0) rfl) ?_
  refine ldI_of (H.cell kp hp2 (i := 1) rfl) ?_
  refine ldS_of (H.cell kp hp2 (i := 3) rfl) ?_
  refine clone_ok (row_rdO H kq hq2) h1 hl fun o orest h' H' => ?_
  refine ⟨_, _, _, rfl, H'.hext, ?_⟩
  have H := ((H.join H' rfl).swap).rot
  refine stV_hp H 0 rfl (by first | exact Nat.le_of_ble_eq_true rfl | simp) rfl fun h hsz H => ?_
  refine stV_hp H 0 rfl (by first | exact Nat.le_of_ble_eq_true rfl | simp) rfl fun h hsz H => ?_
  refine stV_hp H 0 rfl (by first | exact Nat.le_of_ble_eq_true rfl | simp) rfl fun h hsz H => ?_
  refine ldI_of (H.cell 0 rfl rfl) ?_
  refine ldI_of (H.cell 0 rfl rfl) ?_
  refine ldS_of (H.cell 0 rfl rfl) ?_
  exact hk o orest _ (H.suf (X := [⟨r, true, T_api_Bitmap, [.int .i64 (W : Nat), .int .i64 (X : Nat), .slice (at0 o) ws.length (ws.length + orest.length)]⟩]))

/-! ### going over words -/
/-- Rows that are done are as they shall be, and the row 'j' up to word 'i'. -/
def Inv (X wd : Nat) (F old : Nat → Nat → Bool) (D : Nat → Bool) (j i : Nat) (R : List Nat) : Prop :=
  R.length = X * wd ∧ W64 R ∧ ∀ y, y < X → ∀ x, x < 64 * wd → pix R wd x y = if D y = true ∨ y = j ∧ x / 64 < i then F x y else old x y
section
variable {X wd : Nat} {F old : Nat → Nat → Bool} {D : Nat → Bool} {j i : Nat} {R : List Nat}
theorem Inv.word (h : Inv X wd F old D j i R) (hD : D j = false) (hj : j < X) (hi : i < wd) {b : Nat} (hb : b < 64) : (R.getD (j * wd + i) 0).testBit b = old (64 * i + (63 - b)) j := by
  have := h.2.2 j hj (64 * i + (63 - b)) (by omega)
  rw [if_neg (by rw [hD]; simp; omega)] at this
  unfold pix at this
  rw [show (64 * i + (63 - b)) / 64 = i by omega, show 63 - (64 * i + (63 - b)) % 64 = b by omega] at this
  exact this
theorem Inv.step (h : Inv X wd F old D j i R) (hj : j < X) (hi : i < wd) {v : Nat} (hv : v < M64) (hb : ∀ b, b < 64 → v.testBit b = F (64 * i + (63 - b)) j) : Inv X wd F old D j (i + 1) (R.set (j * wd + i) v) := by
  obtain ⟨h1, h2, h3⟩ := h
  refine ⟨by rw [List.length_set]; exact h1, h2.set hv, fun y hy x hx => ?_⟩
  rw [pix_set h1 hi hj hx]
  by_cases h4 : y = j ∧ x / 64 = i
  · rw [if_pos h4, if_pos (.inr ⟨h4.1, by omega⟩), hb _ (by omega), h4.1]
    congr 1
    omega
  · rw [if_neg h4, h3 y hy x hx]
    have : (D y = true ∨ y = j ∧ x / 64 < i) ↔ (D y = true ∨ y = j ∧ x / 64 < i + 1) := by
      constructor
      · rintro (h5 | ⟨h5, h6⟩)
        · exact .inl h5
        · exact .inr ⟨h5, by omega⟩
      · rintro (h5 | ⟨h5, h6⟩)
        · exact .inl h5
        · exact .inr ⟨h5, by
            have : x / 64 ≠ i := fun e => h4 ⟨h5, e⟩
            omega⟩
    simp only [this]
theorem Inv.row (h : Inv X wd F old D j i R) (he : ∀ x, 64 * i ≤ x → x < 64 * wd → F x j = old x j) {D' : Nat → Bool} (hD : ∀ y, D' y = true ↔ D y = true ∨ y = j) {j' i' : Nat} (hs : ∀ x, x < 64 * i' → x < 64 * wd → F x j' = old x j') : Inv X wd F old D' j' i' R := by
  obtain ⟨h1, h2, h3⟩ := h
  refine ⟨h1, h2, fun y hy x hx => ?_⟩
  rw [h3 y hy x hx]
  by_cases h4 : D y = true
  · rw [if_pos (.inl h4), if_pos (.inl ((hD y).2 (.inl h4)))]
  by_cases h5 : y = j
  · rw [if_pos (.inl ((hD y).2 (.inr h5)) : D' y = true ∨ _)]
    by_cases h6 : x / 64 < i
    · rw [if_pos (.inr ⟨h5, h6⟩)]
    · rw [if_neg (by rintro (h7 | h7); exact h4 h7; exact h6 h7.2), h5]
      exact (he x (by omega) hx).symm
  · rw [if_neg (by rintro (h7 | h7); exact h4 h7; exact h5 h7.1)]
    by_cases h6 : y = j' ∧ x / 64 < i'
    · rw [if_pos (.inr h6), h6.1]
      exact (hs x (by omega) hx).symm
    · rw [if_neg]
      rintro (h7 | h7)
      · rcases (hD y).1 h7 with h8 | h8
        · exact h4 h8
        · exact h5 h8
      · exact h6 h7
end
theorem mul_cast {a b : Nat} : ((a : Int) * (b : Int)) = ((a * b : Nat) : Int) := (Int.natCast_mul a b).symm

end Go.Bm

/- BmD: maps: operations, Blit. -/
set_option linter.unusedVariables false
set_option linter.unusedSimpArgs false
namespace Go.Bm
open Go Go.Den Go.Den.Yteakipgcanafoaa

def opsV : List Value := [.func (.func F_bitmap_operations_c1) #[] #[], .func (.func F_bitmap_operations_c2) #[] #[], .func (.func F_bitmap_operations_c3) #[] #[], .func (.func F_bitmap_operations_c4) #[] #[], .func (.func F_bitmap_operations_c5) #[] #[]]
theorem operations_ok {hB : Heap} {K : Value → Heap → Prop} {Kp : List PanicEntry → Heap → Prop} (hk : ∀ o h, Hp hB [] h [⟨o, true, T_func_uint64_uint64_uint64, opsV⟩] → K (.slice (at0 o) 5 5) h) : CP F_bitmap_operations #[] hB K Kp := by
  refine call_bitmap_operations ?_
  unfold bitmap_operations
  have H := Hp.nil hB []
  refine newC_hp H fun o h H => ?_
  exact hk o _ H
theorem does_ok {h : Heap} {op d s : Nat} (hop : op < 5) (hd : d < M64) (hs : s < M64) {f : Value} (hf : opsV[op]? = some f) {K : Value → Heap → Prop} {Kp : List PanicEntry → Heap → Prop}
    (hk : ∀ v : Nat, v < M64 → (∀ b, b < 64 → v.testBit b = opB op (d.testBit b) (s.testBit b)) → K (.int .u64 (v : Nat)) h) : callD CP Kp f [.int .u64 (d : Nat), .int .u64 (s : Nat)] h K := by
  match op, hop with
  | 0, _ =>
    obtain rfl : _ = f := Option.some.inj hf
    refine call_bitmap_operations_c1 ?_
    unfold bitmap_operations_c1
    refine bindI_of _ (or64 _ _ hd hs) (hk _ (or_lt hd hs) fun b hb => ?_)
    rw [Nat.testBit_or]; rfl
  | 1, _ =>
    obtain rfl : _ = f := Option.some.inj hf
    refine call_bitmap_operations_c2 ?_
    unfold bitmap_operations_c2
    refine bindI_of _ (and64 _ _ hd hs) (hk _ (and_lt hd) fun b hb => ?_)
    rw [Nat.testBit_and]; rfl
  | 2, _ =>
    obtain rfl : _ = f := Option.some.inj hf
    refine call_bitmap_operations_c3 ?_
    unfold bitmap_operations_c3
    refine bindI_of _ (xor64 _ _ hd hs) (hk _ (xor_lt hd hs) fun b hb => ?_)
    rw [Nat.testBit_xor]; rfl
  | 3, _ =>
    obtain rfl : _ = f := Option.some.inj hf
    refine call_bitmap_operations_c4 ?_
    unfold bitmap_operations_c4
    refine bindI_of _ (xor64 _ _ hd hs) ?_
    have hm : IntKind.u64.max = ((18446744073709551615 : Nat) : Int) := by decide
    rw [hm]
    refine bindI_of _ (xor64 _ _ (by decide) (xor_lt hd hs)) (hk _ (xor_lt (by decide) (xor_lt hd hs)) fun b hb => ?_)
    rw [Nat.testBit_xor, Nat.testBit_xor, show 18446744073709551615 = 2 ^ 64 - 1 from rfl, Nat.testBit_two_pow_sub_one, decide_eq_true hb]
    show (true ^^ (d.testBit b ^^ s.testBit b)) = !(d.testBit b != s.testBit b)
    cases d.testBit b <;> cases s.testBit b <;> rfl
  | 4, _ =>
    obtain rfl : _ = f := Option.some.inj hf
    refine call_bitmap_operations_c5 ?_
    unfold bitmap_operations_c5
    exact hk _ hs fun b hb => rfl

theorem opB_cell {o op : Nat} {h : Heap} {FF : List Nat} {h0 : Heap} {L : List Ent} (H : Hp h0 FF h L) (k : Nat) {w : Bool} (hk : L[k]? = some ⟨o, w, T_func_uint64_uint64_uint64, opsV⟩) (hop : op < 5) : ∃ f, opsV[op]? = some f ∧ hcell h ⟨o, op, none⟩ = some f := by
  have : op < opsV.length := hop
  exact ⟨opsV[op], List.getElem?_eq_getElem this, H.cell k hk (List.getElem?_eq_getElem this)⟩
/-- A row of a map, as words. -/
def rowW (S : List Nat) (swd r : Nat) : List Nat := (S.drop (r * swd)).take swd
theorem rowW_len {S : List Nat} {swd r SX : Nat} (hl : S.length = SX * swd) (hr : r < SX) : (rowW S swd r).length = swd := by
  unfold rowW
  rw [List.length_take, List.length_drop, hl]
  have : (r + 1) * swd ≤ SX * swd := Nat.mul_le_mul_right _ hr
  rw [Nat.add_mul, Nat.one_mul] at this
  omega
theorem rowW_w {S : List Nat} (hw : W64 S) (swd r : Nat) : W64 (rowW S swd r) := fun v hv => hw v (List.mem_of_mem_drop (List.mem_of_mem_take hv))
theorem rowW_pix {S : List Nat} {swd r x : Nat} (hx : x < 64 * swd) : rowB (rowW S swd r) (x : Int) = pix S swd x r := by
  unfold rowB pix rowW
  rw [decide_eq_true (by omega), Bool.true_and, Int.toNat_natCast]
  congr 1
  rw [List.getD_eq_getElem?_getD, List.getD_eq_getElem?_getD, List.getElem?_take_of_lt (by omega), List.getElem?_drop]

set_option maxRecDepth 100000 in
set_option maxHeartbeats 1000000 in
theorem blit_ok {h0 h : Heap} {FF : List Nat} {p q W X p2 q2 W2 X2 : Nat} {ws ws2 : List Nat} {rest rest2 : List Value} (H : Hp h0 FF h (mapL p q W X ws rest ++ mapL p2 q2 W2 X2 ws2 rest2)) (hs : SizeP (W : Int) (X : Int)) (hl : ws.length = X * wds W) (hw : W64 ws)
    (hs2 : SizeP (W2 : Int) (X2 : Int)) (hl2 : ws2.length = X2 * wds W2) (hw2 : W64 ws2) {sx sy w g dx dy : Int} {op : Nat} (hsx : InI sx) (hsy : InI sy) (hwi : InI w) (hgi : InI g) (hdx : InI dx) (hdy : InI dy) (hw0 : 0 ≤ w) (hg0 : 0 ≤ g) (hop : op < 5)
    {K : Value → Heap → Prop} {Kp : List PanicEntry → Heap → Prop}
    (hk : ∀ R h', R.length = X * wds W → W64 R → (∀ Y, Y < X → ∀ x', x' < 64 * wds W → pix R (wds W) x' Y =
        if dx ≤ x' ∧ (x' : Int) < dx + w ∧ x' < W ∧ dy ≤ Y ∧ (Y : Int) < dy + g ∧ 0 ≤ sx + (x' - dx) ∧ sx + (x' - dx) < W2 ∧ 0 ≤ sy + (Y - dy) ∧ sy + (Y - dy) < X2 then opB op (pix ws (wds W) x' Y) (pix ws2 (wds W2) (sx + (x' - dx)).toNat (sy + (Y - dy)).toNat) else pix ws (wds W) x' Y) →
      Hp h0 FF h' (mapL p q W X R rest ++ mapL p2 q2 W2 X2 ws2 rest2) → K (.int .i64 0) h') :
    CP F_bitmap_Map_Blit #[.pointer (at0 p), .pointer (at0 p2), .int .i64 sx, .int .i64 sy, .int .i64 w, .int .i64 g, .int .i64 dx, .int .i64 dy, .int .i64 (op : Nat)] h K Kp := by
  refine call_bitmap_Map_Blit ?_
  unfold bitmap_Map_Blit
  obtain ⟨W', X', e1, e2, hW1, hW2, hX1, hX2, hWX⟩ := size_nat hs
  obtain rfl : W = W' := by omega
  obtain rfl : X = X' := by omega
  obtain ⟨W', X', e3, e4, hV1, hV2, hY1, hY2, hVY⟩ := size_nat hs2
  obtain rfl : W2 = W' := by omega
  obtain rfl : X2 = X' := by omega
  clear e1 e2 e3 e4
  have hhw := hw_le hW1 hWX
  have hwl := wds_le hW1
  have hhw2 := hw_le hV1 hVY
  have hwl2 := wds_le hV1
  have hwp2 := wds_pos hV1
  refine bcase_false (by rfl) ?_
  refine bcase_dec (fun h1 => by omega) fun h1 => ?_
  refine bcase_dec (fun h2 => by omega) fun h2 => ?_
  refine bcase_dec (fun h3 => by omega) fun h3 => ?_
  refine bcase_dec (fun h4 => by omega) fun h4 => ?_
  clear h1 h2 h3 h4
  try simp only [ptr_some_eq, add_mk, Nat.zero_add, Nat.add_zero]
  refine ldI_of (H.cell 2 rfl (i := 0) rfl) ?_
  refine ldI_of (H.cell 0 rfl rfl) ?_
  refine both_ok hsx hdx hwi (by omega) (by omega) fun f1 t1 l1 c1 => ?_
  refine ⟨_, _, _, rfl, ?_⟩
  refine ldI_of (H.cell 2 rfl (i := 1) rfl) ?_
  refine ldI_of (H.cell 0 rfl rfl) ?_
  refine both_ok hsy hdy hgi (by omega) (by omega) fun f2 t2 l2 c2 => ?_
  refine ⟨_, _, _, rfl, ?_⟩
  have none : (l1 = 0 ∨ l2 = 0) → K (.int .i64 0) h := fun hz => by
    refine hk ws _ hl hw (fun Y hY x' hx' => ?_) H
    rw [if_neg]
    rintro ⟨g1, g2, g3, g4, g5, g6, g7, g8, g9⟩
    rcases hz with hz | hz
    · rcases c1 with ⟨_, c1⟩ | c1
      · exact c1 (x' - dx) (by omega) (by omega) (by omega) (by omega) (by omega) (by omega)
      · omega
    · rcases c2 with ⟨_, c2⟩ | c2
      · exact c2 (Y - dy) (by omega) (by omega) (by omega) (by omega) (by omega) (by omega)
      · omega
  refine bcase_eq (fun h3 => none (.inl h3)) fun h3 => ?_
  refine bcase_eq (fun h4 => none (.inr h4)) fun h4 => ?_
  clear none
  obtain ⟨a1, a2, a3, a4, a5, a6, a7, a8, a9⟩ := c1.resolve_left (fun h => h3 h.1)
  obtain ⟨b1, b2, b3, b4, b5, b6, b7, b8, b9⟩ := c2.resolve_left (fun h => h4 h.1)
  clear c1 c2 h3 h4
  obtain ⟨fx, rfl⟩ : ∃ n : Nat, f1 = (n : Nat) := ⟨f1.toNat, by omega⟩
  obtain ⟨tx, rfl⟩ : ∃ n : Nat, t1 = (n : Nat) := ⟨t1.toNat, by omega⟩
  obtain ⟨wide, rfl⟩ : ∃ n : Nat, l1 = (n : Nat) := ⟨l1.toNat, by omega⟩
  obtain ⟨fy, rfl⟩ : ∃ n : Nat, f2 = (n : Nat) := ⟨f2.toNat, by omega⟩
  obtain ⟨ty, rfl⟩ : ∃ n : Nat, t2 = (n : Nat) := ⟨t2.toNat, by omega⟩
  obtain ⟨high, rfl⟩ : ∃ n : Nat, l2 = (n : Nat) := ⟨l2.toNat, by omega⟩
  refine operations_ok fun o h' H' => ?_
  replace H := H.join H' rfl
  clear H'
  refine ⟨_, _, _, rfl, ?_⟩
  refine needs_of (by omega) ?_
  obtain ⟨fv, hfv, hfc⟩ := opB_cell H 4 rfl hop
  simp only [ptr_some_eq, add_mk, Nat.zero_add, Int.toNat_natCast, Nat.mul_one]
  refine ldV_of hfc ?_
  refine ldI_of (H.cell 2 rfl (i := 2) rfl) ?_
  refine needs_of (by simp; omega) ?_
  simp only [Int.toNat_natCast, u64s_zero]
  refine newC_hp H fun rw h H => ?_
  -- what shall be
  let G : Nat → Nat → Bool := fun x' Y => if tx ≤ x' ∧ x' < tx + wide ∧ ty ≤ Y ∧ Y < ty + high then opB op (pix ws (wds W) x' Y) (pix ws2 (wds W2) (fx + (x' - tx)) (fy + (Y - ty))) else pix ws (wds W) x' Y
  have hG : ∀ x' Y, G x' Y = if tx ≤ x' ∧ x' < tx + wide ∧ ty ≤ Y ∧ Y < ty + high then opB op (pix ws (wds W) x' Y) (pix ws2 (wds W2) (fx + (x' - tx)) (fy + (Y - ty))) else pix ws (wds W) x' Y := fun _ _ => rfl
  have hlast : (tx + wide - 1) / 64 < wds W := by unfold wds; omega
  have hsrc : W2 ≤ 64 * wds W2 := by unfold wds; omega
  let D : Nat → Nat → Bool := fun n Y => if fy < ty then decide (ty + (high - n) ≤ Y ∧ Y < ty + high) else decide (ty ≤ Y ∧ Y < ty + n)
  have hD : ∀ n Y, D n Y = true ↔ (fy < ty ∧ ty + (high - n) ≤ Y ∧ Y < ty + high) ∨ (¬ fy < ty ∧ ty ≤ Y ∧ Y < ty + n) := fun n Y => by
    show (if fy < ty then _ else _) = true ↔ _
    by_cases h1 : fy < ty
    · rw [if_pos h1, decide_eq_true_eq]; omega
    · rw [if_neg h1, decide_eq_true_eq]; omega
  have hrw0 : W64 (List.replicate (wds W2) 0) := W64.zero _
  refine ⟨fun n vs h => ∃ (j J0 : Nat) (R rs : List Nat), j + n = high ∧ vs = [.int .i64 (j : Int)] ∧ rs.length = wds W2 ∧ Inv X (wds W) G (pix ws (wds W)) (D j) J0 (tx / 64) R ∧ J0 < X ∧
      Hp h0 FF h (mapL p q W X R rest ++ mapL p2 q2 W2 X2 ws2 rest2 ++ [⟨o, true, T_func_uint64_uint64_uint64, opsV⟩] ++ [⟨rw, true, T_uint64, u64s rs⟩]),
    ⟨high, 0, 0, ws, List.replicate (wds W2) 0, by omega, rfl, by simp, ⟨hl, hw, fun Y hY x' hx' => ?_⟩, by omega, H⟩, ?_⟩
  · by_cases h5 : D 0 Y = true ∨ Y = 0 ∧ x' / 64 < tx / 64
    · rw [if_pos h5, hG, if_neg]
      rcases h5 with h5 | h5
      · have := (hD 0 Y).1 h5; omega
      · omega
    · rw [if_neg h5]
  clear H hrw0
  rintro n h u xx ⟨j, J0, R, rs, hjn, hxx, hrs, hI, hJ0, H⟩
  injection hxx with hxx
  injection hxx with _ hxx
  subst hxx
  refine bcase_dec (fun h5 => ?_) fun h5 => ?_
  · have h5 : j < high := by omega
    -- the row that is gone over
    obtain ⟨jj, hjj⟩ : ∃ jj : Nat, jj = if fy < ty then high - 1 - j else j := ⟨_, rfl⟩
    have hjj2 : fy < ty ∧ jj + j + 1 = high ∨ ¬ fy < ty ∧ jj = j := by
      by_cases h1 : fy < ty
      · rw [if_pos h1] at hjj; left; omega
      · rw [if_neg h1] at hjj; right; exact ⟨h1, hjj⟩
    refine ⟨fun vs h' => h' = h ∧ vs = [.int .i64 (jj : Int)], ?_, ?_⟩
    · refine bcase_dec (fun h6 => ?_) fun h6 => ?_
      · refine bindI_of (((high - 1 : Nat) : Int)) (by exact i64_at _ _ (by omega) (by omega) (by omega)) ?_
        refine bindI_of (((jj : Nat) : Int)) (by exact i64_at _ _ (by omega) (by omega) (by omega)) ?_
        exact ⟨by first | rfl | trivial, rfl⟩
      · have : jj = j := by omega
        rw [this]
        exact ⟨by first | rfl | trivial, rfl⟩
    · rintro h' u' x39 ⟨rfl, hx39⟩
      injection hx39 with hx39
      injection hx39 with _ hx39
      subst hx39
      have hjh : jj < high := by omega
      have hsrow : fy + jj < X2 := by omega
      have hdrow : ty + jj < X := by omega
      have hrow2 : (fy + jj + 1) * wds W2 ≤ X2 * wds W2 := Nat.mul_le_mul_right _ (by omega)
      have hrow2' : (fy + jj + 1) * wds W2 = (fy + jj) * wds W2 + wds W2 := by rw [Nat.add_mul, Nat.one_mul]
      refine bindI_of (((fy + jj : Nat) : Int)) (by exact i64_at _ _ (by omega) (by omega) (by omega)) ?_
      try simp only [ptr_some_eq, add_mk, Nat.zero_add, Nat.add_zero]
      refine ldI_of (H.cell 2 rfl (i := 2) rfl) ?_
      refine bindI_of ((((fy + jj) * wds W2 : Nat) : Int)) (by exact i64_at _ _ mul_cast (by omega) (by omega)) ?_
      generalize hat : (fy + jj) * wds W2 = at_ at hrow2 hrow2' ⊢
      refine ldS_of (H.cell 2 rfl (i := 3) rfl) ?_
      refine ldI_of (H.cell 2 rfl (i := 2) rfl) ?_
      refine bindI_of (((at_ + wds W2 : Nat) : Int)) (by exact i64_at _ _ (by omega) (by omega) (by omega)) ?_
      refine ldI_of (H.cell 2 rfl (i := 2) rfl) ?_
      refine bindI_of (((at_ + wds W2 : Nat) : Int)) (by exact i64_at _ _ (by omega) (by omega) (by omega)) ?_
      refine needs_of (by omega) ?_
      refine needs_of (by omega) ?_
      refine needs_of (by omega) ?_
      simp only [Int.toNat_natCast]
      have hsub : subA (at0 q2) (at_ + wds W2) at_ 1 = some ⟨q2, at_, none⟩ := by
        unfold subA
        rw [if_neg (by omega)]
        show some ((⟨q2, 0, none⟩ : Addr).add (at_ * 1)) = _
        rw [add_mk]; simp
      rw [hsub]
      have hmin : Nat.min (at_ + wds W2 - at_) (wds W2) = wds W2 := by
        show min (at_ + wds W2 - at_) (wds W2) = _
        omega
      have hnew : ((u64s ws2 ++ rest2).drop at_).take (wds W2 * 1) = u64s (rowW ws2 (wds W2) (fy + jj)) := by
        unfold rowW
        rw [hat, Nat.mul_one, List.drop_append_of_le_length (by rw [u64s_length]; omega), List.take_append_of_le_length (by rw [List.length_drop, u64s_length]; omega)]
        unfold u64s
        rw [List.map_take, List.map_drop]
      have hrd := rdO_hp H 3 (o := at_) (n := wds W2 * 1) rfl (by rw [List.length_append, u64s_length]; omega)
      rw [hnew] at hrd
      have hrl := rowW_len hl2 hsrow
      refine ⟨_, by rw [hmin]; exact hrd, ?_⟩
      refine stVs_all H 5 rfl (by rw [u64s_length, u64s_length, hrl, hrs]) (u64s_cells _) fun h' hsz H => ?_
      have H : Hp h0 FF h' (mapL p q W X R rest ++ mapL p2 q2 W2 X2 ws2 rest2 ++ [⟨o, true, T_func_uint64_uint64_uint64, opsV⟩] ++ [⟨rw, true, T_uint64, u64s (rowW ws2 (wds W2) (fy + jj))⟩]) := H
      have hrwp := fun x (hx : x < 64 * wds W2) => rowW_pix (S := ws2) (swd := wds W2) (r := fy + jj) hx
      have hrww := rowW_w hw2 (wds W2) (fy + jj)
      generalize rowW ws2 (wds W2) (fy + jj) = rw2 at H hrl hrwp hrww
      have hDj : D j (ty + jj) = false := by
        rw [← Bool.not_eq_true, hD]; omega
      have hI2 : Inv X (wds W) G (pix ws (wds W)) (D j) (ty + jj) (tx / 64) R := by
        refine ⟨hI.1, hI.2.1, fun Y hY x' hx' => ?_⟩
        rw [hI.2.2 Y hY x' hx']
        have e : ∀ Y, x' / 64 < tx / 64 → G x' Y = pix ws (wds W) x' Y := fun Y h6 => by rw [hG, if_neg (by omega)]
        by_cases h6 : D j Y = true
        · rw [if_pos (.inl h6), if_pos (.inl h6)]
        · by_cases h7 : x' / 64 < tx / 64
          · have := e Y h7
            split <;> split <;> first | rfl | exact this | exact this.symm
          · rw [if_neg (by rintro (h8 | h8); exact h6 h8; exact h7 h8.2), if_neg (by rintro (h8 | h8); exact h6 h8; exact h7 h8.2)]
      clear hI
      refine bindI_of (((tx / 64 : Nat) : Int)) (by exact i64_at _ _ (tdiv_nat tx 64) (by omega) (by omega)) ?_
      refine ⟨fun n vs h => ∃ (i : Nat) (R : List Nat), i + n = (tx + wide - 1) / 64 + 1 ∧ tx / 64 ≤ i ∧ vs = [.int .i64 (i : Int)] ∧ Inv X (wds W) G (pix ws (wds W)) (D j) (ty + jj) i R ∧
          Hp h0 FF h (mapL p q W X R rest ++ mapL p2 q2 W2 X2 ws2 rest2 ++ [⟨o, true, T_func_uint64_uint64_uint64, opsV⟩] ++ [⟨rw, true, T_uint64, u64s rw2⟩]),
        ⟨(tx + wide - 1) / 64 + 1 - tx / 64, tx / 64, R, by omega, Nat.le_refl _, rfl, hI2, H⟩, ?_⟩
      clear H hI2
      rintro n2 h u2 xx ⟨i, R, hin, hi, hxx, hI, H⟩
      injection hxx with hxx
      injection hxx with _ hxx
      subst hxx
      refine bindI_of (((tx + wide : Nat) : Int)) (by exact i64_at _ _ (by omega) (by omega) (by omega)) ?_
      refine bindI_of (((tx + wide - 1 : Nat) : Int)) (by exact i64_at _ _ (by omega) (by omega) (by omega)) ?_
      refine bindI_of ((((tx + wide - 1) / 64 : Nat) : Int)) (by exact i64_at _ _ (tdiv_nat (tx + wide - 1) 64) (by omega) (by omega)) ?_
      refine bcase_dec (fun h6 => ?_) fun h6 => ?_
      · have h6 : i ≤ (tx + wide - 1) / 64 := by omega
        have hiw : i < wds W := by omega
        have hidx := idx_lt hiw hdrow
        have hjw : (ty + jj) * wds W ≤ X * wds W := Nat.mul_le_mul_right _ (by omega)
        have hRl := hI.1
        refine bindI_of (((ty + jj : Nat) : Int)) (by exact i64_at _ _ (by omega) (by omega) (by omega)) ?_
        refine ldS_of (H.cell 0 rfl rfl) ?_
        refine ldI_of (H.cell 0 rfl rfl) ?_
        refine bindI_of ((((ty + jj) * wds W : Nat) : Int)) (by exact i64_at _ _ mul_cast (by omega) (by omega)) ?_
        refine bindI_of ((((ty + jj) * wds W + i : Nat) : Int)) (by exact i64_at _ _ (by omega) (by omega) (by omega)) ?_
        refine needs_of (by omega) ?_
        try simp only [ptr_some_eq, add_mk, Nat.zero_add, Int.toNat_natCast, Nat.mul_one]
        refine mask_ok (by omega) (by omega) fun M hM hMb => ?_
        refine ⟨_, rfl, ?_⟩
        refine bindI_of (((64 * i : Nat) : Int)) (by exact i64_at _ _ (by omega) (by omega) (by omega)) ?_
        refine bindI_of (((fx + 64 * i : Nat) : Int)) (by exact i64_at _ _ (by omega) (by omega) (by omega)) ?_
        refine bindI_of ((((fx + 64 * i : Nat) : Int) - (tx : Nat))) (by exact i64_in _ (by omega) (by omega)) ?_
        have hcell := H.cell 1 rfl (get_app (u64s_get (getD_get (l := R) (i := (ty + jj) * wds W + i) (by omega))))
        have hv := hI.2.1.get ((ty + jj) * wds W + i)
        refine ldI_of hcell ?_
        refine bindI_of _ (andNot64 _ _ hv hM) ?_
        refine ldI_of hcell ?_
        have hrr := row_rdO (xs := rw2) (rest := []) H 5 (b := rw) (w := true) (t := T_uint64) (by rw [List.append_nil]; rfl)
        rw [← hrl]
        refine word_ok hrr hrww (by omega) (by omega) fun V hV hVb => ?_
        refine ⟨_, rfl, hext.refl _, ?_⟩
        refine does_ok hop hv hV hfv fun v hvv hvb => ?_
        refine ⟨_, rfl, hext.refl _, ?_⟩
        refine bindI_of _ (and64 _ _ hvv hM) ?_
        refine bindI_of _ (or64 _ _ (and_lt hv) (and_lt hvv)) ?_
        refine stV_hp H 1 rfl (by rw [List.length_append, u64s_length]; omega) rfl fun h hsz H => ?_
        rw [u64s_setr _ _ _ _ (by omega)] at H
        refine bindI_of (((i + 1 : Nat) : Int)) (by exact i64_at _ _ (by omega) (by omega) (by omega)) ?_
        refine ⟨n2 - 1, by omega, i + 1, _, by omega, by omega, rfl, hI.step hdrow hiw (v := R.getD ((ty + jj) * wds W + i) 0 &&& wnot M ||| v &&& M) (or_lt (and_lt hv) (and_lt hvv)) (fun b hb => ?_), H.as (by simp [mapL, mapE])⟩
        have hwb := hI.word hDj hdrow hiw hb
        rw [Nat.testBit_or, Nat.testBit_and, Nat.testBit_and, wnot_bit hM hb, hvb b hb, hMb b hb, hVb b hb, hwb, hG]
        by_cases h7 : tx ≤ 64 * i + (63 - b) ∧ 64 * i + (63 - b) < tx + wide
        · rw [decide_eq_true h7, if_pos ⟨h7.1, h7.2, by omega, by omega⟩]
          have e1 : ((fx + 64 * i : Nat) : Int) - (tx : Nat) + (63 - (b : Int)) = ((fx + (64 * i + (63 - b) - tx) : Nat) : Int) := by omega
          have e2 : ty + jj - ty = jj := by omega
          rw [e1, hrwp _ (by omega), e2]
          simp
        · rw [decide_eq_false h7, if_neg (fun h8 => h7 ⟨h8.1, h8.2.1⟩)]
          simp
      · have h6 : (tx + wide - 1) / 64 < i := by omega
        refine bindI_of (((j + 1 : Nat) : Int)) (by exact i64_at _ _ (by omega) (by omega) (by omega)) ?_
        refine ⟨n - 1, by omega, j + 1, ty + jj, R, rw2, by omega, rfl, hrl, hI.row (fun x' h7 h8 => ?_) (fun Y => ?_) (fun x' h7 h8 => ?_), hdrow, H⟩
        · rw [hG, if_neg (by omega)]
        · rw [hD, hD]; omega
        · rw [hG, if_neg (by omega)]
  · have h5 : j = high := by omega
    subst h5
    refine hk R _ hI.1 hI.2.1 (fun Y hY x' hx' => ?_) (H.pre.pre)
    rw [hI.2.2 Y hY x' hx']
    have e1 : (D j Y = true ∨ Y = J0 ∧ x' / 64 < tx / 64) → G x' Y = if tx ≤ x' ∧ x' < tx + wide ∧ ty ≤ Y ∧ Y < ty + j then opB op (pix ws (wds W) x' Y) (pix ws2 (wds W2) (fx + (x' - tx)) (fy + (Y - ty))) else pix ws (wds W) x' Y := fun _ => hG x' Y
    by_cases h6 : tx ≤ x' ∧ x' < tx + wide ∧ ty ≤ Y ∧ Y < ty + j
    · rw [if_pos (.inl ((hD j Y).2 (by omega))), hG, if_pos h6, if_pos (by omega)]
      congr 2 <;> omega
    · have hno : ¬ (dx ≤ x' ∧ (x' : Int) < dx + w ∧ x' < W ∧ dy ≤ Y ∧ (Y : Int) < dy + g ∧ 0 ≤ sx + (x' - dx) ∧ sx + (x' - dx) < W2 ∧ 0 ≤ sy + (Y - dy) ∧ sy + (Y - dy) < X2) := by
        rintro ⟨g1, g2, g3, g4, g5, g6, g7, g8, g9⟩
        have k1 := a9 (x' - dx) (by omega) (by omega) (by omega) (by omega) (by omega) (by omega)
        have k2 := b9 (Y - dy) (by omega) (by omega) (by omega) (by omega) (by omega) (by omega)
        exact h6 (by omega)
      rw [if_neg hno]
      split
      · rw [hG, if_neg h6]
      · rfl

end Go.Bm

/- BmE: the reference's bitmaps: White, Get, Put, Do, Lay, CopyBitmap, EqWords, EqBitmap. -/
set_option linter.unusedVariables false
set_option linter.unusedSimpArgs false
namespace Go.Bm
open Go Go.Den Go.Den.Yteakipgcanafoaa

set_option maxRecDepth 100000 in
theorem white_ok {hB : Heap} {W X : Nat} (hs : SizeP (W : Int) (X : Int)) {K : Value → Heap → Prop} {Kp : List PanicEntry → Heap → Prop}
    (hk : ∀ q h, Hp hB [] h [⟨q, true, T_uint64, u64s (List.replicate (X * wds W) 0)⟩] → K (.agg #[.int .i64 (W : Nat), .int .i64 (X : Nat), .slice (at0 q) (X * wds W) (X * wds W)]) h) :
    CP F_burinref0_White #[.int .i64 (W : Nat), .int .i64 (X : Nat)] hB K Kp := by
  refine call_burinref0_White ?_
  unfold burinref0_White
  obtain ⟨W', X', e1, e2, hW1, hW2, hX1, hX2, hWX⟩ := size_nat hs
  obtain rfl : W = W' := by omega
  obtain rfl : X = X' := by omega
  have hhw := hw_le hW1 hWX
  have H := Hp.nil hB []
  refine newC_hp H fun r h H => ?_
  refine words_ok (by omega) ?_
  refine ⟨_, rfl, ?_⟩
  obtain ⟨N, hN⟩ : ∃ N, N = X * wds W := ⟨_, rfl⟩
  refine bindI_of (((N : Nat) : Int)) (by exact i64_at _ _ (by rw [hN]; exact mul_cast) (by omega) (by omega)) ?_
  refine needs_of (by simp; omega) ?_
  simp only [Int.toNat_natCast, u64s_zero]
  refine newC_hp H fun q h H => ?_
  try simp only [ptr_some_eq, add_mk, Nat.zero_add, Nat.add_zero]
  refine stV_hp H 0 rfl (by first | exact Nat.le_of_ble_eq_true rfl | simp) rfl fun h hsz H => ?_
  refine stV_hp H 0 rfl (by first | exact Nat.le_of_ble_eq_true rfl | simp) rfl fun h hsz H => ?_
  refine stV_hp H 0 rfl (by first | exact Nat.le_of_ble_eq_true rfl | simp) rfl fun h hsz H => ?_
  refine ldI_of (H.cell 0 rfl rfl) ?_
  refine ldI_of (H.cell 0 rfl rfl) ?_
  refine ldS_of (H.cell 0 rfl rfl) ?_
  have := hk q _ (H.pick [1] (by decide) (L' := [⟨q, true, T_uint64, u64s (List.replicate (X * wds W) 0)⟩]) (by rw [← hN]; rfl))
  rw [hN]
  exact this

def getP (ws : List Nat) (W X : Nat) (x y : Int) : Bool := decide (0 ≤ x ∧ 0 ≤ y ∧ x < W ∧ y < X) && pix ws (wds W) x.toNat y.toNat
theorem div_lt_wds {W x : Nat} (h : x < W) : x / 64 < wds W := by unfold wds; omega
set_option maxRecDepth 100000 in
theorem get_ok {hB : Heap} {q : Option Addr} {c W X : Nat} {ws : List Nat} (hr : rdO hB q (ws.length * 1) (u64s ws)) (hw : W64 ws) (hs : SizeP (W : Int) (X : Int)) (hl : ws.length = X * wds W) {x y : Int} {K : Value → Heap → Prop} {Kp : List PanicEntry → Heap → Prop}
    (hk : ∀ h, hext hB h → K (.int .i64 ((getP ws W X x y).toNat : Nat)) h) : CP F_burinref0_Get #[.agg #[.int .i64 (W : Nat), .int .i64 (X : Nat), .slice q ws.length c], .int .i64 x, .int .i64 y] hB K Kp := by
  refine call_burinref0_Get ?_
  unfold burinref0_Get
  obtain ⟨W', X', e1, e2, hW1, hW2, hX1, hX2, hWX⟩ := size_nat hs
  obtain rfl : W = W' := by omega
  obtain rfl : X = X' := by omega
  have hhw := hw_le hW1 hWX
  have hwl := wds_le hW1
  have H := Hp.nil hB []
  refine newC_hp H fun r h H => ?_
  have no : ∀ h, Hp hB [] h [⟨r, true, T_api_Bitmap, [.int .i64 (W : Nat), .int .i64 (X : Nat), .slice q ws.length c]⟩] → ¬ (0 ≤ x ∧ 0 ≤ y ∧ x < W ∧ y < X) → K (.int .i64 0) h := fun h H hno => by
    have := hk h H.hext
    unfold getP at this
    rw [decide_eq_false hno] at this
    exact this
  refine bcase_dec (fun h1 => no _ H (by omega)) fun h1 => ?_
  refine bcase_dec (fun h2 => no _ H (by omega)) fun h2 => ?_
  try simp only [ptr_some_eq, add_mk, Nat.zero_add, Nat.add_zero]
  refine ldI_of (H.cell 0 rfl rfl) ?_
  refine bcase_dec (fun h3 => no _ H (by omega)) fun h3 => ?_
  refine ldI_of (H.cell 0 rfl rfl) ?_
  refine bcase_dec (fun h4 => no _ H (by omega)) fun h4 => ?_
  obtain ⟨a, rfl⟩ : ∃ a : Nat, x = (a : Nat) := ⟨x.toNat, by omega⟩
  obtain ⟨b, rfl⟩ : ∃ b : Nat, y = (b : Nat) := ⟨y.toNat, by omega⟩
  have haw := div_lt_wds (show a < W by omega)
  have hidx := idx_lt haw (show b < X by omega)
  have hbw : b * wds W ≤ X * wds W := Nat.mul_le_mul_right _ (by omega)
  have h64 := Nat.mod_lt a (show 64 > 0 by decide)
  refine bindI_of (((a / 64 : Nat) : Int)) (by exact i64_at _ _ (tdiv_nat a 64) (by omega) (by omega)) ?_
  refine bindI_of (((a % 64 : Nat) : Int)) (by exact tmod_nat a 64) ?_
  refine bindI_of (((63 - a % 64 : Nat) : Int)) (by exact i64_at _ _ (by omega) (by omega) (by omega)) ?_
  refine bindI_of (((63 - a % 64 : Nat) : Int)) (by exact u64_in _ (by omega) (by omega)) ?_
  refine ldS_of (H.cell 0 rfl rfl) ?_
  refine ldI_of (H.cell 0 rfl rfl) ?_
  refine words_ok (by omega) ?_
  refine ⟨_, rfl, hext.refl _, ?_⟩
  refine bindI_of (((b * wds W : Nat) : Int)) (by exact i64_at _ _ mul_cast (by omega) (by omega)) ?_
  refine bindI_of (((b * wds W + a / 64 : Nat) : Int)) (by exact i64_at _ _ (by omega) (by omega) (by omega)) ?_
  refine needs_of (by omega) ?_
  obtain ⟨ad, had, hc⟩ := rdO_cell (H.rdO hr) (u64s_get (getD_get (l := ws) (i := b * wds W + a / 64) (by omega)))
  subst had
  simp only [ptr_some_eq, Int.toNat_natCast, Nat.mul_one]
  refine ldI_of hc ?_
  refine needs_of (by omega) ?_
  have hv := hw.get (b * wds W + a / 64)
  have hres := hk _ H.hext
  unfold getP pix at hres
  rw [decide_eq_true (by omega), Bool.true_and, Int.toNat_natCast, Int.toNat_natCast] at hres
  generalize ws.getD (b * wds W + a / 64) 0 = v at hv hres ⊢
  refine bindI_of (((v / 2 ^ (63 - a % 64) : Nat) : Int)) (by exact shr_of (by show 63 - a % 64 ≤ 64; omega)) ?_
  have hlt := Nat.lt_of_le_of_lt (Nat.div_le_self v (2 ^ (63 - a % 64))) hv
  refine bindI_of (((v / 2 ^ (63 - a % 64) % 2 : Nat) : Int)) (by exact (and64 _ 1 hlt (by decide)).trans (by rw [Nat.and_one_is_mod])) ?_
  refine bindI_of (((v / 2 ^ (63 - a % 64) % 2 : Nat) : Int)) (by exact i64_in _ (by omega) (by omega)) ?_
  have e : v / 2 ^ (63 - a % 64) % 2 = (v.testBit (63 - a % 64)).toNat := (Nat.toNat_testBit v _).symm
  rw [e]
  exact hres

theorem pow_bit {j k : Nat} : (2 ^ j).testBit k = decide (j = k) := Nat.testBit_two_pow
set_option maxRecDepth 100000 in
theorem put_ok {h0 h : Heap} {FF : List Nat} {L : List Ent} {q c W X : Nat} {ws : List Nat} {rest : List Value} (H : Hp h0 FF h L) (kq : Nat) (hq : L[kq]? = some ⟨q, true, T_uint64, u64s ws ++ rest⟩) (hw : W64 ws) (hs : SizeP (W : Int) (X : Int)) (hl : ws.length = X * wds W) {a b : Nat} (ha : a < W) (hb : b < X) {bit : Bool}
    {K : Value → Heap → Prop} {Kp : List PanicEntry → Heap → Prop}
    (hk : ∀ R h', R.length = ws.length → W64 R → (∀ y, y < X → ∀ x, x < 64 * wds W → pix R (wds W) x y = if y = b ∧ x = a then bit else pix ws (wds W) x y) → Hp h0 FF h' (L.set kq ⟨q, true, T_uint64, u64s R ++ rest⟩) → K (.tuple #[]) h') :
    CP F_burinref0_Put #[.agg #[.int .i64 (W : Nat), .int .i64 (X : Nat), .slice (at0 q) ws.length c], .int .i64 (a : Nat), .int .i64 (b : Nat), .int .i64 (bit.toNat : Nat)] h K Kp := by
  refine call_burinref0_Put ?_
  unfold burinref0_Put
  obtain ⟨W', X', e1, e2, hW1, hW2, hX1, hX2, hWX⟩ := size_nat hs
  obtain rfl : W = W' := by omega
  obtain rfl : X = X' := by omega
  have hhw := hw_le hW1 hWX
  have hwl := wds_le hW1
  have hkl : kq < L.length := (List.getElem?_eq_some_iff.1 hq).1
  refine newC_hp H fun r h H => ?_
  have H := H.rot
  have hq1 : ∀ e : Ent, ([e] ++ L)[kq + 1]? = some ⟨q, true, T_uint64, u64s ws ++ rest⟩ := fun e => by rw [List.singleton_append, List.getElem?_cons_succ]; exact hq
  try simp only [ptr_some_eq, add_mk, Nat.zero_add, Nat.add_zero]
  refine ldI_of (H.cell 0 rfl rfl) ?_
  refine words_ok (by omega) ?_
  refine ⟨_, rfl, ?_⟩
  have haw := div_lt_wds ha
  have hidx := idx_lt haw hb
  have hbw : b * wds W ≤ X * wds W := Nat.mul_le_mul_right _ (by omega)
  have h64 := Nat.mod_lt a (show 64 > 0 by decide)
  refine bindI_of (((b * wds W : Nat) : Int)) (by exact i64_at _ _ mul_cast (by omega) (by omega)) ?_
  refine bindI_of (((a / 64 : Nat) : Int)) (by exact i64_at _ _ (tdiv_nat a 64) (by omega) (by omega)) ?_
  refine bindI_of (((b * wds W + a / 64 : Nat) : Int)) (by exact i64_at _ _ (by omega) (by omega) (by omega)) ?_
  refine bindI_of (((a % 64 : Nat) : Int)) (by exact tmod_nat a 64) ?_
  refine bindI_of (((63 - a % 64 : Nat) : Int)) (by exact i64_at _ _ (by omega) (by omega) (by omega)) ?_
  refine bindI_of (((63 - a % 64 : Nat) : Int)) (by exact u64_in _ (by omega) (by omega)) ?_
  refine needs_of (by omega) ?_
  have hp : 2 ^ (63 - a % 64) < M64 := by rw [M64_pow]; exact Nat.pow_lt_pow_right (by decide) (by omega)
  refine bindI_of (((2 ^ (63 - a % 64) : Nat) : Int)) (by exact shl_of (x := 1) (by show 63 - a % 64 ≤ 64; omega) (by rw [Nat.one_mul, u64_wrap, Nat.mod_eq_of_lt hp])) ?_
  refine ldS_of (H.cell 0 rfl rfl) ?_
  refine ldS_of (H.cell 0 rfl rfl) ?_
  refine needs_of (by omega) ?_
  try simp only [ptr_some_eq, add_mk, Nat.zero_add, Int.toNat_natCast, Nat.mul_one]
  have hv := hw.get (b * wds W + a / 64)
  refine ldI_of (H.cell (kq + 1) (hq1 _) (get_app (u64s_get (getD_get (l := ws) (i := b * wds W + a / 64) (by omega))))) ?_
  refine bindI_of _ (andNot64 _ _ hv hp) ?_
  refine needs_of (by omega) ?_
  try simp only [ptr_some_eq, add_mk, Nat.zero_add, Int.toNat_natCast, Nat.mul_one]
  refine stV_hp H (kq + 1) (hq1 _) (by rw [List.length_append, u64s_length]; omega) rfl fun h hsz H => ?_
  rw [u64s_setr _ _ _ _ (by omega), List.singleton_append, List.set_cons_succ] at H
  have fin : ∀ v : Nat, v < M64 → (∀ j, j < 64 → v.testBit j = if j = 63 - a % 64 then bit else (ws.getD (b * wds W + a / 64) 0).testBit j) → ∀ h', Hp h0 FF h' (⟨r, true, T_api_Bitmap, [.int .i64 (W : Nat), .int .i64 (X : Nat), .slice (at0 q) ws.length c]⟩ :: L.set kq ⟨q, true, T_uint64, u64s (ws.set (b * wds W + a / 64) v) ++ rest⟩) → K (.tuple #[]) h' := by
    intro v hvv hvb h' H
    refine hk _ h' (by rw [List.length_set]) (hw.set hvv) (fun y hy x hx => ?_) (Hp.suf (X := [_]) H)
    rw [pix_set hl haw hb hx]
    by_cases h1 : y = b ∧ x / 64 = a / 64
    · rw [if_pos h1, hvb _ (by omega)]
      by_cases h2 : x = a
      · subst h2
        rw [if_pos rfl, if_pos ⟨h1.1, rfl⟩]
      · rw [if_neg (by omega), if_neg (fun h => h2 h.2)]
        unfold pix
        rw [h1.1, h1.2]
    · rw [if_neg h1, if_neg]
      rintro ⟨h2, h3⟩
      exact h1 ⟨h2, by rw [h3]⟩
  have hbits : ∀ j, j < 64 → (ws.getD (b * wds W + a / 64) 0 &&& wnot (2 ^ (63 - a % 64))).testBit j = if j = 63 - a % 64 then false else (ws.getD (b * wds W + a / 64) 0).testBit j := fun j hj => by
    rw [Nat.testBit_and, wnot_bit hp hj, pow_bit]
    by_cases h1 : j = 63 - a % 64
    · rw [if_pos h1, decide_eq_true h1.symm]; simp
    · rw [if_neg h1, decide_eq_false (fun h => h1 h.symm)]; simp
  cases bit with
  | false =>
    refine bcase_false (by rfl) ?_
    exact fin _ (and_lt hv) hbits _ H
  | true =>
    refine bcase_true (by rfl) ?_
    refine ldS_of (H.cell 0 rfl rfl) ?_
    refine ldS_of (H.cell 0 rfl rfl) ?_
    refine needs_of (by omega) ?_
    try simp only [ptr_some_eq, add_mk, Nat.zero_add, Int.toNat_natCast, Nat.mul_one]
    have hq3 : ∀ (e : Ent) (R : List Nat), (e :: L.set kq ⟨q, true, T_uint64, u64s R ++ rest⟩)[kq + 1]? = some ⟨q, true, T_uint64, u64s R ++ rest⟩ := fun e R => by rw [List.getElem?_cons_succ, List.getElem?_set_self hkl]
    have hg : (ws.set (b * wds W + a / 64) (ws.getD (b * wds W + a / 64) 0 &&& wnot (2 ^ (63 - a % 64))))[b * wds W + a / 64]? = some (ws.getD (b * wds W + a / 64) 0 &&& wnot (2 ^ (63 - a % 64))) := List.getElem?_set_self (by omega)
    refine ldI_of (H.cell (kq + 1) (hq3 _ _) (get_app (u64s_get hg))) ?_
    refine bindI_of _ (or64 _ _ (and_lt hv) hp) ?_
    refine needs_of (by omega) ?_
    try simp only [ptr_some_eq, add_mk, Nat.zero_add, Int.toNat_natCast, Nat.mul_one]
    refine stV_hp H (kq + 1) (hq3 _ _) (by rw [List.length_append, u64s_length, List.length_set]; omega) rfl fun h hsz H => ?_
    rw [u64s_setr _ _ _ _ (by rw [List.length_set]; omega), List.set_set, List.set_cons_succ, List.set_set] at H
    refine fin _ (or_lt (and_lt hv) hp) (fun j hj => ?_) _ H
    rw [Nat.testBit_or, hbits j hj, pow_bit]
    by_cases h1 : j = 63 - a % 64
    · rw [if_pos h1, if_pos h1, decide_eq_true h1.symm]; simp
    · rw [if_neg h1, if_neg h1, decide_eq_false (fun h => h1 h.symm)]; simp

theorem do_ok {h : Heap} {op : Nat} (hop : op < 5) {d s : Bool} {K : Value → Heap → Prop} {Kp : List PanicEntry → Heap → Prop} (hk : K (.int .i64 ((opB op d s).toNat : Nat)) h) : CP F_burinref0_Do #[.int .i64 (op : Nat), .int .i64 (d.toNat : Nat), .int .i64 (s.toNat : Nat)] h K Kp := by
  refine call_burinref0_Do ?_
  unfold burinref0_Do
  have key : ∀ (x : Int) (b : Bool), x = ((b.toNat : Nat) : Int) → b = opB op d s → K (.int .i64 x) h := fun x b hx hb => by subst hb; rw [hx]; exact hk
  match op, hop with
  | 0, _ =>
    refine bcase_true (by rfl) ?_
    refine bindI_gen fun z e => ?_
    subst e
    refine key _ (d || s) ?_ rfl
    cases d <;> cases s <;> decide
  | 1, _ =>
    refine bcase_false (by rfl) ?_
    refine bcase_true (by rfl) ?_
    refine bindI_gen fun z e => ?_
    subst e
    refine key _ (d && s) ?_ rfl
    cases d <;> cases s <;> decide
  | 2, _ =>
    refine bcase_false (by rfl) ?_
    refine bcase_false (by rfl) ?_
    refine bcase_true (by rfl) ?_
    refine bindI_gen fun z e => ?_
    subst e
    refine key _ (d != s) ?_ rfl
    cases d <;> cases s <;> decide
  | 3, _ =>
    refine bcase_false (by rfl) ?_
    refine bcase_false (by rfl) ?_
    refine bcase_false (by rfl) ?_
    refine bcase_true (by rfl) ?_
    refine bindI_gen fun z e => ?_
    subst e
    refine bindI_gen fun z e => ?_
    subst e
    refine key _ (!(d != s)) ?_ rfl
    cases d <;> cases s <;> decide
  | 4, _ =>
    refine bcase_false (by rfl) ?_
    refine bcase_false (by rfl) ?_
    refine bcase_false (by rfl) ?_
    refine bcase_false (by rfl) ?_
    exact key _ s rfl rfl

theorem eqW_ok {h : Heap} {a b : Option Addr} {ac bc : Nat} {xs ys : List Nat} (ha : rdO h a (xs.length * 1) (u64s xs)) (hb : rdO h b (ys.length * 1) (u64s ys)) (hlen : xs.length < 140737488351300)
    {K : Value → Heap → Prop} {Kp : List PanicEntry → Heap → Prop} (hk : K (.bool (decide (xs = ys))) h) : CP F_burinref0_EqWords #[.slice a xs.length ac, .slice b ys.length bc] h K Kp := by
  refine call_burinref0_EqWords ?_
  unfold burinref0_EqWords
  refine bcase_ne (fun h1 => ?_) fun h1 => ?_
  · rw [decide_eq_false (fun e => h1 (by rw [e]))] at hk
    exact hk
  have h1 : xs.length = ys.length := by omega
  refine ⟨fun n vs h' => ∃ i : Nat, i + n = xs.length ∧ vs = [.int .i64 (i : Int)] ∧ h' = h ∧ ∀ j, j < i → xs[j]? = ys[j]?, ⟨xs.length, 0, by omega, rfl, rfl, fun j hj => by omega⟩, ?_⟩
  rintro n h' u x ⟨i, hin, hx, rfl, he⟩
  injection hx with hx
  injection hx with _ hx
  subst hx
  refine bcase_dec (fun h2 => ?_) fun h2 => ?_
  · have h2 : i < xs.length := by omega
    refine needs_of (by omega) ?_
    obtain ⟨p, hp, hc⟩ := rdO_cell ha (u64s_get (getD_get h2))
    obtain ⟨p2, hp2, hc2⟩ := rdO_cell hb (u64s_get (getD_get (show i < ys.length by omega)))
    subst hp hp2
    simp only [ptr_some_eq, Int.toNat_natCast, Nat.mul_one]
    refine needs_of (by omega) ?_
    refine ldI_of hc ?_
    refine ldI_of hc2 ?_
    refine bcase_ne (fun h3 => ?_) fun h3 => ?_
    · rw [decide_eq_false (fun e => h3 (by rw [e]))] at hk
      exact hk
    · refine bindI_of (((i + 1 : Nat) : Int)) (by exact i64_at _ _ (by omega) (by omega) (by omega)) ?_
      refine ⟨n - 1, by omega, i + 1, by omega, rfl, by first | rfl | trivial, fun j hj => ?_⟩
      rcases Nat.lt_or_ge j i with h4 | h4
      · exact he j h4
      · have : j = i := by omega
        subst this
        rw [getD_get h2, getD_get (show j < ys.length by omega)]
        congr 1
        omega
  · have : xs = ys := by
      apply List.ext_getElem?
      intro j
      rcases Nat.lt_or_ge j i with h4 | h4
      · exact he j h4
      · rw [List.getElem?_eq_none (by omega), List.getElem?_eq_none (by omega)]
    rw [decide_eq_true this] at hk
    exact hk
set_option maxRecDepth 100000 in
theorem eqB_ok {hB : Heap} {a b : Option Addr} {ac bc : Nat} {w g w' g' : Int} {xs ys : List Nat} (ha : rdO hB a (xs.length * 1) (u64s xs)) (hb : rdO hB b (ys.length * 1) (u64s ys)) (hlen : xs.length < 140737488351300)
    {K : Value → Heap → Prop} {Kp : List PanicEntry → Heap → Prop} (hk : ∀ h, hext hB h → K (.bool (decide (w = w' ∧ g = g' ∧ xs = ys))) h) : CP F_burinref0_EqBitmap #[.agg #[.int .i64 w, .int .i64 g, .slice a xs.length ac], .agg #[.int .i64 w', .int .i64 g', .slice b ys.length bc]] hB K Kp := by
  refine call_burinref0_EqBitmap ?_
  unfold burinref0_EqBitmap
  have H := Hp.nil hB []
  refine newC_hp H fun r h H => ?_
  refine newC_hp H fun r2 h H => ?_
  try simp only [ptr_some_eq, add_mk, Nat.zero_add, Nat.add_zero]
  refine ldI_of (H.cell 0 rfl rfl) ?_
  refine ldI_of (H.cell 1 rfl rfl) ?_
  have hk := hk _ H.hext
  refine bcase_eq (fun h1 => ?_) fun h1 => ?_
  · refine ldI_of (H.cell 0 rfl rfl) ?_
    refine ldI_of (H.cell 1 rfl rfl) ?_
    refine bcase_eq (fun h2 => ?_) fun h2 => ?_
    · refine ldS_of (H.cell 0 rfl rfl) ?_
      refine ldS_of (H.cell 1 rfl rfl) ?_
      refine eqW_ok (H.rdO ha) (H.rdO hb) hlen ?_
      refine ⟨_, rfl, ?_⟩
      have e : decide (xs = ys) = decide (w = w' ∧ g = g' ∧ xs = ys) := by rw [decide_eq_decide]; simp [h1, h2]
      rw [e]
      exact hk
    · rw [decide_eq_false (fun e => h2 e.2.1)] at hk
      exact hk
  · rw [decide_eq_false (fun e => h1 e.1)] at hk
    exact hk

/-! ### Lay -/
set_option maxRecDepth 100000 in
set_option maxHeartbeats 1000000 in
theorem lay_ok {h0 h : Heap} {FF : List Nat} {L : List Ent} {q c W X : Nat} {ws : List Nat} {rest : List Value} (H : Hp h0 FF h L) (kq : Nat) (hq : L[kq]? = some ⟨q, true, T_uint64, u64s ws ++ rest⟩) (hs : SizeP (W : Int) (X : Int)) (hl : ws.length = X * wds W) (hw : W64 ws)
    {q2 : Option Addr} {c2 W2 X2 : Nat} {ws2 : List Nat} (hr2 : ∀ h' R, Hp h0 FF h' (L.set kq ⟨q, true, T_uint64, u64s R ++ rest⟩) → rdO h' q2 (ws2.length * 1) (u64s ws2)) (hs2 : SizeP (W2 : Int) (X2 : Int)) (hl2 : ws2.length = X2 * wds W2) (hw2 : W64 ws2)
    {x y : Int} (hx : InI x) (hy : InI y) {op : Nat} (hop : op < 5) {K : Value → Heap → Prop} {Kp : List PanicEntry → Heap → Prop}
    (hk : ∀ R h', R.length = X * wds W → W64 R → (∀ Y, Y < X → ∀ x', x' < 64 * wds W → pix R (wds W) x' Y =
        if x ≤ x' ∧ (x' : Int) < x + W2 ∧ x' < W ∧ y ≤ Y ∧ (Y : Int) < y + X2 then opB op (pix ws (wds W) x' Y) (pix ws2 (wds W2) (x' - x).toNat (Y - y).toNat) else pix ws (wds W) x' Y) →
      Hp h0 FF h' (L.set kq ⟨q, true, T_uint64, u64s R ++ rest⟩) → K (.tuple #[]) h') :
    CP F_burinref0_Lay #[.agg #[.int .i64 (W : Nat), .int .i64 (X : Nat), .slice (at0 q) ws.length c], .int .i64 x, .int .i64 y, .int .i64 (op : Nat), .agg #[.int .i64 (W2 : Nat), .int .i64 (X2 : Nat), .slice q2 ws2.length c2]] h K Kp := by
  refine call_burinref0_Lay ?_
  unfold burinref0_Lay
  obtain ⟨W', X', e1, e2, hW1, hW2, hX1, hX2, hWX⟩ := size_nat hs
  obtain rfl : W = W' := by omega
  obtain rfl : X = X' := by omega
  obtain ⟨W', X', e3, e4, hV1, hV2, hY1, hY2, hVY⟩ := size_nat hs2
  obtain rfl : W2 = W' := by omega
  obtain rfl : X2 = X' := by omega
  clear e1 e2 e3 e4
  unfold InI at hx hy
  have hkl : kq < L.length := (List.getElem?_eq_some_iff.1 hq).1
  have hset : L.set kq ⟨q, true, T_uint64, u64s ws ++ rest⟩ = L := by
    apply List.ext_getElem?
    intro j
    by_cases hj : kq = j
    · subst hj; rw [List.getElem?_set_self hkl, hq]
    · rw [List.getElem?_set_ne hj]
  have done : ∀ h T, (x ≥ W ∨ y ≥ X ∨ x ≤ -(W2 : Int) ∨ y ≤ -(X2 : Int)) → Hp h0 FF h (L ++ T) → K (.tuple #[]) h := fun h T hz H => by
    refine hk ws h hl hw (fun Y hY x' hx' => ?_) (H.pre.as hset.symm)
    rw [if_neg (by omega)]
  refine newC_hp H fun r h H => ?_
  refine newC_hp H fun r2 h H => ?_
  rw [List.append_assoc] at H
  have hT0 : ∀ (A B : Ent) (h : Heap), Hp h0 FF h (L ++ ([A] ++ [B])) → Hp h0 FF h ([A] ++ [B] ++ L) := fun _ _ _ H => H.rot
  have HR := hT0 _ _ _ H
  try simp only [ptr_some_eq, add_mk, Nat.zero_add, Nat.add_zero]
  refine ldI_of (HR.cell 0 rfl rfl) ?_
  refine bcase_dec (fun h1 => done _ _ (.inl h1) H) fun h1 => ?_
  refine ldI_of (HR.cell 0 rfl rfl) ?_
  refine bcase_dec (fun h2 => done _ _ (.inr (.inl h2)) H) fun h2 => ?_
  refine ldI_of (HR.cell 1 rfl rfl) ?_
  refine bindI_of ((-(W2 : Int))) (by exact i64_at _ _ (by omega) (by omega) (by omega)) ?_
  refine bcase_dec (fun h3 => done _ _ (.inr (.inr (.inl h3))) H) fun h3 => ?_
  refine ldI_of (HR.cell 1 rfl rfl) ?_
  refine bindI_of ((-(X2 : Int))) (by exact i64_at _ _ (by omega) (by omega) (by omega)) ?_
  refine bcase_dec (fun h4 => done _ _ (.inr (.inr (.inr h4))) H) fun h4 => ?_
  clear done H hT0
  let G : Nat → Nat → Bool := fun x' Y => if x ≤ x' ∧ (x' : Int) < x + W2 ∧ x' < W ∧ y ≤ Y ∧ (Y : Int) < y + X2 then opB op (pix ws (wds W) x' Y) (pix ws2 (wds W2) (x' - x).toNat (Y - y).toNat) else pix ws (wds W) x' Y
  have hG : ∀ x' Y : Nat, G x' Y = if x ≤ x' ∧ (x' : Int) < x + W2 ∧ x' < W ∧ y ≤ Y ∧ (Y : Int) < y + X2 then opB op (pix ws (wds W) x' Y) (pix ws2 (wds W2) (x' - x).toNat (Y - y).toNat) else pix ws (wds W) x' Y := fun _ _ => rfl
  let TT : List Ent := [⟨r, true, T_api_Bitmap, [.int .i64 (W : Nat), .int .i64 (X : Nat), .slice (at0 q) ws.length c]⟩, ⟨r2, true, T_api_Bitmap, [.int .i64 (W2 : Nat), .int .i64 (X2 : Nat), .slice q2 ws2.length c2]⟩]
  have hTT : TT = [⟨r, true, T_api_Bitmap, [.int .i64 (W : Nat), .int .i64 (X : Nat), .slice (at0 q) ws.length c]⟩, ⟨r2, true, T_api_Bitmap, [.int .i64 (W2 : Nat), .int .i64 (X2 : Nat), .slice q2 ws2.length c2]⟩] := rfl
  -- the state: rows done, and 'i' pixels of row 'j'
  let St : Nat → Nat → Heap → List Nat → Prop := fun j i h R => R.length = X * wds W ∧ W64 R ∧ (∀ Y, Y < X → ∀ x', x' < 64 * wds W → pix R (wds W) x' Y = if (Y : Int) - y < j ∨ (Y : Int) - y = j ∧ (x' : Int) - x < i then G x' Y else pix ws (wds W) x' Y) ∧
    Hp h0 FF h (TT ++ L.set kq ⟨q, true, T_uint64, u64s R ++ rest⟩)
  have hSt : ∀ j i h R, St j i h R ↔ R.length = X * wds W ∧ W64 R ∧ (∀ Y, Y < X → ∀ x', x' < 64 * wds W → pix R (wds W) x' Y = if (Y : Int) - y < j ∨ (Y : Int) - y = j ∧ (x' : Int) - x < i then G x' Y else pix ws (wds W) x' Y) ∧
    Hp h0 FF h (TT ++ L.set kq ⟨q, true, T_uint64, u64s R ++ rest⟩) := fun _ _ _ _ => Iff.rfl
  refine ⟨fun n vs h => ∃ (j : Nat) (R : List Nat), j + n = X2 ∧ vs = [.int .i64 (j : Int)] ∧ St j 0 h R, ⟨X2, 0, ws, by omega, rfl, (hSt _ _ _ _).2 ⟨hl, hw, fun Y hY x' hx' => ?_, HR.as (by rw [hset, hTT]; rfl)⟩⟩, ?_⟩
  · split
    · rw [hG, if_neg (by omega)]
    · rfl
  clear HR
  rintro n h u xx ⟨j, R, hjn, hxx, hst⟩
  injection hxx with hxx
  injection hxx with _ hxx
  subst hxx
  have H := ((hSt _ _ _ _).1 hst).2.2.2
  refine ldI_of (H.cell 1 rfl (i := 1) rfl) ?_
  refine bcase_dec (fun h5 => ?_) fun h5 => ?_
  · have h5 : j < X2 := by omega
    refine ⟨fun n vs h => ∃ (i : Nat) (R : List Nat), i + n = W2 ∧ vs = [.int .i64 (i : Int)] ∧ St j i h R, ⟨W2, 0, R, by omega, rfl, hst⟩, ?_⟩
    clear H hst
    rintro n2 h u2 xx ⟨i, R, hin, hxx, hst⟩
    injection hxx with hxx
    injection hxx with _ hxx
    subst hxx
    have H := ((hSt _ _ _ _).1 hst).2.2.2
    refine ldI_of (H.cell 1 rfl (i := 0) rfl) ?_
    refine bcase_dec (fun h6 => ?_) fun h6 => ?_
    · have h6 : i < W2 := by omega
      refine ⟨fun vs h' => h' = h ∧ vs = [.bool (decide (0 ≤ x + i ∧ x + i < W ∧ 0 ≤ y + j ∧ y + j < X))], ?_, ?_⟩
      · have no : ¬ (0 ≤ x + i ∧ x + i < W ∧ 0 ≤ y + j ∧ y + j < X) → (h = h ∧ [Value.bool false] = [.bool (decide (0 ≤ x + i ∧ x + i < W ∧ 0 ≤ y + j ∧ y + j < X))]) := fun hn => ⟨rfl, by rw [decide_eq_false hn]⟩
        refine bindI_of ((x + i)) (by exact i64_in _ (by omega) (by omega)) ?_
        refine bcase_dec (fun k1 => ?_) fun k1 => no (by omega)
        refine bindI_of ((x + i)) (by exact i64_in _ (by omega) (by omega)) ?_
        refine ldI_of (H.cell 0 rfl (i := 0) rfl) ?_
        refine bcase_dec (fun k2 => ?_) fun k2 => no (by omega)
        refine bindI_of ((y + j)) (by exact i64_in _ (by omega) (by omega)) ?_
        refine bcase_dec (fun k3 => ?_) fun k3 => no (by omega)
        refine bindI_of ((y + j)) (by exact i64_in _ (by omega) (by omega)) ?_
        refine ldI_of (H.cell 0 rfl (i := 1) rfl) ?_
        refine ⟨by first | rfl | trivial, ?_⟩
        congr 2
        rw [decide_eq_decide]
        omega
      · rintro h' u' xb ⟨rfl, hxb⟩
        injection hxb with hxb
        injection hxb with hxb
        subst hxb
        obtain ⟨g1, g2, g3, _⟩ := (hSt _ _ _ _).1 hst
        refine bcase_dec (fun h7 => ?_) fun h7 => ?_
        · obtain ⟨a, ha⟩ : ∃ a : Nat, x + i = (a : Nat) := ⟨(x + i).toNat, by omega⟩
          obtain ⟨b, hb⟩ : ∃ b : Nat, y + j = (b : Nat) := ⟨(y + j).toNat, by omega⟩
          refine bindI_of (((a : Nat) : Int)) (by rw [ha]; exact i64_in _ (by omega) (by omega)) ?_
          refine bindI_of (((b : Nat) : Int)) (by rw [hb]; exact i64_in _ (by omega) (by omega)) ?_
          refine bindI_of (((a : Nat) : Int)) (by rw [ha]; exact i64_in _ (by omega) (by omega)) ?_
          refine bindI_of (((b : Nat) : Int)) (by rw [hb]; exact i64_in _ (by omega) (by omega)) ?_
          refine ldI_of (H.cell 0 rfl (i := 0) rfl) ?_
          refine ldI_of (H.cell 0 rfl (i := 1) rfl) ?_
          refine ldS_of (H.cell 0 rfl (i := 2) rfl) ?_
          refine ldI_of (H.cell 0 rfl (i := 0) rfl) ?_
          refine ldI_of (H.cell 0 rfl (i := 1) rfl) ?_
          refine ldS_of (H.cell 0 rfl (i := 2) rfl) ?_
          refine ldI_of (H.cell 1 rfl (i := 0) rfl) ?_
          refine ldI_of (H.cell 1 rfl (i := 1) rfl) ?_
          refine ldS_of (H.cell 1 rfl (i := 2) rfl) ?_
          have hqR : ∀ {T : List Ent}, T.length = 2 → (T ++ L.set kq ⟨q, true, T_uint64, u64s R ++ rest⟩)[2 + kq]? = some ⟨q, true, T_uint64, u64s R ++ rest⟩ := fun {T} hT => by
            rw [List.getElem?_append_right (by omega), hT, Nat.add_sub_cancel_left, List.getElem?_set_self hkl]
          have hlen : ws.length = R.length := by omega
          rw [hlen]
          refine get_ok (row_rdO H (2 + kq) (hqR rfl)) g2 hs g1 fun h2 e2 => ?_
          refine ⟨_, rfl, e2, ?_⟩
          have H2 := H.ext e2
          refine get_ok (hr2 _ R (Hp.suf (X := TT) H2)) hw2 hs2 hl2 fun h3 e3 => ?_
          refine ⟨_, rfl, e3, ?_⟩
          have H3 := H2.ext e3
          refine do_ok hop ?_
          refine ⟨_, rfl, hext.refl _, ?_⟩
          refine put_ok H3 (2 + kq) (hqR rfl) g2 hs g1 (by omega) (by omega) fun R' h' k1 k2 k3 H' => ?_
          have H' : Hp h0 FF h' (TT ++ L.set kq ⟨q, true, T_uint64, u64s R' ++ rest⟩) := H'.as (by
            rw [List.set_append_right _ _ (by show 2 ≤ 2 + kq; omega)]
            show TT ++ (L.set kq _).set (2 + kq - 2) _ = _
            rw [Nat.add_sub_cancel_left, List.set_set])
          refine bindI_of (((i + 1 : Nat) : Int)) (by exact i64_at _ _ (by omega) (by omega) (by omega)) ?_
          refine ⟨n2 - 1, by omega, i + 1, R', by omega, rfl, (hSt _ _ _ _).2 ⟨by omega, k2, fun Y hY x' hx' => ?_, H'⟩⟩
          rw [k3 Y hY x' hx']
          by_cases h8 : Y = b ∧ x' = a
          · obtain ⟨rfl, rfl⟩ := h8
            rw [if_pos ⟨rfl, rfl⟩, if_pos (by omega), hG, if_pos (by omega)]
            have e1 : getP R W X (x' : Int) (Y : Int) = pix ws (wds W) x' Y := by
              unfold getP
              rw [decide_eq_true (by omega), Bool.true_and, Int.toNat_natCast, Int.toNat_natCast, g3 Y hY x' hx', if_neg (by omega)]
            have e2 : getP ws2 W2 X2 (i : Int) (j : Int) = pix ws2 (wds W2) (x' - x).toNat (Y - y).toNat := by
              unfold getP
              rw [decide_eq_true (by omega), Bool.true_and]
              congr 1 <;> omega
            rw [e1, e2]
          · rw [if_neg h8, g3 Y hY x' hx']
            have : ((Y : Int) - y < j ∨ (Y : Int) - y = j ∧ (x' : Int) - x < i) ↔ ((Y : Int) - y < j ∨ (Y : Int) - y = j ∧ (x' : Int) - x < ((i + 1 : Nat) : Int)) := by omega
            simp only [this]
        · refine bindI_of (((i + 1 : Nat) : Int)) (by exact i64_at _ _ (by omega) (by omega) (by omega)) ?_
          refine ⟨n2 - 1, by omega, i + 1, R, by omega, rfl, (hSt _ _ _ _).2 ⟨g1, g2, fun Y hY x' hx' => ?_, H⟩⟩
          rw [g3 Y hY x' hx']
          by_cases h8 : (Y : Int) - y = j ∧ (x' : Int) - x = i
          · rw [if_neg (by omega), if_pos (by omega), hG, if_neg (by omega)]
          · have : ((Y : Int) - y < j ∨ (Y : Int) - y = j ∧ (x' : Int) - x < i) ↔ ((Y : Int) - y < j ∨ (Y : Int) - y = j ∧ (x' : Int) - x < ((i + 1 : Nat) : Int)) := by omega
            simp only [this]
    · have h6 : i = W2 := by omega
      subst h6
      obtain ⟨g1, g2, g3, _⟩ := (hSt _ _ _ _).1 hst
      refine bindI_of (((j + 1 : Nat) : Int)) (by exact i64_at _ _ (by omega) (by omega) (by omega)) ?_
      refine ⟨n - 1, by omega, j + 1, R, by omega, rfl, (hSt _ _ _ _).2 ⟨g1, g2, fun Y hY x' hx' => ?_, H⟩⟩
      rw [g3 Y hY x' hx']
      by_cases h7 : (Y : Int) - y < j
      · rw [if_pos (.inl h7), if_pos (.inl (by omega))]
      · by_cases h8 : (Y : Int) - y = j
        · rw [if_pos (show _ ∨ _ from .inl (by omega) : (Y : Int) - y < ((j + 1 : Nat) : Int) ∨ (Y : Int) - y = ((j + 1 : Nat) : Int) ∧ (x' : Int) - x < ((0 : Nat) : Int))]
          split
          · rfl
          · rw [hG, if_neg (by omega)]
        · rw [if_neg (by omega)]
          split
          · rw [hG, if_neg (by omega)]
          · rfl
  · have h5 : j = X2 := by omega
    subst h5
    obtain ⟨g1, g2, g3, _⟩ := (hSt _ _ _ _).1 hst
    refine hk R h g1 g2 (fun Y hY x' hx' => ?_) (Hp.suf (X := TT) H)
    rw [g3 Y hY x' hx', ← hG]
    split
    · rfl
    · rw [hG, if_neg (by omega)]

end Go.Bm

/- RfA: the program's bitmaps pixel by pixel: Size, Get, Set. -/
set_option linter.unusedVariables false
set_option linter.unusedSimpArgs false
namespace Go.Bm
open Go Go.Den Go.Den.Yteakipgcanafoaa

section
variable {h0 h : Heap} {FF : List Nat} {L : List Ent} {p q c W X : Nat} {w : Bool} {ws : List Nat} {rest : List Value} {K : Value → Heap → Prop} {Kp : List PanicEntry → Heap → Prop}

theorem ptr_of {a : Addr} {K : Addr → Prop} (h : K a) : ptr (some a) K := h
theorem Hp.cellA (H : Hp h0 FF h L) (k : Nat) {b i : Nat} {w : Bool} {t : TypeId} {cs : List Value} {v : Value} (he : L[k]? = some ⟨b, w, t, cs⟩) (hv : cs[i]? = some v) : hcell h ((⟨b, 0, none⟩ : Addr).add i) = some v := by
  rw [add_mk, Nat.zero_add]
  exact H.cell k he hv
theorem msize_ok (H : Hp h0 FF h L) (kp : Nat) (hp : L[kp]? = some (mapE p q W X ws.length c)) (hk : K (.tuple #[.int .i64 (W : Nat), .int .i64 (X : Nat)]) h) : CP F_bitmap_Map_Size #[.pointer (at0 p)] h K Kp := by
  refine call_bitmap_Map_Size ?_
  unfold bitmap_Map_Size
  try simp only [ptr_some_eq, add_mk, Nat.zero_add, Nat.add_zero]
  refine ldI_of (H.cell kp hp (i := 0) rfl) ?_
  refine ldI_of (H.cell kp hp (i := 1) rfl) ?_
  exact hk

theorem minside_ok (H : Hp h0 FF h L) (kp : Nat) (hp : L[kp]? = some (mapE p q W X ws.length c)) {x y : Int} (hk : ∀ b : Bool, (b = true ↔ 0 ≤ x ∧ x < W ∧ 0 ≤ y ∧ y < X) → K (.bool b) h) : CP F_bitmap_Map_inside #[.pointer (at0 p), .int .i64 x, .int .i64 y] h K Kp := by
  refine call_bitmap_Map_inside ?_
  unfold bitmap_Map_inside
  try simp only [ptr_some_eq, add_mk, Nat.zero_add, Nat.add_zero]
  refine bcase_dec (fun h1 => ?_) fun h1 => hk false (by simp; omega)
  refine ldI_of (H.cell kp hp (i := 0) rfl) ?_
  refine bcase_dec (fun h2 => ?_) fun h2 => hk false (by simp; omega)
  refine bcase_dec (fun h3 => ?_) fun h3 => hk false (by simp; omega)
  refine ldI_of (H.cell kp hp (i := 1) rfl) ?_
  exact hk _ (by simp; omega)

set_option maxRecDepth 100000 in
theorem mget_ok (H : Hp h0 FF h L) (kp kq : Nat) (hp : L[kp]? = some (mapE p q W X ws.length c)) (hq : L[kq]? = some ⟨q, w, T_uint64, u64s ws ++ rest⟩) (hs : SizeP (W : Int) (X : Int)) (hl : ws.length = X * wds W) (hw : W64 ws) {x y : Int}
    (hk : K (.int .i64 ((getP ws W X x y).toNat : Nat)) h) : CP F_bitmap_Map_Get #[.pointer (at0 p), .int .i64 x, .int .i64 y] h K Kp := by
  refine call_bitmap_Map_Get ?_
  unfold bitmap_Map_Get
  obtain ⟨W', X', e1, e2, hW1, hW2, hX1, hX2, hWX⟩ := size_nat hs
  obtain rfl : W = W' := by omega
  obtain rfl : X = X' := by omega
  have hhw := hw_le hW1 hWX
  have hwl := wds_le hW1
  refine minside_ok H kp hp fun b hb => ?_
  refine ⟨_, rfl, ?_⟩
  refine bcase_not (fun h1 => ?_) fun h1 => ?_
  · have hno : ¬ (0 ≤ x ∧ 0 ≤ y ∧ x < W ∧ y < X) := fun h2 => by rw [hb.2 ⟨h2.1, h2.2.2.1, h2.2.1, h2.2.2.2⟩] at h1; cases h1
    unfold getP at hk
    rw [decide_eq_false hno] at hk
    exact hk
  have hin := hb.1 h1
  obtain ⟨a, rfl⟩ : ∃ a : Nat, x = (a : Nat) := ⟨x.toNat, by omega⟩
  obtain ⟨b, rfl⟩ : ∃ b : Nat, y = (b : Nat) := ⟨y.toNat, by omega⟩
  have haw := div_lt_wds (show a < W by omega)
  have hidx := idx_lt haw (show b < X by omega)
  have hbw : b * wds W ≤ X * wds W := Nat.mul_le_mul_right _ (by omega)
  have h64 := Nat.mod_lt a (show 64 > 0 by decide)
  refine ptr_of (a := ⟨p, 0, none⟩) (ptr_of (a := ⟨p, 0, none⟩) ?_)
  refine bindI_of (((a / 64 : Nat) : Int)) (by exact i64_at _ _ (tdiv_nat a 64) (by omega) (by omega)) ?_
  refine bindI_of (((a % 64 : Nat) : Int)) (by exact tmod_nat a 64) ?_
  refine bindI_of (((63 - a % 64 : Nat) : Int)) (by exact i64_at _ _ (by omega) (by omega) (by omega)) ?_
  refine ldS_of (Hp.cellA H kp hp (i := 3) rfl) ?_
  refine ldI_of (Hp.cellA H kp hp (i := 2) rfl) ?_
  refine bindI_of (((b * wds W : Nat) : Int)) (by exact i64_at _ _ mul_cast (by omega) (by omega)) ?_
  refine bindI_of (((b * wds W + a / 64 : Nat) : Int)) (by exact i64_at _ _ (by omega) (by omega) (by omega)) ?_
  refine needs_of (by omega) ?_
  refine ptr_of (a := ⟨q, 0, none⟩) ?_
  rw [Int.toNat_natCast, Nat.mul_one]
  refine ldI_of (Hp.cellA H kq hq (get_app (u64s_get (getD_get (l := ws) (i := b * wds W + a / 64) (by omega))))) ?_
  refine needs_of (by omega) ?_
  have hv := hw.get (b * wds W + a / 64)
  have hres := hk
  unfold getP pix at hres
  rw [decide_eq_true (by omega), Bool.true_and, Int.toNat_natCast, Int.toNat_natCast] at hres
  generalize ws.getD (b * wds W + a / 64) 0 = v at hv hres ⊢
  refine bindI_of (((v / 2 ^ (63 - a % 64) : Nat) : Int)) (by exact shr_of (by show 63 - a % 64 ≤ 64; omega)) ?_
  have hlt := Nat.lt_of_le_of_lt (Nat.div_le_self v (2 ^ (63 - a % 64))) hv
  refine bindI_of (((v / 2 ^ (63 - a % 64) % 2 : Nat) : Int)) (by exact (and64 _ 1 hlt (by decide)).trans (by rw [Nat.and_one_is_mod])) ?_
  refine bindI_of (((v / 2 ^ (63 - a % 64) % 2 : Nat) : Int)) (by exact i64_in _ (by omega) (by omega)) ?_
  have e : v / 2 ^ (63 - a % 64) % 2 = (v.testBit (63 - a % 64)).toNat := (Nat.toNat_testBit v _).symm
  rw [e]
  exact hres

set_option maxRecDepth 100000 in
theorem mput_ok (H : Hp h0 FF h L) (kp kq : Nat) (hp : L[kp]? = some (mapE p q W X ws.length c)) (hq : L[kq]? = some ⟨q, true, T_uint64, u64s ws ++ rest⟩) (hs : SizeP (W : Int) (X : Int)) (hl : ws.length = X * wds W) (hw : W64 ws) {a b : Nat} (ha : a < W) (hb : b < X) {bit : Bool}
    (hk : ∀ R h', R.length = ws.length → W64 R → (∀ y, y < X → ∀ x, x < 64 * wds W → pix R (wds W) x y = if y = b ∧ x = a then bit else pix ws (wds W) x y) → Hp h0 FF h' (L.set kq ⟨q, true, T_uint64, u64s R ++ rest⟩) → K (.tuple #[]) h') :
    CP F_bitmap_Map_put #[.pointer (at0 p), .int .i64 (a : Nat), .int .i64 (b : Nat), .int .i64 (bit.toNat : Nat)] h K Kp := by
  refine call_bitmap_Map_put ?_
  unfold bitmap_Map_put
  obtain ⟨W', X', e1, e2, hW1, hW2, hX1, hX2, hWX⟩ := size_nat hs
  obtain rfl : W = W' := by omega
  obtain rfl : X = X' := by omega
  have hhw := hw_le hW1 hWX
  have hwl := wds_le hW1
  have haw := div_lt_wds ha
  have hidx := idx_lt haw hb
  have hbw : b * wds W ≤ X * wds W := Nat.mul_le_mul_right _ (by omega)
  have h64 := Nat.mod_lt a (show 64 > 0 by decide)
  have hbit : bit.toNat ≤ 1 := by cases bit <;> decide
  refine ptr_of (a := ⟨p, 0, none⟩) (ptr_of (a := ⟨p, 0, none⟩) ?_)
  refine bindI_of (((a / 64 : Nat) : Int)) (by exact i64_at _ _ (tdiv_nat a 64) (by omega) (by omega)) ?_
  refine ldS_of (Hp.cellA H kp hp (i := 3) rfl) ?_
  refine ldI_of (Hp.cellA H kp hp (i := 2) rfl) ?_
  refine bindI_of (((b * wds W : Nat) : Int)) (by exact i64_at _ _ mul_cast (by omega) (by omega)) ?_
  refine bindI_of (((b * wds W + a / 64 : Nat) : Int)) (by exact i64_at _ _ (by omega) (by omega) (by omega)) ?_
  refine needs_of (by omega) ?_
  refine ptr_of (a := ⟨q, 0, none⟩) ?_
  rw [Int.toNat_natCast, Nat.mul_one]
  refine bindI_of (((a % 64 : Nat) : Int)) (by exact tmod_nat a 64) ?_
  refine bindI_of (((63 - a % 64 : Nat) : Int)) (by exact i64_at _ _ (by omega) (by omega) (by omega)) ?_
  refine needs_of (by omega) ?_
  have hp2 : 2 ^ (63 - a % 64) < M64 := by rw [M64_pow]; exact Nat.pow_lt_pow_right (by decide) (by omega)
  refine bindI_of (((2 ^ (63 - a % 64) : Nat) : Int)) (by exact shl_of (x := 1) (by show 63 - a % 64 ≤ 64; omega) (by rw [Nat.one_mul, u64_wrap, Nat.mod_eq_of_lt hp2])) ?_
  refine bindI_of (((bit.toNat : Nat) : Int)) (by exact u64_in _ (by omega) (by omega)) ?_
  refine bindI_of (((a % 64 : Nat) : Int)) (by exact tmod_nat a 64) ?_
  refine bindI_of (((63 - a % 64 : Nat) : Int)) (by exact i64_at _ _ (by omega) (by omega) (by omega)) ?_
  refine needs_of (by omega) ?_
  have hb2 : bit.toNat * 2 ^ (63 - a % 64) < M64 := by cases bit <;> simp <;> first | exact hp2 | decide
  refine bindI_of (((bit.toNat * 2 ^ (63 - a % 64) : Nat) : Int)) (by exact shl_of (x := bit.toNat) (by show 63 - a % 64 ≤ 64; omega) (by rw [u64_wrap, Nat.mod_eq_of_lt hb2])) ?_
  have hv := hw.get (b * wds W + a / 64)
  refine ldI_of (Hp.cellA H kq hq (get_app (u64s_get (getD_get (l := ws) (i := b * wds W + a / 64) (by omega))))) ?_
  refine bindI_of _ (andNot64 _ _ hv hp2) ?_
  refine bindI_of _ (or64 _ _ (and_lt hv) hb2) ?_
  rw [add_mk, Nat.zero_add]
  refine stV_hp H kq hq (by rw [List.length_append, u64s_length]; omega) rfl fun h hsz H => ?_
  rw [u64s_setr _ _ _ _ (by omega)] at H
  refine hk _ h (by rw [List.length_set]) (hw.set (or_lt (and_lt hv) hb2)) (fun y hy x hx => ?_) H
  rw [pix_set hl haw hb hx]
  by_cases h1 : y = b ∧ x / 64 = a / 64
  · rw [if_pos h1, Nat.testBit_or, Nat.testBit_and, wnot_bit hp2 (by omega), pow_bit]
    have hbb : (bit.toNat * 2 ^ (63 - a % 64)).testBit (63 - x % 64) = (bit && decide (63 - a % 64 = 63 - x % 64)) := by
      cases bit
      · simp
      · show (1 * 2 ^ (63 - a % 64)).testBit _ = _
        rw [Nat.one_mul, pow_bit, Bool.true_and]
    rw [hbb]
    by_cases h2 : x = a
    · subst h2
      rw [if_pos ⟨h1.1, rfl⟩]
      simp
    · rw [if_neg (fun h => h2 h.2), decide_eq_false (show ¬ 63 - a % 64 = 63 - x % 64 by omega)]
      unfold pix
      rw [h1.1, h1.2]
      simp
  · rw [if_neg h1, if_neg]
    rintro ⟨h2, h3⟩
    exact h1 ⟨h2, by rw [h3]⟩

theorem mset_ok (H : Hp h0 FF h L) (kp kq : Nat) (hp : L[kp]? = some (mapE p q W X ws.length c)) (hq : L[kq]? = some ⟨q, true, T_uint64, u64s ws ++ rest⟩) (hs : SizeP (W : Int) (X : Int)) (hl : ws.length = X * wds W) (hw : W64 ws) {a b : Nat} (ha : a < W) (hb : b < X) {bit : Bool}
    (hk : ∀ R h', R.length = ws.length → W64 R → (∀ y, y < X → ∀ x, x < 64 * wds W → pix R (wds W) x y = if y = b ∧ x = a then bit else pix ws (wds W) x y) → Hp h0 FF h' (L.set kq ⟨q, true, T_uint64, u64s R ++ rest⟩) → K (.int .i64 0) h') :
    CP F_bitmap_Map_Set #[.pointer (at0 p), .int .i64 (a : Nat), .int .i64 (b : Nat), .int .i64 (bit.toNat : Nat)] h K Kp := by
  refine call_bitmap_Map_Set ?_
  unfold bitmap_Map_Set
  refine minside_ok H kp hp fun bb hbb => ?_
  refine ⟨_, rfl, ?_⟩
  refine bcase_not (fun h1 => by rw [hbb.2 (by omega)] at h1; cases h1) fun h1 => ?_
  refine bcase_ne (fun h2 => ?_) fun h2 => ?_
  · refine bcase_ne (fun h3 => absurd h3 (by cases bit <;> simp_all)) fun h3 => ?_
    exact mput_ok H kp kq hp hq hs hl hw ha hb hk
  · exact mput_ok H kp kq hp hq hs hl hw ha hb hk
end

end Go.Bm

/- Au: cells and stores of known rows, named by the offsets that the program reckons. -/
set_option linter.unusedVariables false
set_option linter.unusedSimpArgs false
namespace Go.Den
open Go
section
variable {h0 h : Heap} {FF : List Nat} {L : List Ent}
theorem hpA (H : Hp h0 FF h L) (k : Nat) {b o i : Nat} {w : Bool} {t : TypeId} {cs : List Value} {v : Value} (he : L[k]? = some ⟨b, w, t, cs⟩) (hv : cs[o + i]? = some v) : hcell h ((⟨b, o, none⟩ : Addr).add i) = some v := by
  rw [add_mk]
  exact H.cell k he hv
theorem hpB (H : Hp h0 FF h L) (k : Nat) {b o i j : Nat} {w : Bool} {t : TypeId} {cs : List Value} {v : Value} (he : L[k]? = some ⟨b, w, t, cs⟩) (hv : cs[o + i + j]? = some v) : hcell h (((⟨b, o, none⟩ : Addr).add i).add j) = some v := by
  rw [add_mk, add_mk]
  exact H.cell k he hv
theorem hpC (H : Hp h0 FF h L) (k : Nat) {b o i j l : Nat} {w : Bool} {t : TypeId} {cs : List Value} {v : Value} (he : L[k]? = some ⟨b, w, t, cs⟩) (hv : cs[o + i + j + l]? = some v) : hcell h ((((⟨b, o, none⟩ : Addr).add i).add j).add l) = some v := by
  rw [add_mk, add_mk, add_mk]
  exact H.cell k he hv
theorem stA (H : Hp h0 FF h L) (k : Nat) {b o i : Nat} {t : TypeId} {cs : List Value} {v : Value} {K : Heap → Prop} (he : L[k]? = some ⟨b, true, t, cs⟩) (hi : Nat.ble (o + i + 1) cs.length = true) (hv : v.oneCell' = true)
    (hk : ∀ h', Hp h0 FF h' (L.set k ⟨b, true, t, cs.set (o + i) v⟩) → K h') : stV h ((⟨b, o, none⟩ : Addr).add i) v K := by
  rw [add_mk]
  exact stV_hp H k he (Nat.le_of_ble_eq_true hi) hv fun h' _ H' => hk h' H'
theorem stB (H : Hp h0 FF h L) (k : Nat) {b o i j : Nat} {t : TypeId} {cs : List Value} {v : Value} {K : Heap → Prop} (he : L[k]? = some ⟨b, true, t, cs⟩) (hi : Nat.ble (o + i + j + 1) cs.length = true) (hv : v.oneCell' = true)
    (hk : ∀ h', Hp h0 FF h' (L.set k ⟨b, true, t, cs.set (o + i + j) v⟩) → K h') : stV h (((⟨b, o, none⟩ : Addr).add i).add j) v K := by
  rw [add_mk, add_mk]
  exact stV_hp H k he (Nat.le_of_ble_eq_true hi) hv fun h' _ H' => hk h' H'
theorem st0 (H : Hp h0 FF h L) (k : Nat) {b i : Nat} {t : TypeId} {cs : List Value} {v : Value} {K : Heap → Prop} (he : L[k]? = some ⟨b, true, t, cs⟩) (hi : Nat.ble (i + 1) cs.length = true) (hv : v.oneCell' = true)
    (hk : ∀ h', Hp h0 FF h' (L.set k ⟨b, true, t, cs.set i v⟩) → K h') : stV h ⟨b, i, none⟩ v K :=
  stV_hp H k he (Nat.le_of_ble_eq_true hi) hv fun h' _ H' => hk h' H'
/-- A whole row is written over. -/
theorem stVsA (H : Hp h0 FF h L) (k : Nat) {b : Nat} {t : TypeId} {cs vs : List Value} {K : Heap → Prop} (he : L[k]? = some ⟨b, true, t, cs⟩) (hl : Nat.beq vs.length cs.length = true) (hv : vs.all Value.oneCell' = true)
    (hk : ∀ h', Hp h0 FF h' (L.set k ⟨b, true, t, vs⟩) → K h') : stVs h ⟨b, 0, none⟩ 0 vs K := by
  have hl' : vs.length = cs.length := Nat.eq_of_beq_eq_true hl
  refine stVs_hp (o := 0) (i := 0) H he (by omega) (fun v hm => List.all_eq_true.1 hv v hm) fun h' _ H' => hk h' ?_
  have e : cs.take (0 + 0) ++ vs ++ cs.drop (0 + 0 + vs.length) = vs := by
    rw [Nat.add_zero, Nat.zero_add, List.take_zero, List.nil_append, hl', List.drop_length, List.append_nil]
  rw [e] at H'
  exact H'
end
end Go.Den

/- Written by gen.py: the conditions of the functions of whole. -/
set_option linter.unusedVariables false
set_option linter.unusedSimpArgs false
namespace Go.Den.Yteakipgcanafoaa
open Go Go.Den

/- burin/whole.Encode -/
set_option maxRecDepth 100000 in
def whole_Encode (C : CallP) (l : Option Addr) (ln : Nat) (lc : Nat) (h : Heap) (K : Value → Heap → Prop) (Kp : List PanicEntry → Heap → Prop) : Prop :=
∃ J_1 : Nat → List Value → Heap → Prop, (∃ n_3, J_1 n_3 [.int .i64 0] h) ∧ ∀ (n_3 : Nat) (h_4 : Heap) (u_5 : Nat → Value) (x_6 : Int), J_1 n_3 [.int .i64 x_6] h_4 → (
bcase (decide (x_6 < (ln : Int))) (
needs (0 ≤ x_6 ∧ x_6 < (ln : Int)) <|
ptr l fun a_7 =>
ldI h_4 ((a_7.add (x_6.toNat * 2)).add 0) .i64 fun x_8 =>
ldB h_4 ((a_7.add (x_6.toNat * 2)).add 1) fun x_9 =>
newC h_4 [.int .i64 0, .bool false] T_api_Whole fun r_10 h_11 =>
stV h_11 ((⟨r_10, 0, none⟩ : Addr).add 0) (.int .i64 x_8) fun h_12 =>
stV h_12 ((⟨r_10, 0, none⟩ : Addr).add 1) (.bool x_9) fun h_13 =>
ldI h_13 ((⟨r_10, 0, none⟩ : Addr).add 0) .i64 fun x_14 =>
ldB h_13 ((⟨r_10, 0, none⟩ : Addr).add 1) fun x_15 =>
C F_whole_right #[.agg #[.int .i64 x_14, .bool x_15]] h_13 (fun v_16 h_17 =>
∃ (r_18 : Bool), v_16 = .bool r_18 ∧ (
bcase (!r_18) (
K (.tuple #[.slice none 0 0, .int .i64 50]) h_17) <|
bindI (IntKind.i64.wrap (x_6 + (1 : Int))) fun z_19 =>
∃ m_2, m_2 < n_3 ∧ J_1 m_2 [.int .i64 z_19] h_17)) (Kp)) <|
C F_arith_New #[.int .i64 512] h_4 (fun v_20 h_21 =>
∃ (r_22 : Option Addr), ∃ (r_23 : Int), v_20 = .tuple #[.pointer r_22, .int .i64 r_23] ∧ (
bcase (r_23 != (0 : Int)) (
K (.tuple #[.slice none 0 0, .int .i64 r_23]) h_21) <|
∃ J_24 : Nat → List Value → Heap → Prop, (∃ n_26, J_24 n_26 [.int .i64 0] h_21) ∧ ∀ (n_26 : Nat) (h_27 : Heap) (u_28 : Nat → Value) (x_29 : Int), J_24 n_26 [.int .i64 x_29] h_27 → (
bcase (decide (x_29 < (ln : Int))) (
needs (0 ≤ x_29 ∧ x_29 < (ln : Int)) <|
ptr l fun a_30 =>
ldI h_27 ((a_30.add (x_29.toNat * 2)).add 0) .i64 fun x_31 =>
ldB h_27 ((a_30.add (x_29.toNat * 2)).add 1) fun x_32 =>
newC h_27 [.int .i64 0, .bool false] T_api_Whole fun r_33 h_34 =>
stV h_34 ((⟨r_33, 0, none⟩ : Addr).add 0) (.int .i64 x_31) fun h_35 =>
stV h_35 ((⟨r_33, 0, none⟩ : Addr).add 1) (.bool x_32) fun h_36 =>
ldI h_36 ((⟨r_33, 0, none⟩ : Addr).add 0) .i64 fun x_37 =>
ldB h_36 ((⟨r_33, 0, none⟩ : Addr).add 1) fun x_38 =>
C F_whole_Put #[.pointer r_22, .int .i64 0, .agg #[.int .i64 x_37, .bool x_38]] h_36 (fun v_39 h_40 =>
∃ (r_41 : Int), v_39 = .int .i64 r_41 ∧ (
bcase (r_41 != (0 : Int)) (
K (.tuple #[.slice none 0 0, .int .i64 r_41]) h_40) <|
bindI (IntKind.i64.wrap (x_29 + (1 : Int))) fun z_42 =>
∃ m_25, m_25 < n_26 ∧ J_24 m_25 [.int .i64 z_42] h_40)) (Kp)) <|
C F_arith_Coder_Flush #[.pointer r_22] h_27 (fun v_43 h_44 =>
∃ (r_45 : Option Addr) (r_45n : Nat) (r_45c : Nat), ∃ (r_46 : Int), v_43 = .tuple #[.slice r_45 r_45n r_45c, .int .i64 r_46] ∧ (
K (.tuple #[.slice r_45 r_45n r_45c, .int .i64 r_46]) h_44)) (Kp)))) (Kp))

/- burin/whole.Decode -/
set_option maxRecDepth 100000 in
def whole_Decode (C : CallP) (b : Option Addr) (bn : Nat) (bc : Nat) (n : Int) (h : Heap) (K : Value → Heap → Prop) (Kp : List PanicEntry → Heap → Prop) : Prop :=
bcase (decide (n < (0 : Int))) (
K (.tuple #[.slice none 0 0, .int .i64 50]) h) <|
bcase (decide (n > (65536 : Int))) (
K (.tuple #[.slice none 0 0, .int .i64 50]) h) <|
C F_arith_NewDecoder #[.slice b bn bc, .int .i64 512] h (fun v_1 h_2 =>
∃ (r_3 : Option Addr), ∃ (r_4 : Int), v_1 = .tuple #[.pointer r_3, .int .i64 r_4] ∧ (
bcase (r_4 != (0 : Int)) (
K (.tuple #[.slice none 0 0, .int .i64 r_4]) h_2) <|
∃ J_5 : Nat → List Value → Heap → Prop, (∃ n_7, J_5 n_7 [.slice none 0 0, .int .i64 0] h_2) ∧ ∀ (n_7 : Nat) (h_8 : Heap) (u_9 : Nat → Value) (l_10 : Option Addr) (l_10n : Nat) (l_10c : Nat) (x_11 : Int), J_5 n_7 [.slice l_10 l_10n l_10c, .int .i64 x_11] h_8 → (
bcase (decide (x_11 < n)) (
C F_whole_Get #[.pointer r_3, .int .i64 0] h_8 (fun v_12 h_13 =>
∃ (r_14 : Int) (r_15 : Bool), ∃ (r_16 : Int), v_12 = .tuple #[.agg #[.int .i64 r_14, .bool r_15], .int .i64 r_16] ∧ (
newC h_13 [.int .i64 0, .bool false] T_api_Whole fun r_17 h_18 =>
stV h_18 ((⟨r_17, 0, none⟩ : Addr).add 0) (.int .i64 r_14) fun h_19 =>
stV h_19 ((⟨r_17, 0, none⟩ : Addr).add 1) (.bool r_15) fun h_20 =>
bcase (r_16 != (0 : Int)) (
K (.tuple #[.slice none 0 0, .int .i64 r_16]) h_20) <|
ldI h_20 ((⟨r_17, 0, none⟩ : Addr).add 0) .i64 fun x_21 =>
ldB h_20 ((⟨r_17, 0, none⟩ : Addr).add 1) fun x_22 =>
newC h_20 [.int .i64 x_21, .bool x_22] T_api_Whole fun r_23 h_24 =>
appC h_24 T_api_Whole 2 16 [.int .i64 0, .bool false] l_10 (l_10n) (l_10c) (some ⟨r_23, 0, none⟩) (1) fun q_25 q_25n q_25c h_26 =>
bindI (IntKind.i64.wrap (x_11 + (1 : Int))) fun z_27 =>
∃ m_6, m_6 < n_7 ∧ J_5 m_6 [.slice q_25 q_25n q_25c, .int .i64 z_27] h_26)) (Kp)) <|
K (.tuple #[.slice l_10 l_10n l_10c, .int .i64 0]) h_8))) (Kp)

/- burin/whole.PutID -/
set_option maxRecDepth 100000 in
def whole_PutID (C : CallP) (c : Option Addr) (base : Int) (width : Int) (id : Int) (h : Heap) (K : Value → Heap → Prop) (Kp : List PanicEntry → Heap → Prop) : Prop :=
bcase c.isNone (
K (.int .i64 53) h) <|
ptr c fun a_1 =>
C F_arith_table_Contexts #[.pointer (some (a_1.add 0))] h (fun v_2 h_3 =>
∃ (r_4 : Int), v_2 = .int .i64 r_4 ∧ (
C F_whole_ids #[.int .i64 base, .int .i64 width, .int .i64 r_4] h_3 (fun v_5 h_6 =>
∃ (r_7 : Int), v_5 = .int .i64 r_7 ∧ (
bcase (r_7 != (0 : Int)) (
K (.int .i64 r_7) h_6) <|
bcase (decide (id < (0 : Int))) (
K (.int .i64 50) h_6) <|
needs (0 ≤ width) <|
bindI (shrI .i64 id width) fun z_8 =>
bcase (z_8 != (0 : Int)) (
K (.int .i64 50) h_6) <|
bindI (IntKind.i64.wrap (width - (1 : Int))) fun z_9 =>
∃ J_10 : Nat → List Value → Heap → Prop, (∃ n_12, J_10 n_12 [.int .i64 1, .int .i64 z_9] h_6) ∧ ∀ (n_12 : Nat) (h_13 : Heap) (u_14 : Nat → Value) (v_15 : Int) (i_16 : Int), J_10 n_12 [.int .i64 v_15, .int .i64 i_16] h_13 → (
bcase (decide (i_16 ≥ (0 : Int))) (
needs (0 ≤ i_16) <|
bindI (shrI .i64 id i_16) fun z_17 =>
bindI (bitI .and .i64 z_17 (1 : Int)) fun z_18 =>
bindI (IntKind.i64.wrap (base + v_15)) fun z_19 =>
C F_arith_Coder_Put #[.pointer c, .int .i64 z_19, .int .i64 z_18] h_13 (fun v_20 h_21 =>
∃ (r_22 : Int), v_20 = .int .i64 r_22 ∧ (
bcase (r_22 != (0 : Int)) (
K (.int .i64 r_22) h_21) <|
bindI (IntKind.i64.wrap ((2 : Int) * v_15)) fun z_23 =>
bindI (IntKind.i64.wrap (z_23 + z_18)) fun z_24 =>
bindI (IntKind.i64.wrap (i_16 - (1 : Int))) fun z_25 =>
∃ m_11, m_11 < n_12 ∧ J_10 m_11 [.int .i64 z_24, .int .i64 z_25] h_21)) (Kp)) <|
K (.int .i64 0) h_13))) (Kp))) (Kp)

/- burin/whole.Put -/
set_option maxRecDepth 100000 in
def whole_Put (C : CallP) (Y : YP) (c : Option Addr) (base : Int) (n_1 : Int) (n_2 : Bool) (h : Heap) (K : Value → Heap → Prop) (Kp : List PanicEntry → Heap → Prop) : Prop :=
newC h [.pointer c] T_p_arith_Coder fun r_3 h_4 =>
newC h_4 [.int .i64 base] T_int fun r_5 h_6 =>
newC h_6 [.int .i64 n_1, .bool n_2] T_api_Whole fun r_7 h_8 =>
newC h_8 [.int .i64 0] T_api_Errno fun r_9 h_10 =>
ldP h_10 (⟨r_3, 0, none⟩ : Addr) fun x_11 =>
bcase x_11.isNone (
stV h_10 (⟨r_9, 0, none⟩ : Addr) (.int .i64 53) fun h_12 =>
ldI h_12 (⟨r_9, 0, none⟩ : Addr) .i64 fun r_13 =>
K (.int .i64 r_13) h_12) <|
ldI h_10 (⟨r_5, 0, none⟩ : Addr) .i64 fun x_14 =>
ldP h_10 (⟨r_3, 0, none⟩ : Addr) fun x_15 =>
ptr x_15 fun a_16 =>
C F_arith_table_Contexts #[.pointer (some (a_16.add 0))] h_10 (fun v_17 h_18 =>
∃ (r_19 : Int), v_17 = .int .i64 r_19 ∧ (
hext h_10 h_18 ∧ (
C F_whole_fits #[.int .i64 x_14, .int .i64 512, .int .i64 r_19] h_18 (fun v_20 h_21 =>
∃ (r_22 : Bool), v_20 = .bool r_22 ∧ (
bcase (!r_22) (
stV h_21 (⟨r_9, 0, none⟩ : Addr) (.int .i64 51) fun h_23 =>
ldI h_23 (⟨r_9, 0, none⟩ : Addr) .i64 fun r_24 =>
K (.int .i64 r_24) h_23) <|
ldI h_21 ((⟨r_7, 0, none⟩ : Addr).add 0) .i64 fun x_25 =>
ldB h_21 ((⟨r_7, 0, none⟩ : Addr).add 1) fun x_26 =>
C F_whole_right #[.agg #[.int .i64 x_25, .bool x_26]] h_21 (fun v_27 h_28 =>
∃ (r_29 : Bool), v_27 = .bool r_29 ∧ (
bcase (!r_29) (
stV h_28 (⟨r_9, 0, none⟩ : Addr) (.int .i64 50) fun h_30 =>
ldI h_30 (⟨r_9, 0, none⟩ : Addr) .i64 fun r_31 =>
K (.int .i64 r_31) h_30) <|
newC h_28 [.int .i64 0] T_int fun r_32 h_33 =>
stV h_33 (⟨r_32, 0, none⟩ : Addr) (.int .i64 1) fun h_34 =>
ldI h_34 ((⟨r_7, 0, none⟩ : Addr).add 0) .i64 fun x_35 =>
ldB h_34 ((⟨r_7, 0, none⟩ : Addr).add 1) fun x_36 =>
C F_whole_bits #[.agg #[.int .i64 x_35, .bool x_36]] h_34 (fun v_37 h_38 =>
∃ (r_39 : Value), v_37 = r_39 ∧ (
funD (r_39) fun g_40 lb_41 =>
∀ (oR_42 oB_43 oX_44 : Obj) (oJ_45 oXJ_46 : Nat → Obj),
(∀ (h_47 : Heap) (Kr_48 : Value → Heap → Prop), objAt h_47 (h_38.size + 1) oR_42 → ∀ (x_50 : Int), (
objAt h_47 (h_38.size + 1) oR_42 ∧ (
ldP (putO h_47 (h_38.size + 1) oB_43) (⟨r_3, 0, none⟩ : Addr) fun x_51 =>
ldI (putO h_47 (h_38.size + 1) oB_43) (⟨r_5, 0, none⟩ : Addr) .i64 fun x_52 =>
ldI (putO h_47 (h_38.size + 1) oB_43) (⟨r_32, 0, none⟩ : Addr) .i64 fun x_53 =>
bindI (IntKind.i64.wrap (x_52 + x_53)) fun z_54 =>
C F_arith_Coder_Put #[.pointer x_51, .int .i64 z_54, .int .i64 x_50] (putO h_47 (h_38.size + 1) oB_43) (fun v_55 h_56 =>
∃ (r_57 : Int), v_55 = .int .i64 r_57 ∧ (
bcase (r_57 != (0 : Int)) (
stV h_56 (⟨r_9, 0, none⟩ : Addr) (.int .i64 r_57) fun h_58 =>
objAt h_58 (h_38.size + 1) oB_43 ∧ Kr_48 (.bool false) (putO h_58 (h_38.size + 1) (oJ_45 0))) <|
ldI h_56 (⟨r_32, 0, none⟩ : Addr) .i64 fun x_59 =>
C F_whole_next #[.int .i64 x_59, .int .i64 x_50] h_56 (fun v_60 h_61 =>
∃ (r_62 : Int), v_60 = .int .i64 r_62 ∧ (
stV h_61 (⟨r_32, 0, none⟩ : Addr) (.int .i64 r_62) fun h_63 =>
objAt h_63 (h_38.size + 1) oB_43 ∧ Kr_48 (.bool true) (putO h_63 (h_38.size + 1) oR_42))) (fun _ _ => False))) (fun _ _ => False))) → Y (h_38.size + 1) [.int .i64 x_50] h_47 Kr_48) →
C g_40 (.func (.yield (h_38.size + 1)) #[] #[] :: lb_41).toArray ((h_38.push (.deferred (some []))).push oR_42) (fun _ h_49 => (objAt h_49 (h_38.size + 1) oR_42 ∧ (
stV (putO h_49 (h_38.size + 1) oX_44) (⟨r_9, 0, none⟩ : Addr) (.int .i64 0) fun h_64 =>
objAt h_64 h_38.size (.deferred (some [])) ∧ (
ldI (putO h_64 h_38.size (.deferred none)) (⟨r_9, 0, none⟩ : Addr) .i64 fun r_65 =>
K (.int .i64 r_65) (putO h_64 h_38.size (.deferred none))))) ∨ (objAt h_49 (h_38.size + 1) (oJ_45 0) ∧ (
objAt (putO h_49 (h_38.size + 1) (oXJ_46 0)) h_38.size (.deferred (some [])) ∧ (
ldI (putO (putO h_49 (h_38.size + 1) (oXJ_46 0)) h_38.size (.deferred none)) (⟨r_9, 0, none⟩ : Addr) .i64 fun r_66 =>
K (.int .i64 r_66) (putO (putO h_49 (h_38.size + 1) (oXJ_46 0)) h_38.size (.deferred none))))) ∨ False) (fun c_67 h_68 => objAt h_68 h_38.size (.deferred (some [])) ∧ Kp c_67 (putO h_68 h_38.size (.deferred none))))) (Kp))) (Kp))) (Kp)))) (Kp)

/- burin/whole.Get -/
set_option maxRecDepth 100000 in
def whole_Get (C : CallP) (a0 : Option Addr) (a1 : Int) (h : Heap) (K : Value → Heap → Prop) (Kp : List PanicEntry → Heap → Prop) : Prop :=
newC h [.int .i64 0, .bool false] T_api_Whole fun r_1 h_2 =>
bcase a0.isNone (
stV h_2 ((⟨r_1, 0, none⟩ : Addr).add 0) (.int .i64 0) fun h_3 =>
stV h_3 ((⟨r_1, 0, none⟩ : Addr).add 1) (.bool false) fun h_4 =>
ldI h_4 ((⟨r_1, 0, none⟩ : Addr).add 0) .i64 fun r_5 =>
ldB h_4 ((⟨r_1, 0, none⟩ : Addr).add 1) fun r_6 =>
K (.tuple #[.agg #[.int .i64 r_5, .bool r_6], .int .i64 53]) h_4) <|
ptr a0 fun a_7 =>
C F_arith_table_Contexts #[.pointer (some (a_7.add 0))] h_2 (fun v_8 h_9 =>
∃ (r_10 : Int), v_8 = .int .i64 r_10 ∧ (
C F_whole_fits #[.int .i64 a1, .int .i64 512, .int .i64 r_10] h_9 (fun v_11 h_12 =>
∃ (r_13 : Bool), v_11 = .bool r_13 ∧ (
bcase (!r_13) (
stV h_12 ((⟨r_1, 0, none⟩ : Addr).add 0) (.int .i64 0) fun h_14 =>
stV h_14 ((⟨r_1, 0, none⟩ : Addr).add 1) (.bool false) fun h_15 =>
ldI h_15 ((⟨r_1, 0, none⟩ : Addr).add 0) .i64 fun r_16 =>
ldB h_15 ((⟨r_1, 0, none⟩ : Addr).add 1) fun r_17 =>
K (.tuple #[.agg #[.int .i64 r_16, .bool r_17], .int .i64 51]) h_15) <|
newC h_12 [.pointer a0, .int .i64 a1, .int .i64 1, .int .i64 0] T_whole_getter fun r_18 h_19 =>
C F_whole_getter_bit #[.pointer (some ⟨r_18, 0, none⟩)] h_19 (fun v_20 h_21 =>
∃ (r_22 : Int), v_20 = .int .i64 r_22 ∧ (
C F_whole_sizes #[] h_21 (fun v_23 h_24 =>
∃ (r_25 : Option Addr) (r_25n : Nat) (r_25c : Nat), v_23 = .slice r_25 r_25n r_25c ∧ (
∃ K_26 : List Value → Heap → Prop, (
∃ J_29 : Nat → List Value → Heap → Prop, (∃ n_31, J_29 n_31 [.int .i64 0] h_24) ∧ ∀ (n_31 : Nat) (h_32 : Heap) (u_33 : Nat → Value) (x_34 : Int), J_29 n_31 [.int .i64 x_34] h_32 → (
bindI (IntKind.i64.wrap ((r_25n : Int) - (1 : Int))) fun z_35 =>
bcase (decide (x_34 < z_35)) (
C F_whole_getter_bit #[.pointer (some ⟨r_18, 0, none⟩)] h_32 (fun v_36 h_37 =>
∃ (r_38 : Int), v_36 = .int .i64 r_38 ∧ (
bcase (r_38 == (1 : Int)) (
bindI (IntKind.i64.wrap (x_34 + (1 : Int))) fun z_39 =>
∃ m_30, m_30 < n_31 ∧ J_29 m_30 [.int .i64 z_39] h_37) <|
K_26 [.int .i64 x_34] h_37)) (Kp)) <|
K_26 [.int .i64 x_34] h_32)) ∧ ∀ (h_27 : Heap) (u_28 : Nat → Value) (x_40 : Int), K_26 [.int .i64 x_40] h_27 → (
needs (0 ≤ x_40 ∧ x_40 < (r_25n : Int)) <|
ptr r_25 fun a_41 =>
ldI h_27 ((a_41.add (x_40.toNat * 2)).add 1) .i64 fun x_42 =>
∃ J_43 : Nat → List Value → Heap → Prop, (∃ n_45, J_43 n_45 [.int .i64 0, .int .i64 0] h_27) ∧ ∀ (n_45 : Nat) (h_46 : Heap) (u_47 : Nat → Value) (x_48 : Int) (x_49 : Int), J_43 n_45 [.int .i64 x_48, .int .i64 x_49] h_46 → (
bcase (decide (x_49 < x_42)) (
bindI (IntKind.i64.wrap ((2 : Int) * x_48)) fun z_50 =>
C F_whole_getter_bit #[.pointer (some ⟨r_18, 0, none⟩)] h_46 (fun v_51 h_52 =>
∃ (r_53 : Int), v_51 = .int .i64 r_53 ∧ (
bindI (IntKind.i64.wrap (z_50 + r_53)) fun z_54 =>
bindI (IntKind.i64.wrap (x_49 + (1 : Int))) fun z_55 =>
∃ m_44, m_44 < n_45 ∧ J_43 m_44 [.int .i64 z_54, .int .i64 z_55] h_52)) (Kp)) <|
needs (0 ≤ x_40 ∧ x_40 < (r_25n : Int)) <|
ptr r_25 fun a_56 =>
ldI h_46 ((a_56.add (x_40.toNat * 2)).add 0) .u64 fun x_57 =>
bindI (IntKind.i64.wrap x_57) fun z_58 =>
bindI (IntKind.i64.wrap (x_48 + z_58)) fun z_59 =>
ldI h_46 ((⟨r_18, 0, none⟩ : Addr).add 3) .i64 fun x_60 =>
bcase (x_60 != (0 : Int)) (
ldI h_46 ((⟨r_18, 0, none⟩ : Addr).add 3) .i64 fun x_61 =>
stV h_46 ((⟨r_1, 0, none⟩ : Addr).add 0) (.int .i64 0) fun h_62 =>
stV h_62 ((⟨r_1, 0, none⟩ : Addr).add 1) (.bool false) fun h_63 =>
hext h_46 h_63 ∧ (
ldI h_63 ((⟨r_1, 0, none⟩ : Addr).add 0) .i64 fun r_64 =>
ldB h_63 ((⟨r_1, 0, none⟩ : Addr).add 1) fun r_65 =>
K (.tuple #[.agg #[.int .i64 r_64, .bool r_65], .int .i64 x_61]) h_63)) <|
bcase (decide (z_59 > (2147483648 : Int))) (
stV h_46 ((⟨r_1, 0, none⟩ : Addr).add 0) (.int .i64 0) fun h_66 =>
stV h_66 ((⟨r_1, 0, none⟩ : Addr).add 1) (.bool false) fun h_67 =>
ldI h_67 ((⟨r_1, 0, none⟩ : Addr).add 0) .i64 fun r_68 =>
ldB h_67 ((⟨r_1, 0, none⟩ : Addr).add 1) fun r_69 =>
K (.tuple #[.agg #[.int .i64 r_68, .bool r_69], .int .i64 50]) h_67) <|
∃ K_70 : List Value → Heap → Prop, (
bcase (r_22 == (1 : Int)) (
K_70 [.bool (z_59 == (0 : Int))] h_46) <|
K_70 [.bool false] h_46) ∧ ∀ (h_71 : Heap) (u_72 : Nat → Value) (x_73 : Bool), K_70 [.bool x_73] h_71 → (
bcase x_73 (
stV h_71 ((⟨r_1, 0, none⟩ : Addr).add 0) (.int .i64 0) fun h_74 =>
stV h_74 ((⟨r_1, 0, none⟩ : Addr).add 1) (.bool true) fun h_75 =>
ldI h_75 ((⟨r_1, 0, none⟩ : Addr).add 0) .i64 fun r_76 =>
ldB h_75 ((⟨r_1, 0, none⟩ : Addr).add 1) fun r_77 =>
K (.tuple #[.agg #[.int .i64 r_76, .bool r_77], .int .i64 0]) h_75) <|
bcase (r_22 == (1 : Int)) (
bindI (IntKind.i64.wrap (0 - z_59)) fun z_78 =>
stV h_71 ((⟨r_1, 0, none⟩ : Addr).add 0) (.int .i64 z_78) fun h_79 =>
stV h_79 ((⟨r_1, 0, none⟩ : Addr).add 1) (.bool false) fun h_80 =>
ldI h_80 ((⟨r_1, 0, none⟩ : Addr).add 0) .i64 fun r_81 =>
ldB h_80 ((⟨r_1, 0, none⟩ : Addr).add 1) fun r_82 =>
K (.tuple #[.agg #[.int .i64 r_81, .bool r_82], .int .i64 0]) h_80) <|
stV h_71 ((⟨r_1, 0, none⟩ : Addr).add 0) (.int .i64 z_59) fun h_83 =>
stV h_83 ((⟨r_1, 0, none⟩ : Addr).add 1) (.bool false) fun h_84 =>
ldI h_84 ((⟨r_1, 0, none⟩ : Addr).add 0) .i64 fun r_85 =>
ldB h_84 ((⟨r_1, 0, none⟩ : Addr).add 1) fun r_86 =>
K (.tuple #[.agg #[.int .i64 r_85, .bool r_86], .int .i64 0]) h_84))))) (Kp))) (Kp))) (Kp))) (Kp)

/- burin/whole.GetID -/
set_option maxRecDepth 100000 in
def whole_GetID (C : CallP) (d : Option Addr) (base : Int) (width : Int) (h : Heap) (K : Value → Heap → Prop) (Kp : List PanicEntry → Heap → Prop) : Prop :=
bcase d.isNone (
K (.tuple #[.int .i64 0, .int .i64 53]) h) <|
ptr d fun a_1 =>
C F_arith_table_Contexts #[.pointer (some (a_1.add 0))] h (fun v_2 h_3 =>
∃ (r_4 : Int), v_2 = .int .i64 r_4 ∧ (
C F_whole_ids #[.int .i64 base, .int .i64 width, .int .i64 r_4] h_3 (fun v_5 h_6 =>
∃ (r_7 : Int), v_5 = .int .i64 r_7 ∧ (
bcase (r_7 != (0 : Int)) (
K (.tuple #[.int .i64 0, .int .i64 r_7]) h_6) <|
∃ J_8 : Nat → List Value → Heap → Prop, (∃ n_10, J_8 n_10 [.int .i64 1, .int .i64 0] h_6) ∧ ∀ (n_10 : Nat) (h_11 : Heap) (u_12 : Nat → Value) (v_13 : Int) (x_14 : Int), J_8 n_10 [.int .i64 v_13, .int .i64 x_14] h_11 → (
bcase (decide (x_14 < width)) (
bindI (IntKind.i64.wrap (base + v_13)) fun z_15 =>
C F_arith_Decoder_Get #[.pointer d, .int .i64 z_15] h_11 (fun v_16 h_17 =>
∃ (r_18 : Int), ∃ (r_19 : Int), v_16 = .tuple #[.int .i64 r_18, .int .i64 r_19] ∧ (
bcase (r_19 != (0 : Int)) (
K (.tuple #[.int .i64 0, .int .i64 r_19]) h_17) <|
bindI (IntKind.i64.wrap ((2 : Int) * v_13)) fun z_20 =>
bindI (IntKind.i64.wrap (z_20 + r_18)) fun z_21 =>
bindI (IntKind.i64.wrap (x_14 + (1 : Int))) fun z_22 =>
∃ m_9, m_9 < n_10 ∧ J_8 m_9 [.int .i64 z_21, .int .i64 z_22] h_17)) (Kp)) <|
needs (0 ≤ width) <|
bindI (shlI .i64 (1 : Int) width) fun z_23 =>
bindI (IntKind.i64.wrap (v_13 - z_23)) fun z_24 =>
K (.tuple #[.int .i64 z_24, .int .i64 0]) h_11))) (Kp))) (Kp)

/- burin/whole.right -/
set_option maxRecDepth 100000 in
def whole_right (C : CallP) (n_1 : Int) (n_2 : Bool) (h : Heap) (K : Value → Heap → Prop) (Kp : List PanicEntry → Heap → Prop) : Prop :=
newC h [.int .i64 n_1, .bool n_2] T_api_Whole fun r_3 h_4 =>
ldB h_4 ((⟨r_3, 0, none⟩ : Addr).add 1) fun x_5 =>
bcase x_5 (
K (.bool true) h_4) <|
ldI h_4 ((⟨r_3, 0, none⟩ : Addr).add 0) .i64 fun x_6 =>
bcase (decide (x_6 ≥ (-2147483648 : Int))) (
ldI h_4 ((⟨r_3, 0, none⟩ : Addr).add 0) .i64 fun x_7 =>
K (.bool (decide (x_7 ≤ (2147483648 : Int)))) h_4) <|
K (.bool false) h_4

/- burin/whole.ids -/
set_option maxRecDepth 100000 in
def whole_ids (C : CallP) (base : Int) (width : Int) (all : Int) (h : Heap) (K : Value → Heap → Prop) (Kp : List PanicEntry → Heap → Prop) : Prop :=
bcase (decide (width < (0 : Int))) (
K (.int .i64 52) h) <|
bcase (decide (width > (12 : Int))) (
K (.int .i64 52) h) <|
needs (0 ≤ width) <|
bindI (shlI .i64 (1 : Int) width) fun z_1 =>
C F_whole_fits #[.int .i64 base, .int .i64 z_1, .int .i64 all] h (fun v_2 h_3 =>
∃ (r_4 : Bool), v_2 = .bool r_4 ∧ (
bcase (!r_4) (
K (.int .i64 51) h_3) <|
K (.int .i64 0) h_3)) (Kp)

/- burin/whole.fits -/
set_option maxRecDepth 100000 in
def whole_fits (C : CallP) (base : Int) (many : Int) (all : Int) (h : Heap) (K : Value → Heap → Prop) (Kp : List PanicEntry → Heap → Prop) : Prop :=
bcase (decide (base ≥ (0 : Int))) (
bindI (IntKind.i64.wrap (all - many)) fun z_1 =>
K (.bool (decide (base ≤ z_1))) h) <|
K (.bool false) h

/- burin/whole.bits -/
set_option maxRecDepth 100000 in
def whole_bits (C : CallP) (n_1 : Int) (n_2 : Bool) (h : Heap) (K : Value → Heap → Prop) (Kp : List PanicEntry → Heap → Prop) : Prop :=
newC h [.int .i64 n_1, .bool n_2] T_api_Whole fun r_3 h_4 =>
∃ R_5 : Nat → Prop, (
ldI h_4 ((⟨r_3, 0, none⟩ : Addr).add 0) .i64 fun x_6 =>
R_5 (((⟨r_3, 0, none⟩ : Addr).add 0) : Addr).block ∧ (
bindI (IntKind.u64.wrap x_6) fun z_7 =>
(
newC h_4 [.int .i64 0] T_int fun r_8 h_9 =>
newC h_9 [.int .u64 0] T_uint64 fun r_10 h_11 =>
stV h_11 (⟨r_8, 0, none⟩ : Addr) (.int .i64 0) fun h_12 =>
hkeep R_5 h_11 h_12 ∧ (
stV h_12 (⟨r_10, 0, none⟩ : Addr) (.int .u64 z_7) fun h_13 =>
ldI h_13 ((⟨r_3, 0, none⟩ : Addr).add 0) .i64 fun x_14 =>
bcase (decide (x_14 < (0 : Int))) (
∃ R_15 : Nat → Prop, (
ldI h_13 (⟨r_10, 0, none⟩ : Addr) .u64 fun x_16 =>
R_15 ((⟨r_10, 0, none⟩ : Addr) : Addr).block ∧ (
bindI (IntKind.u64.wrap (0 - x_16)) fun z_17 =>
stV h_13 (⟨r_8, 0, none⟩ : Addr) (.int .i64 1) fun h_18 =>
hkeep R_15 h_13 h_18 ∧ (
stV h_18 (⟨r_10, 0, none⟩ : Addr) (.int .u64 z_17) fun h_19 =>
ldB h_19 ((⟨r_3, 0, none⟩ : Addr).add 1) fun x_20 =>
bcase x_20 (
stV h_19 (⟨r_8, 0, none⟩ : Addr) (.int .i64 1) fun h_21 =>
stV h_21 (⟨r_10, 0, none⟩ : Addr) (.int .u64 0) fun h_22 =>
K (.func (.func F_whole_bits_c1) #[] #[.pointer (some ⟨r_8, 0, none⟩), .pointer (some ⟨r_10, 0, none⟩)]) h_22) <|
K (.func (.func F_whole_bits_c1) #[] #[.pointer (some ⟨r_8, 0, none⟩), .pointer (some ⟨r_10, 0, none⟩)]) h_19)))) <|
ldB h_13 ((⟨r_3, 0, none⟩ : Addr).add 1) fun x_23 =>
bcase x_23 (
stV h_13 (⟨r_8, 0, none⟩ : Addr) (.int .i64 1) fun h_24 =>
stV h_24 (⟨r_10, 0, none⟩ : Addr) (.int .u64 0) fun h_25 =>
K (.func (.func F_whole_bits_c1) #[] #[.pointer (some ⟨r_8, 0, none⟩), .pointer (some ⟨r_10, 0, none⟩)]) h_25) <|
K (.func (.func F_whole_bits_c1) #[] #[.pointer (some ⟨r_8, 0, none⟩), .pointer (some ⟨r_10, 0, none⟩)]) h_13)) ∧ (
newC h_4 [.int .u64 0] T_uint64 fun r_26 h_27 =>
newC h_27 [.int .i64 0] T_int fun r_28 h_29 =>
stV h_29 (⟨r_28, 0, none⟩ : Addr) (.int .i64 0) fun h_30 =>
hkeep R_5 h_29 h_30 ∧ (
stV h_30 (⟨r_26, 0, none⟩ : Addr) (.int .u64 z_7) fun h_31 =>
ldI h_31 ((⟨r_3, 0, none⟩ : Addr).add 0) .i64 fun x_32 =>
bcase (decide (x_32 < (0 : Int))) (
∃ R_33 : Nat → Prop, (
ldI h_31 (⟨r_26, 0, none⟩ : Addr) .u64 fun x_34 =>
R_33 ((⟨r_26, 0, none⟩ : Addr) : Addr).block ∧ (
bindI (IntKind.u64.wrap (0 - x_34)) fun z_35 =>
stV h_31 (⟨r_28, 0, none⟩ : Addr) (.int .i64 1) fun h_36 =>
hkeep R_33 h_31 h_36 ∧ (
stV h_36 (⟨r_26, 0, none⟩ : Addr) (.int .u64 z_35) fun h_37 =>
ldB h_37 ((⟨r_3, 0, none⟩ : Addr).add 1) fun x_38 =>
bcase x_38 (
stV h_37 (⟨r_28, 0, none⟩ : Addr) (.int .i64 1) fun h_39 =>
stV h_39 (⟨r_26, 0, none⟩ : Addr) (.int .u64 0) fun h_40 =>
K (.func (.func F_whole_bits_c1) #[] #[.pointer (some ⟨r_28, 0, none⟩), .pointer (some ⟨r_26, 0, none⟩)]) h_40) <|
K (.func (.func F_whole_bits_c1) #[] #[.pointer (some ⟨r_28, 0, none⟩), .pointer (some ⟨r_26, 0, none⟩)]) h_37)))) <|
ldB h_31 ((⟨r_3, 0, none⟩ : Addr).add 1) fun x_41 =>
bcase x_41 (
stV h_31 (⟨r_28, 0, none⟩ : Addr) (.int .i64 1) fun h_42 =>
stV h_42 (⟨r_26, 0, none⟩ : Addr) (.int .u64 0) fun h_43 =>
K (.func (.func F_whole_bits_c1) #[] #[.pointer (some ⟨r_28, 0, none⟩), .pointer (some ⟨r_26, 0, none⟩)]) h_43) <|
K (.func (.func F_whole_bits_c1) #[] #[.pointer (some ⟨r_28, 0, none⟩), .pointer (some ⟨r_26, 0, none⟩)]) h_31))))

/- burin/whole.next -/
set_option maxRecDepth 100000 in
def whole_next (C : CallP) (v : Int) (bit : Int) (h : Heap) (K : Value → Heap → Prop) (Kp : List PanicEntry → Heap → Prop) : Prop :=
bcase (decide (v < (256 : Int))) (
bindI (IntKind.i64.wrap ((2 : Int) * v)) fun z_1 =>
bindI (IntKind.i64.wrap (z_1 + bit)) fun z_2 =>
K (.int .i64 z_2) h) <|
bindI (IntKind.i64.wrap ((2 : Int) * v)) fun z_3 =>
bindI (IntKind.i64.wrap (z_3 + bit)) fun z_4 =>
bindI (z_4.tmod (256 : Int)) fun z_5 =>
bindI (IntKind.i64.wrap (z_5 + (256 : Int))) fun z_6 =>
K (.int .i64 z_6) h

/- (*burin/whole.getter).bit -/
set_option maxRecDepth 100000 in
def whole_getter_bit (C : CallP) (g : Option Addr) (h : Heap) (K : Value → Heap → Prop) (Kp : List PanicEntry → Heap → Prop) : Prop :=
ptr g fun a_1 =>
ldI h (a_1.add 3) .i64 fun x_2 =>
bcase (x_2 != (0 : Int)) (
K (.int .i64 0) h) <|
ptr g fun a_3 =>
ptr g fun a_4 =>
ptr g fun a_5 =>
ldP h (a_3.add 0) fun x_6 =>
ldI h (a_4.add 1) .i64 fun x_7 =>
ldI h (a_5.add 2) .i64 fun x_8 =>
bindI (IntKind.i64.wrap (x_7 + x_8)) fun z_9 =>
C F_arith_Decoder_Get #[.pointer x_6, .int .i64 z_9] h (fun v_10 h_11 =>
∃ (r_12 : Int), ∃ (r_13 : Int), v_10 = .tuple #[.int .i64 r_12, .int .i64 r_13] ∧ (
ptr g fun a_14 =>
stV h_11 (a_14.add 3) (.int .i64 r_13) fun h_15 =>
ptr g fun a_16 =>
ldI h_15 (a_16.add 2) .i64 fun x_17 =>
C F_whole_next #[.int .i64 x_17, .int .i64 r_12] h_15 (fun v_18 h_19 =>
∃ (r_20 : Int), v_18 = .int .i64 r_20 ∧ (
ptr g fun a_21 =>
stV h_19 (a_21.add 2) (.int .i64 r_20) fun h_22 =>
K (.int .i64 r_12) h_22)) (Kp))) (Kp)

/- burin/whole.sizes -/
set_option maxRecDepth 100000 in
def whole_sizes (C : CallP)  (h : Heap) (K : Value → Heap → Prop) (Kp : List PanicEntry → Heap → Prop) : Prop :=
newC h [.int .u64 0, .int .i64 2, .int .u64 4, .int .i64 4, .int .u64 20, .int .i64 6, .int .u64 84, .int .i64 8, .int .u64 340, .int .i64 12, .int .u64 4436, .int .i64 32] T_whole_size fun r_1 h_2 =>
K (.slice (some ⟨r_1, 0, none⟩) 6 6) h_2

/- burin/whole.bits$1 -/
set_option maxRecDepth 100000 in
def whole_bits_c1 (C : CallP) (Y : YP) (a0 : Nat) (cap0 : Addr) (cap1 : Addr) (h : Heap) (K : Value → Heap → Prop) (Kp : List PanicEntry → Heap → Prop) : Prop :=
ldI h cap0 .i64 fun x_1 =>
Y a0 [.int .i64 x_1] h fun v_2 h_3 =>
∃ (r_4 : Bool), v_2 = .bool r_4 ∧ (
bcase (!r_4) (
K (.tuple #[]) h_3) <|
C F_whole_sizes #[] h_3 (fun v_5 h_6 =>
∃ (r_7 : Option Addr) (r_7n : Nat) (r_7c : Nat), v_5 = .slice r_7 r_7n r_7c ∧ (
bindI (IntKind.i64.wrap ((r_7n : Int) - (1 : Int))) fun z_8 =>
∃ J_9 : Nat → List Value → Heap → Prop, (∃ n_11, J_9 n_11 [.int .i64 z_8] h_6) ∧ ∀ (n_11 : Nat) (h_12 : Heap) (u_13 : Nat → Value) (x_14 : Int), J_9 n_11 [.int .i64 x_14] h_12 → (
needs (0 ≤ x_14 ∧ x_14 < (r_7n : Int)) <|
ptr r_7 fun a_15 =>
ldI h_12 cap1 .u64 fun x_16 =>
ldI h_12 ((a_15.add (x_14.toNat * 2)).add 0) .u64 fun x_17 =>
bcase (decide (x_16 < x_17)) (
bindI (IntKind.i64.wrap (x_14 - (1 : Int))) fun z_18 =>
∃ m_10, m_10 < n_11 ∧ J_9 m_10 [.int .i64 z_18] h_12) <|
∃ J_19 : Nat → List Value → Heap → Prop, (∃ n_21, J_19 n_21 [.int .i64 0] h_12) ∧ ∀ (n_21 : Nat) (h_22 : Heap) (u_23 : Nat → Value) (x_24 : Int), J_19 n_21 [.int .i64 x_24] h_22 → (
bcase (decide (x_24 < x_14)) (
Y a0 [.int .i64 1] h_22 fun v_25 h_26 =>
∃ (r_27 : Bool), v_25 = .bool r_27 ∧ (
bcase (!r_27) (
K (.tuple #[]) h_26) <|
bindI (IntKind.i64.wrap (x_24 + (1 : Int))) fun z_28 =>
∃ m_20, m_20 < n_21 ∧ J_19 m_20 [.int .i64 z_28] h_26)) <|
∃ K_29 : List Value → Heap → Prop, (
bindI (IntKind.i64.wrap ((r_7n : Int) - (1 : Int))) fun z_32 =>
bcase (decide (x_14 < z_32)) (
Y a0 [.int .i64 0] h_22 fun v_33 h_34 =>
∃ (r_35 : Bool), v_33 = .bool r_35 ∧ (
bcase (!r_35) (
K (.tuple #[]) h_34) <|
K_29 [] h_34)) <|
K_29 [] h_22) ∧ ∀ (h_30 : Heap) (u_31 : Nat → Value) , K_29 [] h_30 → (
needs (0 ≤ x_14 ∧ x_14 < (r_7n : Int)) <|
ptr r_7 fun a_36 =>
ldI h_30 ((a_36.add (x_14.toNat * 2)).add 1) .i64 fun x_37 =>
bindI (IntKind.i64.wrap (x_37 - (1 : Int))) fun z_38 =>
∃ J_39 : Nat → List Value → Heap → Prop, (∃ n_41, J_39 n_41 [.int .i64 z_38] h_30) ∧ ∀ (n_41 : Nat) (h_42 : Heap) (u_43 : Nat → Value) (x_44 : Int), J_39 n_41 [.int .i64 x_44] h_42 → (
bcase (decide (x_44 ≥ (0 : Int))) (
needs (0 ≤ x_14 ∧ x_14 < (r_7n : Int)) <|
ptr r_7 fun a_45 =>
ldI h_42 cap1 .u64 fun x_46 =>
ldI h_42 ((a_45.add (x_14.toNat * 2)).add 0) .u64 fun x_47 =>
bindI (IntKind.u64.wrap (x_46 - x_47)) fun z_48 =>
needs (0 ≤ x_44) <|
bindI (shrI .u64 z_48 x_44) fun z_49 =>
bindI (IntKind.i64.wrap z_49) fun z_50 =>
bindI (bitI .and .i64 z_50 (1 : Int)) fun z_51 =>
Y a0 [.int .i64 z_51] h_42 fun v_52 h_53 =>
∃ (r_54 : Bool), v_52 = .bool r_54 ∧ (
bcase (!r_54) (
K (.tuple #[]) h_53) <|
bindI (IntKind.i64.wrap (x_44 - (1 : Int))) fun z_55 =>
∃ m_40, m_40 < n_41 ∧ J_39 m_40 [.int .i64 z_55] h_53)) <|
K (.tuple #[]) h_42)))))) (Kp))

end Go.Den.Yteakipgcanafoaa

/- Written by gen.py: each condition of the functions of whole is the one of its body; so it is enough for its call. -/
set_option linter.unusedVariables false
set_option linter.unusedSimpArgs false
namespace Go.Den.Yteakipgcanafoaa
open Go Go.Den

noncomputable def hints_whole_Encode : Hints := Hints.mk (fun i => none)
  (fun i => bif Nat.beq i 2 then some ([(13, .int .i64)], 2089004) else (bif Nat.beq i 11 then some ([(30, .int .i64)], 2197949515276) else (none)))
  (fun i => none) []
set_option maxRecDepth 100000 in
theorem eq_whole_Encode (C : CallP) (l : Option Addr) (ln : Nat) (lc : Nat) (h : Heap) (K : Value → Heap → Prop) (Kp : List PanicEntry → Heap → Prop) :
    fnD Go.Proofs.Try.prog C hints_whole_Encode Go.Proofs.Try.f18 [.slice l ln lc] h K Kp = whole_Encode C l ln lc h K Kp := by kernel_rfl

theorem call_whole_Encode {l : Option Addr} {ln : Nat} {lc : Nat} {h : Heap} {K : Value → Heap → Prop} {Kp : List PanicEntry → Heap → Prop} (H : whole_Encode (CallsHP Go.Proofs.Try.prog) l ln lc h K Kp) : CallsHP Go.Proofs.Try.prog F_whole_Encode #[.slice l ln lc] h K Kp :=
  callsHP_of hints_whole_Encode (by kernel_rfl) Go.Proofs.Try.func18 (by kernel_rfl) (by rw [eq_whole_Encode]; exact H)

noncomputable def hints_whole_Decode : Hints := Hints.mk (fun i => none)
  (fun i => bif Nat.beq i 8 then some ([(8, .slc), (26, .int .i64)], 2198956148528) else (none))
  (fun i => none) []
set_option maxRecDepth 100000 in
theorem eq_whole_Decode (C : CallP) (b : Option Addr) (bn : Nat) (bc : Nat) (n : Int) (h : Heap) (K : Value → Heap → Prop) (Kp : List PanicEntry → Heap → Prop) :
    fnD Go.Proofs.Try.prog C hints_whole_Decode Go.Proofs.Try.f23 [.slice b bn bc, .int .i64 n] h K Kp = whole_Decode C b bn bc n h K Kp := by kernel_rfl

theorem call_whole_Decode {b : Option Addr} {bn : Nat} {bc : Nat} {n : Int} {h : Heap} {K : Value → Heap → Prop} {Kp : List PanicEntry → Heap → Prop} (H : whole_Decode (CallsHP Go.Proofs.Try.prog) b bn bc n h K Kp) : CallsHP Go.Proofs.Try.prog F_whole_Decode #[.slice b bn bc, .int .i64 n] h K Kp :=
  callsHP_of hints_whole_Decode (by kernel_rfl) Go.Proofs.Try.func23 (by kernel_rfl) (by rw [eq_whole_Decode]; exact H)

noncomputable def hints_whole_PutID : Hints := Hints.mk (fun i => none)
  (fun i => bif Nat.beq i 10 then some ([(10, .int .i64), (11, .int .i64)], 144115119356394752) else (none))
  (fun i => none) []
set_option maxRecDepth 100000 in
theorem eq_whole_PutID (C : CallP) (c : Option Addr) (base : Int) (width : Int) (id : Int) (h : Heap) (K : Value → Heap → Prop) (Kp : List PanicEntry → Heap → Prop) :
    fnD Go.Proofs.Try.prog C hints_whole_PutID Go.Proofs.Try.f28 [.pointer c, .int .i64 base, .int .i64 width, .int .i64 id] h K Kp = whole_PutID C c base width id h K Kp := by kernel_rfl

theorem call_whole_PutID {c : Option Addr} {base : Int} {width : Int} {id : Int} {h : Heap} {K : Value → Heap → Prop} {Kp : List PanicEntry → Heap → Prop} (H : whole_PutID (CallsHP Go.Proofs.Try.prog) c base width id h K Kp) : CallsHP Go.Proofs.Try.prog F_whole_PutID #[.pointer c, .int .i64 base, .int .i64 width, .int .i64 id] h K Kp :=
  callsHP_of hints_whole_PutID (by kernel_rfl) Go.Proofs.Try.func28 (by kernel_rfl) (by rw [eq_whole_PutID]; exact H)

noncomputable def hints_whole_Put : HintsY := HintsY.mk (Hints.mk (fun i => bif Nat.beq i 3 then some ([5], .take 0 <| .take 1 <| .take 2 <| .take 3 <| .go 4 <| .bar 5 [] <| .take 6 <| .take 7 <| .done) else (none))
  (fun i => none)
  (fun i => none) []) (fun i => bif Nat.beq i 10 then some ([.int .i64]) else (none))
set_option maxRecDepth 100000 in
theorem eq_whole_Put (C : CallP) (Y : YP) (c : Option Addr) (base : Int) (n_1 : Int) (n_2 : Bool) (h : Heap) (K : Value → Heap → Prop) (Kp : List PanicEntry → Heap → Prop) :
    fnY Go.Proofs.Try.prog C Y hints_whole_Put Go.Proofs.Try.f31 [.pointer c, .int .i64 base, .agg #[.int .i64 n_1, .bool n_2]] h K Kp = whole_Put C Y c base n_1 n_2 h K Kp := by kernel_rfl

theorem call_whole_Put {c : Option Addr} {base : Int} {n_1 : Int} {n_2 : Bool} {h : Heap} {K : Value → Heap → Prop} {Kp : List PanicEntry → Heap → Prop} (H : whole_Put (CallsHP Go.Proofs.Try.prog) (YieldsHP Go.Proofs.Try.prog) c base n_1 n_2 h K Kp) : CallsHP Go.Proofs.Try.prog F_whole_Put #[.pointer c, .int .i64 base, .agg #[.int .i64 n_1, .bool n_2]] h K Kp :=
  callsHP_ofY hints_whole_Put (by kernel_rfl) Go.Proofs.Try.func31 (by kernel_rfl) (by rw [eq_whole_Put]; exact H)

noncomputable def hints_whole_Get : Hints := Hints.mk (fun i => bif Nat.beq i 18 then some ([], .take 0 <| .take 1 <| .take 2 <| .take 3 <| .take 4 <| .go 5 <| .take 6 <| .done) else (none))
  (fun i => bif Nat.beq i 9 then some ([(9, .int .i64)], 8793945539072) else (bif Nat.beq i 13 then some ([(10, .int .i64), (48, .int .i64)], 71776119061218304) else (none)))
  (fun i => bif Nat.beq i 11 then some ([(9, .int .i64)], 8793945539072) else (bif Nat.beq i 22 then some ([(79, .bool)], 76766789545528952593842176) else (none))) []
set_option maxRecDepth 100000 in
theorem eq_whole_Get (C : CallP) (a0 : Option Addr) (a1 : Int) (h : Heap) (K : Value → Heap → Prop) (Kp : List PanicEntry → Heap → Prop) :
    fnD Go.Proofs.Try.prog C hints_whole_Get Go.Proofs.Try.f40 [.pointer a0, .int .i64 a1] h K Kp = whole_Get C a0 a1 h K Kp := by kernel_rfl

theorem call_whole_Get {a0 : Option Addr} {a1 : Int} {h : Heap} {K : Value → Heap → Prop} {Kp : List PanicEntry → Heap → Prop} (H : whole_Get (CallsHP Go.Proofs.Try.prog) a0 a1 h K Kp) : CallsHP Go.Proofs.Try.prog F_whole_Get #[.pointer a0, .int .i64 a1] h K Kp :=
  callsHP_of hints_whole_Get (by kernel_rfl) Go.Proofs.Try.func40 (by kernel_rfl) (by rw [eq_whole_Get]; exact H)

noncomputable def hints_whole_GetID : Hints := Hints.mk (fun i => none)
  (fun i => bif Nat.beq i 8 then some ([(9, .int .i64), (25, .int .i64)], 8796059471552) else (none))
  (fun i => none) []
set_option maxRecDepth 100000 in
theorem eq_whole_GetID (C : CallP) (d : Option Addr) (base : Int) (width : Int) (h : Heap) (K : Value → Heap → Prop) (Kp : List PanicEntry → Heap → Prop) :
    fnD Go.Proofs.Try.prog C hints_whole_GetID Go.Proofs.Try.f41 [.pointer d, .int .i64 base, .int .i64 width] h K Kp = whole_GetID C d base width h K Kp := by kernel_rfl

theorem call_whole_GetID {d : Option Addr} {base : Int} {width : Int} {h : Heap} {K : Value → Heap → Prop} {Kp : List PanicEntry → Heap → Prop} (H : whole_GetID (CallsHP Go.Proofs.Try.prog) d base width h K Kp) : CallsHP Go.Proofs.Try.prog F_whole_GetID #[.pointer d, .int .i64 base, .int .i64 width] h K Kp :=
  callsHP_of hints_whole_GetID (by kernel_rfl) Go.Proofs.Try.func41 (by kernel_rfl) (by rw [eq_whole_GetID]; exact H)

noncomputable def hints_whole_right : Hints := Hints.mk (fun i => none)
  (fun i => none)
  (fun i => none) []
set_option maxRecDepth 100000 in
theorem eq_whole_right (C : CallP) (n_1 : Int) (n_2 : Bool) (h : Heap) (K : Value → Heap → Prop) (Kp : List PanicEntry → Heap → Prop) :
    fnD Go.Proofs.Try.prog C hints_whole_right Go.Proofs.Try.f62 [.agg #[.int .i64 n_1, .bool n_2]] h K Kp = whole_right C n_1 n_2 h K Kp := by kernel_rfl

theorem call_whole_right {n_1 : Int} {n_2 : Bool} {h : Heap} {K : Value → Heap → Prop} {Kp : List PanicEntry → Heap → Prop} (H : whole_right (CallsHP Go.Proofs.Try.prog) n_1 n_2 h K Kp) : CallsHP Go.Proofs.Try.prog F_whole_right #[.agg #[.int .i64 n_1, .bool n_2]] h K Kp :=
  callsHP_of hints_whole_right (by kernel_rfl) Go.Proofs.Try.func62 (by kernel_rfl) (by rw [eq_whole_right]; exact H)

noncomputable def hints_whole_ids : Hints := Hints.mk (fun i => none)
  (fun i => none)
  (fun i => none) []
set_option maxRecDepth 100000 in
theorem eq_whole_ids (C : CallP) (base : Int) (width : Int) (all : Int) (h : Heap) (K : Value → Heap → Prop) (Kp : List PanicEntry → Heap → Prop) :
    fnD Go.Proofs.Try.prog C hints_whole_ids Go.Proofs.Try.f67 [.int .i64 base, .int .i64 width, .int .i64 all] h K Kp = whole_ids C base width all h K Kp := by kernel_rfl

theorem call_whole_ids {base : Int} {width : Int} {all : Int} {h : Heap} {K : Value → Heap → Prop} {Kp : List PanicEntry → Heap → Prop} (H : whole_ids (CallsHP Go.Proofs.Try.prog) base width all h K Kp) : CallsHP Go.Proofs.Try.prog F_whole_ids #[.int .i64 base, .int .i64 width, .int .i64 all] h K Kp :=
  callsHP_of hints_whole_ids (by kernel_rfl) Go.Proofs.Try.func67 (by kernel_rfl) (by rw [eq_whole_ids]; exact H)

noncomputable def hints_whole_fits : Hints := Hints.mk (fun i => none)
  (fun i => none)
  (fun i => none) []
set_option maxRecDepth 100000 in
theorem eq_whole_fits (C : CallP) (base : Int) (many : Int) (all : Int) (h : Heap) (K : Value → Heap → Prop) (Kp : List PanicEntry → Heap → Prop) :
    fnD Go.Proofs.Try.prog C hints_whole_fits Go.Proofs.Try.f71 [.int .i64 base, .int .i64 many, .int .i64 all] h K Kp = whole_fits C base many all h K Kp := by kernel_rfl

theorem call_whole_fits {base : Int} {many : Int} {all : Int} {h : Heap} {K : Value → Heap → Prop} {Kp : List PanicEntry → Heap → Prop} (H : whole_fits (CallsHP Go.Proofs.Try.prog) base many all h K Kp) : CallsHP Go.Proofs.Try.prog F_whole_fits #[.int .i64 base, .int .i64 many, .int .i64 all] h K Kp :=
  callsHP_of hints_whole_fits (by kernel_rfl) Go.Proofs.Try.func71 (by kernel_rfl) (by rw [eq_whole_fits]; exact H)

noncomputable def hints_whole_bits : Hints := Hints.mk (fun i => bif Nat.beq i 1 then some ([6], .keep <| .take 0 <| .take 1 <| .take 2 <| .alt 3 (.go 4 <| .go 5 <| .bar 6 [] <| .done) <| .go 4 <| .go 3 <| .go 5 <| .bar 6 [] <| .done) else (bif Nat.beq i 3 then some ([3], .keep <| .take 0 <| .take 1 <| .go 2 <| .bar 3 [] <| .done) else (none)))
  (fun i => none)
  (fun i => none) []
set_option maxRecDepth 100000 in
theorem eq_whole_bits (C : CallP) (n_1 : Int) (n_2 : Bool) (h : Heap) (K : Value → Heap → Prop) (Kp : List PanicEntry → Heap → Prop) :
    fnD Go.Proofs.Try.prog C hints_whole_bits Go.Proofs.Try.f72 [.agg #[.int .i64 n_1, .bool n_2]] h K Kp = whole_bits C n_1 n_2 h K Kp := by kernel_rfl

theorem call_whole_bits {n_1 : Int} {n_2 : Bool} {h : Heap} {K : Value → Heap → Prop} {Kp : List PanicEntry → Heap → Prop} (H : whole_bits (CallsHP Go.Proofs.Try.prog) n_1 n_2 h K Kp) : CallsHP Go.Proofs.Try.prog F_whole_bits #[.agg #[.int .i64 n_1, .bool n_2]] h K Kp :=
  callsHP_of hints_whole_bits (by kernel_rfl) Go.Proofs.Try.func72 (by kernel_rfl) (by rw [eq_whole_bits]; exact H)

noncomputable def hints_whole_next : Hints := Hints.mk (fun i => none)
  (fun i => none)
  (fun i => none) []
set_option maxRecDepth 100000 in
theorem eq_whole_next (C : CallP) (v : Int) (bit : Int) (h : Heap) (K : Value → Heap → Prop) (Kp : List PanicEntry → Heap → Prop) :
    fnD Go.Proofs.Try.prog C hints_whole_next Go.Proofs.Try.f73 [.int .i64 v, .int .i64 bit] h K Kp = whole_next C v bit h K Kp := by kernel_rfl

theorem call_whole_next {v : Int} {bit : Int} {h : Heap} {K : Value → Heap → Prop} {Kp : List PanicEntry → Heap → Prop} (H : whole_next (CallsHP Go.Proofs.Try.prog) v bit h K Kp) : CallsHP Go.Proofs.Try.prog F_whole_next #[.int .i64 v, .int .i64 bit] h K Kp :=
  callsHP_of hints_whole_next (by kernel_rfl) Go.Proofs.Try.func73 (by kernel_rfl) (by rw [eq_whole_next]; exact H)

noncomputable def hints_whole_getter_bit : Hints := Hints.mk (fun i => bif Nat.beq i 3 then some ([13], .take 0 <| .take 1 <| .take 2 <| .take 4 <| .take 5 <| .take 6 <| .take 8 <| .take 9 <| .take 10 <| .take 3 <| .take 7 <| .take 11 <| .take 12 <| .bar 13 [] <| .take 14 <| .take 15 <| .take 16 <| .take 17 <| .take 18 <| .done) else (none))
  (fun i => none)
  (fun i => none) []
set_option maxRecDepth 100000 in
theorem eq_whole_getter_bit (C : CallP) (g : Option Addr) (h : Heap) (K : Value → Heap → Prop) (Kp : List PanicEntry → Heap → Prop) :
    fnD Go.Proofs.Try.prog C hints_whole_getter_bit Go.Proofs.Try.f80 [.pointer g] h K Kp = whole_getter_bit C g h K Kp := by kernel_rfl

theorem call_whole_getter_bit {g : Option Addr} {h : Heap} {K : Value → Heap → Prop} {Kp : List PanicEntry → Heap → Prop} (H : whole_getter_bit (CallsHP Go.Proofs.Try.prog) g h K Kp) : CallsHP Go.Proofs.Try.prog F_whole_getter_bit #[.pointer g] h K Kp :=
  callsHP_of hints_whole_getter_bit (by kernel_rfl) Go.Proofs.Try.func80 (by kernel_rfl) (by rw [eq_whole_getter_bit]; exact H)

noncomputable def hints_whole_sizes : Hints := Hints.mk (fun i => none)
  (fun i => none)
  (fun i => none) []
set_option maxRecDepth 100000 in
theorem eq_whole_sizes (C : CallP)  (h : Heap) (K : Value → Heap → Prop) (Kp : List PanicEntry → Heap → Prop) :
    fnD Go.Proofs.Try.prog C hints_whole_sizes Go.Proofs.Try.f81 [] h K Kp = whole_sizes C  h K Kp := by kernel_rfl

theorem call_whole_sizes  {h : Heap} {K : Value → Heap → Prop} {Kp : List PanicEntry → Heap → Prop} (H : whole_sizes (CallsHP Go.Proofs.Try.prog)  h K Kp) : CallsHP Go.Proofs.Try.prog F_whole_sizes #[] h K Kp :=
  callsHP_of hints_whole_sizes (by kernel_rfl) Go.Proofs.Try.func81 (by kernel_rfl) (by rw [eq_whole_sizes]; exact H)

noncomputable def hints_whole_bits_c1 : HintsY := HintsY.mk (Hints.mk (fun i => bif Nat.beq i 3 then some ([], .take 1 <| .take 2 <| .take 3 <| .take 4 <| .take 0 <| .take 5 <| .take 6 <| .done) else (bif Nat.beq i 13 then some ([12], .take 0 <| .take 2 <| .take 3 <| .take 4 <| .take 5 <| .take 8 <| .take 1 <| .take 6 <| .take 7 <| .take 9 <| .take 10 <| .take 11 <| .bar 12 [] <| .take 13 <| .done) else (none)))
  (fun i => bif Nat.beq i 3 then some ([(5, .int .i64)], 16744480) else (bif Nat.beq i 6 then some ([(25, .int .i64)], 2113929216) else (bif Nat.beq i 11 then some ([(6, .int .i64)], 36893347409930747968) else (none))))
  (fun i => bif Nat.beq i 10 then some ([], 2196875771904) else (none)) []) (fun i => none)
set_option maxRecDepth 100000 in
theorem eq_whole_bits_c1 (C : CallP) (Y : YP) (a0 : Nat) (cap0 : Addr) (cap1 : Addr) (h : Heap) (K : Value → Heap → Prop) (Kp : List PanicEntry → Heap → Prop) :
    fnY Go.Proofs.Try.prog C Y hints_whole_bits_c1 Go.Proofs.Try.f114 [.func (.yield a0) #[] #[], .pointer (some cap0), .pointer (some cap1)] h K Kp = whole_bits_c1 C Y a0 cap0 cap1 h K Kp := by kernel_rfl

theorem call_whole_bits_c1 {a0 : Nat} {cap0 : Addr} {cap1 : Addr} {h : Heap} {K : Value → Heap → Prop} {Kp : List PanicEntry → Heap → Prop} (H : whole_bits_c1 (CallsHP Go.Proofs.Try.prog) (YieldsHP Go.Proofs.Try.prog) a0 cap0 cap1 h K Kp) : CallsHP Go.Proofs.Try.prog F_whole_bits_c1 #[.func (.yield a0) #[] #[], .pointer (some cap0), .pointer (some cap1)] h K Kp :=
  callsHP_ofY hints_whole_bits_c1 (by kernel_rfl) Go.Proofs.Try.func114 (by kernel_rfl) (by rw [eq_whole_bits_c1]; exact H)

end Go.Den.Yteakipgcanafoaa

/- WhA: whole numbers by decisions: their bits; the iterator over them, whatever is done with a bit. -/
set_option linter.unusedVariables false
set_option linter.unusedSimpArgs false
namespace Go.Bm
open Go Go.Den Go.Den.Yteakipgcanafoaa

def wFrom (k : Nat) : Nat := [0, 4, 20, 84, 340, 4436].getD k 0
def wWid (k : Nat) : Nat := [2, 4, 6, 8, 12, 32].getD k 0
def wK (m : Nat) : Nat := if m < 4 then 0 else if m < 20 then 1 else if m < 84 then 2 else if m < 340 then 3 else if m < 4436 then 4 else 5
theorem wK_le (m : Nat) : wK m ≤ 5 := by unfold wK; (repeat' split) <;> omega
theorem wK_spec (m : Nat) : wFrom (wK m) ≤ m ∧ ∀ k, k ≤ 5 → wK m < k → m < wFrom k := by
  have h1 : wFrom 0 = 0 := rfl
  have h2 : wFrom 1 = 4 := rfl
  have h3 : wFrom 2 = 20 := rfl
  have h4 : wFrom 3 = 84 := rfl
  have h5 : wFrom 4 = 340 := rfl
  have h6 : wFrom 5 = 4436 := rfl
  have all : ∀ k, k ≤ 5 → k = 0 ∨ k = 1 ∨ k = 2 ∨ k = 3 ∨ k = 4 ∨ k = 5 := fun k hk => by omega
  unfold wK
  split
  · exact ⟨by omega, fun k hk hl => by rcases all k hk with rfl | rfl | rfl | rfl | rfl | rfl <;> omega⟩
  · split
    · exact ⟨by omega, fun k hk hl => by rcases all k hk with rfl | rfl | rfl | rfl | rfl | rfl <;> omega⟩
    · split
      · exact ⟨by omega, fun k hk hl => by rcases all k hk with rfl | rfl | rfl | rfl | rfl | rfl <;> omega⟩
      · split
        · exact ⟨by omega, fun k hk hl => by rcases all k hk with rfl | rfl | rfl | rfl | rfl | rfl <;> omega⟩
        · split
          · exact ⟨by omega, fun k hk hl => by rcases all k hk with rfl | rfl | rfl | rfl | rfl | rfl <;> omega⟩
          · exact ⟨by omega, fun k hk hl => by omega⟩
/-- So many of a number's last bits, from the highest on. -/
def tailB (x w : Nat) : List Nat := (List.range w).map fun i => x / 2 ^ (w - 1 - i) % 2
theorem tailB_len (x w : Nat) : (tailB x w).length = w := by simp [tailB]
theorem tailB_at {x w i : Nat} (h : i < w) : ∃ rest, tailB x w = (tailB x w).take i ++ x / 2 ^ (w - 1 - i) % 2 :: rest := by
  refine ⟨(tailB x w).drop (i + 1), ?_⟩
  have hl : i < (tailB x w).length := by rw [tailB_len]; exact h
  have e : x / 2 ^ (w - 1 - i) % 2 = (tailB x w)[i] := by simp [tailB]
  rw [e, ← List.drop_eq_getElem_cons hl, List.take_append_drop]
theorem tailB_take {x w i : Nat} (h : i < w) : (tailB x w).take (i + 1) = (tailB x w).take i ++ [x / 2 ^ (w - 1 - i) % 2] := by
  have hl : i < (tailB x w).length := by rw [tailB_len]; exact h
  rw [List.take_succ_eq_append_getElem hl]
  simp [tailB]
def headB (sg m : Nat) : List Nat := [sg] ++ List.replicate (wK m) 1 ++ (if wK m < 5 then [0] else [])
def bitsL (sg m : Nat) : List Nat := headB sg m ++ tailB (m - wFrom (wK m)) (wWid (wK m))

def sizeC : List Value := [.int .u64 0, .int .i64 2, .int .u64 4, .int .i64 4, .int .u64 20, .int .i64 6, .int .u64 84, .int .i64 8, .int .u64 340, .int .i64 12, .int .u64 4436, .int .i64 32]
theorem sizeC_get {k : Nat} (h : k ≤ 5) : sizeC[k * 2]? = some (.int .u64 (wFrom k : Nat)) ∧ sizeC[k * 2 + 1]? = some (.int .i64 (wWid k : Nat)) := by
  have : k = 0 ∨ k = 1 ∨ k = 2 ∨ k = 3 ∨ k = 4 ∨ k = 5 := by omega
  rcases this with rfl | rfl | rfl | rfl | rfl | rfl <;> exact ⟨rfl, rfl⟩
theorem wsizes_ok {hB : Heap} {K : Value → Heap → Prop} {Kp : List PanicEntry → Heap → Prop} (hk : ∀ r h', Hp hB [] h' [⟨r, true, T_whole_size, sizeC⟩] → K (.slice (at0 r) 6 6) h') : CP F_whole_sizes #[] hB K Kp := by
  refine call_whole_sizes ?_
  unfold whole_sizes
  exact newC_hp (Hp.nil hB []) fun r h H => hk r h H

/-! ### rows and a loop's record -/
theorem objExt {h h' : Heap} {l : Nat} {o : Obj} (H : objAt h l o) (e : hext h h') : objAt h' l o := by
  have hl := (Array.getElem?_eq_some_iff.1 H).1
  exact (e.2 l hl).trans H
theorem hpX {h0 h h' : Heap} {F : List Nat} {A M M' : List Ent} {l : Nat} (H : Hp h0 F h (A ++ M)) (hw : M.all Ent.w = true) (H' : Hp h (l :: M.map Ent.b) h' M') : Hp h0 (l :: F) h' M' := by
  have old : ∀ b, b ∈ M.map Ent.b → b ∈ F ∨ h0.size ≤ b := fun b hb => by
    obtain ⟨e, he, rfl⟩ := List.mem_map.1 hb
    exact H.memw e (List.mem_append_right _ he) (List.all_eq_true.1 hw e he)
  refine ⟨⟨Nat.le_trans H.fr.1 H'.fr.1, fun b hb hF => ?_⟩, H'.bl, fun k e he hew => ?_, H'.nd⟩
  · have hbl : b ≠ l := fun e => hF (by rw [e]; exact List.mem_cons_self ..)
    have hbF : b ∉ F := fun e => hF (List.mem_cons_of_mem _ e)
    rw [H'.fr.2 b (Nat.lt_of_lt_of_le hb H.fr.1) (fun hm => by
      rcases List.mem_cons.1 hm with hm | hm
      · exact hbl hm
      · rcases old b hm with h1 | h1
        · exact hbF h1
        · omega)]
    exact H.fr.2 b hb hbF
  · rcases H'.wr k e he hew with h1 | h1
    · rcases List.mem_cons.1 h1 with h2 | h2
      · exact .inl (by rw [h2]; exact List.mem_cons_self ..)
      · rcases old _ h2 with h3 | h3
        · exact .inl (List.mem_cons_of_mem _ h3)
        · exact .inr h3
    · exact .inr (Nat.le_trans H.fr.1 h1)

/-- What is done with a bit: 'S pre M' is what is known behind the bits 'pre'; 'Sx M' behind the one at which it is left off. -/
def BitOk (Y : YP) (l : Nat) (oR oJ : Obj) (bits : List Nat) (S : List Nat → List Ent → Prop) (Sx : List Ent → Prop) : Prop :=
  (∀ pre M, S pre M → M.all Ent.w = true) ∧ ∀ {hA h : Heap} {FF : List Nat} {M : List Ent} {pre rest : List Nat} {b : Nat} {K : Value → Heap → Prop}, bits = pre ++ b :: rest → S pre M → Hp hA FF h M → objAt h l oR →
    (∀ M' h', S (pre ++ [b]) M' → Hp hA FF h' M' → objAt h' l oR → K (.bool true) h') → (∀ M' h', Sx M' → Hp hA (l :: FF) h' M' → objAt h' l oJ → K (.bool false) h') → Y l [.int .i64 (b : Nat)] h K
end Go.Bm

/- RfB: the contexts of refinement: what the program's closures tell of a pixel's neighbours; the rows of a callee that stand last. -/
set_option linter.unusedVariables false
set_option linter.unusedSimpArgs false
namespace Go.Den
open Go

section
variable {h0 h h' : Heap} {F : List Nat} {A S S' : List Ent}
/-- The last rows are handed to a callee. -/
theorem Hp.giveS (H : Hp h0 F h (A ++ S)) : Hp h (S.map Ent.b) h S :=
  Hp.mk' (Fr.refl _ _) (fun e he => H.mem e (List.mem_append_right _ he)) (fun e he _ => .inl (List.mem_map.2 ⟨e, he, rfl⟩)) H.suf.pw
/-- They come back. -/
theorem Hp.putS (H : Hp h0 F h (A ++ S)) (hw : S.all Ent.w = true) (H' : Hp h (S.map Ent.b) h' S') (hw' : S'.all Ent.w = true) : Hp h0 F h' (A ++ S') := by
  have hSw : ∀ e ∈ S, e.w = true := List.all_eq_true.1 hw
  have hSw' : ∀ e ∈ S', e.w = true := List.all_eq_true.1 hw'
  have hown : ∀ b ∈ S.map Ent.b, b ∈ F ∨ h0.size ≤ b := fun b hb => by
    obtain ⟨e, he, rfl⟩ := List.mem_map.1 hb
    exact H.memw e (List.mem_append_right _ he) (hSw e he)
  have hap : ∀ e ∈ A, e.b ∉ S.map Ent.b := fun e he hb => by
    obtain ⟨e', he', hbb⟩ := List.mem_map.1 hb
    exact (List.pairwise_append.1 H.pw).2.2 e he e' he' hbb.symm
  have hlt : ∀ e ∈ A, e.b < h.size := fun e he => (H.mem e (List.mem_append_left _ he)).lt
  refine Hp.mk' ⟨Nat.le_trans H.fr.1 H'.fr.1, fun b hb hF => ?_⟩ (fun e he => ?_) (fun e he hwt => ?_) ?_
  · rw [H'.fr.2 b (Nat.lt_of_lt_of_le hb H.fr.1) (fun hm => by
      rcases hown b hm with h1 | h1
      · exact hF h1
      · omega)]
    exact H.fr.2 b hb hF
  · rcases List.mem_append.1 he with he | he
    · have h1 := H.mem e (List.mem_append_left _ he)
      unfold Blk at h1 ⊢
      rw [H'.fr.2 e.b (hlt e he) (hap e he)]
      exact h1
    · exact H'.mem e he
  · rcases List.mem_append.1 he with he | he
    · exact H.memw e (List.mem_append_left _ he) hwt
    · rcases H'.memw e he hwt with h1 | h1
      · exact hown _ h1
      · exact .inr (Nat.le_trans H.fr.1 h1)
  · refine List.pairwise_append.2 ⟨H.pre.pw, H'.pw, fun e he e' he' hb => ?_⟩
    rcases H'.memw e' he' (hSw' e' he') with h1 | h1
    · exact hap e he (hb ▸ h1)
    · have := hlt e he
      omega
end
end Go.Den

namespace Go.Bm
open Go Go.Den Go.Den.Yteakipgcanafoaa

/-- Bits, the first one the highest. -/
def bitsN : Nat → List Bool → Nat
  | n, [] => n
  | n, b :: l => bitsN (2 * n + b.toNat) l
def ownB (B : Int → Int → Bool) (x y : Int) : List Bool := [B (x - 1) (y + -1), B x (y + -1), B (x + 1) (y + -1), B (x - 1) (y + 0)]
def rowB3 (R : Int → Int → Bool) (dx x y : Int) : List Bool := [R (x - 1 - dx) y, R (x - dx) y, R (x + 1 - dx) y]
def rowsN (R : Int → Int → Bool) (dx dy x y : Int) : Nat → List Bool
  | 0 => []
  | d + 1 => rowsN R dx dy x y d ++ rowB3 R dx x (y + ((d : Int) - 1) - dy)
/-- The context of a pixel. -/
def ctxN (B R : Int → Int → Bool) (dx dy x y : Int) : Nat := bitsN 0 (ownB B x y ++ rowsN R dx dy x y 3)
theorem toNat_le (b : Bool) : b.toNat ≤ 1 := by cases b <;> decide
theorem bitsN_lt : ∀ (l : List Bool) (n m : Nat), n < 2 ^ m → bitsN n l < 2 ^ (m + l.length)
  | [], n, m, h => h
  | b :: l, n, m, h => by
    have := bitsN_lt l (2 * n + b.toNat) (m + 1) (by rw [Nat.pow_succ]; have := toNat_le b; omega)
    rw [show m + (b :: l).length = m + 1 + l.length by simp; omega]
    exact this
theorem ctxN_lt (B R : Int → Int → Bool) (dx dy x y : Int) : ctxN B R dx dy x y < 8192 := by
  unfold ctxN
  exact Nat.lt_of_lt_of_eq (bitsN_lt _ 0 0 (by decide)) (by simp [ownB, rowB3, rowsN])
theorem bitsN_app : ∀ (l l' : List Bool) (n : Nat), bitsN n (l ++ l') = bitsN (bitsN n l) l'
  | [], _, _ => rfl
  | b :: l, l', n => bitsN_app l l' _

theorem orI (a b : Nat) (ha : a < 9223372036854775808) (hb : b < 9223372036854775808) : bitI .or .i64 a b = ((a ||| b : Nat) : Int) := (bits_nat .i64 63 (by decide) wr63 a b ha hb).2
theorem or_add {i a b : Nat} (hb : b < 2 ^ i) : (a * 2 ^ i) ||| b = a * 2 ^ i + b := by
  rw [Nat.mul_comm]
  exact (Nat.two_pow_add_eq_or_of_lt hb a).symm
theorem shlI_of {a i : Nat} (hi : i ≤ 64) (ha : a * 2 ^ i < 9223372036854775808) : shlI .i64 (a : Int) (i : Int) = ((a * 2 ^ i : Nat) : Int) := shl_of hi (i64_in _ (by omega) (by omega))
theorem orA {i A B : Nat} (hi : i ≤ 62) (hA : A % 2 ^ i = 0) (hB : B < 2 ^ i) (hA2 : A < 9223372036854775808) : bitI .or .i64 (A : Int) (B : Int) = ((A + B : Nat) : Int) := by
  have : 2 ^ i ≤ 2 ^ 62 := Nat.pow_le_pow_right (by decide) hi
  rw [orI _ _ hA2 (by omega)]
  have e : A = A / 2 ^ i * 2 ^ i := by have := Nat.div_add_mod A (2 ^ i); rw [hA, Nat.add_zero, Nat.mul_comm] at this; exact this.symm
  rw [e, or_add hB]
theorem shl3 {a : Nat} (h : a < 100000000000) : shlI .i64 (a : Int) 3 = ((a * 8 : Nat) : Int) := shlI_of (i := 3) (by decide) (by omega)
theorem shl2 {a : Nat} (h : a < 100000000000) : shlI .i64 (a : Int) 2 = ((a * 4 : Nat) : Int) := shlI_of (i := 2) (by decide) (by omega)
theorem shl1 {a : Nat} (h : a < 100000000000) : shlI .i64 (a : Int) 1 = ((a * 2 : Nat) : Int) := shlI_of (i := 1) (by decide) (by omega)

section
variable {h0 h : Heap} {FF : List Nat} {L : List Ent} {p q c W X r1 ry : Nat} {w : Bool} {t1 t2 : TypeId} {ws : List Nat} {rest : List Value} {K : Value → Heap → Prop} {Kp : List PanicEntry → Heap → Prop}

end

/-! ### the deferred closure of 'run' -/
end Go.Bm

/- WhB: the iterator over a number's bits. -/
set_option linter.unusedVariables false
set_option linter.unusedSimpArgs false
namespace Go.Bm
open Go Go.Den Go.Den.Yteakipgcanafoaa

abbrev YS : YP := YieldsHP Go.Proofs.Try.prog
set_option maxRecDepth 100000 in
set_option maxHeartbeats 2000000 in
theorem bitsC_ok {h0 h : Heap} {FF : List Nat} {M : List Ent} {l sg m : Nat} {oR oJ : Obj} {cap0 cap1 : Addr} {S : List Nat → List Ent → Prop} {Sx : List Ent → Prop} (hm : m < 4611686018427387904) (H : Hp h0 FF h M) (hS : S [] M) (hl : objAt h l oR)
    (hc0 : hcell h0 cap0 = some (.int .i64 (sg : Nat))) (hc1 : hcell h0 cap1 = some (.int .u64 (m : Nat))) (hn0 : cap0.block ∉ FF) (hn1 : cap1.block ∉ FF) (hY : BitOk YS l oR oJ (bitsL sg m) S Sx) {K : Value → Heap → Prop} {Kp : List PanicEntry → Heap → Prop}
    (hk : ∀ M' h', S (bitsL sg m) M' → Hp h0 FF h' M' → objAt h' l oR → K (.tuple #[]) h') (hx : ∀ M' h', Sx M' → Hp h0 (l :: FF) h' M' → objAt h' l oJ → K (.tuple #[]) h') :
    CP F_whole_bits_c1 #[.func (.yield l) #[] #[], .pointer (some cap0), .pointer (some cap1)] h K Kp := by
  refine call_whole_bits_c1 (a0 := l) (cap0 := cap0) (cap1 := cap1) ?_
  unfold whole_bits_c1
  refine ldI_of (H.fr.cell hn0 hc0) ?_
  have hb0 : bitsL sg m = [] ++ sg :: (List.replicate (wK m) 1 ++ (if wK m < 5 then [0] else []) ++ tailB (m - wFrom (wK m)) (wWid (wK m))) := by simp [bitsL, headB]
  refine hY.2 hb0 hS (Hp.giveS (A := []) H) hl (fun M1 h1 hs1 H1 ho1 => ?_) fun M1 h1 hx1 H1 ho1 => ⟨_, rfl, bcase_true rfl (hx M1 h1 hx1 (hpX (A := []) H (hY.1 _ _ hS) H1) ho1)⟩
  refine ⟨_, rfl, bcase_false rfl ?_⟩
  replace H := Hp.putS (A := []) H (hY.1 _ _ hS) H1 (hY.1 _ _ hs1)
  clear H1
  rw [List.nil_append] at hs1
  refine wsizes_ok fun r h2 H2 => ?_
  have ho2 := objExt ho1 H2.hext
  replace H := (H.join H2 rfl).rot
  clear H2
  refine ⟨_, _, _, rfl, ?_⟩
  have H : Hp h0 FF h2 ([⟨r, true, T_whole_size, sizeC⟩] ++ M1) := H
  have yld : ∀ {h : Heap} {M : List Ent} {pre rest : List Nat} {b : Nat} {K1 : Value → Heap → Prop}, Hp h0 FF h ([⟨r, true, T_whole_size, sizeC⟩] ++ M) → objAt h l oR → S pre M → bitsL sg m = pre ++ b :: rest →
      (∀ M' h', S (pre ++ [b]) M' → Hp h0 FF h' ([⟨r, true, T_whole_size, sizeC⟩] ++ M') → objAt h' l oR → K1 (.bool true) h') → (∀ M' h', Sx M' → Hp h0 (l :: FF) h' M' → objAt h' l oJ → K1 (.bool false) h') → YS l [.int .i64 (b : Nat)] h K1 :=
    fun H ho hs hb h1 h2 => hY.2 hb hs H.giveS ho (fun M' h' hs' H' ho' => h1 M' h' hs' (H.putS (hY.1 _ _ hs) H' (hY.1 _ _ hs')) ho') fun M' h' hx' H' ho' => h2 M' h' hx' (hpX H (hY.1 _ _ hs) H') ho'
  have hwk := wK_le m
  obtain ⟨hw1, hw2⟩ := wK_spec m
  refine bindI_of (((5 : Nat) : Int)) (by exact i64_at _ _ (by omega) (by omega) (by omega)) ?_
  refine ⟨fun n vs h' => ∃ k : Nat, n = k ∧ wK m ≤ k ∧ k ≤ 5 ∧ vs = [.int .i64 (k : Nat)] ∧ Hp h0 FF h' ([⟨r, true, T_whole_size, sizeC⟩] ++ M1) ∧ objAt h' l oR, ⟨5, 5, rfl, hwk, Nat.le_refl _, rfl, H, ho2⟩, ?_⟩
  clear H ho2
  rintro n h u xx ⟨k, rfl, hk1, hk2, hxx, H, ho⟩
  injection hxx with hxx
  injection hxx with _ hxx
  subst hxx
  obtain ⟨g0, g1⟩ := sizeC_get hk2
  refine needs_of (by omega) (ptr_of (a := ⟨r, 0, none⟩) ?_)
  rw [Int.toNat_natCast]
  refine ldI_of (H.fr.cell hn1 hc1) ?_
  refine ldI_of (hpB H 0 rfl (by rw [Nat.zero_add, Nat.add_zero]; exact g0)) ?_
  refine bcase_dec (fun h3 => ?_) fun h3 => ?_
  · have hlt : wK m < n := by
      rcases Nat.lt_or_ge (wK m) n with h4 | h4
      · exact h4
      · have : wK m = n := by omega
        rw [this] at hw1
        omega
    refine bindI_of (((n - 1 : Nat) : Int)) (by exact i64_at _ _ (by omega) (by omega) (by omega)) ?_
    exact ⟨n - 1, by omega, n - 1, rfl, by omega, by omega, rfl, H, ho⟩
  · have hkn : wK m = n := by
      rcases Nat.lt_or_ge (wK m) n with h4 | h4
      · have := hw2 n hk2 h4
        omega
      · omega
    refine ⟨fun n' vs h' => ∃ (x : Nat) (M' : List Ent), x + n' = n ∧ vs = [.int .i64 (x : Nat)] ∧ S ([sg] ++ List.replicate x 1) M' ∧ Hp h0 FF h' ([⟨r, true, T_whole_size, sizeC⟩] ++ M') ∧ objAt h' l oR, ⟨n, 0, M1, by omega, rfl, hs1, H, ho⟩, ?_⟩
    clear H ho hs1
    rintro n2 h u xx ⟨x, M2, hxn, hxx, hs2, H, ho⟩
    injection hxx with hxx
    injection hxx with _ hxx
    subst hxx
    refine bcase_dec (fun h4 => ?_) fun h4 => ?_
    · have hb : bitsL sg m = ([sg] ++ List.replicate x 1) ++ 1 :: (List.replicate (n - x - 1) 1 ++ (if wK m < 5 then [0] else []) ++ tailB (m - wFrom (wK m)) (wWid (wK m))) := by
        have e : List.replicate (wK m) 1 = List.replicate x 1 ++ 1 :: List.replicate (n - x - 1) 1 := by
          rw [← List.replicate_succ, List.replicate_append_replicate]
          congr 1
          omega
        unfold bitsL headB
        rw [e]
        simp
      refine yld (b := 1) H ho hs2 hb (fun M3 h5 hs3 H ho => ?_) fun M3 h5 hx3 H ho => ⟨_, rfl, bcase_true rfl (hx M3 h5 hx3 H ho)⟩
      refine ⟨_, rfl, bcase_false rfl ?_⟩
      refine bindI_of (((x + 1 : Nat) : Int)) (by exact i64_at _ _ (by omega) (by omega) (by omega)) ?_
      refine ⟨n2 - 1, by omega, x + 1, M3, by omega, rfl, ?_, H, ho⟩
      rw [List.replicate_succ', ← List.append_assoc]
      exact hs3
    · obtain rfl : x = n := by omega
      refine ⟨fun vs h' => vs = [] ∧ ∃ M', S (headB sg m) M' ∧ Hp h0 FF h' ([⟨r, true, T_whole_size, sizeC⟩] ++ M') ∧ objAt h' l oR, ?_, ?_⟩
      · refine bindI_of (((5 : Nat) : Int)) (by exact i64_at _ _ (by omega) (by omega) (by omega)) ?_
        refine bcase_dec (fun h6 => ?_) fun h6 => ?_
        · have h6 : wK m < 5 := by omega
          have hb : bitsL sg m = ([sg] ++ List.replicate x 1) ++ 0 :: tailB (m - wFrom (wK m)) (wWid (wK m)) := by
            unfold bitsL headB
            rw [if_pos h6, hkn]
            simp
          refine yld (b := 0) H ho hs2 hb (fun M3 h5 hs3 H ho => ?_) fun M3 h5 hx3 H ho => ⟨_, rfl, bcase_true rfl (hx M3 h5 hx3 H ho)⟩
          refine ⟨_, rfl, bcase_false rfl ⟨rfl, M3, ?_, H, ho⟩⟩
          unfold headB
          rw [if_pos h6, hkn]
          exact hs3
        · refine ⟨rfl, M2, ?_, H, ho⟩
          unfold headB
          rw [if_neg (by omega), hkn, List.append_nil]
          exact hs2
      · clear H ho hs2
        rintro h u ⟨_, M2, hs2, H, ho⟩
        refine needs_of (by omega) (ptr_of (a := ⟨r, 0, none⟩) ?_)
        refine ldI_of (hpB H 0 rfl (by rw [Nat.zero_add]; exact g1)) ?_
        rw [hkn] at hw1
        have hwid : 2 ≤ wWid x ∧ wWid x ≤ 32 := by
          have : x = 0 ∨ x = 1 ∨ x = 2 ∨ x = 3 ∨ x = 4 ∨ x = 5 := by omega
          rcases this with rfl | rfl | rfl | rfl | rfl | rfl <;> decide
        obtain ⟨w, hw⟩ : ∃ w, w = wWid x := ⟨_, rfl⟩
        rw [← hw] at hwid ⊢
        have hbits : bitsL sg m = headB sg m ++ tailB (m - wFrom x) w := by rw [hw, ← hkn]; rfl
        refine bindI_of (((w : Int) - 1)) (by exact i64_in _ (by omega) (by omega)) ?_
        refine ⟨fun n' vs h' => ∃ (i : Nat) (M' : List Ent), i + n' = w ∧ vs = [.int .i64 ((w : Int) - 1 - (i : Nat))] ∧ S (headB sg m ++ (tailB (m - wFrom x) w).take i) M' ∧ Hp h0 FF h' ([⟨r, true, T_whole_size, sizeC⟩] ++ M') ∧ objAt h' l oR, ⟨w, 0, M2, by omega, by simp, by simpa using hs2, H, ho⟩, ?_⟩
        clear H ho hs2
        rintro n3 h u xx ⟨i, M3, hin, hxx, hs3, H, ho⟩
        injection hxx with hxx
        injection hxx with _ hxx
        subst hxx
        refine bcase_dec (fun h7 => ?_) fun h7 => ?_
        · have hi : i < w := by omega
          refine needs_of (by omega) (ptr_of (a := ⟨r, 0, none⟩) ?_)
          refine ldI_of (H.fr.cell hn1 hc1) ?_
          refine ldI_of (hpB H 0 rfl (by rw [Nat.zero_add, Nat.add_zero]; exact g0)) ?_
          obtain ⟨y, hy⟩ : ∃ y, y = m - wFrom x := ⟨_, rfl⟩
          refine bindI_of (((y : Nat) : Int)) (by exact u64_at _ _ (by omega) (by omega) (by omega)) ?_
          refine needs_of (by omega) ?_
          rw [show (w : Int) - 1 - (i : Nat) = ((w - 1 - i : Nat) : Int) by omega]
          refine bindI_of (((y / 2 ^ (w - 1 - i) : Nat) : Int)) (by exact shr_of (by show _ ≤ 64; omega)) ?_
          have hyl : y / 2 ^ (w - 1 - i) ≤ y := Nat.div_le_self _ _
          obtain ⟨q, hq⟩ : ∃ q, q = y / 2 ^ (w - 1 - i) := ⟨_, rfl⟩
          rw [← hq] at hyl ⊢
          refine bindI_of (((q : Nat) : Int)) (by exact i64_in _ (by omega) (by omega)) ?_
          refine bindI_of (((q % 2 : Nat) : Int)) (by exact (and63_1 _).trans (by omega)) ?_
          obtain ⟨rest, hrest⟩ := tailB_at (x := m - wFrom x) hi
          rw [← hy] at hrest hs3 hbits
          rw [← hq] at hrest
          refine yld (b := q % 2) (rest := rest) H ho hs3 (by rw [hbits, List.append_assoc]; exact congrArg (headB sg m ++ ·) hrest) (fun M4 h5 hs4 H ho => ?_) fun M4 h5 hx4 H ho => ⟨_, rfl, bcase_true rfl (hx M4 h5 hx4 H ho)⟩
          refine ⟨_, rfl, bcase_false rfl ?_⟩
          refine bindI_of (((w : Int) - 1 - (i + 1 : Nat))) (by exact i64_at _ _ (by omega) (by omega) (by omega)) ?_
          refine ⟨n3 - 1, by omega, i + 1, M4, by omega, rfl, ?_, H, ho⟩
          rw [tailB_take hi, ← hy, ← hq, ← List.append_assoc]
          exact hs4
        · have hi : w = i := by omega
          subst hi
          refine hk M3 h ?_ (Hp.suf H) ho
          rw [List.take_of_length_le (by rw [tailB_len]; exact Nat.le_refl _)] at hs3
          rw [hbits]
          exact hs3
end Go.Bm

/- WhC: whole.bits; what is small in coding a number. -/
set_option linter.unusedVariables false
set_option linter.unusedSimpArgs false
namespace Go.Bm
open Go Go.Den Go.Den.Yteakipgcanafoaa

def sgW (v : Int) (none : Bool) : Nat := if none = true then 1 else if v < 0 then 1 else 0
def mW (v : Int) (none : Bool) : Nat := match none with
  | true => 0
  | false => v.natAbs
theorem keepE {h0 h h' : Heap} {F : List Nat} {L L' : List Ent} {e : Ent} (H : Hp h0 F h L) (H' : Hp h0 F h' L') (k k' : Nat) (he : L[k]? = some e) (he' : L'[k']? = some e) (hs : h.size ≤ h'.size) : hkeep (fun b => b = e.b) h h' := by
  refine ⟨hs, fun b hb hR => ?_⟩
  subst hR
  exact (H'.bl k' e he').trans (H.bl k e he).symm
theorem u64_neg {v : Int} (hv : -9223372036854775808 ≤ v ∧ v < 9223372036854775808) (h : v < 0) : IntKind.u64.wrap (0 - IntKind.u64.wrap v) = ((v.natAbs : Nat) : Int) := by
  simp [IntKind.wrap, IntKind.bits, IntKind.signed]
  omega
set_option maxRecDepth 100000 in
set_option maxHeartbeats 2000000 in
theorem bits_ok {hB : Heap} {v : Int} {none : Bool} (hv : -9223372036854775808 ≤ v ∧ v < 9223372036854775808) {K : Value → Heap → Prop} {Kp : List PanicEntry → Heap → Prop}
    (hk : ∀ rs rm h', Hp hB [] h' [⟨rs, true, T_int, [.int .i64 (sgW v none : Nat)]⟩, ⟨rm, true, T_uint64, [.int .u64 (mW v none : Nat)]⟩] → K (.func (.func F_whole_bits_c1) #[] #[.pointer (some ⟨rs, 0, Option.none⟩), .pointer (some ⟨rm, 0, Option.none⟩)]) h') :
    CP F_whole_bits #[.agg #[.int .i64 v, .bool none]] hB K Kp := by
  refine call_whole_bits ?_
  unfold whole_bits
  have H := Hp.nil hB []
  refine newC_hp H fun r3 h H => ?_
  refine ⟨fun b => b = r3, ?_⟩
  refine ldI_of (hpA H 0 rfl rfl) ⟨by rw [add_blockG], ?_⟩
  refine bindI_gen fun z hz => ?_
  subst hz
  refine ⟨?_, ?_⟩
  · refine newC_hp H fun rs h H => ?_
    refine newC_hp H fun rm h H => ?_
    refine stV_hp H 1 rfl (Nat.le_of_ble_eq_true rfl) rfl fun h hz H1 => ⟨keepE H H1 0 0 rfl rfl (by omega), ?_⟩
    replace H := H1
    clear H1
    refine stV_hp H 2 rfl (Nat.le_of_ble_eq_true rfl) rfl fun h hz H => ?_
    refine ldI_of (hpA H 0 rfl rfl) ?_
    refine bcase_dec (fun h1 => ?_) fun h1 => ?_
    · refine ⟨fun b => b = rm, ?_⟩
      refine ldI_of (H.cell 2 rfl rfl) ⟨rfl, ?_⟩
      refine bindI_of (((v.natAbs : Nat) : Int)) (by exact u64_neg hv h1) ?_
      refine stV_hp H 1 rfl (Nat.le_of_ble_eq_true rfl) rfl fun h hz H1 => ⟨keepE H H1 2 2 rfl rfl (by omega), ?_⟩
      replace H := H1
      clear H1
      refine stV_hp H 2 rfl (Nat.le_of_ble_eq_true rfl) rfl fun h hz H => ?_
      refine ldB_of (hpA H 0 rfl rfl) ?_
      cases none with
      | true =>
        refine bcase_true rfl ?_
        refine stV_hp H 1 rfl (Nat.le_of_ble_eq_true rfl) rfl fun h hz H => ?_
        refine stV_hp H 2 rfl (Nat.le_of_ble_eq_true rfl) rfl fun h hz H => ?_
        exact hk rs rm h (H.pick [1, 2] (by decide) rfl)
      | false =>
        refine bcase_false rfl ?_
        have e1 : sgW v false = 1 := by unfold sgW; rw [if_neg (by simp), if_pos h1]
        have e2 : mW v false = v.natAbs := rfl
        rw [e1, e2] at hk
        exact hk rs rm h (H.pick [1, 2] (by decide) rfl)
    · refine ldB_of (hpA H 0 rfl rfl) ?_
      cases none with
      | true =>
        refine bcase_true rfl ?_
        refine stV_hp H 1 rfl (Nat.le_of_ble_eq_true rfl) rfl fun h hz H => ?_
        refine stV_hp H 2 rfl (Nat.le_of_ble_eq_true rfl) rfl fun h hz H => ?_
        exact hk rs rm h (H.pick [1, 2] (by decide) rfl)
      | false =>
        refine bcase_false rfl ?_
        have e1 : sgW v false = 0 := by unfold sgW; rw [if_neg (by simp), if_neg h1]
        have e2 : mW v false = v.natAbs := rfl
        rw [e1, e2] at hk
        have e3 : IntKind.u64.wrap v = ((v.natAbs : Nat) : Int) := u64_at _ _ (by omega) (by omega) (by omega)
        rw [e3] at H
        exact hk rs rm h (H.pick [1, 2] (by decide) rfl)
  · refine newC_hp H fun rm h H => ?_
    refine newC_hp H fun rs h H => ?_
    refine stV_hp H 2 rfl (Nat.le_of_ble_eq_true rfl) rfl fun h hz H1 => ⟨keepE H H1 0 0 rfl rfl (by omega), ?_⟩
    replace H := H1
    clear H1
    refine stV_hp H 1 rfl (Nat.le_of_ble_eq_true rfl) rfl fun h hz H => ?_
    refine ldI_of (hpA H 0 rfl rfl) ?_
    refine bcase_dec (fun h1 => ?_) fun h1 => ?_
    · refine ⟨fun b => b = rm, ?_⟩
      refine ldI_of (H.cell 1 rfl rfl) ⟨rfl, ?_⟩
      refine bindI_of (((v.natAbs : Nat) : Int)) (by exact u64_neg hv h1) ?_
      refine stV_hp H 2 rfl (Nat.le_of_ble_eq_true rfl) rfl fun h hz H1 => ⟨keepE H H1 1 1 rfl rfl (by omega), ?_⟩
      replace H := H1
      clear H1
      refine stV_hp H 1 rfl (Nat.le_of_ble_eq_true rfl) rfl fun h hz H => ?_
      refine ldB_of (hpA H 0 rfl rfl) ?_
      cases none with
      | true =>
        refine bcase_true rfl ?_
        refine stV_hp H 2 rfl (Nat.le_of_ble_eq_true rfl) rfl fun h hz H => ?_
        refine stV_hp H 1 rfl (Nat.le_of_ble_eq_true rfl) rfl fun h hz H => ?_
        exact hk rs rm h (H.pick [2, 1] (by decide) rfl)
      | false =>
        refine bcase_false rfl ?_
        have e1 : sgW v false = 1 := by unfold sgW; rw [if_neg (by simp), if_pos h1]
        have e2 : mW v false = v.natAbs := rfl
        rw [e1, e2] at hk
        exact hk rs rm h (H.pick [2, 1] (by decide) rfl)
    · refine ldB_of (hpA H 0 rfl rfl) ?_
      cases none with
      | true =>
        refine bcase_true rfl ?_
        refine stV_hp H 2 rfl (Nat.le_of_ble_eq_true rfl) rfl fun h hz H => ?_
        refine stV_hp H 1 rfl (Nat.le_of_ble_eq_true rfl) rfl fun h hz H => ?_
        exact hk rs rm h (H.pick [2, 1] (by decide) rfl)
      | false =>
        refine bcase_false rfl ?_
        have e1 : sgW v false = 0 := by unfold sgW; rw [if_neg (by simp), if_neg h1]
        have e2 : mW v false = v.natAbs := rfl
        rw [e1, e2] at hk
        have e3 : IntKind.u64.wrap v = ((v.natAbs : Nat) : Int) := u64_at _ _ (by omega) (by omega) (by omega)
        rw [e3] at H
        exact hk rs rm h (H.pick [2, 1] (by decide) rfl)

def rightW (v : Int) (none : Bool) : Prop := none = true ∨ -2147483648 ≤ v ∧ v ≤ 2147483648
theorem mW_lt {v : Int} {none : Bool} (h : rightW v none) : mW v none ≤ 2147483648 := by
  unfold mW
  cases none with
  | true => exact Nat.zero_le _
  | false =>
    rcases h with h | h
    · cases h
    · show v.natAbs ≤ _
      omega
section
variable {hB : Heap} {K : Value → Heap → Prop} {Kp : List PanicEntry → Heap → Prop}
theorem wright_ok {v : Int} {none : Bool} (hk : ∀ (b : Bool) h', (b = true ↔ rightW v none) → hext hB h' → K (.bool b) h') : CP F_whole_right #[.agg #[.int .i64 v, .bool none]] hB K Kp := by
  refine call_whole_right ?_
  unfold whole_right
  have H := Hp.nil hB []
  refine newC_hp H fun r3 h H => ?_
  refine ldB_of (hpA H 0 rfl rfl) ?_
  cases none with
  | true => exact bcase_true rfl (hk true _ (by simp [rightW]) H.hext)
  | false =>
    refine bcase_false rfl ?_
    refine ldI_of (hpA H 0 rfl rfl) ?_
    with_reducible_and_instances refine bcase_dec (fun h1 => ?_) fun h1 => ?_
    · refine ldI_of (hpA H 0 rfl rfl) ?_
      refine hk _ _ ⟨fun h2 => .inr ⟨by omega, of_decide_eq_true h2⟩, fun h2 => ?_⟩ H.hext
      rcases h2 with h2 | h2
      · cases h2
      · exact decide_eq_true h2.2
    · refine hk false _ ⟨(fun h2 => by cases h2), fun h2 => ?_⟩ H.hext
      rcases h2 with h2 | h2
      · cases h2
      · omega
theorem wfits_ok {base : Int} {many all : Nat} (h1 : many ≤ 9223372036854775807) (h2 : all ≤ 9223372036854775807) (hk : ∀ b : Bool, (b = true ↔ 0 ≤ base ∧ base + many ≤ all) → K (.bool b) hB) : CP F_whole_fits #[.int .i64 base, .int .i64 (many : Nat), .int .i64 (all : Nat)] hB K Kp := by
  refine call_whole_fits ?_
  unfold whole_fits
  refine bcase_dec (fun h3 => ?_) fun h3 => hk false (by simp; omega)
  refine bindI_of (((all : Int) - many)) (by exact i64_in _ (by omega) (by omega)) ?_
  exact hk _ (by simp; omega)
def nextW (v b : Nat) : Nat := if v < 256 then 2 * v + b else (2 * v + b) % 256 + 256
theorem nextW_lt {v b : Nat} (hv : v < 512) (hb : b ≤ 1) : nextW v b < 512 := by unfold nextW; split <;> omega
theorem wnext_ok {v b : Nat} (hv : v < 512) (hb : b ≤ 1) (hk : K (.int .i64 (nextW v b : Nat)) hB) : CP F_whole_next #[.int .i64 (v : Nat), .int .i64 (b : Nat)] hB K Kp := by
  refine call_whole_next ?_
  unfold whole_next
  have hd : (decide ((v : Int) < 256)) = decide (v < 256) := decide_eq_decide.2 (by omega)
  rw [hd]
  by_cases h3 : v < 256
  · refine bcase_true (decide_eq_true h3) ?_
    refine bindI_of (((2 * v : Nat) : Int)) (by exact i64_at _ _ (by omega) (by omega) (by omega)) ?_
    refine bindI_of (((2 * v + b : Nat) : Int)) (by exact i64_at _ _ (by omega) (by omega) (by omega)) ?_
    have e : nextW v b = 2 * v + b := by unfold nextW; rw [if_pos (by omega)]
    rw [e] at hk
    exact hk
  · refine bcase_false (decide_eq_false h3) ?_
    refine bindI_of (((2 * v : Nat) : Int)) (by exact i64_at _ _ (by omega) (by omega) (by omega)) ?_
    refine bindI_of (((2 * v + b : Nat) : Int)) (by exact i64_at _ _ (by omega) (by omega) (by omega)) ?_
    refine bindI_of ((((2 * v + b) % 256 : Nat) : Int)) (by exact tmod_nat _ 256) ?_
    have e : nextW v b = (2 * v + b) % 256 + 256 := by unfold nextW; rw [if_neg (by omega)]
    refine bindI_of (((nextW v b : Nat) : Int)) (by exact i64_at _ _ (by omega) (by omega) (by omega)) ?_
    exact hk
end
end Go.Bm

/- WhD: rows beside a loop's record. -/
set_option linter.unusedVariables false
set_option linter.unusedSimpArgs false
namespace Go.Bm
open Go Go.Den Go.Den.Yteakipgcanafoaa

theorem putO_size (h : Heap) (l : Nat) (o : Obj) : (putO h l o).size = h.size := by simp [putO]
theorem putO_ne {h : Heap} {l b : Nat} {o : Obj} (hb : b ≠ l) : (putO h l o)[b]? = h[b]? := by
  unfold putO
  rw [Array.getElem?_setIfInBounds_ne (Ne.symm hb)]
theorem putO_at {h : Heap} {l : Nat} {o : Obj} (hl : l < h.size) : objAt (putO h l o) l o := by
  unfold objAt putO
  simp [hl]
theorem objAt_lt {h : Heap} {l : Nat} {o : Obj} (H : objAt h l o) : l < h.size := (Array.getElem?_eq_some_iff.1 H).1
section
variable {h0 h h' : Heap} {F FF : List Nat} {L M M' : List Ent} {l : Nat}
theorem hpPush (H : Hp h0 F h L) (o : Obj) : Hp h0 F (h.push o) L := by
  have get : ∀ b, b < h.size → (h.push o)[b]? = h[b]? := fun b hb => by rw [Array.getElem?_push_lt hb]; simp [hb]
  refine ⟨⟨by simp; exact Nat.le_succ_of_le H.fr.1, fun b hb hF => ?_⟩, fun k e he => ?_, H.wr, H.nd⟩
  · rw [get b (Nat.lt_of_lt_of_le hb H.fr.1)]
    exact H.fr.2 b hb hF
  · exact (H.bl k e he).push o
/-- The rows that are known, from here on. -/
theorem hpReset (H : Hp h0 F h L) (hl : ∀ e ∈ L, e.b ≠ l) (o : Obj) : Hp (putO h l o) (L.map Ent.b) (putO h l o) L := by
  refine ⟨Fr.refl _ _, fun k e he => ?_, fun k e he _ => .inl (List.mem_map.2 ⟨e, List.mem_of_getElem? he, rfl⟩), H.nd⟩
  have := H.bl k e he
  unfold Blk at this ⊢
  rw [putO_ne (hl e (List.mem_of_getElem? he))]
  exact this
theorem hpFar (H : Hp h0 F h L) (hl : ∀ e ∈ L, e.b ≠ l) (h1 : h0.size ≤ l) (o : Obj) : Hp h0 F (putO h l o) L := by
  refine ⟨⟨by rw [putO_size]; exact H.fr.1, fun b hb hF => ?_⟩, fun k e he => ?_, H.wr, H.nd⟩
  · rw [putO_ne (by omega)]
    exact H.fr.2 b hb hF
  · have := H.bl k e he
    unfold Blk at this ⊢
    rw [putO_ne (hl e (List.mem_of_getElem? he))]
    exact this
/-- A round is over. -/
theorem roundBack {hA hE : Heap} {oR oB : Obj} (H : Hp hA FF h M) (hw : M.all Ent.w = true) (hl : ∀ e ∈ M, e.b ≠ l) (ho : objAt h l oR) (HE : Hp (putO h l oB) (M.map Ent.b) hE M') (hw' : M'.all Ent.w = true) :
    objAt hE l oB ∧ (∀ e ∈ M', e.b ≠ l) ∧ Hp hA FF (putO hE l oR) M' ∧ objAt (putO hE l oR) l oR := by
  have hlt := objAt_lt ho
  have hlm : l ∉ M.map Ent.b := fun hm => by
    obtain ⟨e, he, hb⟩ := List.mem_map.1 hm
    exact hl e he hb
  have hoB : objAt hE l oB := (HE.fr.2 l (by rw [putO_size]; exact hlt) hlm).trans (putO_at hlt)
  have hne : ∀ e ∈ M', e.b ≠ l := fun e he hb => by
    rcases HE.memw e he (List.all_eq_true.1 hw' e he) with h1 | h1
    · rw [hb] at h1; exact hlm h1
    · rw [putO_size] at h1; omega
  have old : ∀ b, b ∈ M.map Ent.b → b ∈ FF ∨ hA.size ≤ b := fun b hb => by
    obtain ⟨e, he, rfl⟩ := List.mem_map.1 hb
    exact H.memw e he (List.all_eq_true.1 hw e he)
  have hsz : hA.size ≤ hE.size := Nat.le_trans H.fr.1 (by have := HE.fr.1; rwa [putO_size] at this)
  refine ⟨hoB, hne, ⟨⟨by rw [putO_size]; exact hsz, fun b hb hF => ?_⟩, fun k e he => ?_, fun k e he hew => ?_, HE.nd⟩, putO_at (objAt_lt hoB)⟩
  · by_cases hbl : b = l
    · subst hbl
      exact (putO_at (objAt_lt hoB)).trans (ho.symm.trans (H.fr.2 b hb hF))
    · rw [putO_ne hbl, HE.fr.2 b (by rw [putO_size]; exact Nat.lt_of_lt_of_le hb H.fr.1) (fun hm => by
        rcases old b hm with h1 | h1
        · exact hF h1
        · omega), putO_ne hbl]
      exact H.fr.2 b hb hF
  · have := HE.bl k e he
    unfold Blk at this ⊢
    rw [putO_ne (hne e (List.mem_of_getElem? he))]
    exact this
  · rcases HE.wr k e he hew with h1 | h1
    · exact old _ h1
    · rw [putO_size] at h1
      exact .inr (Nat.le_trans H.fr.1 h1)
end
end Go.Bm

/- ArF: the law ArithKnown, said of memory. -/
set_option linter.unusedVariables false
set_option linter.unusedSimpArgs false
namespace Go.Ar
open Go Go.Den Go.Den.Yteakipgcanafoaa

def known1 : List Nat := [0, 2, 0, 81, 0, 0, 0, 192, 3, 82, 135, 42, 170, 170, 170, 170, 130, 192, 32, 0, 252, 215, 158, 246, 191, 127, 237, 144, 79, 70, 163, 191]
def known2 : List Nat := [132, 199, 59, 252, 225, 161, 67, 4, 2, 32, 0, 0, 65, 13, 187, 134, 244, 49, 127, 255, 136, 255, 55, 71, 26, 219, 106, 223]
theorem known1_lt : ∀ x ∈ known1, x < 256 := by decide
theorem known2_lt : ∀ x ∈ known2, x < 256 := by decide
def knK (i : Nat) : Nat := 0
def knB (i : Nat) : Nat := known1.getD (i / 8) 0 / 2 ^ (7 - i % 8) % 2
set_option maxRecDepth 100000 in
theorem kn_bytes : bytesM (flushM (codN knK knB 1 256)) = known2 := by kernel_rfl
set_option maxRecDepth 100000 in
theorem kn_all : allB (fun i => Nat.beq (getD (decN knK known2 1 i) (knK i)).2 (knB i)) 256 = true := by kernel_rfl
set_option maxRecDepth 100000 in
theorem kn_states : (codN knK knB 1 256).st = (decN knK known2 1 256).st := by kernel_rfl

theorem row_rdO {h0 h : Heap} {F : List Nat} {L : List Ent} (H : Hp h0 F h L) (k : Nat) {b : Nat} {w : Bool} {t : TypeId} {xs : List Nat} {rest : List Value} (he : L[k]? = some ⟨b, w, t, u8s xs ++ rest⟩) : rdO h (at0 b) (xs.length * 1) (u8s xs) := by
  have h2 := rdO_hp H k (o := 0) (n := xs.length * 1) he (by rw [List.length_append, u8s_length]; omega)
  rw [List.drop_zero, List.take_append_of_le_length (by rw [u8s_length]; omega), List.take_of_length_le (by rw [u8s_length]; omega)] at h2
  exact h2
theorem row_rdO' {h0 h : Heap} {F : List Nat} {L : List Ent} (H : Hp h0 F h L) (k : Nat) {b : Nat} {w : Bool} {t : TypeId} {xs : List Nat} (he : L[k]? = some ⟨b, w, t, u8s xs⟩) : rdO h (at0 b) (xs.length * 1) (u8s xs) :=
  row_rdO H k (rest := []) (by rw [he, List.append_nil])

/-- The bit that a round reads. -/
theorem kn_bit {i : Nat} (hi : i < 256) {P : Int → Prop} (hp : P ((knB i : Nat) : Int)) :
    bindI (((i : Nat) : Int).tmod (8 : Int)) fun z_19 => bindI (IntKind.i64.wrap ((7 : Int) - z_19)) fun z_20 => bindI (IntKind.u64.wrap z_20) fun z_21 => needs (0 ≤ z_21) <|
      bindI (shrI .u8 ((known1.getD (i / 8) 0 : Nat) : Int) z_21) fun z_22 => bindI (bitI .and .u8 z_22 (1 : Int)) fun z_23 => bindI (IntKind.i64.wrap z_23) P := by
  have hx : known1.getD (i / 8) 0 < 256 := by
    rw [List.getD_eq_getElem?_getD]
    cases hk : known1[i / 8]? with
    | none => simp
    | some x => exact known1_lt x (List.mem_of_getElem? hk)
  have h8 : i % 8 < 8 := Nat.mod_lt _ (by omega)
  generalize hX : known1.getD (i / 8) 0 = x at hx
  have hb : knB i = x / 2 ^ (7 - i % 8) % 2 := by unfold knB; rw [hX]
  rw [hb] at hp
  have hdiv : x / 2 ^ (7 - i % 8) < 256 := Nat.lt_of_le_of_lt (Nat.div_le_self _ _) hx
  refine bindI_of (((i % 8 : Nat) : Int)) (by exact tmod_nat i 8) ?_
  refine bindI_of (((7 - i % 8 : Nat) : Int)) (by exact i64_at _ _ (by omega) (by omega) (by omega)) ?_
  refine bindI_of (((7 - i % 8 : Nat) : Int)) (by exact u64_in _ (by omega) (by omega)) ?_
  refine needs_of (by omega) ?_
  refine bindI_of (((x / 2 ^ (7 - i % 8) : Nat) : Int)) (by exact shr_of (by show 7 - i % 8 ≤ 8; omega)) ?_
  refine bindI_of (((x / 2 ^ (7 - i % 8) % 2 : Nat) : Int)) (by exact (and8 _ 1 hdiv (by omega)).trans (by rw [Nat.and_one_is_mod])) ?_
  refine bindI_of (((x / 2 ^ (7 - i % 8) % 2 : Nat) : Int)) (by exact i64_in _ (by omega) (by omega)) ?_
  exact hp

end Go.Ar

/- ArG: the laws' script in memory; the law ArithReduced, said of memory. -/
set_option linter.unusedVariables false
set_option linter.unusedSimpArgs false
namespace Go.Ar
open Go Go.Den Go.Den.Yteakipgcanafoaa

/-- A script's decisions can be read. -/
def SV (h : Heap) (q : Option Addr) (len : Nat) : Prop := ∀ i, i < len → ∃ a c b, q = some a ∧ hcell h (a.add (i * 2)) = some (.int .i64 c) ∧ hcell h (a.add (i * 2 + 1)) = some (.int .i64 b)

theorem add_zero' (a : Addr) : a.add 0 = a := by unfold Addr.add; rw [if_pos rfl]
theorem add_add' (a : Addr) (m n : Nat) : (a.add m).add n = a.add (m + n) := by
  unfold Addr.add
  by_cases h1 : m = 0
  · subst h1; simp
  · by_cases h2 : n = 0
    · subst h2; simp
    · rw [if_neg h1, if_neg h2, if_neg (by omega)]
      simp [Nat.add_assoc]
def bit1 (b : Int) : Nat := (b % 2).toNat
theorem bit1_le (b : Int) : bit1 b ≤ 1 := by unfold bit1; omega
theorem bit1_of (b : Int) : bitI .and .i64 b 1 = ((bit1 b : Nat) : Int) := by rw [and63_1]; unfold bit1; omega

theorem fl_len' {m n : Nat} {s : Cod} (h : CodOk m n s) (hn : n ≤ 1000000) : (bytesM (flushM s)).length < 1000000000000 := by
  have h2 := flushM_len s
  have h3 := h.wf.len
  have h4 := h.n
  omega

theorem fl_len {m n : Nat} {s : Cod} (h : CodOk m n s) (hn : n ≤ 1000000) : (bytesM (flushM s)).length < 140737488351300 := by
  have h2 := flushM_len s
  have h3 := h.wf.len
  have h4 := h.n
  omega

theorem idx_shift (r m : Nat) (k : Int) (hr : r < m) : idx ((r : Int) + (m : Int) * k) m = r := by
  unfold idx
  rw [Int.add_mul_emod_self_left]
  have : ((r : Int) % (m : Int)) = ((r % m : Nat) : Int) := by simp
  rw [this, Nat.mod_eq_of_lt hr]
  rfl

end Go.Ar

/- ArH: the law ArithApart, said of memory. -/
set_option linter.unusedVariables false
set_option linter.unusedSimpArgs false
namespace Go.Ar
open Go Go.Den Go.Den.Yteakipgcanafoaa

theorem SV.fn {h : Heap} {q : Option Addr} {len : Nat} (hv : SV h q len) : ∃ C B : Nat → Int, ∀ i, i < len → ∃ a, q = some a ∧ hcell h (a.add (i * 2)) = some (.int .i64 (C i)) ∧ hcell h (a.add (i * 2 + 1)) = some (.int .i64 (B i)) := by
  have h1 : ∀ i, ∃ cb : Int × Int, i < len → ∃ a, q = some a ∧ hcell h (a.add (i * 2)) = some (.int .i64 cb.1) ∧ hcell h (a.add (i * 2 + 1)) = some (.int .i64 cb.2) := fun i => by
    by_cases hi : i < len
    · obtain ⟨a, c, b, e1, e2, e3⟩ := hv i hi
      exact ⟨(c, b), fun _ => ⟨a, e1, e2, e3⟩⟩
    · exact ⟨(0, 0), fun h => absurd h hi⟩
  exact ⟨fun i => (Classical.choose (h1 i)).1, fun i => (Classical.choose (h1 i)).2, fun i hi => Classical.choose_spec (h1 i) hi⟩

theorem contexts_ok {h : Heap} {p q n : Nat} {F : List Nat} {h0 : Heap} {L : List Ent} (H : Hp h0 F h L) (kp : Nat) {w : Bool} {t : TypeId} {T : List Value} (hp : L[kp]? = some ⟨p, w, t, rowsV ++ (.slice (some ⟨q, 0, none⟩) n n :: T)⟩)
    {K : Value → Heap → Prop} {Kp : List PanicEntry → Heap → Prop} (hk : K (.int .i64 (n : Nat)) h) : CP F_arith_table_Contexts #[.pointer (at0 p)] h K Kp := by
  refine call_arith_table_Contexts ?_
  unfold arith_table_Contexts
  try simp only [ptr_some_eq, add_mk, Nat.zero_add, Nat.add_zero]
  refine ldS_of (H.cell kp hp (app_get hR 0 rfl)) ?_
  exact hk

end Go.Ar

/- WhE: whole.Put. -/
set_option linter.unusedVariables false
set_option linter.unusedSimpArgs false
namespace Go.Bm
open Go Go.Den Go.Den.Yteakipgcanafoaa
open Go.Ar (Cod CodOk codL idx putM putM_ok)

def stepW (m : Nat) (base : Int) (x : Nat × Cod) (b : Nat) : Nat × Cod := (nextW x.1 b, putM x.2 (idx (base + (x.1 : Int)) m) b)
def runW (m : Nat) (base : Int) (l : List Nat) (x : Nat × Cod) : Nat × Cod := l.foldl (stepW m base) x
theorem runW_snoc (m : Nat) (base : Int) (l : List Nat) (b : Nat) (x : Nat × Cod) : runW m base (l ++ [b]) x = stepW m base (runW m base l x) b := by
  unfold runW
  rw [List.foldl_append]
  rfl
theorem bitsL_le {sg m : Nat} (hs : sg ≤ 1) : ∀ b ∈ bitsL sg m, b ≤ 1 := fun b hb => by
  unfold bitsL headB tailB at hb
  rcases List.mem_append.1 hb with hb | hb
  · rcases List.mem_append.1 hb with hb | hb
    · rcases List.mem_append.1 hb with hb | hb
      · rw [List.mem_singleton.1 hb]; exact hs
      · rw [(List.mem_replicate.1 hb).2]; exact Nat.le_refl _
    · split at hb
      · rw [List.mem_singleton.1 hb]; exact Nat.zero_le _
      · cases hb
  · obtain ⟨i, _, rfl⟩ := List.mem_map.1 hb
    exact Nat.le_of_lt_succ (Nat.mod_lt _ (by decide))
theorem wWid_le (k : Nat) (h : k ≤ 5) : wWid k ≤ 32 := by
  have : k = 0 ∨ k = 1 ∨ k = 2 ∨ k = 3 ∨ k = 4 ∨ k = 5 := by omega
  rcases this with rfl | rfl | rfl | rfl | rfl | rfl <;> decide
theorem bitsL_len (sg m : Nat) : (bitsL sg m).length ≤ 39 := by
  have h1 := wK_le m
  have h2 := wWid_le _ h1
  unfold bitsL headB
  rw [List.length_append, tailB_len, List.length_append, List.length_append, List.length_replicate, List.length_singleton]
  split <;> simp <;> omega
theorem sgW_le (v : Int) (none : Bool) : sgW v none ≤ 1 := by unfold sgW; (repeat' split) <;> omega

set_option maxRecDepth 100000 in
set_option maxHeartbeats 4000000 in
theorem wput_ok {h0 h : Heap} {FF : List Nat} {p q r m n0 : Nat} {s : Cod} {rest : List Value} (HC : Hp h0 FF h (codL p q r s rest)) (hc : CodOk m n0 s) (hm1 : 1 ≤ m) (hm2 : m ≤ 131072) {base v : Int} {none : Bool} (hv : -9223372036854775808 ≤ v ∧ v < 9223372036854775808) (hN : n0 + 64 ≤ 16777216)
    {K : Value → Heap → Prop} {Kp : List PanicEntry → Heap → Prop} (hk51 : ∀ h', ¬ (0 ≤ base ∧ base + (512 : Nat) ≤ (m : Nat)) → Hp h0 FF h' (codL p q r s rest) → K (.int .i64 51) h')
    (hk50 : ∀ h', (0 ≤ base ∧ base + (512 : Nat) ≤ (m : Nat)) → ¬ rightW v none → Hp h0 FF h' (codL p q r s rest) → K (.int .i64 50) h')
    (hk0 : ∀ r' rest' h', (0 ≤ base ∧ base + (512 : Nat) ≤ (m : Nat)) → rightW v none → Hp h0 FF h' (codL p q r' (runW m base (bitsL (sgW v none) (mW v none)) (1, s)).2 rest') → K (.int .i64 0) h') :
    CP F_whole_Put #[.pointer (at0 p), .int .i64 base, .agg #[.int .i64 v, .bool none]] h K Kp := by
  refine call_whole_Put ?_
  unfold whole_Put
  have H := Hp.nil h []
  refine newC_hp H fun r3 h H => ?_
  refine newC_hp H fun r5 h H => ?_
  refine newC_hp H fun r7 h H => ?_
  refine newC_hp H fun r9 h H => ?_
  refine ldP_of (H.cell 0 rfl rfl) ?_
  refine bcase_false (by rfl) ?_
  refine ldI_of (H.cell 1 rfl rfl) (ldP_of (H.cell 0 rfl rfl) (ptr_of (a := ⟨p, 0, Option.none⟩) ?_))
  refine Go.Ar.contexts_ok (n := s.st.length) (HC.ext H.hext) 0 rfl ?_
  refine ⟨_, rfl, hext.refl _, ?_⟩
  rw [hc.len]
  refine wfits_ok (many := 512) (all := m) (by decide) (by omega) fun bf hbf => ?_
  refine ⟨_, rfl, ?_⟩
  refine bcase_not (fun h2 => ?_) fun h2 => ?_
  · refine stV_hp H 3 rfl (Nat.le_of_ble_eq_true rfl) rfl fun h hz H => ?_
    refine ldI_of (H.cell 3 rfl rfl) ?_
    exact hk51 h (fun hh => by rw [hbf.2 hh] at h2; cases h2) (HC.ext H.hext)
  have hfit := hbf.1 h2
  refine ldI_of (hpA H 2 rfl rfl) (ldB_of (hpA H 2 rfl rfl) ?_)
  refine wright_ok fun br h1 hbr e1 => ?_
  have H := H.ext e1
  refine ⟨_, rfl, ?_⟩
  refine bcase_not (fun h2 => ?_) fun h2 => ?_
  · refine stV_hp H 3 rfl (Nat.le_of_ble_eq_true rfl) rfl fun h hz H => ?_
    refine ldI_of (H.cell 3 rfl rfl) ?_
    exact hk50 h hfit (fun hh => by rw [hbr.2 hh] at h2; cases h2) (HC.ext H.hext)
  have hright := hbr.1 h2
  refine newC_hp H fun r32 h H => ?_
  refine stV_hp H 4 rfl (Nat.le_of_ble_eq_true rfl) rfl fun h hz H => ?_
  refine ldI_of (hpA H 2 rfl rfl) (ldB_of (hpA H 2 rfl rfl) ?_)
  refine bits_ok hv fun rs rm hP H' => ?_
  replace H := H.join H' rfl
  clear H'
  refine ⟨_, rfl, ?_⟩
  have hs1 := sgW_le v none
  have hml := mW_lt hright
  obtain ⟨sg, hsg⟩ : ∃ sg, sg = sgW v none := ⟨_, rfl⟩
  obtain ⟨mm, hmm⟩ : ∃ mm, mm = mW v none := ⟨_, rfl⟩
  rw [← hsg] at H hs1 hk0
  rw [← hmm] at H hml hk0
  obtain ⟨bits, hbits⟩ : ∃ bits, bits = bitsL sg mm := ⟨_, rfl⟩
  have hbl := bitsL_le (m := mm) hs1
  have hbn := bitsL_len sg mm
  rw [← hbits] at hbl hbn hk0
  simp only [funD]
  intro oR oB oX oJ oXJ hround
  -- all rows, at the heap ahead of the loop
  have HA := (HC.join H rfl).pick [5, 8, 9, 3, 4, 6, 7, 0, 1, 2] (by decide) (L' := [⟨r7, true, T_api_Whole, [.int .i64 v, .bool none]⟩, ⟨rs, true, T_int, [.int .i64 (sg : Nat)]⟩, ⟨rm, true, T_uint64, [.int .u64 (mm : Nat)]⟩] ++
    ([⟨r3, true, T_p_arith_Coder, [.pointer (at0 p)]⟩, ⟨r5, true, T_int, [.int .i64 base]⟩, ⟨r9, true, T_api_Errno, [.int .i64 0]⟩, ⟨r32, true, T_int, [.int .i64 1]⟩] ++ codL p q r s rest)) rfl
  obtain ⟨D, hD⟩ : ∃ D, D = hP.size := ⟨_, rfl⟩
  rw [← hD] at hround ⊢
  have hlt : ∀ e ∈ ([⟨r7, true, T_api_Whole, [.int .i64 v, .bool none]⟩, ⟨rs, true, T_int, [.int .i64 (sg : Nat)]⟩, ⟨rm, true, T_uint64, [.int .u64 (mm : Nat)]⟩] ++
    ([⟨r3, true, T_p_arith_Coder, [.pointer (at0 p)]⟩, ⟨r5, true, T_int, [.int .i64 base]⟩, ⟨r9, true, T_api_Errno, [.int .i64 0]⟩, ⟨r32, true, T_int, [.int .i64 1]⟩] ++ codL p q r s rest) : List Ent), e.b < D := fun e he => by rw [hD]; exact (HA.mem e he).lt
  have hDh0 : h0.size ≤ D := by rw [hD]; exact HA.fr.1
  obtain ⟨h1, hh1⟩ : ∃ h1, h1 = (hP.push (.deferred (some []))).push oR := ⟨_, rfl⟩
  have H1 := hpPush (hpPush HA (.deferred (some []))) oR
  rw [← hh1] at H1 ⊢
  have hs1z : h1.size = D + 2 := by rw [hh1, hD]; simp
  have hoR : objAt h1 (D + 1) oR := by
    unfold objAt
    rw [hh1, hD, Array.getElem?_push, if_pos (by simp)]
  have hoD : objAt h1 D (.deferred (some [])) := by
    unfold objAt
    rw [hh1, hD, Array.getElem?_push, if_neg (by simp), Array.getElem?_push, if_pos rfl]
  obtain ⟨Row, hRow⟩ : ∃ Row : Nat → List Ent, Row = fun node => [⟨r3, true, T_p_arith_Coder, [.pointer (at0 p)]⟩, ⟨r5, true, T_int, [.int .i64 base]⟩, ⟨r9, true, T_api_Errno, [.int .i64 0]⟩, ⟨r32, true, T_int, [.int .i64 (node : Nat)]⟩] := ⟨_, rfl⟩
  refine bitsC_ok (h0 := h1) (h := h1) (M := [⟨r3, true, T_p_arith_Coder, [.pointer (at0 p)]⟩, ⟨r5, true, T_int, [.int .i64 base]⟩, ⟨r9, true, T_api_Errno, [.int .i64 0]⟩, ⟨r32, true, T_int, [.int .i64 1]⟩] ++ codL p q r s rest) (l := D + 1) (oR := oR) (oJ := oJ 0) (sg := sg) (m := mm) (cap0 := ⟨rs, 0, Option.none⟩) (cap1 := ⟨rm, 0, Option.none⟩)
    (S := fun pre M => ∃ r' rest', CodOk m (n0 + pre.length) (runW m base pre (1, s)).2 ∧ (runW m base pre (1, s)).1 < 512 ∧ (∀ e ∈ M, e.b ≠ D + 1 ∧ e.b ≠ D) ∧
      M = [⟨r3, true, T_p_arith_Coder, [.pointer (at0 p)]⟩, ⟨r5, true, T_int, [.int .i64 base]⟩, ⟨r9, true, T_api_Errno, [.int .i64 0]⟩, ⟨r32, true, T_int, [.int .i64 ((runW m base pre (1, s)).1 : Nat)]⟩] ++ codL p q r' (runW m base pre (1, s)).2 rest')
    (Sx := fun _ => False) (by omega) (Hp.giveS H1) ⟨r, rest, by simpa [runW] using hc, by show 1 < 512; omega, (fun e he => by have := hlt e (List.mem_append_right _ he); omega), rfl⟩ hoR (H1.cell 1 rfl rfl) (H1.cell 2 rfl rfl) ?_ ?_ ?_ (fun M2 h2 hS2 H2 ho2 => ?_) (fun M2 h2 hS2 => hS2.elim)
  · intro hm
    obtain ⟨e, he, hb⟩ := List.mem_map.1 hm
    exact (List.pairwise_append.1 H1.pw).2.2 ⟨rs, true, T_int, [.int .i64 (sg : Nat)]⟩ (by simp) e he hb.symm
  · intro hm
    obtain ⟨e, he, hb⟩ := List.mem_map.1 hm
    exact (List.pairwise_append.1 H1.pw).2.2 ⟨rm, true, T_uint64, [.int .u64 (mm : Nat)]⟩ (by simp) e he hb.symm
  · rw [← hbits]
    refine ⟨fun pre M hS => ?_, fun {hA hh FFA M pre rest' b K1} hb hS HM ho htrue _ => ?_⟩
    · obtain ⟨_, _, _, _, _, rfl⟩ := hS
      rfl
    · obtain ⟨r', rest'', hcod, hnode, hne, rfl⟩ := hS
      have hpl : pre.length < 39 := by
        have := congrArg List.length hb
        simp at this
        omega
      have hb1 : b ≤ 1 := hbl b (by rw [hb]; simp)
      refine hround hh K1 ho _ ⟨ho, ?_⟩
      have HB := hpReset HM (fun e he => (hne e he).1) oB
      refine ldP_of (HB.cell 0 rfl rfl) (ldI_of (HB.cell 1 rfl rfl) (ldI_of (HB.cell 3 rfl rfl) ?_))
      have hsn := runW_snoc m base pre b (1, s)
      generalize runW m base pre (1, s) = st at hcod hnode hsn HM HB hne ⊢
      obtain ⟨node, S1⟩ := st
      have hnode : node < 512 := hnode
      have hcod : CodOk m (n0 + pre.length) S1 := hcod
      refine bindI_of ((base + (node : Int))) (by exact i64_in _ (by omega) (by omega)) ?_
      refine Go.Ar.put_ok (bit := b) (HB.give [4, 5, 6] (by decide) rfl) hcod.wf hcod.done (by rw [hcod.n]; omega) (by rw [hcod.len]; exact hm1) (by rw [hcod.len]; exact hm2) hb1 fun r4 rest4 h4 H' => ?_
      have HE := HB.put [4, 5, 6] (by decide) rfl rfl H' rfl rfl
      clear H'
      rw [hcod.len] at HE
      refine ⟨_, rfl, ?_⟩
      refine bcase_false (by rfl) ?_
      refine ldI_of (HE.cell 3 rfl rfl) ?_
      refine wnext_ok hnode hb1 ?_
      refine ⟨_, rfl, ?_⟩
      refine stV_hp HE 3 rfl (Nat.le_of_ble_eq_true rfl) rfl fun h5 hz5 HE => ?_
      have HE : Hp (putO hh (D + 1) oB) _ h5 ([⟨r3, true, T_p_arith_Coder, [.pointer (at0 p)]⟩, ⟨r5, true, T_int, [.int .i64 base]⟩, ⟨r9, true, T_api_Errno, [.int .i64 0]⟩, ⟨r32, true, T_int, [.int .i64 (nextW node b : Nat)]⟩] ++ codL p q r4 (putM S1 (idx (base + (node : Int)) m) b) rest4) := HE
      obtain ⟨g1, g2, g3, g4⟩ := roundBack HM rfl (fun e he => (hne e he).1) ho HE rfl
      refine ⟨g1, htrue _ _ ⟨r4, rest4, ?_, ?_, fun e he => ⟨g2 e he, fun hb => ?_⟩, ?_⟩ g3 g4⟩
      · rw [hsn, List.length_append, List.length_singleton]
        exact putM_ok hcod _ _ (by omega)
      · rw [hsn]
        exact nextW_lt hnode hb1
      · rcases HE.memw e he (List.all_eq_true.1 (by rfl : (List.all _ Ent.w) = true) e he) with h6 | h6
        · obtain ⟨e2, he2, hb2⟩ := List.mem_map.1 h6
          exact (hne e2 he2).2 (hb2.trans hb)
        · rw [putO_size] at h6
          have := objAt_lt ho
          omega
      · rw [hsn]
        rfl
  · rw [← hbits] at hS2
    obtain ⟨r', rest', hcod, hnode, hne, rfl⟩ := hS2
    refine .inl ⟨ho2, ?_⟩
    have HX := hpReset H2 (fun e he => (hne e he).1) oX
    refine stV_hp HX 2 rfl (Nat.le_of_ble_eq_true rfl) rfl fun h3 hz3 H3 => ?_
    have H3 : Hp (putO h2 (D + 1) oX) _ h3 ([⟨r3, true, T_p_arith_Coder, [.pointer (at0 p)]⟩, ⟨r5, true, T_int, [.int .i64 base]⟩, ⟨r9, true, T_api_Errno, [.int .i64 0]⟩, ⟨r32, true, T_int, [.int .i64 ((runW m base bits (1, s)).1 : Nat)]⟩] ++ codL p q r' (runW m base bits (1, s)).2 rest') := H3
    have hDn : ∀ {L : List Ent}, (∀ e ∈ L, e.b ≠ D + 1 ∧ e.b ≠ D) → D ∉ L.map Ent.b := fun hL hm => by
      obtain ⟨e, he, hb⟩ := List.mem_map.1 hm
      exact (hL e he).2 hb
    have h2s : D + 1 < h2.size := objAt_lt ho2
    have hD2 : objAt h2 D (.deferred (some [])) := (H2.fr.2 D (by omega) (hDn fun e he => by have := hlt e (List.mem_append_right _ he); omega)).trans hoD
    have hD3 : objAt h3 D (.deferred (some [])) := by
      refine (H3.fr.2 D (by rw [putO_size]; omega) (hDn hne)).trans ?_
      rw [putO_ne (by omega)]
      exact hD2
    refine ⟨hD3, ?_⟩
    have H4 := hpReset (l := D) H3 (fun e he => (hne e he).2) (.deferred Option.none)
    refine ldI_of (H4.cell 2 rfl rfl) ?_
    refine hk0 r' rest' _ hfit hright ?_
    have K1 := H1.putS rfl H2 rfl
    have K2 := hpFar (l := D + 1) K1 (fun e he => by
      rcases List.mem_append.1 he with he | he
      · have := hlt e (List.mem_append_left _ he); omega
      · exact (hne e he).1) (by omega) oX
    have K3 := K2.putS rfl H3 rfl
    have K4 := hpFar (l := D) K3 (fun e he => by
      rcases List.mem_append.1 he with he | he
      · have := hlt e (List.mem_append_left _ he); omega
      · exact (hne e he).2) hDh0 (.deferred Option.none)
    exact K4.pick [7, 8, 9] (by decide) rfl
end Go.Bm

/- Written by gen.py: the conditions of the functions of burinref5. -/
set_option linter.unusedVariables false
set_option linter.unusedSimpArgs false
namespace Go.Den.Yteakipgcanafoaa
open Go Go.Den

/- burin/burinref5.Encode -/
set_option maxRecDepth 100000 in
def burinref5_Encode (C : CallP) (l : Option Addr) (ln : Nat) (lc : Nat) (h : Heap) (K : Value → Heap → Prop) (Kp : List PanicEntry → Heap → Prop) : Prop :=
∃ J_1 : Nat → List Value → Heap → Prop, (∃ n_3, J_1 n_3 [.int .i64 0] h) ∧ ∀ (n_3 : Nat) (h_4 : Heap) (u_5 : Nat → Value) (i_6 : Int), J_1 n_3 [.int .i64 i_6] h_4 → (
bcase (decide (i_6 < (ln : Int))) (
needs (0 ≤ i_6 ∧ i_6 < (ln : Int)) <|
ptr l fun a_7 =>
ldI h_4 ((a_7.add (i_6.toNat * 2)).add 0) .i64 fun x_8 =>
ldB h_4 ((a_7.add (i_6.toNat * 2)).add 1) fun x_9 =>
C F_burinref5_May #[.agg #[.int .i64 x_8, .bool x_9]] h_4 (fun v_10 h_11 =>
∃ (r_12 : Bool), v_10 = .bool r_12 ∧ (
bcase (!r_12) (
K (.tuple #[.slice none 0 0, .int .i64 50]) h_11) <|
bindI (IntKind.i64.wrap (i_6 + (1 : Int))) fun z_13 =>
∃ m_2, m_2 < n_3 ∧ J_1 m_2 [.int .i64 z_13] h_11)) (Kp)) <|
C F_burinref4_New #[.int .i64 512] h_4 (fun v_14 h_15 =>
∃ (r_16 : Option Addr), v_14 = .pointer r_16 ∧ (
∃ J_17 : Nat → List Value → Heap → Prop, (∃ n_19, J_17 n_19 [.int .i64 0] h_15) ∧ ∀ (n_19 : Nat) (h_20 : Heap) (u_21 : Nat → Value) (i_22 : Int), J_17 n_19 [.int .i64 i_22] h_20 → (
bcase (decide (i_22 < (ln : Int))) (
needs (0 ≤ i_22 ∧ i_22 < (ln : Int)) <|
ptr l fun a_23 =>
ldI h_20 ((a_23.add (i_22.toNat * 2)).add 0) .i64 fun x_24 =>
ldB h_20 ((a_23.add (i_22.toNat * 2)).add 1) fun x_25 =>
C F_burinref5_Put #[.pointer r_16, .int .i64 0, .agg #[.int .i64 x_24, .bool x_25]] h_20 (fun v_26 h_27 =>
∃ (r_28 : Int), v_26 = .int .i64 r_28 ∧ (
bcase (r_28 != (0 : Int)) (
K (.tuple #[.slice none 0 0, .int .i64 r_28]) h_27) <|
bindI (IntKind.i64.wrap (i_22 + (1 : Int))) fun z_29 =>
∃ m_18, m_18 < n_19 ∧ J_17 m_18 [.int .i64 z_29] h_27)) (Kp)) <|
C F_burinref4_Coder_Flush #[.pointer r_16] h_20 (fun v_30 h_31 =>
∃ (r_32 : Option Addr) (r_32n : Nat) (r_32c : Nat), ∃ (r_33 : Int), v_30 = .tuple #[.slice r_32 r_32n r_32c, .int .i64 r_33] ∧ (
K (.tuple #[.slice r_32 r_32n r_32c, .int .i64 r_33]) h_31)) (Kp)))) (Kp))

/- burin/burinref5.Decode -/
set_option maxRecDepth 100000 in
def burinref5_Decode (C : CallP) (b : Option Addr) (bn : Nat) (bc : Nat) (n : Int) (h : Heap) (K : Value → Heap → Prop) (Kp : List PanicEntry → Heap → Prop) : Prop :=
bcase (decide (n < (0 : Int))) (
K (.tuple #[.slice none 0 0, .int .i64 50]) h) <|
bcase (decide (n > (65536 : Int))) (
K (.tuple #[.slice none 0 0, .int .i64 50]) h) <|
C F_burinref4_NewDecoder #[.slice b bn bc, .int .i64 512] h (fun v_1 h_2 =>
∃ (r_3 : Option Addr), v_1 = .pointer r_3 ∧ (
∃ J_4 : Nat → List Value → Heap → Prop, (∃ n_6, J_4 n_6 [.slice none 0 0, .int .i64 0] h_2) ∧ ∀ (n_6 : Nat) (h_7 : Heap) (u_8 : Nat → Value) (l_9 : Option Addr) (l_9n : Nat) (l_9c : Nat) (i_10 : Int), J_4 n_6 [.slice l_9 l_9n l_9c, .int .i64 i_10] h_7 → (
bcase (decide (i_10 < n)) (
C F_burinref5_Get #[.pointer r_3, .int .i64 0] h_7 (fun v_11 h_12 =>
∃ (r_13 : Int) (r_14 : Bool), ∃ (r_15 : Int), v_11 = .tuple #[.agg #[.int .i64 r_13, .bool r_14], .int .i64 r_15] ∧ (
newC h_12 [.int .i64 0, .bool false] T_api_Whole fun r_16 h_17 =>
stV h_17 ((⟨r_16, 0, none⟩ : Addr).add 0) (.int .i64 r_13) fun h_18 =>
stV h_18 ((⟨r_16, 0, none⟩ : Addr).add 1) (.bool r_14) fun h_19 =>
bcase (r_15 != (0 : Int)) (
K (.tuple #[.slice none 0 0, .int .i64 r_15]) h_19) <|
ldI h_19 ((⟨r_16, 0, none⟩ : Addr).add 0) .i64 fun x_20 =>
ldB h_19 ((⟨r_16, 0, none⟩ : Addr).add 1) fun x_21 =>
newC h_19 [.int .i64 x_20, .bool x_21] T_api_Whole fun r_22 h_23 =>
appC h_23 T_api_Whole 2 16 [.int .i64 0, .bool false] l_9 (l_9n) (l_9c) (some ⟨r_22, 0, none⟩) (1) fun q_24 q_24n q_24c h_25 =>
bindI (IntKind.i64.wrap (i_10 + (1 : Int))) fun z_26 =>
∃ m_5, m_5 < n_6 ∧ J_4 m_5 [.slice q_24 q_24n q_24c, .int .i64 z_26] h_25)) (Kp)) <|
K (.tuple #[.slice l_9 l_9n l_9c, .int .i64 0]) h_7))) (Kp)

/- burin/burinref5.PutID -/
set_option maxRecDepth 100000 in
def burinref5_PutID (C : CallP) (c : Option Addr) (base : Int) (width : Int) (id : Int) (h : Heap) (K : Value → Heap → Prop) (Kp : List PanicEntry → Heap → Prop) : Prop :=
bindI (IntKind.i64.wrap (width - (1 : Int))) fun z_1 =>
∃ J_2 : Nat → List Value → Heap → Prop, (∃ n_4, J_2 n_4 [.int .i64 1, .int .i64 z_1] h) ∧ ∀ (n_4 : Nat) (h_5 : Heap) (u_6 : Nat → Value) (v_7 : Int) (i_8 : Int), J_2 n_4 [.int .i64 v_7, .int .i64 i_8] h_5 → (
bcase (decide (i_8 ≥ (0 : Int))) (
bindI (IntKind.u64.wrap i_8) fun z_9 =>
needs (0 ≤ z_9) <|
bindI (shrI .i64 id z_9) fun z_10 =>
bindI (bitI .and .i64 z_10 (1 : Int)) fun z_11 =>
bindI (IntKind.i64.wrap (base + v_7)) fun z_12 =>
C F_burinref4_Coder_Put #[.pointer c, .int .i64 z_12, .int .i64 z_11] h_5 (fun v_13 h_14 =>
∃ (r_15 : Int), v_13 = .int .i64 r_15 ∧ (
bcase (r_15 != (0 : Int)) (
K (.int .i64 r_15) h_14) <|
bindI (IntKind.i64.wrap ((2 : Int) * v_7)) fun z_16 =>
bindI (IntKind.i64.wrap (z_16 + z_11)) fun z_17 =>
bindI (IntKind.i64.wrap (i_8 - (1 : Int))) fun z_18 =>
∃ m_3, m_3 < n_4 ∧ J_2 m_3 [.int .i64 z_17, .int .i64 z_18] h_14)) (Kp)) <|
K (.int .i64 0) h_5)

/- burin/burinref5.May -/
set_option maxRecDepth 100000 in
def burinref5_May (C : CallP) (n_1 : Int) (n_2 : Bool) (h : Heap) (K : Value → Heap → Prop) (Kp : List PanicEntry → Heap → Prop) : Prop :=
newC h [.int .i64 n_1, .bool n_2] T_api_Whole fun r_3 h_4 =>
ldB h_4 ((⟨r_3, 0, none⟩ : Addr).add 1) fun x_5 =>
bcase x_5 (
K (.bool true) h_4) <|
ldI h_4 ((⟨r_3, 0, none⟩ : Addr).add 0) .i64 fun x_6 =>
bcase (decide (x_6 ≥ (-2147483648 : Int))) (
ldI h_4 ((⟨r_3, 0, none⟩ : Addr).add 0) .i64 fun x_7 =>
K (.bool (decide (x_7 ≤ (2147483648 : Int)))) h_4) <|
K (.bool false) h_4

/- burin/burinref5.Put -/
set_option maxRecDepth 100000 in
def burinref5_Put (C : CallP) (c : Option Addr) (base : Int) (n_1 : Int) (n_2 : Bool) (h : Heap) (K : Value → Heap → Prop) (Kp : List PanicEntry → Heap → Prop) : Prop :=
newC h [.int .i64 n_1, .bool n_2] T_api_Whole fun r_3 h_4 =>
ldI h_4 ((⟨r_3, 0, none⟩ : Addr).add 0) .i64 fun x_5 =>
ldB h_4 ((⟨r_3, 0, none⟩ : Addr).add 1) fun x_6 =>
C F_burinref5_Bits #[.agg #[.int .i64 x_5, .bool x_6]] h_4 (fun v_7 h_8 =>
∃ (r_9 : Option Addr) (r_9n : Nat) (r_9c : Nat), v_7 = .slice r_9 r_9n r_9c ∧ (
∃ J_10 : Nat → List Value → Heap → Prop, (∃ n_12, J_10 n_12 [.int .i64 1, .int .i64 0] h_8) ∧ ∀ (n_12 : Nat) (h_13 : Heap) (u_14 : Nat → Value) (v_15 : Int) (i_16 : Int), J_10 n_12 [.int .i64 v_15, .int .i64 i_16] h_13 → (
bcase (decide (i_16 < (r_9n : Int))) (
bindI (IntKind.i64.wrap (base + v_15)) fun z_17 =>
needs (0 ≤ i_16 ∧ i_16 < (r_9n : Int)) <|
ptr r_9 fun a_18 =>
ldI h_13 (a_18.add (i_16.toNat * 1)) .i64 fun x_19 =>
C F_burinref4_Coder_Put #[.pointer c, .int .i64 z_17, .int .i64 x_19] h_13 (fun v_20 h_21 =>
∃ (r_22 : Int), v_20 = .int .i64 r_22 ∧ (
bcase (r_22 != (0 : Int)) (
K (.int .i64 r_22) h_21) <|
needs (0 ≤ i_16 ∧ i_16 < (r_9n : Int)) <|
ptr r_9 fun a_23 =>
ldI h_21 (a_23.add (i_16.toNat * 1)) .i64 fun x_24 =>
C F_burinref5_next #[.int .i64 v_15, .int .i64 x_24] h_21 (fun v_25 h_26 =>
∃ (r_27 : Int), v_25 = .int .i64 r_27 ∧ (
bindI (IntKind.i64.wrap (i_16 + (1 : Int))) fun z_28 =>
∃ m_11, m_11 < n_12 ∧ J_10 m_11 [.int .i64 r_27, .int .i64 z_28] h_26)) (Kp))) (Kp)) <|
K (.int .i64 0) h_13))) (Kp)

/- burin/burinref5.Get -/
set_option maxRecDepth 100000 in
def burinref5_Get (C : CallP) (a0 : Option Addr) (a1 : Int) (h : Heap) (K : Value → Heap → Prop) (Kp : List PanicEntry → Heap → Prop) : Prop :=
newC h [.int .i64 0, .bool false] T_api_Whole fun r_1 h_2 =>
newC h_2 [.pointer a0, .int .i64 a1, .int .i64 1, .int .i64 0] T_burinref5_taker fun r_3 h_4 =>
newC h_4 [.int .i64 0, .int .i64 4, .int .i64 20, .int .i64 84, .int .i64 340, .int .i64 4436] T_int fun r_5 h_6 =>
newC h_6 [.int .i64 2, .int .i64 4, .int .i64 6, .int .i64 8, .int .i64 12, .int .i64 32] T_int fun r_7 h_8 =>
C F_burinref5_taker_bit #[.pointer (some ⟨r_3, 0, none⟩)] h_8 (fun v_9 h_10 =>
∃ (r_11 : Int), v_9 = .int .i64 r_11 ∧ (
∃ K_12 : List Value → Heap → Prop, (
∃ J_15 : Nat → List Value → Heap → Prop, (∃ n_17, J_15 n_17 [.int .i64 0] h_10) ∧ ∀ (n_17 : Nat) (h_18 : Heap) (u_19 : Nat → Value) (x_20 : Int), J_15 n_17 [.int .i64 x_20] h_18 → (
bcase (decide (x_20 < (5 : Int))) (
C F_burinref5_taker_bit #[.pointer (some ⟨r_3, 0, none⟩)] h_18 (fun v_21 h_22 =>
∃ (r_23 : Int), v_21 = .int .i64 r_23 ∧ (
bcase (r_23 == (1 : Int)) (
bindI (IntKind.i64.wrap (x_20 + (1 : Int))) fun z_24 =>
∃ m_16, m_16 < n_17 ∧ J_15 m_16 [.int .i64 z_24] h_22) <|
K_12 [.int .i64 x_20] h_22)) (Kp)) <|
K_12 [.int .i64 x_20] h_18)) ∧ ∀ (h_13 : Heap) (u_14 : Nat → Value) (x_25 : Int), K_12 [.int .i64 x_25] h_13 → (
∃ J_26 : Nat → List Value → Heap → Prop, (∃ n_28, J_26 n_28 [.int .i64 0, .int .i64 0] h_13) ∧ ∀ (n_28 : Nat) (h_29 : Heap) (u_30 : Nat → Value) (x_31 : Int) (x_32 : Int), J_26 n_28 [.int .i64 x_31, .int .i64 x_32] h_29 → (
needs (0 ≤ x_25 ∧ x_25 < ((6 : Nat) : Int)) <|
ldI h_29 ((⟨r_7, 0, none⟩ : Addr).add (x_25.toNat * 1)) .i64 fun x_33 =>
bcase (decide (x_32 < x_33)) (
bindI (IntKind.i64.wrap ((2 : Int) * x_31)) fun z_34 =>
C F_burinref5_taker_bit #[.pointer (some ⟨r_3, 0, none⟩)] h_29 (fun v_35 h_36 =>
∃ (r_37 : Int), v_35 = .int .i64 r_37 ∧ (
bindI (IntKind.i64.wrap (z_34 + r_37)) fun z_38 =>
bindI (IntKind.i64.wrap (x_32 + (1 : Int))) fun z_39 =>
∃ m_27, m_27 < n_28 ∧ J_26 m_27 [.int .i64 z_38, .int .i64 z_39] h_36)) (Kp)) <|
needs (0 ≤ x_25 ∧ x_25 < ((6 : Nat) : Int)) <|
ldI h_29 ((⟨r_5, 0, none⟩ : Addr).add (x_25.toNat * 1)) .i64 fun x_40 =>
bindI (IntKind.i64.wrap (x_31 + x_40)) fun z_41 =>
ldI h_29 ((⟨r_3, 0, none⟩ : Addr).add 3) .i64 fun x_42 =>
bcase (x_42 != (0 : Int)) (
ldI h_29 ((⟨r_3, 0, none⟩ : Addr).add 3) .i64 fun x_43 =>
stV h_29 ((⟨r_1, 0, none⟩ : Addr).add 0) (.int .i64 0) fun h_44 =>
stV h_44 ((⟨r_1, 0, none⟩ : Addr).add 1) (.bool false) fun h_45 =>
hext h_29 h_45 ∧ (
ldI h_45 ((⟨r_1, 0, none⟩ : Addr).add 0) .i64 fun r_46 =>
ldB h_45 ((⟨r_1, 0, none⟩ : Addr).add 1) fun r_47 =>
K (.tuple #[.agg #[.int .i64 r_46, .bool r_47], .int .i64 x_43]) h_45)) <|
bcase (decide (z_41 > (2147483648 : Int))) (
stV h_29 ((⟨r_1, 0, none⟩ : Addr).add 0) (.int .i64 0) fun h_48 =>
stV h_48 ((⟨r_1, 0, none⟩ : Addr).add 1) (.bool false) fun h_49 =>
ldI h_49 ((⟨r_1, 0, none⟩ : Addr).add 0) .i64 fun r_50 =>
ldB h_49 ((⟨r_1, 0, none⟩ : Addr).add 1) fun r_51 =>
K (.tuple #[.agg #[.int .i64 r_50, .bool r_51], .int .i64 50]) h_49) <|
∃ K_52 : List Value → Heap → Prop, (
bcase (r_11 == (1 : Int)) (
K_52 [.bool (z_41 == (0 : Int))] h_29) <|
K_52 [.bool false] h_29) ∧ ∀ (h_53 : Heap) (u_54 : Nat → Value) (x_55 : Bool), K_52 [.bool x_55] h_53 → (
bcase x_55 (
stV h_53 ((⟨r_1, 0, none⟩ : Addr).add 0) (.int .i64 0) fun h_56 =>
stV h_56 ((⟨r_1, 0, none⟩ : Addr).add 1) (.bool true) fun h_57 =>
ldI h_57 ((⟨r_1, 0, none⟩ : Addr).add 0) .i64 fun r_58 =>
ldB h_57 ((⟨r_1, 0, none⟩ : Addr).add 1) fun r_59 =>
K (.tuple #[.agg #[.int .i64 r_58, .bool r_59], .int .i64 0]) h_57) <|
bcase (r_11 == (1 : Int)) (
bindI (IntKind.i64.wrap (0 - z_41)) fun z_60 =>
stV h_53 ((⟨r_1, 0, none⟩ : Addr).add 0) (.int .i64 z_60) fun h_61 =>
stV h_61 ((⟨r_1, 0, none⟩ : Addr).add 1) (.bool false) fun h_62 =>
ldI h_62 ((⟨r_1, 0, none⟩ : Addr).add 0) .i64 fun r_63 =>
ldB h_62 ((⟨r_1, 0, none⟩ : Addr).add 1) fun r_64 =>
K (.tuple #[.agg #[.int .i64 r_63, .bool r_64], .int .i64 0]) h_62) <|
stV h_53 ((⟨r_1, 0, none⟩ : Addr).add 0) (.int .i64 z_41) fun h_65 =>
stV h_65 ((⟨r_1, 0, none⟩ : Addr).add 1) (.bool false) fun h_66 =>
ldI h_66 ((⟨r_1, 0, none⟩ : Addr).add 0) .i64 fun r_67 =>
ldB h_66 ((⟨r_1, 0, none⟩ : Addr).add 1) fun r_68 =>
K (.tuple #[.agg #[.int .i64 r_67, .bool r_68], .int .i64 0]) h_66))))) (Kp)

/- burin/burinref5.Bits -/
set_option maxRecDepth 100000 in
def burinref5_Bits (C : CallP) (a0_1 : Int) (a0_2 : Bool) (h : Heap) (K : Value → Heap → Prop) (Kp : List PanicEntry → Heap → Prop) : Prop :=
newC h [.int .i64 a0_1, .bool a0_2] T_api_Whole fun r_3 h_4 =>
ldB h_4 ((⟨r_3, 0, none⟩ : Addr).add 1) fun x_5 =>
bcase x_5 (
newC h_4 [.int .i64 1, .int .i64 0, .int .i64 0, .int .i64 0] T_int fun r_6 h_7 =>
K (.slice (some ⟨r_6, 0, none⟩) 4 4) h_7) <|
ldI h_4 ((⟨r_3, 0, none⟩ : Addr).add 0) .i64 fun x_8 =>
∃ K_9 : List Value → Heap → Prop, (
bcase (decide (x_8 < (0 : Int))) (
bindI (IntKind.i64.wrap (0 - x_8)) fun z_12 =>
newC h_4 [.int .i64 1] T_int fun r_13 h_14 =>
appC h_14 T_int 1 8 [.int .i64 0] none (0) (0) (some ⟨r_13, 0, none⟩) (1) fun q_15 q_15n q_15c h_16 =>
K_9 [.int .i64 z_12, .slice q_15 q_15n q_15c] h_16) <|
newC h_4 [.int .i64 0] T_int fun r_17 h_18 =>
appC h_18 T_int 1 8 [.int .i64 0] none (0) (0) (some ⟨r_17, 0, none⟩) (1) fun q_19 q_19n q_19c h_20 =>
K_9 [.int .i64 x_8, .slice q_19 q_19n q_19c] h_20) ∧ ∀ (h_10 : Heap) (u_11 : Nat → Value) (x_21 : Int) (x_22 : Option Addr) (x_22n : Nat) (x_22c : Nat), K_9 [.int .i64 x_21, .slice x_22 x_22n x_22c] h_10 → (
newC h_10 [.int .i64 0, .int .i64 4, .int .i64 20, .int .i64 84, .int .i64 340, .int .i64 4436] T_int fun r_23 h_24 =>
newC h_24 [.int .i64 2, .int .i64 4, .int .i64 6, .int .i64 8, .int .i64 12, .int .i64 32] T_int fun r_25 h_26 =>
∃ K_27 : List Value → Heap → Prop, (
∃ J_30 : Nat → List Value → Heap → Prop, (∃ n_32, J_30 n_32 [.slice x_22 x_22n x_22c, .int .i64 0] h_26) ∧ ∀ (n_32 : Nat) (h_33 : Heap) (u_34 : Nat → Value) (x_35 : Option Addr) (x_35n : Nat) (x_35c : Nat) (x_36 : Int), J_30 n_32 [.slice x_35 x_35n x_35c, .int .i64 x_36] h_33 → (
bcase (decide (x_36 < (5 : Int))) (
bindI (IntKind.i64.wrap (x_36 + (1 : Int))) fun z_37 =>
needs (0 ≤ z_37 ∧ z_37 < ((6 : Nat) : Int)) <|
ldI h_33 ((⟨r_23, 0, none⟩ : Addr).add (z_37.toNat * 1)) .i64 fun x_38 =>
bcase (decide (x_21 ≥ x_38)) (
newC h_33 [.int .i64 1] T_int fun r_39 h_40 =>
appC h_40 T_int 1 8 [.int .i64 0] x_35 (x_35n) (x_35c) (some ⟨r_39, 0, none⟩) (1) fun q_41 q_41n q_41c h_42 =>
bindI (IntKind.i64.wrap (x_36 + (1 : Int))) fun z_43 =>
∃ m_31, m_31 < n_32 ∧ J_30 m_31 [.slice q_41 q_41n q_41c, .int .i64 z_43] h_42) <|
K_27 [.slice x_35 x_35n x_35c, .int .i64 x_36] h_33) <|
K_27 [.slice x_35 x_35n x_35c, .int .i64 x_36] h_33)) ∧ ∀ (h_28 : Heap) (u_29 : Nat → Value) (x_44 : Option Addr) (x_44n : Nat) (x_44c : Nat) (x_45 : Int), K_27 [.slice x_44 x_44n x_44c, .int .i64 x_45] h_28 → (
∃ K_46 : List Value → Heap → Prop, (
bcase (decide (x_45 < (5 : Int))) (
newC h_28 [.int .i64 0] T_int fun r_49 h_50 =>
appC h_50 T_int 1 8 [.int .i64 0] x_44 (x_44n) (x_44c) (some ⟨r_49, 0, none⟩) (1) fun q_51 q_51n q_51c h_52 =>
K_46 [.slice q_51 q_51n q_51c] h_52) <|
K_46 [.slice x_44 x_44n x_44c] h_28) ∧ ∀ (h_47 : Heap) (u_48 : Nat → Value) (x_53 : Option Addr) (x_53n : Nat) (x_53c : Nat), K_46 [.slice x_53 x_53n x_53c] h_47 → (
needs (0 ≤ x_45 ∧ x_45 < ((6 : Nat) : Int)) <|
ldI h_47 ((⟨r_25, 0, none⟩ : Addr).add (x_45.toNat * 1)) .i64 fun x_54 =>
bindI (IntKind.i64.wrap (x_54 - (1 : Int))) fun z_55 =>
∃ J_56 : Nat → List Value → Heap → Prop, (∃ n_58, J_56 n_58 [.slice x_53 x_53n x_53c, .int .i64 z_55] h_47) ∧ ∀ (n_58 : Nat) (h_59 : Heap) (u_60 : Nat → Value) (x_61 : Option Addr) (x_61n : Nat) (x_61c : Nat) (x_62 : Int), J_56 n_58 [.slice x_61 x_61n x_61c, .int .i64 x_62] h_59 → (
bcase (decide (x_62 ≥ (0 : Int))) (
needs (0 ≤ x_45 ∧ x_45 < ((6 : Nat) : Int)) <|
ldI h_59 ((⟨r_23, 0, none⟩ : Addr).add (x_45.toNat * 1)) .i64 fun x_63 =>
bindI (IntKind.i64.wrap (x_21 - x_63)) fun z_64 =>
bindI (IntKind.u64.wrap x_62) fun z_65 =>
needs (0 ≤ z_65) <|
bindI (shrI .i64 z_64 z_65) fun z_66 =>
bindI (bitI .and .i64 z_66 (1 : Int)) fun z_67 =>
newC h_59 [.int .i64 z_67] T_int fun r_68 h_69 =>
appC h_69 T_int 1 8 [.int .i64 0] x_61 (x_61n) (x_61c) (some ⟨r_68, 0, none⟩) (1) fun q_70 q_70n q_70c h_71 =>
bindI (IntKind.i64.wrap (x_62 - (1 : Int))) fun z_72 =>
∃ m_57, m_57 < n_58 ∧ J_56 m_57 [.slice q_70 q_70n q_70c, .int .i64 z_72] h_71) <|
K (.slice x_61 x_61n x_61c) h_59))))

/- burin/burinref5.next -/
set_option maxRecDepth 100000 in
def burinref5_next (C : CallP) (v : Int) (bit : Int) (h : Heap) (K : Value → Heap → Prop) (Kp : List PanicEntry → Heap → Prop) : Prop :=
bcase (decide (v < (256 : Int))) (
bindI (IntKind.i64.wrap ((2 : Int) * v)) fun z_1 =>
bindI (IntKind.i64.wrap (z_1 + bit)) fun z_2 =>
K (.int .i64 z_2) h) <|
bindI (IntKind.i64.wrap ((2 : Int) * v)) fun z_3 =>
bindI (IntKind.i64.wrap (z_3 + bit)) fun z_4 =>
bindI (z_4.tmod (256 : Int)) fun z_5 =>
bindI (IntKind.i64.wrap (z_5 + (256 : Int))) fun z_6 =>
K (.int .i64 z_6) h

/- (*burin/burinref5.taker).bit -/
set_option maxRecDepth 100000 in
def burinref5_taker_bit (C : CallP) (t : Option Addr) (h : Heap) (K : Value → Heap → Prop) (Kp : List PanicEntry → Heap → Prop) : Prop :=
ptr t fun a_1 =>
ldI h (a_1.add 3) .i64 fun x_2 =>
bcase (x_2 != (0 : Int)) (
K (.int .i64 0) h) <|
ptr t fun a_3 =>
ptr t fun a_4 =>
ptr t fun a_5 =>
ldP h (a_3.add 0) fun x_6 =>
ldI h (a_4.add 1) .i64 fun x_7 =>
ldI h (a_5.add 2) .i64 fun x_8 =>
bindI (IntKind.i64.wrap (x_7 + x_8)) fun z_9 =>
C F_burinref4_Decoder_Get #[.pointer x_6, .int .i64 z_9] h (fun v_10 h_11 =>
∃ (r_12 : Int), ∃ (r_13 : Int), v_10 = .tuple #[.int .i64 r_12, .int .i64 r_13] ∧ (
ptr t fun a_14 =>
stV h_11 (a_14.add 3) (.int .i64 r_13) fun h_15 =>
ptr t fun a_16 =>
ldI h_15 (a_16.add 2) .i64 fun x_17 =>
C F_burinref5_next #[.int .i64 x_17, .int .i64 r_12] h_15 (fun v_18 h_19 =>
∃ (r_20 : Int), v_18 = .int .i64 r_20 ∧ (
ptr t fun a_21 =>
stV h_19 (a_21.add 2) (.int .i64 r_20) fun h_22 =>
K (.int .i64 r_12) h_22)) (Kp))) (Kp)

end Go.Den.Yteakipgcanafoaa

/- Written by gen.py: each condition of the functions of burinref5 is the one of its body; so it is enough for its call. -/
set_option linter.unusedVariables false
set_option linter.unusedSimpArgs false
namespace Go.Den.Yteakipgcanafoaa
open Go Go.Den

noncomputable def hints_burinref5_Encode : Hints := Hints.mk (fun i => none)
  (fun i => bif Nat.beq i 2 then some ([(4, .int .i64)], 1048348) else (bif Nat.beq i 8 then some ([(6, .int .i64)], 68717379788) else (none)))
  (fun i => none) []
set_option maxRecDepth 100000 in
theorem eq_burinref5_Encode (C : CallP) (l : Option Addr) (ln : Nat) (lc : Nat) (h : Heap) (K : Value → Heap → Prop) (Kp : List PanicEntry → Heap → Prop) :
    fnD Go.Proofs.Try.prog C hints_burinref5_Encode Go.Proofs.Try.f19 [.slice l ln lc] h K Kp = burinref5_Encode C l ln lc h K Kp := by kernel_rfl

theorem call_burinref5_Encode {l : Option Addr} {ln : Nat} {lc : Nat} {h : Heap} {K : Value → Heap → Prop} {Kp : List PanicEntry → Heap → Prop} (H : burinref5_Encode (CallsHP Go.Proofs.Try.prog) l ln lc h K Kp) : CallsHP Go.Proofs.Try.prog F_burinref5_Encode #[.slice l ln lc] h K Kp :=
  callsHP_of hints_burinref5_Encode (by kernel_rfl) Go.Proofs.Try.func19 (by kernel_rfl) (by rw [eq_burinref5_Encode]; exact H)

noncomputable def hints_burinref5_Decode : Hints := Hints.mk (fun i => none)
  (fun i => bif Nat.beq i 6 then some ([(7, .slc), (8, .int .i64)], 68718954416) else (none))
  (fun i => none) []
set_option maxRecDepth 100000 in
theorem eq_burinref5_Decode (C : CallP) (b : Option Addr) (bn : Nat) (bc : Nat) (n : Int) (h : Heap) (K : Value → Heap → Prop) (Kp : List PanicEntry → Heap → Prop) :
    fnD Go.Proofs.Try.prog C hints_burinref5_Decode Go.Proofs.Try.f24 [.slice b bn bc, .int .i64 n] h K Kp = burinref5_Decode C b bn bc n h K Kp := by kernel_rfl

theorem call_burinref5_Decode {b : Option Addr} {bn : Nat} {bc : Nat} {n : Int} {h : Heap} {K : Value → Heap → Prop} {Kp : List PanicEntry → Heap → Prop} (H : burinref5_Decode (CallsHP Go.Proofs.Try.prog) b bn bc n h K Kp) : CallsHP Go.Proofs.Try.prog F_burinref5_Decode #[.slice b bn bc, .int .i64 n] h K Kp :=
  callsHP_of hints_burinref5_Decode (by kernel_rfl) Go.Proofs.Try.func24 (by kernel_rfl) (by rw [eq_burinref5_Decode]; exact H)

noncomputable def hints_burinref5_PutID : Hints := Hints.mk (fun i => none)
  (fun i => bif Nat.beq i 3 then some ([(9, .int .i64), (10, .int .i64)], 137438928640) else (none))
  (fun i => none) []
set_option maxRecDepth 100000 in
theorem eq_burinref5_PutID (C : CallP) (c : Option Addr) (base : Int) (width : Int) (id : Int) (h : Heap) (K : Value → Heap → Prop) (Kp : List PanicEntry → Heap → Prop) :
    fnD Go.Proofs.Try.prog C hints_burinref5_PutID Go.Proofs.Try.f30 [.pointer c, .int .i64 base, .int .i64 width, .int .i64 id] h K Kp = burinref5_PutID C c base width id h K Kp := by kernel_rfl

theorem call_burinref5_PutID {c : Option Addr} {base : Int} {width : Int} {id : Int} {h : Heap} {K : Value → Heap → Prop} {Kp : List PanicEntry → Heap → Prop} (H : burinref5_PutID (CallsHP Go.Proofs.Try.prog) c base width id h K Kp) : CallsHP Go.Proofs.Try.prog F_burinref5_PutID #[.pointer c, .int .i64 base, .int .i64 width, .int .i64 id] h K Kp :=
  callsHP_of hints_burinref5_PutID (by kernel_rfl) Go.Proofs.Try.func30 (by kernel_rfl) (by rw [eq_burinref5_PutID]; exact H)

noncomputable def hints_burinref5_May : Hints := Hints.mk (fun i => none)
  (fun i => none)
  (fun i => none) []
set_option maxRecDepth 100000 in
theorem eq_burinref5_May (C : CallP) (n_1 : Int) (n_2 : Bool) (h : Heap) (K : Value → Heap → Prop) (Kp : List PanicEntry → Heap → Prop) :
    fnD Go.Proofs.Try.prog C hints_burinref5_May Go.Proofs.Try.f33 [.agg #[.int .i64 n_1, .bool n_2]] h K Kp = burinref5_May C n_1 n_2 h K Kp := by kernel_rfl

theorem call_burinref5_May {n_1 : Int} {n_2 : Bool} {h : Heap} {K : Value → Heap → Prop} {Kp : List PanicEntry → Heap → Prop} (H : burinref5_May (CallsHP Go.Proofs.Try.prog) n_1 n_2 h K Kp) : CallsHP Go.Proofs.Try.prog F_burinref5_May #[.agg #[.int .i64 n_1, .bool n_2]] h K Kp :=
  callsHP_of hints_burinref5_May (by kernel_rfl) Go.Proofs.Try.func33 (by kernel_rfl) (by rw [eq_burinref5_May]; exact H)

noncomputable def hints_burinref5_Put : Hints := Hints.mk (fun i => none)
  (fun i => bif Nat.beq i 4 then some ([(8, .int .i64), (9, .int .i64)], 137438947136) else (none))
  (fun i => none) []
set_option maxRecDepth 100000 in
theorem eq_burinref5_Put (C : CallP) (c : Option Addr) (base : Int) (n_1 : Int) (n_2 : Bool) (h : Heap) (K : Value → Heap → Prop) (Kp : List PanicEntry → Heap → Prop) :
    fnD Go.Proofs.Try.prog C hints_burinref5_Put Go.Proofs.Try.f34 [.pointer c, .int .i64 base, .agg #[.int .i64 n_1, .bool n_2]] h K Kp = burinref5_Put C c base n_1 n_2 h K Kp := by kernel_rfl

theorem call_burinref5_Put {c : Option Addr} {base : Int} {n_1 : Int} {n_2 : Bool} {h : Heap} {K : Value → Heap → Prop} {Kp : List PanicEntry → Heap → Prop} (H : burinref5_Put (CallsHP Go.Proofs.Try.prog) c base n_1 n_2 h K Kp) : CallsHP Go.Proofs.Try.prog F_burinref5_Put #[.pointer c, .int .i64 base, .agg #[.int .i64 n_1, .bool n_2]] h K Kp :=
  callsHP_of hints_burinref5_Put (by kernel_rfl) Go.Proofs.Try.func34 (by kernel_rfl) (by rw [eq_burinref5_Put]; exact H)

noncomputable def hints_burinref5_Get : Hints := Hints.mk (fun i => bif Nat.beq i 15 then some ([], .take 0 <| .take 1 <| .take 2 <| .take 3 <| .take 4 <| .go 5 <| .take 6 <| .done) else (none))
  (fun i => bif Nat.beq i 6 then some ([(10, .int .i64)], 1071645696) else (bif Nat.beq i 10 then some ([(11, .int .i64), (12, .int .i64)], 8795019286528) else (none)))
  (fun i => bif Nat.beq i 8 then some ([(10, .int .i64)], 1071645696) else (bif Nat.beq i 19 then some ([(67, .bool)], 290536219160925437952) else (none))) []
set_option maxRecDepth 100000 in
theorem eq_burinref5_Get (C : CallP) (a0 : Option Addr) (a1 : Int) (h : Heap) (K : Value → Heap → Prop) (Kp : List PanicEntry → Heap → Prop) :
    fnD Go.Proofs.Try.prog C hints_burinref5_Get Go.Proofs.Try.f64 [.pointer a0, .int .i64 a1] h K Kp = burinref5_Get C a0 a1 h K Kp := by kernel_rfl

theorem call_burinref5_Get {a0 : Option Addr} {a1 : Int} {h : Heap} {K : Value → Heap → Prop} {Kp : List PanicEntry → Heap → Prop} (H : burinref5_Get (CallsHP Go.Proofs.Try.prog) a0 a1 h K Kp) : CallsHP Go.Proofs.Try.prog F_burinref5_Get #[.pointer a0, .int .i64 a1] h K Kp :=
  callsHP_of hints_burinref5_Get (by kernel_rfl) Go.Proofs.Try.func64 (by kernel_rfl) (by rw [eq_burinref5_Get]; exact H)

noncomputable def hints_burinref5_Bits : Hints := Hints.mk (fun i => none)
  (fun i => bif Nat.beq i 12 then some ([(4, .slc), (7, .int .i64)], 4397979402384) else (bif Nat.beq i 18 then some ([(4, .slc), (8, .int .i64)], 590291306759078281488) else (none)))
  (fun i => bif Nat.beq i 9 then some ([(3, .int .i64), (4, .slc)], 16760856) else (bif Nat.beq i 15 then some ([(4, .slc), (7, .int .i64)], 4397979402384) else (bif Nat.beq i 17 then some ([(4, .slc)], 136339441844240) else (none)))) []
set_option maxRecDepth 100000 in
theorem eq_burinref5_Bits (C : CallP) (a0_1 : Int) (a0_2 : Bool) (h : Heap) (K : Value → Heap → Prop) (Kp : List PanicEntry → Heap → Prop) :
    fnD Go.Proofs.Try.prog C hints_burinref5_Bits Go.Proofs.Try.f74 [.agg #[.int .i64 a0_1, .bool a0_2]] h K Kp = burinref5_Bits C a0_1 a0_2 h K Kp := by kernel_rfl

theorem call_burinref5_Bits {a0_1 : Int} {a0_2 : Bool} {h : Heap} {K : Value → Heap → Prop} {Kp : List PanicEntry → Heap → Prop} (H : burinref5_Bits (CallsHP Go.Proofs.Try.prog) a0_1 a0_2 h K Kp) : CallsHP Go.Proofs.Try.prog F_burinref5_Bits #[.agg #[.int .i64 a0_1, .bool a0_2]] h K Kp :=
  callsHP_of hints_burinref5_Bits (by kernel_rfl) Go.Proofs.Try.func74 (by kernel_rfl) (by rw [eq_burinref5_Bits]; exact H)

noncomputable def hints_burinref5_next : Hints := Hints.mk (fun i => none)
  (fun i => none)
  (fun i => none) []
set_option maxRecDepth 100000 in
theorem eq_burinref5_next (C : CallP) (v : Int) (bit : Int) (h : Heap) (K : Value → Heap → Prop) (Kp : List PanicEntry → Heap → Prop) :
    fnD Go.Proofs.Try.prog C hints_burinref5_next Go.Proofs.Try.f75 [.int .i64 v, .int .i64 bit] h K Kp = burinref5_next C v bit h K Kp := by kernel_rfl

theorem call_burinref5_next {v : Int} {bit : Int} {h : Heap} {K : Value → Heap → Prop} {Kp : List PanicEntry → Heap → Prop} (H : burinref5_next (CallsHP Go.Proofs.Try.prog) v bit h K Kp) : CallsHP Go.Proofs.Try.prog F_burinref5_next #[.int .i64 v, .int .i64 bit] h K Kp :=
  callsHP_of hints_burinref5_next (by kernel_rfl) Go.Proofs.Try.func75 (by kernel_rfl) (by rw [eq_burinref5_next]; exact H)

noncomputable def hints_burinref5_taker_bit : Hints := Hints.mk (fun i => bif Nat.beq i 3 then some ([13], .take 0 <| .take 1 <| .take 2 <| .take 4 <| .take 5 <| .take 6 <| .take 8 <| .take 9 <| .take 10 <| .take 3 <| .take 7 <| .take 11 <| .take 12 <| .bar 13 [] <| .take 14 <| .take 15 <| .take 16 <| .take 17 <| .take 18 <| .done) else (none))
  (fun i => none)
  (fun i => none) []
set_option maxRecDepth 100000 in
theorem eq_burinref5_taker_bit (C : CallP) (t : Option Addr) (h : Heap) (K : Value → Heap → Prop) (Kp : List PanicEntry → Heap → Prop) :
    fnD Go.Proofs.Try.prog C hints_burinref5_taker_bit Go.Proofs.Try.f103 [.pointer t] h K Kp = burinref5_taker_bit C t h K Kp := by kernel_rfl

theorem call_burinref5_taker_bit {t : Option Addr} {h : Heap} {K : Value → Heap → Prop} {Kp : List PanicEntry → Heap → Prop} (H : burinref5_taker_bit (CallsHP Go.Proofs.Try.prog) t h K Kp) : CallsHP Go.Proofs.Try.prog F_burinref5_taker_bit #[.pointer t] h K Kp :=
  callsHP_of hints_burinref5_taker_bit (by kernel_rfl) Go.Proofs.Try.func103 (by kernel_rfl) (by rw [eq_burinref5_taker_bit]; exact H)

end Go.Den.Yteakipgcanafoaa
