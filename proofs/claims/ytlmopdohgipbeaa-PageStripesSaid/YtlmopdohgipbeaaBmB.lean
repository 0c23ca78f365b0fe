/- BmB: sizes, masks, words: the small functions of bitmap and of burinref0. -/
import Derived.Test.YtlmopdohgipbeaaBmA
import Derived.Test.YtlmopdohgipbeaaBbitmap
import Derived.Test.YtlmopdohgipbeaaBburinref0
import Derived.Test.YtlmopdohgipbeaaBslices
set_option linter.unusedVariables false
set_option linter.unusedSimpArgs false
namespace Go.Bm
open Go Go.Den Go.Den.Ytlmopdohgipbeaa

abbrev CP : CallP := CallsHP Go.Proofs.Try.prog
abbrev at0 (p : Nat) : Option Addr := some ⟨p, 0, none⟩
theorem bcase_dec {p : Prop} [Decidable p] {X Y : Prop} (ht : p → X) (hf : ¬ p → Y) : bcase (decide p) X Y :=
  bcase_of (fun h => ht (of_decide_eq_true h)) fun h => hf (of_decide_eq_false h)
theorem bcase_eq {a b : Int} {X Y : Prop} (ht : a = b → X) (hf : a ≠ b → Y) : bcase (a == b) X Y :=
  bcase_of (fun h => ht (by simpa using h)) fun h => hf (by simpa using h)
theorem bcase_ne {a b : Int} {X Y : Prop} (ht : a ≠ b → X) (hf : a = b → Y) : bcase (a != b) X Y :=
  bcase_of (fun h => ht (by simpa using h)) fun h => hf (by simpa using h)
theorem bcase_not {b : Bool} {X Y : Prop} (ht : b = false → X) (hf : b = true → Y) : bcase (!b) X Y :=
  bcase_of (fun h => ht (by simpa using h)) fun h => hf (by simpa using h)
theorem add_zero' (a : Addr) : a.add 0 = a := by unfold Addr.add; rw [if_pos rfl]
theorem rdO_cell {h : Heap} {a : Option Addr} {n : Nat} {cs : List Value} (hr : rdO h a n cs) {i : Nat} {v : Value} (hi : cs[i]? = some v) : ∃ ad, a = some ad ∧ hcell h (ad.add i) = some v := by
  cases a with
  | none => unfold rdO at hr; rw [hr] at hi; simp at hi
  | some ad => exact ⟨ad, rfl, hr.2 i v hi⟩

/-! ### sizes -/
def SizeP (w h : Int) : Prop := 1 ≤ w ∧ 1 ≤ h ∧ w ≤ 1048576 ∧ h ≤ 1048576 ∧ w * h ≤ 1048576
theorem prod_le {w h : Int} (h1 : 1 ≤ w) (h2 : 1 ≤ h) (h3 : w ≤ 1048576) (h4 : h ≤ 1048576) : 1 ≤ w * h ∧ w * h ≤ 1099511627776 := by
  constructor
  · have := Int.mul_le_mul h1 h2 (by omega) (by omega)
    omega
  · have := Int.mul_le_mul h3 h4 (by omega) (by omega)
    omega
theorem sized_ok {h : Heap} {w h' : Int} {K : Value → Heap → Prop} {Kp : List PanicEntry → Heap → Prop} (hk : ∀ b : Bool, (b = true ↔ SizeP w h') → K (.bool b) h) : CP F_bitmap_sized #[.int .i64 w, .int .i64 h'] h K Kp := by
  refine call_bitmap_sized ?_
  unfold bitmap_sized
  refine bcase_dec (fun h1 => ?_) fun h1 => hk false (by simp [SizeP]; omega)
  refine bcase_dec (fun h2 => ?_) fun h2 => hk false (by simp [SizeP]; omega)
  refine bcase_dec (fun h3 => ?_) fun h3 => hk false (by simp [SizeP]; omega)
  refine bcase_dec (fun h4 => ?_) fun h4 => hk false (by simp [SizeP]; omega)
  obtain ⟨g1, g2⟩ := prod_le h1 h2 h3 h4
  refine bindI_of ((w * h')) (by exact i64_in _ (by omega) (by omega)) ?_
  exact hk _ (by simp [SizeP]; omega)
theorem rsize_ok {h : Heap} {w h' : Int} {K : Value → Heap → Prop} {Kp : List PanicEntry → Heap → Prop} (hk : ∀ b : Bool, (b = true ↔ SizeP w h') → K (.bool b) h) : CP F_burinref0_Size #[.int .i64 w, .int .i64 h'] h K Kp := by
  refine call_burinref0_Size ?_
  unfold burinref0_Size
  refine bcase_dec (fun h1 => ?_) fun h1 => hk false (by simp [SizeP]; omega)
  refine bcase_dec (fun h2 => ?_) fun h2 => hk false (by simp [SizeP]; omega)
  refine bcase_dec (fun h3 => ?_) fun h3 => hk false (by simp [SizeP]; omega)
  refine needs_of (by first | exact ⟨rfl, by omega⟩ | exact ⟨trivial, by omega⟩) ?_
  obtain ⟨W, rfl⟩ : ∃ W : Nat, w = (W : Nat) := ⟨w.toNat, by omega⟩
  obtain ⟨X, rfl⟩ : ∃ X : Nat, h' = (X : Nat) := ⟨h'.toNat, by omega⟩
  have hW : 1 ≤ W := by omega
  have hq := Nat.div_le_self 1048576 W
  obtain ⟨Q, hQ⟩ : ∃ Q, Q = 1048576 / W := ⟨_, rfl⟩
  refine bindI_of (((Q : Nat) : Int)) (by exact i64_at _ _ (by rw [hQ]; exact tdiv_nat 1048576 W) (by omega) (by omega)) ?_
  refine hk _ ?_
  rw [decide_eq_true_iff]
  have hm := Nat.le_div_iff_mul_le (k := W) (x := X) (y := 1048576) (by omega)
  unfold SizeP
  constructor
  · intro h5
    have h6 : X ≤ 1048576 / W := by omega
    have h7 := hm.1 h6
    rw [Nat.mul_comm] at h7
    refine ⟨h1, h2, h3, by omega, ?_⟩
    rw [← Int.natCast_mul]
    omega
  · rintro ⟨_, _, _, _, h7⟩
    rw [← Int.natCast_mul] at h7
    have h8 : W * X ≤ 1048576 := by omega
    rw [Nat.mul_comm] at h8
    have := hm.2 h8
    omega
theorem words_ok {h : Heap} {w : Nat} (hw : w ≤ 1048576) {K : Value → Heap → Prop} {Kp : List PanicEntry → Heap → Prop} (hk : K (.int .i64 (wds w : Nat)) h) : CP F_burinref0_words #[.int .i64 (w : Nat)] h K Kp := by
  refine call_burinref0_words ?_
  unfold burinref0_words
  refine bindI_of (((w + 63 : Nat) : Int)) (by exact i64_at _ _ (by omega) (by omega) (by omega)) ?_
  refine bindI_of (((wds w : Nat) : Int)) (by exact i64_at _ _ (tdiv_nat (w + 63) 64) (by unfold wds; omega) (by unfold wds; omega)) ?_
  exact hk

/-- What is behind the last pixel of a row: so many bits. -/
def padn (w : Nat) : Nat := (64 - w % 64) % 64
theorem last_ok {h : Heap} {w : Nat} {K : Value → Heap → Prop} {Kp : List PanicEntry → Heap → Prop} (hk : ∀ L : Nat, L < M64 → (∀ j, j < 64 → L.testBit j = decide (padn w ≤ j)) → K (.int .u64 (L : Nat)) h) : CP F_bitmap_last #[.int .i64 (w : Nat)] h K Kp := by
  refine call_bitmap_last ?_
  unfold bitmap_last
  have h64 := Nat.mod_lt w (show 64 > 0 by decide)
  refine bindI_of (((w % 64 : Nat) : Int)) (by exact tmod_nat w 64) ?_
  refine bindI_of (((64 - w % 64 : Nat) : Int)) (by exact i64_at _ _ (by omega) (by omega) (by omega)) ?_
  refine bindI_of (((padn w : Nat) : Int)) (by exact tmod_nat (64 - w % 64) 64) ?_
  have hp : padn w < 64 := Nat.mod_lt _ (by decide)
  refine needs_of (by omega) ?_
  have hlt : 18446744073709551615 * 2 ^ padn w % M64 < M64 := Nat.mod_lt _ (by decide)
  refine bindI_of (((18446744073709551615 * 2 ^ padn w % M64 : Nat) : Int)) (by exact shl_of (x := 18446744073709551615) (i := padn w) (by show padn w ≤ 64; omega) (by simp [IntKind.wrap, IntKind.bits, IntKind.signed])) ?_
  refine hk _ hlt fun j hj => ?_
  rw [M64_pow, Nat.testBit_mod_two_pow, decide_eq_true hj, Bool.true_and, show 18446744073709551615 = 2 ^ 64 - 1 from rfl, Nat.testBit_mul_two_pow, Nat.testBit_two_pow_sub_one]
  by_cases h1 : padn w ≤ j
  · simp [h1]; omega
  · simp [h1]

/-- May a bitmap be? -/
def MayP (w h : Int) (ws : List Nat) : Prop := SizeP w h ∧ ws.length = h.toNat * wds w.toNat ∧ ∀ y, y < h.toNat → ws.getD (y * wds w.toNat + (wds w.toNat - 1)) 0 % 2 ^ padn w.toNat = 0
theorem mod_zero_bits {v s : Nat} : v % 2 ^ s = 0 ↔ ∀ j, j < s → v.testBit j = false := by
  constructor
  · intro h j hj
    have := Nat.testBit_mod_two_pow v s j
    rw [h, decide_eq_true hj, Bool.true_and, Nat.zero_testBit] at this
    exact this.symm
  · intro h
    apply Nat.eq_of_testBit_eq
    intro j
    rw [Nat.testBit_mod_two_pow, Nat.zero_testBit]
    by_cases hj : j < s
    · rw [h j hj]; simp
    · simp [hj]
theorem not_last {v L w : Nat} (hv : v < M64) (hL : L < M64) (h : ∀ j, j < 64 → L.testBit j = decide (padn w ≤ j)) : v &&& wnot L = 0 ↔ v % 2 ^ padn w = 0 := by
  have hp : padn w < 64 := Nat.mod_lt _ (by decide)
  rw [mod_zero_bits]
  constructor
  · intro h1 j hj
    have : (v &&& wnot L).testBit j = false := by rw [h1]; exact Nat.zero_testBit j
    rw [Nat.testBit_and, wnot_bit hL (by omega), h j (by omega)] at this
    simpa [show ¬ padn w ≤ j by omega] using this
  · intro h1
    apply Nat.eq_of_testBit_eq
    intro j
    rw [Nat.zero_testBit, Nat.testBit_and]
    rcases Nat.lt_or_ge j 64 with hj | hj
    · rw [wnot_bit hL hj, h j hj]
      by_cases h2 : padn w ≤ j
      · simp [h2]
      · rw [h1 j (by omega)]; simp
    · rw [bits_lt hv hj]; simp
theorem size_nat {w h : Int} (hs : SizeP w h) : ∃ W H : Nat, w = (W : Nat) ∧ h = (H : Nat) ∧ 1 ≤ W ∧ W ≤ 1048576 ∧ 1 ≤ H ∧ H ≤ 1048576 ∧ W * H ≤ 1048576 := by
  obtain ⟨h1, h2, h3, h4, h5⟩ := hs
  refine ⟨w.toNat, h.toNat, by omega, by omega, by omega, by omega, by omega, by omega, ?_⟩
  have e1 : ((w.toNat : Nat) : Int) = w := by omega
  have e2 : ((h.toNat : Nat) : Int) = h := by omega
  have : ((w.toNat * h.toNat : Nat) : Int) ≤ 1048576 := by rw [Int.natCast_mul, e1, e2]; exact h5
  omega
theorem wds_pos {w : Nat} (h : 1 ≤ w) : 1 ≤ wds w := by unfold wds; omega
theorem wds_le {w : Nat} (h : 1 ≤ w) : wds w ≤ w := by unfold wds; omega
theorem hw_le {W H : Nat} (h1 : 1 ≤ W) (h : W * H ≤ 1048576) : H * wds W ≤ 1048576 :=
  Nat.le_trans (Nat.mul_le_mul_left H (wds_le h1)) (by rw [Nat.mul_comm]; exact h)

set_option maxRecDepth 100000 in
theorem check_ok {hB : Heap} {w h' : Int} {q : Option Addr} {c : Nat} {ws : List Nat} (hr : rdO hB q (ws.length * 1) (u64s ws)) (hw : W64 ws) (hl : ws.length < 140737488351300) {K : Value → Heap → Prop} {Kp : List PanicEntry → Heap → Prop}
    (hk : ∀ (b : Bool) h, (b = true ↔ MayP w h' ws) → hext hB h → K (.bool b) h) : CP F_bitmap_Check #[.agg #[.int .i64 w, .int .i64 h', .slice q ws.length c]] hB K Kp := by
  refine call_bitmap_Check ?_
  unfold bitmap_Check
  have H := Hp.nil hB []
  refine newC_hp H fun r h H => ?_
  try simp only [ptr_some_eq, add_mk, Nat.zero_add, Nat.add_zero]
  refine ldI_of (H.cell 0 rfl rfl) ?_
  refine ldI_of (H.cell 0 rfl rfl) ?_
  refine sized_ok fun b hb => ?_
  refine ⟨_, rfl, ?_⟩
  refine bcase_not (fun h1 => ?_) fun h1 => ?_
  · refine hk false _ ⟨(fun h => Bool.noConfusion h), fun hm => ?_⟩ H.hext
    have := hb.2 hm.1
    rw [h1] at this; cases this
  obtain ⟨W, X, rfl, rfl, hW1, hW2, hX1, hX2, hWX⟩ := size_nat (hb.1 h1)
  have hwd := wds_pos hW1
  have hwl := wds_le hW1
  have hhw := hw_le hW1 hWX
  refine ldI_of (H.cell 0 rfl rfl) ?_
  refine bindI_of (((W + 63 : Nat) : Int)) (by exact i64_at _ _ (by omega) (by omega) (by omega)) ?_
  refine bindI_of (((wds W : Nat) : Int)) (by exact i64_at _ _ (tdiv_nat (W + 63) 64) (by unfold wds; omega) (by unfold wds; omega)) ?_
  refine ldS_of (H.cell 0 rfl rfl) ?_
  refine ldI_of (H.cell 0 rfl rfl) ?_
  refine bindI_of (((X * wds W : Nat) : Int)) (by exact i64_at _ _ (by rw [Int.natCast_mul]) (by omega) (by omega)) ?_
  refine bcase_ne (fun h2 => ?_) fun h2 => ?_
  · exact hk false _ ⟨(fun h => Bool.noConfusion h), fun hm => absurd (by exact_mod_cast hm.2.1) h2⟩ H.hext
  have h2 : ws.length = X * wds W := by exact_mod_cast h2
  refine ldI_of (H.cell 0 rfl rfl) ?_
  refine ⟨fun n vs h => ∃ y : Nat, y + n = X ∧ vs = [.int .i64 (y : Int)] ∧ Hp hB [] h [⟨r, true, T_api_Bitmap, [.int .i64 (W : Nat), .int .i64 (X : Nat), .slice q ws.length c]⟩] ∧ ∀ y', y' < y → ws.getD (y' * wds W + (wds W - 1)) 0 % 2 ^ padn W = 0, ⟨X, 0, by omega, rfl, H, fun y' h => by omega⟩, ?_⟩
  clear H
  rintro n h u x ⟨y, hyn, hx, H, hz⟩
  injection hx with hx
  injection hx with _ hx
  subst hx
  refine bcase_dec (fun h3 => ?_) fun h3 => ?_
  · have h3 : y < X := by omega
    have hil := idx_lt (c := wds W - 1) (wd := wds W) (y := y) (h := X) (by omega) h3
    refine bindI_of (((y * wds W : Nat) : Int)) (by exact i64_at _ _ (by rw [Int.natCast_mul]) (by omega) (by omega)) ?_
    refine bindI_of (((y * wds W + wds W : Nat) : Int)) (by exact i64_at _ _ (by omega) (by omega) (by omega)) ?_
    refine bindI_of (((y * wds W + (wds W - 1) : Nat) : Int)) (by exact i64_at _ _ (by omega) (by omega) (by omega)) ?_
    refine ldS_of (H.cell 0 rfl rfl) ?_
    refine needs_of (by omega) ?_
    obtain ⟨a, ha, hc⟩ := rdO_cell (H.rdO hr) (u64s_get (getD_get (l := ws) (i := y * wds W + (wds W - 1)) (by omega)))
    subst ha
    simp only [ptr_some_eq, Int.toNat_natCast, Nat.mul_one]
    refine ldI_of hc ?_
    refine ldI_of (H.cell 0 rfl rfl) ?_
    refine last_ok fun L hL hLb => ?_
    refine ⟨_, rfl, hext.refl _, ?_⟩
    have hv := hw.get (y * wds W + (wds W - 1))
    have hnl := not_last hv hL hLb
    refine bindI_of _ (andNot64 _ _ hv hL) ?_
    refine bcase_ne (fun h4 => ?_) fun h4 => ?_
    · exact hk false _ ⟨(fun h => Bool.noConfusion h), fun hm => absurd (by exact_mod_cast hnl.2 (hm.2.2 y (by simpa using h3))) h4⟩ H.hext
    · refine bindI_of (((y + 1 : Nat) : Int)) (by exact i64_at _ _ (by omega) (by omega) (by omega)) ?_
      refine ⟨n - 1, by omega, y + 1, by omega, rfl, H, fun y' hy' => ?_⟩
      rcases Nat.lt_or_ge y' y with h5 | h5
      · exact hz y' h5
      · have : y' = y := by omega
        subst this
        exact hnl.1 (by exact_mod_cast h4)
  · have h3 : y = X := by omega
    subst h3
    exact hk true _ ⟨fun _ => ⟨hb.1 h1, by simpa using h2, fun y' hy' => by simpa using hz y' (by simpa using hy')⟩, fun _ => rfl⟩ H.hext

theorem shl_zero {v s : Nat} (hs : s ≤ 64) : v * 2 ^ s % M64 = 0 ↔ v % 2 ^ (64 - s) = 0 := by
  have e : M64 = 2 ^ (64 - s) * 2 ^ s := by rw [← Nat.pow_add, show 64 - s + s = 64 by omega]
  rw [e, Nat.mul_mod_mul_right]
  constructor
  · intro h
    rcases Nat.mul_eq_zero.1 h with h1 | h1
    · exact h1
    · have := Nat.two_pow_pos s; omega
  · intro h; rw [h, Nat.zero_mul]
set_option maxRecDepth 100000 in
theorem may_ok {hB : Heap} {w h' : Int} {q : Option Addr} {c : Nat} {ws : List Nat} (hr : rdO hB q (ws.length * 1) (u64s ws)) (hw : W64 ws) (hl : ws.length < 140737488351300) {K : Value → Heap → Prop} {Kp : List PanicEntry → Heap → Prop}
    (hk : ∀ (b : Bool) h, (b = true ↔ MayP w h' ws) → hext hB h → K (.bool b) h) : CP F_burinref0_May #[.agg #[.int .i64 w, .int .i64 h', .slice q ws.length c]] hB K Kp := by
  refine call_burinref0_May ?_
  unfold burinref0_May
  have H := Hp.nil hB []
  refine newC_hp H fun r h H => ?_
  try simp only [ptr_some_eq, add_mk, Nat.zero_add, Nat.add_zero]
  refine ldI_of (H.cell 0 rfl rfl) ?_
  refine ldI_of (H.cell 0 rfl rfl) ?_
  refine rsize_ok fun b hb => ?_
  refine ⟨_, rfl, ?_⟩
  refine bcase_not (fun h1 => ?_) fun h1 => ?_
  · refine ⟨hext.refl _, hk false _ ⟨(fun h => Bool.noConfusion h), fun hm => ?_⟩ H.hext⟩
    have := hb.2 hm.1
    rw [h1] at this; cases this
  obtain ⟨W, X, rfl, rfl, hW1, hW2, hX1, hX2, hWX⟩ := size_nat (hb.1 h1)
  have hwd := wds_pos hW1
  have hwl := wds_le hW1
  have hhw := hw_le hW1 hWX
  refine ldS_of (H.cell 0 rfl rfl) ?_
  refine ldI_of (H.cell 0 rfl rfl) ?_
  refine ldI_of (H.cell 0 rfl rfl) ?_
  refine words_ok (by omega) ?_
  refine ⟨_, rfl, hext.refl _, ?_⟩
  refine bindI_of (((X * wds W : Nat) : Int)) (by exact i64_at _ _ (by rw [Int.natCast_mul]) (by omega) (by omega)) ?_
  refine bcase_ne (fun h2 => ?_) fun h2 => ?_
  · exact hk false _ ⟨(fun h => Bool.noConfusion h), fun hm => absurd (by exact_mod_cast hm.2.1) h2⟩ H.hext
  have h2 : ws.length = X * wds W := by exact_mod_cast h2
  refine ldI_of (H.cell 0 rfl rfl) ?_
  have h64 := Nat.mod_lt W (show 64 > 0 by decide)
  refine bindI_of (((W % 64 : Nat) : Int)) (by exact tmod_nat W 64) ?_
  refine bcase_eq (fun h3 => ?_) fun h3 => ?_
  · have h3 : W % 64 = 0 := by omega
    refine hk true _ ⟨fun _ => ⟨hb.1 h1, by simpa using h2, fun y' hy' => ?_⟩, fun _ => rfl⟩ H.hext
    have : padn W = 0 := by unfold padn; rw [h3]
    simp [this, Nat.mod_one]
  have h3 : W % 64 ≠ 0 := by omega
  have hpad : padn W = 64 - W % 64 := by unfold padn; omega
  refine ⟨fun n vs h => ∃ y : Nat, y + n = X ∧ vs = [.int .i64 (y : Int)] ∧ Hp hB [] h [⟨r, true, T_api_Bitmap, [.int .i64 (W : Nat), .int .i64 (X : Nat), .slice q ws.length c]⟩] ∧ ∀ y', y' < y → ws.getD (y' * wds W + (wds W - 1)) 0 % 2 ^ padn W = 0, ⟨X, 0, by omega, rfl, H, fun y' h => by omega⟩, ?_⟩
  clear H
  rintro n h u x ⟨y, hyn, hx, H, hz⟩
  injection hx with hx
  injection hx with _ hx
  subst hx
  refine ldI_of (H.cell 0 rfl rfl) ?_
  refine bcase_dec (fun h4 => ?_) fun h4 => ?_
  · have h4 : y < X := by omega
    have hil := idx_lt (c := wds W - 1) (wd := wds W) (y := y) (h := X) (by omega) h4
    refine bindI_of (((y + 1 : Nat) : Int)) (by exact i64_at _ _ (by omega) (by omega) (by omega)) ?_
    refine ldS_of (H.cell 0 rfl rfl) ?_
    refine ldI_of (H.cell 0 rfl rfl) ?_
    refine ldI_of (H.cell 0 rfl rfl) ?_
    refine bindI_of (((W % 64 : Nat) : Int)) (by exact tmod_nat W 64) ?_
    refine bindI_of (((W % 64 : Nat) : Int)) (by exact u64_in _ (by omega) (by omega)) ?_
    refine words_ok (by omega) ?_
    refine ⟨_, rfl, hext.refl _, ?_⟩
    have hyw : (y + 1) * wds W = y * wds W + wds W := by rw [Nat.add_mul, Nat.one_mul]
    refine bindI_of (((y * wds W + wds W : Nat) : Int)) (by exact i64_at _ _ (by rw [← Int.natCast_mul, hyw]) (by omega) (by omega)) ?_
    refine bindI_of (((y * wds W + (wds W - 1) : Nat) : Int)) (by exact i64_at _ _ (by omega) (by omega) (by omega)) ?_
    refine needs_of (by omega) ?_
    obtain ⟨a, ha, hc⟩ := rdO_cell (H.rdO hr) (u64s_get (getD_get (l := ws) (i := y * wds W + (wds W - 1)) (by omega)))
    subst ha
    simp only [ptr_some_eq, Int.toNat_natCast, Nat.mul_one]
    refine ldI_of hc ?_
    refine needs_of (by omega) ?_
    have hv := hw.get (y * wds W + (wds W - 1))
    generalize hvv : ws.getD (y * wds W + (wds W - 1)) 0 = v at hv ⊢
    refine bindI_of (((v * 2 ^ (W % 64) % M64 : Nat) : Int)) (by exact shl_of (i := W % 64) (by show W % 64 ≤ 64; omega) (by simp [IntKind.wrap, IntKind.bits, IntKind.signed])) ?_
    have hnl := shl_zero (v := v) (s := W % 64) (by omega)
    rw [← hpad] at hnl
    refine bcase_ne (fun h5 => ?_) fun h5 => ?_
    · refine hk false _ ⟨(fun h => Bool.noConfusion h), fun hm => absurd (by exact_mod_cast hnl.2 (by rw [← hvv]; exact hm.2.2 y (by simpa using h4))) h5⟩ H.hext
    · refine bindI_of (((y + 1 : Nat) : Int)) (by exact i64_at _ _ (by omega) (by omega) (by omega)) ?_
      refine ⟨n - 1, by omega, y + 1, by omega, rfl, H, fun y' hy' => ?_⟩
      rcases Nat.lt_or_ge y' y with h6 | h6
      · exact hz y' h6
      · have : y' = y := by omega
        subst this
        rw [hvv]
        exact hnl.1 (by exact_mod_cast h5)
  · have h4 : y = X := by omega
    subst h4
    exact hk true _ ⟨fun _ => ⟨hb.1 h1, by simpa using h2, fun y' hy' => by simpa using hz y' (by simpa using hy')⟩, fun _ => rfl⟩ H.hext

/-! ### cuts -/
def InI (x : Int) : Prop := -9223372036854775808 ≤ x ∧ x < 9223372036854775808
theorem min_of {a b : Int} {K : Int → Prop} (h : ∀ m, (m = a ∧ a ≤ b ∨ m = b ∧ b ≤ a) → K m) : bindI (minI a b) K := by
  refine bindI_gen fun m e => h m ?_
  unfold minI at e
  split at e <;> omega
theorem max_of {a b : Int} {K : Int → Prop} (h : ∀ m, (m = a ∧ b ≤ a ∨ m = b ∧ a ≤ b) → K m) : bindI (maxI a b) K := by
  refine bindI_gen fun m e => h m ?_
  unfold maxI at e
  split at e <;> omega
/-- What is left of 'n' places from 'off' on, in a size. -/
theorem cut_ok {h : Heap} {off n size : Int} (ho : InI off) (hn : InI n) (hs : 1 ≤ size ∧ size ≤ 1048576) {K : Value → Heap → Prop} {Kp : List PanicEntry → Heap → Prop}
    (hk : ∀ skip left : Int, (left = 0 ∧ skip = 0 ∧ (n ≤ 0 ∨ size ≤ off ∨ off + n ≤ 0) ∨ 1 ≤ left ∧ 0 ≤ skip ∧ 0 ≤ off + skip ∧ off + skip + left ≤ size ∧ skip + left ≤ n ∧ (skip = 0 ∨ off + skip = 0) ∧ (off + skip + left = size ∨ skip + left = n)) → K (.tuple #[.int .i64 skip, .int .i64 left]) h) :
    CP F_bitmap_cut #[.int .i64 off, .int .i64 n, .int .i64 size] h K Kp := by
  refine call_bitmap_cut ?_
  unfold bitmap_cut
  unfold InI at ho hn
  refine ⟨fun vs h' => h' = h ∧ vs = [.bool (decide (n ≤ 0 ∨ size ≤ off ∨ off + n ≤ 0))], ?_, ?_⟩
  · refine bcase_dec (fun h1 => ⟨rfl, ?_⟩) fun h1 => ?_
    · simp [h1]
    refine bcase_dec (fun h2 => ⟨rfl, ?_⟩) fun h2 => ?_
    · have : size ≤ off := by omega
      simp [this]
    refine bindI_of ((-n)) (by exact i64_at _ _ (by omega) (by omega) (by omega)) ?_
    refine ⟨by first | rfl | trivial, ?_⟩
    congr 2
    rw [decide_eq_decide]
    omega
  · rintro h' u x ⟨rfl, hx⟩
    injection hx with hx
    injection hx with hx
    subst hx
    refine bcase_dec (fun h1 => ?_) fun h1 => ?_
    · exact hk 0 0 (.inl ⟨rfl, rfl, h1⟩)
    refine bcase_dec (fun h2 => ?_) fun h2 => ?_
    · refine bindI_of ((size - off)) (by exact i64_in _ (by omega) (by omega)) ?_
      refine min_of fun m hm => ?_
      exact hk 0 m (.inr (by omega))
    · refine bindI_of ((-off)) (by exact i64_at _ _ (by omega) (by omega) (by omega)) ?_
      refine bindI_of ((n + off)) (by exact i64_in _ (by omega) (by omega)) ?_
      refine min_of fun m hm => ?_
      exact hk (-off) m (.inr (by omega))
theorem both_ok {h : Heap} {a asz b bs n : Int} (ha : InI a) (hb : InI b) (hn : InI n) (h1 : 1 ≤ asz ∧ asz ≤ 1048576) (h2 : 1 ≤ bs ∧ bs ≤ 1048576) {K : Value → Heap → Prop} {Kp : List PanicEntry → Heap → Prop}
    (hk : ∀ f t l : Int, ((l = 0 ∧ ∀ k, 0 ≤ k → k < n → 0 ≤ a + k → a + k < asz → 0 ≤ b + k → b + k < bs → False) ∨
        1 ≤ l ∧ t - b = f - a ∧ 0 ≤ f ∧ f + l ≤ asz ∧ 0 ≤ t ∧ t + l ≤ bs ∧ a ≤ f ∧ f + l ≤ a + n ∧ ∀ k, 0 ≤ k → k < n → 0 ≤ a + k → a + k < asz → 0 ≤ b + k → b + k < bs → t ≤ b + k ∧ b + k < t + l) → K (.tuple #[.int .i64 f, .int .i64 t, .int .i64 l]) h) :
    CP F_bitmap_both #[.int .i64 a, .int .i64 asz, .int .i64 b, .int .i64 bs, .int .i64 n] h K Kp := by
  refine call_bitmap_both ?_
  unfold bitmap_both
  refine cut_ok ha hn h1 fun s1 l1 c1 => ?_
  refine ⟨_, _, rfl, ?_⟩
  unfold InI at ha hb hn
  refine bcase_eq (fun h3 => ?_) fun h3 => ?_
  · exact hk 0 0 0 (.inl ⟨rfl, fun k _ _ _ _ _ _ => by omega⟩)
  have c1 := c1.resolve_left (by omega)
  refine bindI_of ((9223372036854775807 - s1)) (by exact i64_in _ (by omega) (by omega)) ?_
  refine bcase_dec (fun h4 => ?_) fun h4 => ?_
  · exact hk 0 0 0 (.inl ⟨rfl, fun k _ _ _ _ _ _ => by omega⟩)
  refine bindI_of ((a + s1)) (by exact i64_in _ (by omega) (by omega)) ?_
  refine bindI_of ((b + s1)) (by exact i64_in _ (by omega) (by omega)) ?_
  refine cut_ok ⟨by omega, by omega⟩ ⟨by omega, by omega⟩ h2 fun s2 l2 c2 => ?_
  refine ⟨_, _, rfl, ?_⟩
  rcases c2 with ⟨e1, e2, e3⟩ | c2
  · subst e1 e2
    refine bindI_of ((a + s1)) (by exact i64_at _ _ (by omega) (by omega) (by omega)) ?_
    refine bindI_of ((b + s1)) (by exact i64_at _ _ (by omega) (by omega) (by omega)) ?_
    exact hk _ _ 0 (.inl ⟨rfl, fun k _ _ _ _ _ _ => by omega⟩)
  · refine bindI_of ((a + s1 + s2)) (by exact i64_in _ (by omega) (by omega)) ?_
    refine bindI_of ((b + s1 + s2)) (by exact i64_in _ (by omega) (by omega)) ?_
    refine hk _ _ l2 (.inr ⟨by omega, by omega, by omega, by omega, by omega, by omega, by omega, by omega, fun k _ _ _ _ _ _ => by omega⟩)

/-! ### masks, words -/
theorem mask_ok {h : Heap} {i x n : Nat} (hi : 64 * i < x + n) (hb : x + n ≤ 4194304) {K : Value → Heap → Prop} {Kp : List PanicEntry → Heap → Prop}
    (hk : ∀ M : Nat, M < M64 → (∀ j, j < 64 → M.testBit j = decide (x ≤ 64 * i + (63 - j) ∧ 64 * i + (63 - j) < x + n)) → K (.int .u64 (M : Nat)) h) :
    CP F_bitmap_mask #[.int .i64 (i : Nat), .int .i64 (x : Nat), .int .i64 (n : Nat)] h K Kp := by
  refine call_bitmap_mask ?_
  unfold bitmap_mask
  refine bindI_of (((64 * i : Nat) : Int)) (by exact i64_at _ _ (by omega) (by omega) (by omega)) ?_
  refine bindI_of ((((x : Nat) : Int) - ((64 * i : Nat) : Int))) (by exact i64_in _ (by omega) (by omega)) ?_
  refine max_of fun m1 hm1 => ?_
  obtain ⟨p, rfl⟩ : ∃ p : Nat, m1 = (p : Nat) := ⟨m1.toNat, by omega⟩
  refine bindI_of (((x + n : Nat) : Int)) (by exact i64_at _ _ (by omega) (by omega) (by omega)) ?_
  refine bindI_of (((64 * i : Nat) : Int)) (by exact i64_at _ _ (by omega) (by omega) (by omega)) ?_
  refine bindI_of (((x + n - 64 * i : Nat) : Int)) (by exact i64_at _ _ (by omega) (by omega) (by omega)) ?_
  refine min_of fun m2 hm2 => ?_
  obtain ⟨q, rfl⟩ : ∃ q : Nat, m2 = (q : Nat) := ⟨m2.toNat, by omega⟩
  have hq64 : q ≤ 64 := by omega
  have hsh : ∀ p : Nat, shrI .u64 (18446744073709551615 : Int) (p : Int) = ((18446744073709551615 / 2 ^ min p 64 : Nat) : Int) := by
    intro p
    rcases Nat.lt_or_ge 64 p with h1 | h1
    · have e : min p 64 = 64 := by omega
      rw [e]
      have e2 : shrI .u64 (18446744073709551615 : Int) (p : Int) = shrI .u64 (18446744073709551615 : Int) ((64 : Nat) : Int) := by
        unfold shrI
        rw [Int.toNat_natCast, Int.toNat_natCast]
        have : Nat.min p IntKind.u64.bits = Nat.min 64 IntKind.u64.bits := by
          show min p 64 = min 64 64
          omega
        first | rw [this] | (simp only [Nat.min_def] at this ⊢; rw [this])
      rw [e2]
      exact shr_of (k := .u64) (x := 18446744073709551615) (i := 64) (by decide)
    · have e : min p 64 = p := by omega
      rw [e]
      exact shr_of (k := .u64) (x := 18446744073709551615) (i := p) h1
  have hlt : ∀ p : Nat, 18446744073709551615 / 2 ^ p < M64 := fun p => Nat.lt_of_le_of_lt (Nat.div_le_self _ _) (by decide)
  refine needs_of (by omega) ?_
  refine bindI_of _ (hsh p) ?_
  refine needs_of (by omega) ?_
  refine bindI_of _ (hsh q) ?_
  refine bindI_of _ (andNot64 _ _ (hlt _) (hlt _)) ?_
  refine hk _ (and_lt (hlt _)) fun j hj => ?_
  rw [Nat.testBit_and, wnot_bit (hlt _) hj, ones_shr (by omega), ones_shr (by omega)]
  rw [← decide_not, ← Bool.decide_and, decide_eq_decide]
  omega

theorem shr_bit {v s j : Nat} : (v / 2 ^ s).testBit j = v.testBit (j + s) := Nat.testBit_div_two_pow v j
theorem shl_bit {v s j : Nat} (hj : j < 64) : (v * 2 ^ s % M64).testBit j = (decide (s ≤ j) && v.testBit (j - s)) := by
  rw [M64_pow, Nat.testBit_mod_two_pow, decide_eq_true hj, Bool.true_and, Nat.testBit_mul_two_pow]
theorem u64_wrap (x : Nat) : IntKind.u64.wrap (x : Int) = ((x % M64 : Nat) : Int) := by simp [IntKind.wrap, IntKind.bits, IntKind.signed]

theorem word_pos {h : Heap} {q : Option Addr} {c : Nat} {ws : List Nat} (hr : rdO h q (ws.length * 1) (u64s ws)) (hw : W64 ws) (hl : ws.length < 1048577) {x : Nat} (hx : x < 1000000000) {K : Value → Heap → Prop} {Kp : List PanicEntry → Heap → Prop}
    (hk : ∀ V : Nat, V < M64 → (∀ j, j < 64 → V.testBit j = rowB ws ((x : Int) + (63 - (j : Int)))) → K (.int .u64 (V : Nat)) h) :
    CP F_bitmap_word #[.slice q ws.length c, .int .i64 (x : Nat)] h K Kp := by
  refine call_bitmap_word ?_
  unfold bitmap_word
  simp only [decide_eq_false (show ¬ ((x : Nat) : Int) < 0 by omega)]
  refine bcase_false rfl ?_
  refine bindI_of (((x / 64 : Nat) : Int)) (by exact i64_at _ _ (tdiv_nat x 64) (by omega) (by omega)) ?_
  have hrow : ∀ j : Nat, j < 64 → rowB ws ((x : Int) + (63 - (j : Int))) = (ws.getD ((x + (63 - j)) / 64) 0).testBit (63 - (x + (63 - j)) % 64) := fun j hj => by
    unfold rowB
    have : ((x : Int) + (63 - (j : Int))).toNat = x + (63 - j) := by omega
    rw [this, decide_eq_true (by omega), Bool.true_and]
  have hout : ∀ i, ws.length ≤ i → ws.getD i 0 = 0 := fun i hi => by rw [List.getD_eq_getElem?_getD, List.getElem?_eq_none hi]; rfl
  refine bcase_dec (fun h1 => ?_) fun h1 => ?_
  · refine hk 0 (by decide) fun j hj => ?_
    rw [hrow j hj, hout _ (by omega), Nat.zero_testBit, Nat.zero_testBit]
  have h1 : x / 64 < ws.length := by omega
  refine needs_of (by omega) ?_
  obtain ⟨a, ha, hc⟩ := rdO_cell hr (u64s_get (getD_get (l := ws) (i := x / 64) h1))
  subst ha
  simp only [ptr_some_eq, Int.toNat_natCast, Nat.mul_one]
  refine ldI_of hc ?_
  have hx64 := Nat.mod_lt x (show 64 > 0 by decide)
  refine bindI_of (((x % 64 : Nat) : Int)) (by exact tmod_nat x 64) ?_
  refine needs_of (by omega) ?_
  have hv := hw.get (x / 64)
  refine bindI_of (((ws.getD (x / 64) 0 * 2 ^ (x % 64) % M64 : Nat) : Int)) (by exact shl_of (i := x % 64) (by show x % 64 ≤ 64; omega) (u64_wrap _)) ?_
  have hv2 : ws.getD (x / 64) 0 * 2 ^ (x % 64) % M64 < M64 := Nat.mod_lt _ (by decide)
  refine ⟨fun vs h' => h' = h ∧ vs = [.bool (decide (0 < x % 64 ∧ x / 64 + 1 < ws.length))], ?_, ?_⟩
  · refine bindI_of (((x % 64 : Nat) : Int)) (by exact tmod_nat x 64) ?_
    refine bcase_dec (fun h2 => ?_) fun h2 => ?_
    · refine bindI_of (((x / 64 + 1 : Nat) : Int)) (by exact i64_at _ _ (by omega) (by omega) (by omega)) ?_
      refine ⟨by first | rfl | trivial, ?_⟩
      congr 2
      rw [decide_eq_decide]
      omega
    · refine ⟨by first | rfl | trivial, ?_⟩
      congr 2
      rw [eq_comm, decide_eq_false_iff_not]
      omega
  · rintro h' u y ⟨rfl, hy⟩
    injection hy with hy
    injection hy with hy
    subst hy
    refine bcase_dec (fun h2 => ?_) fun h2 => ?_
    · refine bindI_of (((x / 64 + 1 : Nat) : Int)) (by exact i64_at _ _ (by omega) (by omega) (by omega)) ?_
      refine needs_of (by omega) ?_
      obtain ⟨a', ha', hc'⟩ := rdO_cell hr (u64s_get (getD_get (l := ws) (i := x / 64 + 1) h2.2))
      injection ha' with ha'
      subst ha'
      refine ldI_of hc' ?_
      refine bindI_of (((x % 64 : Nat) : Int)) (by exact tmod_nat x 64) ?_
      refine bindI_of (((64 - x % 64 : Nat) : Int)) (by exact i64_at _ _ (by omega) (by omega) (by omega)) ?_
      refine needs_of (by omega) ?_
      have hv3 : ws.getD (x / 64 + 1) 0 / 2 ^ (64 - x % 64) < M64 := Nat.lt_of_le_of_lt (Nat.div_le_self _ _) (hw.get _)
      refine bindI_of (((ws.getD (x / 64 + 1) 0 / 2 ^ (64 - x % 64) : Nat) : Int)) (by exact shr_of (by show 64 - x % 64 ≤ 64; omega)) ?_
      refine bindI_of _ (or64 _ _ hv2 hv3) ?_
      refine hk _ (or_lt hv2 hv3) fun j hj => ?_
      rw [hrow j hj, Nat.testBit_or, shl_bit hj, shr_bit]
      by_cases h3 : x % 64 ≤ j
      · rw [decide_eq_true h3, Bool.true_and, bits_lt (hw.get _) (show 64 ≤ j + (64 - x % 64) by omega), Bool.or_false]
        congr 1
        · rw [show (x + (63 - j)) / 64 = x / 64 by omega]
        · omega
      · rw [decide_eq_false h3, Bool.false_and, Bool.false_or]
        congr 1
        · rw [show (x + (63 - j)) / 64 = x / 64 + 1 by omega]
        · omega
    · refine hk _ hv2 fun j hj => ?_
      rw [hrow j hj, shl_bit hj]
      by_cases h3 : x % 64 ≤ j
      · rw [decide_eq_true h3, Bool.true_and]
        congr 1
        · rw [show (x + (63 - j)) / 64 = x / 64 by omega]
        · omega
      · rw [decide_eq_false h3, Bool.false_and, hout ((x + (63 - j)) / 64) (by omega), Nat.zero_testBit]
theorem word_ok {h : Heap} {q : Option Addr} {c : Nat} {ws : List Nat} (hr : rdO h q (ws.length * 1) (u64s ws)) (hw : W64 ws) (hl : ws.length < 1048577) {x : Int} (hx : -1000000000 ≤ x ∧ x < 1000000000) {K : Value → Heap → Prop} {Kp : List PanicEntry → Heap → Prop}
    (hk : ∀ V : Nat, V < M64 → (∀ j, j < 64 → V.testBit j = rowB ws (x + (63 - (j : Int)))) → K (.int .u64 (V : Nat)) h) :
    CP F_bitmap_word #[.slice q ws.length c, .int .i64 x] h K Kp := by
  rcases Int.lt_or_le x 0 with h1 | h1
  · refine call_bitmap_word ?_
    unfold bitmap_word
    simp only [decide_eq_true h1]
    refine bcase_true rfl ?_
    refine word_pos (x := 0) hr hw hl (by omega) fun V hV hb => ?_
    refine ⟨_, rfl, ?_⟩
    obtain ⟨p, hp⟩ : ∃ p : Nat, x = -(p : Int) := ⟨(-x).toNat, by omega⟩
    subst hp
    refine bindI_of (((p : Nat) : Int)) (by exact i64_at _ _ (by omega) (by omega) (by omega)) ?_
    refine needs_of (by omega) ?_
    have hs : shrI .u64 (V : Int) (p : Int) = ((V / 2 ^ min p 64 : Nat) : Int) := by
      rcases Nat.lt_or_ge 64 p with h1 | h1
      · have e : min p 64 = 64 := by omega
        rw [e]
        have e2 : shrI .u64 (V : Int) (p : Int) = shrI .u64 (V : Int) ((64 : Nat) : Int) := by
          unfold shrI
          rw [Int.toNat_natCast, Int.toNat_natCast]
          have : Nat.min p IntKind.u64.bits = Nat.min 64 IntKind.u64.bits := by
            show min p 64 = min 64 64
            omega
          first | rw [this] | (simp only [Nat.min_def] at this ⊢; rw [this])
        rw [e2]
        exact shr_of (k := .u64) (i := 64) (by decide)
      · have e : min p 64 = p := by omega
        rw [e]
        exact shr_of (k := .u64) (i := p) h1
    refine bindI_of _ hs ?_
    refine hk _ (Nat.lt_of_le_of_lt (Nat.div_le_self _ _) hV) fun j hj => ?_
    rw [shr_bit]
    by_cases h2 : j + min p 64 < 64
    · rw [hb _ h2]
      congr 1
      omega
    · rw [bits_lt hV (by omega)]
      unfold rowB
      rw [decide_eq_false (by omega), Bool.false_and]
  · obtain ⟨X, rfl⟩ : ∃ X : Nat, x = (X : Nat) := ⟨x.toNat, by omega⟩
    exact word_pos hr hw hl (by omega) hk

end Go.Bm
