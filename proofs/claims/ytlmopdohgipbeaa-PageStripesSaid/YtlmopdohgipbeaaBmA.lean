/- BmA: rows of words as pixels; what one word more does. Plain numbers: no Go, no memory. -/
import Derived.Test.YtlmopdohgipbeaaDen
set_option linter.unusedVariables false
set_option linter.unusedSimpArgs false
namespace Go.Bm
open Go Go.Den

def u64s (l : List Nat) : List Value := l.map fun x : Nat => .int .u64 (x : Int)
theorem u64s_length (l : List Nat) : (u64s l).length = l.length := by simp [u64s]
theorem u64s_get {l : List Nat} {i x : Nat} (h : l[i]? = some x) : (u64s l)[i]? = some (.int .u64 (x : Int)) := by
  unfold u64s; rw [List.getElem?_map, h]; rfl
theorem u64s_app (a b : List Nat) : u64s (a ++ b) = u64s a ++ u64s b := by simp [u64s]
theorem u64s_set (l : List Nat) (i x : Nat) : u64s (l.set i x) = (u64s l).set i (.int .u64 (x : Int)) := by simp [u64s, List.map_set]
theorem u64s_cells (l : List Nat) : ∀ v ∈ u64s l, v.oneCell' = true := fun v hv => by
  obtain ⟨x, _, rfl⟩ := List.mem_map.1 hv; rfl
theorem u64s_zero (n : Nat) : repZ [.int .u64 0] n = u64s (List.replicate n 0) := by rw [repZ_one]; simp [u64s]
theorem getD_get {l : List Nat} {i : Nat} (h : i < l.length) : l[i]? = some (l.getD i 0) := by
  rw [List.getD_eq_getElem?_getD, List.getElem?_eq_getElem h]; rfl

abbrev M64 : Nat := 18446744073709551616
def W64 (l : List Nat) : Prop := ∀ v ∈ l, v < M64
theorem W64.get {l : List Nat} (h : W64 l) (i : Nat) : l.getD i 0 < M64 := by
  rw [List.getD_eq_getElem?_getD]
  cases hk : l[i]? with
  | none => decide
  | some x => exact h x (List.mem_of_getElem? hk)
theorem W64.set {l : List Nat} (h : W64 l) {i v : Nat} (hv : v < M64) : W64 (l.set i v) := fun x hx => by
  rcases List.mem_or_eq_of_mem_set hx with h1 | h1
  · exact h x h1
  · rw [h1]; exact hv
theorem W64.zero (n : Nat) : W64 (List.replicate n 0) := fun v hv => by rw [(List.mem_replicate.1 hv).2]; decide
theorem M64_pow : M64 = 2 ^ 64 := rfl
theorem bits_lt {v : Nat} (h : v < M64) {j : Nat} (hj : 64 ≤ j) : v.testBit j = false :=
  Nat.testBit_lt_two_pow (Nat.lt_of_lt_of_le h (by rw [M64_pow]; exact Nat.pow_le_pow_right (by decide) hj))
theorem word_ext {a b : Nat} (ha : a < M64) (hb : b < M64) (h : ∀ j, j < 64 → a.testBit j = b.testBit j) : a = b := by
  apply Nat.eq_of_testBit_eq
  intro j
  rcases Nat.lt_or_ge j 64 with h1 | h1
  · exact h j h1
  · rw [bits_lt ha h1, bits_lt hb h1]

/-- The words of a row of 'w' pixels. -/
def wds (w : Nat) : Nat := (w + 63) / 64
/-- A pixel. -/
def pix (ws : List Nat) (wd x y : Nat) : Bool := (ws.getD (y * wd + x / 64) 0).testBit (63 - x % 64)

theorem idx_inj {wd c c' y y' : Nat} (hc : c < wd) (hc' : c' < wd) (h : y * wd + c = y' * wd + c') : y = y' ∧ c = c' := by
  have h1 : (y * wd + c) / wd = y := by rw [Nat.mul_comm, Nat.mul_add_div (by omega), Nat.div_eq_of_lt hc, Nat.add_zero]
  have h2 : (y' * wd + c') / wd = y' := by rw [Nat.mul_comm, Nat.mul_add_div (by omega), Nat.div_eq_of_lt hc', Nat.add_zero]
  rw [h, h2] at h1
  subst h1
  exact ⟨rfl, by omega⟩
theorem idx_lt {wd c y h : Nat} (hc : c < wd) (hy : y < h) : y * wd + c < h * wd := by
  have : (y + 1) * wd ≤ h * wd := Nat.mul_le_mul_right _ hy
  rw [Nat.add_mul, Nat.one_mul] at this
  omega
/-- Two lists of words with the same pixels. -/
theorem pix_ext {a b : List Nat} {wd h : Nat} (ha : a.length = h * wd) (hb : b.length = h * wd) (wa : W64 a) (wb : W64 b) (hp : ∀ y, y < h → ∀ x, x < 64 * wd → pix a wd x y = pix b wd x y) : a = b := by
  apply List.ext_getElem?
  intro i
  rcases Nat.lt_or_ge i (h * wd) with hi | hi
  · have hw : 0 < wd := by
      rcases Nat.eq_zero_or_pos wd with h0 | h0
      · subst h0; simp at hi
      · exact h0
    rw [getD_get (by omega), getD_get (by omega)]
    congr 1
    refine word_ext (wa.get i) (wb.get i) fun j hj => ?_
    have hy : i / wd < h := (Nat.div_lt_iff_lt_mul hw).2 hi
    have hc : i % wd < wd := Nat.mod_lt _ hw
    have := hp (i / wd) hy (64 * (i % wd) + (63 - j)) (by omega)
    unfold pix at this
    rw [show (64 * (i % wd) + (63 - j)) / 64 = i % wd by omega, show 63 - (64 * (i % wd) + (63 - j)) % 64 = j by omega, show i / wd * wd + i % wd = i by rw [Nat.mul_comm]; exact Nat.div_add_mod i wd] at this
    exact this
  · rw [List.getElem?_eq_none (by omega), List.getElem?_eq_none (by omega)]
/-- One word is written. -/
theorem pix_set {ws : List Nat} {wd c y v h : Nat} (hl : ws.length = h * wd) (hc : c < wd) (hy : y < h) {x' y' : Nat} (hx' : x' < 64 * wd) :
    pix (ws.set (y * wd + c) v) wd x' y' = if y' = y ∧ x' / 64 = c then v.testBit (63 - x' % 64) else pix ws wd x' y' := by
  have hi := idx_lt hc hy
  unfold pix
  split
  · rename_i h1
    rw [h1.1, h1.2, List.getD_eq_getElem?_getD, List.getElem?_set_self (by omega)]
    rfl
  · rename_i h1
    rw [List.getD_eq_getElem?_getD, List.getElem?_set_ne, ← List.getD_eq_getElem?_getD]
    intro e
    obtain ⟨e1, e2⟩ := idx_inj hc (show x' / 64 < wd by omega) e
    exact h1 ⟨e1.symm, e2.symm⟩

/-! ### words' arithmetic -/
/-- All bits turned. -/
def wnot (b : Nat) : Nat := 2 ^ 64 - (b + 1)
theorem wnot_lt (b : Nat) : wnot b < M64 := by unfold wnot; rw [M64_pow]; have : (0 : Nat) < 2 ^ 64 := by decide
                                               omega
theorem wnot_bit {b : Nat} (h : b < M64) {j : Nat} (hj : j < 64) : (wnot b).testBit j = !b.testBit j := by
  unfold wnot
  rw [Nat.testBit_two_pow_sub_succ h, decide_eq_true hj, Bool.true_and]
theorem andNot64 (a b : Nat) (ha : a < M64) (hb : b < M64) : bitI .andNot .u64 a b = ((a &&& wnot b : Nat) : Int) := by
  have ha' : a % 2 ^ 64 = a := Nat.mod_eq_of_lt ha
  have hb' : b % 2 ^ 64 = b := Nat.mod_eq_of_lt hb
  have h1 : (BitVec.ofInt 64 (a : Int) &&& ~~~ BitVec.ofInt 64 (b : Int)).toNat = a &&& wnot b := by
    rw [BitVec.toNat_and, BitVec.toNat_not, BitVec.ofInt_natCast, BitVec.ofInt_natCast, BitVec.toNat_ofNat, BitVec.toNat_ofNat, ha', hb']
    unfold wnot
    congr 1
    omega
  have e : bitI .andNot .u64 (a : Int) (b : Int) = IntKind.u64.wrap (((BitVec.ofInt 64 (a : Int) &&& ~~~ BitVec.ofInt 64 (b : Int)).toNat : Nat) : Int) := rfl
  rw [e, h1]
  exact u64_in _ (by omega) (by
    have : a &&& wnot b ≤ a := Nat.and_le_left
    omega)
theorem xor64 (a b : Nat) (ha : a < M64) (hb : b < M64) : bitI .xor .u64 a b = ((a ^^^ b : Nat) : Int) := bits_nat3 .u64 64 (by decide) wr64 a b ha hb
theorem and_lt {a b : Nat} (ha : a < M64) : a &&& b < M64 := Nat.lt_of_le_of_lt Nat.and_le_left ha
theorem or_lt {a b : Nat} (ha : a < M64) (hb : b < M64) : a ||| b < M64 := Nat.or_lt_two_pow (n := 64) ha hb
theorem xor_lt {a b : Nat} (ha : a < M64) (hb : b < M64) : a ^^^ b < M64 := Nat.xor_lt_two_pow (n := 64) ha hb
theorem ones_shr {p j : Nat} (hp : p ≤ 64) : (18446744073709551615 / 2 ^ p).testBit j = decide (j + p < 64) := by
  rw [Nat.testBit_div_two_pow, show 18446744073709551615 = 2 ^ 64 - 1 from rfl, Nat.testBit_two_pow_sub_one]

/-- An operation on pixels. -/
def opB (op : Nat) (d s : Bool) : Bool := match op with
  | 0 => d || s
  | 1 => d && s
  | 2 => d != s
  | 3 => !(d != s)
  | _ => s

/-- A row of words, asked for any place. -/
def rowB (ws : List Nat) (X : Int) : Bool := decide (0 ≤ X) && (ws.getD (X.toNat / 64) 0).testBit (63 - X.toNat % 64)

end Go.Bm
