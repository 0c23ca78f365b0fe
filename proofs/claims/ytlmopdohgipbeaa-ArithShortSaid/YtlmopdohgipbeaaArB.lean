/- ArB: how a coder and a decoder lie in memory; what their functions do with them: New, Put, Flush and what these call. -/
import Derived.Test.YtlmopdohgipbeaaDen
import Derived.Test.YtlmopdohgipbeaaArA
import Derived.Test.YtlmopdohgipbeaaBarith
set_option linter.unusedVariables false
set_option linter.unusedSimpArgs false
namespace Go.Ar
open Go Go.Den Go.Den.Ytlmopdohgipbeaa

/-! ### lists of cells -/
def u8s (l : List Nat) : List Value := l.map fun x : Nat => .int .u8 (x : Int)
theorem u8s_length (l : List Nat) : (u8s l).length = l.length := by simp [u8s]
theorem u8s_get {l : List Nat} {i x : Nat} (h : l[i]? = some x) : (u8s l)[i]? = some (.int .u8 (x : Int)) := by
  unfold u8s; rw [List.getElem?_map, h]; rfl
theorem u8s_app (a b : List Nat) : u8s (a ++ b) = u8s a ++ u8s b := by simp [u8s]
theorem u8s_set (l : List Nat) (i x : Nat) : u8s (l.set i x) = (u8s l).set i (.int .u8 (x : Int)) := by simp [u8s, List.map_set]
theorem u8s_cells (l : List Nat) : ∀ v ∈ u8s l, v.oneCell' = true := fun v hv => by
  obtain ⟨x, _, rfl⟩ := List.mem_map.1 hv; rfl
theorem get_app {R T : List Value} {i : Nat} {v : Value} (h : R[i]? = some v) : (R ++ T)[i]? = some v := by
  rw [List.getElem?_append_left (List.getElem?_eq_some_iff.1 h).1]; exact h
theorem set_app {R T : List Value} {i : Nat} {v : Value} (h : i < R.length) : (R ++ T).set i v = R.set i v ++ T := List.set_append_left _ _ h

def rowC (r : Nat) : List Value := [.int .u32 (qOf r : Nat), .int .u8 (mOf r : Nat), .int .u8 (lOf r : Nat), .int .u8 (cOf r : Nat)]
def rowsN : Nat → List Value
  | 0 => []
  | n + 1 => rowsN n ++ rowC n
theorem rowsN_length : ∀ n, (rowsN n).length = 4 * n
  | 0 => rfl
  | n + 1 => by rw [rowsN, List.length_append, rowsN_length n]; show 4 * n + 4 = _; omega
theorem rowsN_get : ∀ {n r j : Nat} {v : Value}, r < n → (rowC r)[j]? = some v → (rowsN n)[4 * r + j]? = some v
  | 0, r, j, v, h, _ => by omega
  | n + 1, r, j, v, h, hv => by
    rw [rowsN]
    have hj : j < 4 := (List.getElem?_eq_some_iff.1 hv).1
    rcases Nat.lt_or_ge r n with h1 | h1
    · exact get_app (rowsN_get h1 hv)
    · have : r = n := by omega
      subst this
      exact app_get (rowsN_length r) j hv
def rowsV : List Value := rowsN 47
theorem hR : rowsV.length = 188 := rowsN_length 47

/-! ### a coder in memory -/
def crest (q : Nat) (nst n a c : Nat) (t : Int) (r : Nat) (bl bc : Nat) (done : Bool) : List Value :=
  [.slice (some ⟨q, 0, none⟩) nst nst, .int .i64 (n : Nat), .int .u32 (a : Nat), .int .u32 (c : Nat), .int .i64 t, .slice (some ⟨r, 0, none⟩) bl bc, .bool done]
def codE (p q r : Nat) (s : Cod) (rest : List Value) : Ent :=
  ⟨p, true, T_arith_Coder, rowsV ++ crest q s.st.length s.n s.a s.c (s.t : Nat) r (s.bs.length + 1) (s.bs.length + 1 + rest.length) s.done⟩
def codL (p q r : Nat) (s : Cod) (rest : List Value) : List Ent :=
  [codE p q r s rest, ⟨q, true, T_uint8, u8s s.st⟩, ⟨r, true, T_uint8, u8s (s.bs ++ [s.l]) ++ rest⟩]

abbrev CP : CallP := CallsHP Go.Proofs.Try.prog
abbrev at0 (p : Nat) : Option Addr := some ⟨p, 0, none⟩

theorem last_get (bs : List Nat) (l : Nat) (rest : List Value) : (u8s (bs ++ [l]) ++ rest)[bs.length]? = some (.int .u8 (l : Int)) := get_app (u8s_get (by simp))
theorem last_set (bs : List Nat) (l l' : Nat) (rest : List Value) : (u8s (bs ++ [l]) ++ rest).set bs.length (.int .u8 (l' : Int)) = u8s (bs ++ [l']) ++ rest := by
  rw [set_app (by rw [u8s_length]; simp), ← u8s_set]
  simp

theorem out_ok {h : Heap} {p q r : Nat} {s : Cod} {rest : List Value} {F : List Nat} {h0 : Heap} (H : Hp h0 F h (codL p q r s rest)) (hl : s.l < 256) (hc : s.c < 4294967296) (hb : s.bs.length < 1000000000)
    {K : Value → Heap → Prop} {Kp : List PanicEntry → Heap → Prop} (hk : ∀ r' rest' h', Hp h0 F h' (codL p q r' (outM s) rest') → K (.tuple #[]) h') :
    CP F_arith_Coder_out #[.pointer (at0 p)] h K Kp := by
  refine call_arith_Coder_out ?_
  unfold arith_Coder_out
  try simp only [ptr_some_eq, add_mk, Nat.zero_add, Nat.add_zero]
  refine ldS_of (H.cell 0 rfl (app_get hR 5 rfl)) ?_
  refine ldS_of (H.cell 0 rfl (app_get hR 5 rfl)) ?_
  refine bindI_of (((s.bs.length : Nat) : Int)) (by exact i64_at _ _ (by omega) (by omega) (by omega)) ?_
  refine needs_of (by constructor <;> omega) ?_
  try simp only [ptr_some_eq, add_mk, Nat.zero_add, Nat.add_zero]
  simp only [Int.toNat_natCast, Nat.mul_one]
  refine ⟨fun vs h' => vs = [] ∧ Hp h0 F h' (codL p q r (if s.l ≠ 255 ∧ 134217728 ≤ s.c then { s with l := s.l + 1, c := s.c % 134217728 } else s) rest), ?_, ?_⟩
  · refine ⟨fun vs h' => vs = [.bool (decide (s.l ≠ 255 ∧ 134217728 ≤ s.c))] ∧ h' = h, ?_, ?_⟩
    · refine ldI_of (H.cell 2 rfl (last_get _ _ _)) ?_
      refine bcase_of (fun h1 => ?_) fun h1 => ?_
      · refine ldI_of (H.cell 0 rfl (app_get hR 3 rfl)) ?_
        refine ⟨?_, rfl⟩
        have h1 : s.l ≠ 255 := by simp at h1; omega
        congr 2
        simp [h1]
        omega
      · refine ⟨?_, rfl⟩
        have h1 : s.l = 255 := by simp at h1; omega
        simp [h1]
    · rintro h' u x ⟨hx, rfl⟩
      injection hx with hx
      injection hx with hx
      subst hx
      refine bcase_of (fun h1 => ?_) fun h1 => ?_
      · have h1 : s.l ≠ 255 ∧ 134217728 ≤ s.c := of_decide_eq_true h1
        refine ldI_of (H.cell 2 rfl (last_get _ _ _)) ?_
        refine bindI_of (((s.l + 1 : Nat) : Int)) (by rw [← u8_in (s.l + 1) (by omega)]; rfl) ?_
        refine stV_hp H 2 rfl (by simp [u8s_length]; omega) rfl fun h hsz H => ?_
        rw [last_set] at H
        refine ldI_of (H.cell 0 rfl (app_get hR 3 rfl)) ?_
        refine bindI_of (((s.c % 134217728 : Nat) : Int)) (by exact (and32 _ 134217727 (by omega) (by omega)).trans (by congr 1; exact Nat.and_two_pow_sub_one_eq_mod s.c 27)) ?_
        refine stV_hr H 0 rfl hR 3 (Nat.le_of_ble_eq_true rfl) rfl fun h hsz H => ?_
        refine ⟨rfl, ?_⟩
        rw [if_pos h1]
        exact H
      · have h1 : ¬ (s.l ≠ 255 ∧ 134217728 ≤ s.c) := of_decide_eq_false h1
        refine ⟨rfl, ?_⟩
        rw [if_neg h1]
        exact H
  · rintro h' u ⟨_, H'⟩
    have e : outM s = outTail (if s.l ≠ 255 ∧ 134217728 ≤ s.c then { s with l := s.l + 1, c := s.c % 134217728 } else s) (if s.l ≠ 255 ∧ 134217728 ≤ s.c then { s with l := s.l + 1, c := s.c % 134217728 } else s).l (if s.l ≠ 255 ∧ 134217728 ≤ s.c then { s with l := s.l + 1, c := s.c % 134217728 } else s).c := by
      unfold outM; split <;> rfl
    have hs' : (if s.l ≠ 255 ∧ 134217728 ≤ s.c then { s with l := s.l + 1, c := s.c % 134217728 } else s).l < 256 ∧ (if s.l ≠ 255 ∧ 134217728 ≤ s.c then { s with l := s.l + 1, c := s.c % 134217728 } else s).c < 4294967296 ∧ (if s.l ≠ 255 ∧ 134217728 ≤ s.c then { s with l := s.l + 1, c := s.c % 134217728 } else s).bs = s.bs := by
      split
      · exact ⟨by show s.l + 1 < 256; omega, by show s.c % 134217728 < _; omega, rfl⟩
      · exact ⟨hl, hc, rfl⟩
    generalize (if s.l ≠ 255 ∧ 134217728 ≤ s.c then { s with l := s.l + 1, c := s.c % 134217728 } else s) = s' at e hs' H'
    clear H
    obtain ⟨hl', hc', hb'⟩ := hs'
    rw [e] at hk
    rw [← hb'] at hb ⊢
    have H := H'
    clear H'
    refine ⟨fun vs h'' => vs = [.int .i64 ((if s'.l = 255 then 20 else 19 : Nat) : Int)] ∧ h'' = h', ?_, ?_⟩
    · refine ldI_of (H.cell 2 rfl (last_get _ _ _)) ?_
      refine bcase_of (fun h1 => ?_) fun h1 => ?_
      · refine bindI_of ((19 : Int)) (by decide) ?_
        have h1 : s'.l ≠ 255 := by simp at h1; omega
        exact ⟨by rw [if_neg h1]; rfl, rfl⟩
      · have h1 : s'.l = 255 := by simp at h1; omega
        exact ⟨by rw [if_pos h1]; rfl, rfl⟩
    · rintro h'' u x ⟨hx, rfl⟩
      injection hx with hx
      injection hx with _ hx
      have hn : ∃ i : Nat, (i = 20 ∧ s'.l = 255 ∨ i = 19 ∧ s'.l ≠ 255) ∧ x = ((i : Nat) : Int) := by
        by_cases h1 : s'.l = 255
        · rw [if_pos h1] at hx; exact ⟨20, .inl ⟨rfl, h1⟩, hx⟩
        · rw [if_neg h1] at hx; exact ⟨19, .inr ⟨rfl, h1⟩, hx⟩
      clear hx
      obtain ⟨i, hi, rfl⟩ := hn
      have hi20 : i ≤ 20 := by omega
      have hi0 : 19 ≤ i := by omega
      refine ldS_of (H.cell 0 rfl (app_get hR 5 rfl)) ?_
      refine ldI_of (H.cell 0 rfl (app_get hR 3 rfl)) ?_
      refine needs_of (by omega) ?_
      refine bindI_of (((s'.c / 2 ^ i : Nat) : Int)) (by exact shr_of (by show i ≤ 32; omega)) ?_
      refine bindI_of (((s'.c / 2 ^ i % 256 : Nat) : Int)) (by rw [IntKind.wrap_u8]; omega) ?_
      refine newC_hp H fun b h H => ?_
      refine appC_own H 2 rfl (xs := u8s (s'.bs ++ [s'.l])) (by rw [u8s_length]; simp) (by rw [List.length_append, u8s_length]; simp) (rdO_hp (o := 0) (n := 1 * 1) H 3 rfl (Nat.le_refl _)) rfl (fun v hv => by rw [List.mem_singleton.1 hv]; rfl) (by omega) fun r' rest' h H => ?_
      refine stV_hr H 0 rfl hR 5 (Nat.le_of_ble_eq_true rfl) rfl fun h hsz H => ?_
      refine needs_of (by omega) ?_
      have hp : (2 : Nat) ^ i < 4294967296 := by rcases hi with ⟨rfl, _⟩ | ⟨rfl, _⟩ <;> decide
      have hp0 : 0 < (2 : Nat) ^ i := Nat.two_pow_pos i
      refine bindI_of (((2 ^ i : Nat) : Int)) (by exact shl_of (x := 1) (by show i ≤ 32; omega) (by rw [Nat.one_mul]; exact u32_in _ hp)) ?_
      refine bindI_of (((2 ^ i - 1 : Nat) : Int)) (by exact u32_at _ _ (by omega) (by omega)) ?_
      refine ldI_of (H.cell 0 rfl (app_get hR 3 rfl)) ?_
      refine bindI_of (((s'.c % 2 ^ i : Nat) : Int)) (by exact (and32 _ _ hc' (by omega)).trans (by rw [Nat.and_two_pow_sub_one_eq_mod])) ?_
      refine stV_hr H 0 rfl hR 3 (Nat.le_of_ble_eq_true rfl) rfl fun h hsz H => ?_
      refine bindI_of (((27 - i : Nat) : Int)) (by exact i64_at _ _ (by omega) (by omega) (by omega)) ?_
      refine stV_hr H 0 rfl hR 4 (Nat.le_of_ble_eq_true rfl) rfl fun h hsz H => ?_
      refine hk r' rest' _ ?_
      have H2 := H.take 3
      have e2 : outTail s' s'.l s'.c = { s' with bs := s'.bs ++ [s'.l], l := s'.c / 2 ^ i % 256, c := s'.c % 2 ^ i, t := 27 - i } := by
        unfold outTail
        rcases hi with ⟨rfl, h1⟩ | ⟨rfl, h1⟩
        · rw [if_pos h1]
        · rw [if_neg h1]
      rw [e2]
      refine H2.as ?_
      simp [codL, codE, crest, u8s]
      omega
/-! ### renew -/
theorem shiftM_eq (s : Cod) : shiftM s = if s.t - 1 = 0 then outM { s with a := 2 * s.a, c := 2 * s.c, t := s.t - 1 } else { s with a := 2 * s.a, c := 2 * s.c, t := s.t - 1 } := rfl
theorem renewM_succ (n : Nat) (s : Cod) : renewM (n + 1) s = if 0x8000 ≤ (shiftM s).a then shiftM s else renewM n (shiftM s) := rfl

theorem renew_ok {h : Heap} {p q r : Nat} {s : Cod} {rest : List Value} {F : List Nat} {h0 : Heap} (H : Hp h0 F h (codL p q r s rest)) (hs : Mid s) (ha : 1 ≤ s.a) (ha' : s.a < 0x8000) (hb : s.bs.length < 999999983)
    {K : Value → Heap → Prop} {Kp : List PanicEntry → Heap → Prop} (hk : ∀ r' rest' h', Hp h0 F h' (codL p q r' (renewM 17 s) rest') → K (.tuple #[]) h') :
    CP F_arith_Coder_renew #[.pointer (at0 p)] h K Kp := by
  refine call_arith_Coder_renew ?_
  unfold arith_Coder_renew
  refine ⟨fun n vs h' => ∃ (s' : Cod) (r' : Nat) (rest' : List Value), Hp h0 F h' (codL p q r' s' rest') ∧ Mid s' ∧ s'.a < 0x8000 ∧ 0x8000 ≤ s'.a * 2 ^ n ∧ renewM n s' = renewM 17 s ∧ s'.bs.length + n < 1000000000,
    ⟨17, s, r, rest, H, hs, ha', by have : (2 : Nat) ^ 17 = 131072 := rfl; omega, rfl, by omega⟩, ?_⟩
  clear H
  rintro n h u ⟨s', r', rest', H, hm, hlt, hge, he, hbn⟩
  obtain ⟨n, rfl⟩ : ∃ m, n = m + 1 := by
    cases n with
    | zero => simp at hge; omega
    | succ m => exact ⟨m, rfl⟩
  have ht1 := hm.t1
  have ht2 := hm.t12
  have hca := hm.ca
  have hcp := pow_le ht1
  obtain ⟨g1, g2, g3, g4, g5, g6⟩ := shiftM_mid hm hlt
  have hnext : 0x8000 ≤ (shiftM s').a * 2 ^ n := by
    rw [g2]
    rw [Nat.pow_succ] at hge
    have : s'.a * (2 ^ n * 2) = 2 * s'.a * 2 ^ n := by rw [Nat.mul_comm (2 ^ n) 2, ← Nat.mul_assoc, Nat.mul_comm s'.a 2]
    omega
  rw [renewM_succ] at he
  try simp only [ptr_some_eq, add_mk, Nat.zero_add, Nat.add_zero]
  refine ldI_of (H.cell 0 rfl (app_get hR 2 rfl)) ?_
  refine bindI_of (((2 * s'.a : Nat) : Int)) (by exact shl_of (i := 1) (by decide) ((u32_in _ (by omega)).trans (by omega))) ?_
  refine stV_hr H 0 rfl hR 2 (Nat.le_of_ble_eq_true rfl) rfl fun h hsz H => ?_
  refine ldI_of (H.cell 0 rfl (app_get hR 3 rfl)) ?_
  refine bindI_of (((2 * s'.c : Nat) : Int)) (by exact shl_of (i := 1) (by decide) ((u32_in _ (by omega)).trans (by omega))) ?_
  refine stV_hr H 0 rfl hR 3 (Nat.le_of_ble_eq_true rfl) rfl fun h hsz H => ?_
  refine ldI_of (H.cell 0 rfl (app_get hR 4 rfl)) ?_
  refine bindI_of (((s'.t - 1 : Nat) : Int)) (by exact i64_at _ _ (by omega) (by omega) (by omega)) ?_
  refine stV_hr H 0 rfl hR 4 (Nat.le_of_ble_eq_true rfl) rfl fun h hsz H => ?_
  refine ldI_of (H.cell 0 rfl (app_get hR 4 rfl)) ?_
  refine bcase_of (fun h1 => ?_) fun h1 => ?_
  · have h1 : s'.t - 1 = 0 := by simp at h1; omega
    rw [shiftM_eq, if_pos h1] at g1 g2 g3 g4 g5 g6 hnext he
    have H2 : Hp h0 F _ (codL p q r' { s' with a := 2 * s'.a, c := 2 * s'.c, t := s'.t - 1 } rest') := H
    refine out_ok H2 hm.l (by show 2 * s'.c < _; omega) (by show s'.bs.length < _; omega) fun r2 rest2 h2 H => ?_
    refine ldI_of (H.cell 0 rfl (app_get hR 2 rfl)) ?_
    refine bcase_of (fun h3 => ?_) fun h3 => ?_
    · have h3 : 0x8000 ≤ (outM { s' with a := 2 * s'.a, c := 2 * s'.c, t := s'.t - 1 }).a := by simp at h3; omega
      rw [if_pos h3] at he
      exact hk r2 rest2 _ (he ▸ H)
    · have h3 : ¬ 0x8000 ≤ (outM { s' with a := 2 * s'.a, c := 2 * s'.c, t := s'.t - 1 }).a := by simp at h3; omega
      rw [if_neg h3] at he
      exact ⟨n, Nat.lt_succ_self n, _, r2, rest2, H, g1, by omega, hnext, he, by omega⟩
  · have h1 : ¬ s'.t - 1 = 0 := by simp at h1; omega
    rw [shiftM_eq, if_neg h1] at g1 g2 g3 g4 g5 g6 hnext he
    have H2 : Hp h0 F _ (codL p q r' { s' with a := 2 * s'.a, c := 2 * s'.c, t := s'.t - 1 } rest') := H
    refine ldI_of (H.cell 0 rfl (app_get hR 2 rfl)) ?_
    refine bcase_of (fun h3 => ?_) fun h3 => ?_
    · have h3 : 0x8000 ≤ 2 * s'.a := by simp at h3; omega
      rw [if_pos h3] at he
      exact hk r' rest' _ (he ▸ H2)
    · have h3 : ¬ 0x8000 ≤ 2 * s'.a := by simp at h3; omega
      rw [if_neg h3] at he
      exact ⟨n, Nat.lt_succ_self n, _, r', rest', H2, g1, by omega, hnext, he, by show s'.bs.length + n < _; omega⟩

/-! ### a context's state -/
theorem likely_ok {h : Heap} {q i x : Nat} {st : List Nat} {F : List Nat} {h0 : Heap} {L : List Ent} (H : Hp h0 F h L) (k : Nat) (hq : L[k]? = some ⟨q, true, T_uint8, u8s st⟩) (hi : st[i]? = some x) (hx : x < 94) {a b c d : Int}
    (hb : b = (mOf (x / 2) : Nat)) {K : Value → Heap → Prop} {Kp : List PanicEntry → Heap → Prop} (hk : ∀ h', Hp h0 F h' (L.set k ⟨q, true, T_uint8, u8s (st.set i (upM x))⟩) → K (.tuple #[]) h') :
    CP F_arith_likely #[.pointer (some ⟨q, i, none⟩), .agg #[.int .u32 a, .int .u8 b, .int .u8 c, .int .u8 d]] h K Kp := by
  refine call_arith_likely ?_
  unfold arith_likely
  have hm := mOf_lt (r := x / 2) (by omega)
  have hkl : k < L.length := (List.getElem?_eq_some_iff.1 hq).1
  have hil : i < st.length := (List.getElem?_eq_some_iff.1 hi).1
  subst hb
  refine newC_hp H fun b h H => ?_
  have hq2 : (L ++ [(⟨b, true, T_arith_row, [.int .u32 a, .int .u8 (mOf (x / 2) : Nat), .int .u8 c, .int .u8 d]⟩ : Ent)])[k]? = some ⟨q, true, T_uint8, u8s st⟩ := by rw [List.getElem?_append_left hkl]; exact hq
  try simp only [ptr_some_eq, add_mk, Nat.zero_add, Nat.add_zero]
  refine ldI_of (H.cell L.length List.getElem?_concat_length rfl) ?_
  refine bindI_of (((2 * mOf (x / 2) : Nat) : Int)) (by exact shl_of (i := 1) (by decide) ((u8_in _ (by omega)).trans (by omega))) ?_
  refine ldI_of (H.cell k hq2 (u8s_get hi)) ?_
  refine bindI_of (((x % 2 : Nat) : Int)) (by exact (and8 _ 1 (by omega) (by omega)).trans (by rw [Nat.and_one_is_mod])) ?_
  refine bindI_of (((upM x : Nat) : Int)) (by exact (or8 _ _ (by omega) (by omega)).trans (by congr 1; exact (Nat.two_pow_add_eq_or_of_lt (i := 1) (by omega) _).symm)) ?_
  refine stV_hp H k hq2 (by rw [u8s_length]; exact hil) rfl fun h hsz H => ?_
  refine hk _ ?_
  have H2 := H.take L.length
  refine H2.as ?_
  rw [← u8s_set, List.set_append_left _ _ hkl, List.take_left' (by simp)]

theorem unlikely_ok {h : Heap} {q i x : Nat} {st : List Nat} {F : List Nat} {h0 : Heap} {L : List Ent} (H : Hp h0 F h L) (k : Nat) (hq : L[k]? = some ⟨q, true, T_uint8, u8s st⟩) (hi : st[i]? = some x) (hx : x < 94) {a b c d : Int}
    (hc : c = (lOf (x / 2) : Nat)) (hd : d = (cOf (x / 2) : Nat)) {K : Value → Heap → Prop} {Kp : List PanicEntry → Heap → Prop} (hk : ∀ h', Hp h0 F h' (L.set k ⟨q, true, T_uint8, u8s (st.set i (upL x))⟩) → K (.tuple #[]) h') :
    CP F_arith_unlikely #[.pointer (some ⟨q, i, none⟩), .agg #[.int .u32 a, .int .u8 b, .int .u8 c, .int .u8 d]] h K Kp := by
  refine call_arith_unlikely ?_
  unfold arith_unlikely
  have hm := lOf_lt (r := x / 2) (by omega)
  have hm2 := cOf_le (r := x / 2) (by omega)
  have hkl : k < L.length := (List.getElem?_eq_some_iff.1 hq).1
  have hil : i < st.length := (List.getElem?_eq_some_iff.1 hi).1
  subst hc hd
  refine newC_hp H fun b' h H => ?_
  have hq2 : (L ++ [(⟨b', true, T_arith_row, [.int .u32 a, .int .u8 b, .int .u8 (lOf (x / 2) : Nat), .int .u8 (cOf (x / 2) : Nat)]⟩ : Ent)])[k]? = some ⟨q, true, T_uint8, u8s st⟩ := by rw [List.getElem?_append_left hkl]; exact hq
  try simp only [ptr_some_eq, add_mk, Nat.zero_add, Nat.add_zero]
  refine ldI_of (H.cell L.length List.getElem?_concat_length rfl) ?_
  refine bindI_of (((2 * lOf (x / 2) : Nat) : Int)) (by exact shl_of (i := 1) (by decide) ((u8_in _ (by omega)).trans (by omega))) ?_
  refine ldI_of (H.cell k hq2 (u8s_get hi)) ?_
  refine bindI_of (((x % 2 : Nat) : Int)) (by exact (and8 _ 1 (by omega) (by omega)).trans (by rw [Nat.and_one_is_mod])) ?_
  refine bindI_of (((2 * lOf (x / 2) + x % 2 : Nat) : Int)) (by exact (or8 _ _ (by omega) (by omega)).trans (by congr 1; exact (Nat.two_pow_add_eq_or_of_lt (i := 1) (by omega) _).symm)) ?_
  refine ldI_of (H.cell L.length List.getElem?_concat_length rfl) ?_
  have hxor : (2 * lOf (x / 2) + x % 2) ^^^ cOf (x / 2) = upL x := by
    have e0 : x % 2 < 2 := Nat.mod_lt _ (by omega)
    unfold upL
    generalize lOf (x / 2) = l at hm ⊢
    generalize cOf (x / 2) = c at hm2 ⊢
    generalize x % 2 = y at e0 ⊢
    have : ∀ l ∈ List.range 47, ∀ y ∈ List.range 2, ∀ c ∈ List.range 2, (2 * l + y) ^^^ c = 2 * l + (y + c) % 2 := by decide
    exact this l (List.mem_range.2 hm) y (List.mem_range.2 e0) c (List.mem_range.2 (by omega))
  refine bindI_of (((upL x : Nat) : Int)) (by exact (xor8 _ _ (by omega) (by omega)).trans (by rw [hxor])) ?_
  refine stV_hp H k hq2 (by rw [u8s_length]; exact hil) rfl fun h hsz H => ?_
  refine hk _ ?_
  have H2 := H.take L.length
  refine H2.as ?_
  rw [← u8s_set, List.set_append_left _ _ hkl, List.take_left' (by simp)]

/-! ### the context's place -/
def idx (ctx : Int) (n : Nat) : Nat := (ctx % (n : Int)).toNat
theorem idx_lt (ctx : Int) {n : Nat} (hn : 1 ≤ n) : idx ctx n < n := by
  unfold idx
  have h1 := Int.emod_nonneg ctx (b := (n : Int)) (by omega)
  have h2 := Int.emod_lt_of_pos ctx (b := (n : Int)) (by omega)
  omega
theorem tmod_abs (ctx : Int) {n : Nat} (hn : 1 ≤ n) : -(n : Int) < ctx.tmod n ∧ ctx.tmod n < n := by
  constructor
  · have h1 := Int.lt_tmod_of_pos ctx (b := (n : Int)) (by omega)
    exact h1
  · exact Int.tmod_lt_of_pos ctx (by omega)
theorem idx_eq (ctx : Int) {n : Nat} (hn : 1 ≤ n) : (ctx.tmod n + n).tmod n = ((idx ctx n : Nat) : Int) := by
  have h1 := Int.emod_nonneg ctx (b := (n : Int)) (by omega)
  have h3 := tmod_abs ctx hn
  have e1 : ((idx ctx n : Nat) : Int) = ctx % n := by unfold idx; omega
  rw [e1, Int.tmod_eq_emod_of_nonneg (by omega), Int.add_emod_right, Int.tmod_eq_emod]
  split
  · rw [show ((0 : Nat) : Int) = 0 from rfl, Int.sub_zero, Int.emod_emod_of_dvd _ (Int.dvd_refl _)]
  · have : ((n : Int).natAbs : Int) = n := by omega
    rw [this, Int.sub_emod_right, Int.emod_emod_of_dvd _ (Int.dvd_refl _)]

theorem at_ok {h : Heap} {p q : Nat} {st : List Nat} {F : List Nat} {h0 : Heap} {L : List Ent} (H : Hp h0 F h L) (kp kq : Nat) {w : Bool} {t : TypeId} {T : List Value} (hp : L[kp]? = some ⟨p, w, t, rowsV ++ (.slice (some ⟨q, 0, none⟩) st.length st.length :: T)⟩)
    (hq : L[kq]? = some ⟨q, true, T_uint8, u8s st⟩) (hn : 1 ≤ st.length) (hn2 : st.length ≤ 131072) (hst : ∀ x ∈ st, x < 94) {ctx : Int} {K : Value → Heap → Prop} {Kp : List PanicEntry → Heap → Prop}
    (hk : ∀ h' x, st[idx ctx st.length]? = some x → x < 94 → Hp h0 F h' L → K (.tuple #[.pointer (some ⟨q, idx ctx st.length, none⟩), .agg #[.int .u32 (qOf (x / 2) : Nat), .int .u8 (mOf (x / 2) : Nat), .int .u8 (lOf (x / 2) : Nat), .int .u8 (cOf (x / 2) : Nat)]]) h') :
    CP F_arith_table_at #[.pointer (at0 p), .int .i64 ctx] h K Kp := by
  refine call_arith_table_at ?_
  unfold arith_table_at
  have hi := idx_lt ctx hn
  have habs := tmod_abs ctx hn
  obtain ⟨x, hx⟩ : ∃ x, st[idx ctx st.length]? = some x := ⟨_, List.getElem?_eq_getElem hi⟩
  have hx94 : x < 94 := hst x (List.mem_of_getElem? hx)
  have hkp : kp < L.length := (List.getElem?_eq_some_iff.1 hp).1
  have hkq : kq < L.length := (List.getElem?_eq_some_iff.1 hq).1
  refine newC_hp H fun b h H => ?_
  have hp2 : ∀ e, (L ++ [e])[kp]? = some ⟨p, w, t, rowsV ++ (.slice (some ⟨q, 0, none⟩) st.length st.length :: T)⟩ := fun e => by rw [List.getElem?_append_left hkp]; exact hp
  have hq2 : ∀ e, (L ++ [e])[kq]? = some ⟨q, true, T_uint8, u8s st⟩ := fun e => by rw [List.getElem?_append_left hkq]; exact hq
  try simp only [ptr_some_eq, add_mk, Nat.zero_add, Nat.add_zero]
  refine ldS_of (H.cell kp (hp2 _) (app_get hR 0 rfl)) ?_
  refine needs_of (by exact ⟨trivial, by omega⟩) ?_
  refine bindI_gen fun z6 e6 => ?_
  subst e6
  refine bindI_of (ctx.tmod st.length + st.length) (i64_in _ (by omega) (by omega)) ?_
  refine needs_of (by exact ⟨trivial, by omega⟩) ?_
  refine bindI_of _ (idx_eq ctx hn) ?_
  refine ldS_of (H.cell kp (hp2 _) (app_get hR 0 rfl)) ?_
  refine needs_of (by omega) ?_
  simp only [Int.toNat_natCast, Nat.mul_one]
  try simp only [ptr_some_eq, add_mk, Nat.zero_add, Nat.add_zero]
  refine ldI_of (H.cell kq (hq2 _) (u8s_get hx)) ?_
  refine bindI_of (((x / 2 : Nat) : Int)) (by exact shr_of (i := 1) (by decide)) ?_
  refine needs_of (by omega) ?_
  simp only [Int.toNat_natCast]
  have hr : x / 2 < 47 := by omega
  have hrow : ∀ j v, (rowC (x / 2))[j]? = some v → (rowsV ++ (.slice (some ⟨q, 0, none⟩) st.length st.length :: T))[x / 2 * 4 + j]? = some v := fun j v hv => get_app (by rw [Nat.mul_comm]; exact rowsN_get hr hv)
  refine ldI_of (H.cell kp (hp2 _) (hrow 0 _ rfl)) ?_
  refine ldI_of (H.cell kp (hp2 _) (hrow 1 _ rfl)) ?_
  refine ldI_of (H.cell kp (hp2 _) (hrow 2 _ rfl)) ?_
  refine ldI_of (H.cell kp (hp2 _) (hrow 3 _ rfl)) ?_
  refine stV_hp H L.length List.getElem?_concat_length (by simp) rfl fun h hsz H => ?_
  simp only [List.set_append_right _ _ (Nat.le_refl _), Nat.sub_self, List.set_cons_zero, List.set_cons_succ] at H
  refine stV_hp H L.length List.getElem?_concat_length (by simp) rfl fun h hsz H => ?_
  simp only [List.set_append_right _ _ (Nat.le_refl _), Nat.sub_self, List.set_cons_zero, List.set_cons_succ] at H
  refine stV_hp H L.length List.getElem?_concat_length (by simp) rfl fun h hsz H => ?_
  simp only [List.set_append_right _ _ (Nat.le_refl _), Nat.sub_self, List.set_cons_zero, List.set_cons_succ] at H
  refine stV_hp H L.length List.getElem?_concat_length (by simp) rfl fun h hsz H => ?_
  simp only [List.set_append_right _ _ (Nat.le_refl _), Nat.sub_self, List.set_cons_zero, List.set_cons_succ] at H
  refine ldI_of (H.cell L.length List.getElem?_concat_length rfl) ?_
  refine ldI_of (H.cell L.length List.getElem?_concat_length rfl) ?_
  refine ldI_of (H.cell L.length List.getElem?_concat_length rfl) ?_
  refine ldI_of (H.cell L.length List.getElem?_concat_length rfl) ?_
  exact hk _ x hx hx94 ((H.take L.length).as (List.take_left' rfl))

/-! ### Put -/
theorem getD_of {st : List Nat} {k x : Nat} (h : st[k]? = some x) : st.getD k 0 = x := by rw [List.getD_eq_getElem?_getD, h]; rfl

theorem putM_at (s : Cod) (k bit x : Nat) (hx : s.st[k]? = some x) : putM s k bit =
  if bit = x % 2 then
    if 0x8000 ≤ s.a - qOf (x / 2) then { s with a := s.a - qOf (x / 2), c := s.c + qOf (x / 2), n := s.n + 1 }
    else if s.a - qOf (x / 2) < qOf (x / 2) then renewM 17 { s with a := qOf (x / 2), n := s.n + 1, st := s.st.set k (upM x) }
    else renewM 17 { s with a := s.a - qOf (x / 2), c := s.c + qOf (x / 2), n := s.n + 1, st := s.st.set k (upM x) }
  else
    if s.a - qOf (x / 2) < qOf (x / 2) then renewM 17 { s with a := s.a - qOf (x / 2), c := s.c + qOf (x / 2), n := s.n + 1, st := s.st.set k (upL x) }
    else renewM 17 { s with a := qOf (x / 2), n := s.n + 1, st := s.st.set k (upL x) } := by
  rw [← getD_of hx]; rfl
theorem put_ok {h : Heap} {p q r : Nat} {s : Cod} {rest : List Value} {F : List Nat} {h0 : Heap} (H : Hp h0 F h (codL p q r s rest)) (hs : Wf s) (hd : s.done = false) (hn : s.n < 16777216) (hl : 1 ≤ s.st.length) (hl2 : s.st.length ≤ 131072)
    {ctx : Int} {bit : Nat} (hbit : bit ≤ 1) {K : Value → Heap → Prop} {Kp : List PanicEntry → Heap → Prop} (hk : ∀ r' rest' h', Hp h0 F h' (codL p q r' (putM s (idx ctx s.st.length) bit) rest') → K (.int .i64 0) h') :
    CP F_arith_Coder_Put #[.pointer (at0 p), .int .i64 ctx, .int .i64 (bit : Nat)] h K Kp := by
  refine call_arith_Coder_Put ?_
  unfold arith_Coder_Put
  refine ⟨fun vs h' => h' = h, ?_, ?_⟩
  · try simp only [ptr_some_eq, add_mk, Nat.zero_add, Nat.add_zero]
    refine ldB_of (H.cell 0 rfl (app_get hR 6 (congrArg (fun b => some (Value.bool b)) hd))) ?_
    refine bcase_false (by rfl) ?_
    refine bcase_of (fun h1 => ?_) fun h1 => ?_
    · refine bcase_of (fun h2 => ?_) fun h2 => ?_
      · simp at h1 h2; omega
      · refine ldI_of (H.cell 0 rfl (app_get hR 1 rfl)) ?_
        refine bcase_false (by simp; omega) ?_
        trivial
    · refine ldI_of (H.cell 0 rfl (app_get hR 1 rfl)) ?_
      refine bcase_false (by simp; omega) ?_
      trivial
  · rintro h' u rfl
    try simp only [ptr_some_eq, add_mk, Nat.zero_add, Nat.add_zero]
    refine ldI_of (H.cell 0 rfl (app_get hR 1 rfl)) ?_
    refine bindI_of (((s.n + 1 : Nat) : Int)) (by exact i64_at _ _ (by omega) (by omega) (by omega)) ?_
    refine stV_hr H 0 rfl hR 1 (Nat.le_of_ble_eq_true rfl) rfl fun h hsz H => ?_
    refine at_ok H 0 1 rfl rfl hl hl2 hs.st fun h x hx hx94 H => ?_
    refine ⟨_, _, _, _, _, rfl, ?_⟩
    refine newC_hp H fun b h H => ?_
    try simp only [ptr_some_eq, add_mk, Nat.zero_add, Nat.add_zero]
    refine stV_hp H 3 rfl (by first | exact Nat.le_of_ble_eq_true rfl | simp) rfl fun h hsz H => ?_
    refine stV_hp H 3 rfl (by first | exact Nat.le_of_ble_eq_true rfl | simp) rfl fun h hsz H => ?_
    refine stV_hp H 3 rfl (by first | exact Nat.le_of_ble_eq_true rfl | simp) rfl fun h hsz H => ?_
    refine stV_hp H 3 rfl (by first | exact Nat.le_of_ble_eq_true rfl | simp) rfl fun h hsz H => ?_
    refine ldI_of (H.cell 0 rfl (app_get hR 2 rfl)) ?_
    refine ldI_of (H.cell 3 rfl rfl) ?_
    have hr : x / 2 < 47 := by omega
    have hq1 := qOf_pos hr
    have hq2 := qOf_le hr
    have hlo := hs.lo
    have hhi := hs.hi
    have hca := hs.ca
    have hcp := pow_le hs.t1
    have hlen := hs.len
    have hM := set_lt hs.st (k := idx ctx s.st.length) (upM_lt hx94)
    have hL := set_lt hs.st (k := idx ctx s.st.length) (upL_lt hx94)
    rw [putM_at s _ bit x hx] at hk
    refine bindI_of (((s.a - qOf (x / 2) : Nat) : Int)) (by exact u32_at _ _ (by omega) (by omega)) ?_
    refine stV_hr H 0 rfl hR 2 (Nat.le_of_ble_eq_true rfl) rfl fun h hsz H => ?_
    refine ldI_of (H.cell 1 rfl (u8s_get hx)) ?_
    refine bindI_of (((x % 2 : Nat) : Int)) (by exact (and8 _ 1 (by omega) (by omega)).trans (by rw [Nat.and_one_is_mod])) ?_
    refine bindI_of (((x % 2 : Nat) : Int)) (by exact i64_in _ (by omega) (by omega)) ?_
    refine bcase_of (fun h1 => ?_) fun h1 => ?_
    · have h1 : bit = x % 2 := by simp at h1; omega
      rw [if_pos h1] at hk
      refine ldI_of (H.cell 0 rfl (app_get hR 2 rfl)) ?_
      refine bcase_of (fun h2 => ?_) fun h2 => ?_
      · have h2 : 0x8000 ≤ s.a - qOf (x / 2) := by simp at h2; omega
        rw [if_pos h2] at hk
        refine ldI_of (H.cell 0 rfl (app_get hR 3 rfl)) ?_
        refine ldI_of (H.cell 3 rfl rfl) ?_
        refine bindI_of (((s.c + qOf (x / 2) : Nat) : Int)) (by exact u32_at _ _ (by omega) (by omega)) ?_
        refine stV_hr H 0 rfl hR 3 (Nat.le_of_ble_eq_true rfl) rfl fun h hsz H => ?_
        exact hk r rest _ (H.take 3)
      · have h2 : ¬ 0x8000 ≤ s.a - qOf (x / 2) := by simp at h2; omega
        rw [if_neg h2] at hk
        refine ldI_of (H.cell 0 rfl (app_get hR 2 rfl)) ?_
        refine ldI_of (H.cell 3 rfl rfl) ?_
        refine bcase_of (fun h3 => ?_) fun h3 => ?_
        · have h3 : s.a - qOf (x / 2) < qOf (x / 2) := by simp at h3; omega
          rw [if_pos h3] at hk
          refine ldI_of (H.cell 3 rfl rfl) ?_
          refine stV_hr H 0 rfl hR 2 (Nat.le_of_ble_eq_true rfl) rfl fun h hsz H => ?_
          refine ldI_of (H.cell 3 rfl rfl) ?_
          refine ldI_of (H.cell 3 rfl rfl) ?_
          refine ldI_of (H.cell 3 rfl rfl) ?_
          refine ldI_of (H.cell 3 rfl rfl) ?_
          refine likely_ok H 1 rfl hx hx94 rfl fun h H => ?_
          have H2 : Hp h0 F h (codL p q r { s with a := qOf (x / 2), n := s.n + 1, st := s.st.set (idx ctx s.st.length) (upM x) } rest) := (H.take 3).as (by simp [codL, codE, crest])
          exact renew_ok H2 ⟨hs.t1, hs.t12, by show s.c + qOf _ < 2 ^ (28 - s.t); omega, hs.l, hs.bs, hM⟩ hq1 (by show qOf _ < _; omega) (by show s.bs.length < _; omega) hk
        · have h3 : ¬ s.a - qOf (x / 2) < qOf (x / 2) := by simp at h3; omega
          rw [if_neg h3] at hk
          refine ldI_of (H.cell 0 rfl (app_get hR 3 rfl)) ?_
          refine ldI_of (H.cell 3 rfl rfl) ?_
          refine bindI_of (((s.c + qOf (x / 2) : Nat) : Int)) (by exact u32_at _ _ (by omega) (by omega)) ?_
          refine stV_hr H 0 rfl hR 3 (Nat.le_of_ble_eq_true rfl) rfl fun h hsz H => ?_
          refine ldI_of (H.cell 3 rfl rfl) ?_
          refine ldI_of (H.cell 3 rfl rfl) ?_
          refine ldI_of (H.cell 3 rfl rfl) ?_
          refine ldI_of (H.cell 3 rfl rfl) ?_
          refine likely_ok H 1 rfl hx hx94 rfl fun h H => ?_
          have H2 : Hp h0 F h (codL p q r { s with a := s.a - qOf (x / 2), c := s.c + qOf (x / 2), n := s.n + 1, st := s.st.set (idx ctx s.st.length) (upM x) } rest) := (H.take 3).as (by simp [codL, codE, crest])
          exact renew_ok H2 ⟨hs.t1, hs.t12, by show s.c + qOf _ + (s.a - qOf _) < 2 ^ (28 - s.t); omega, hs.l, hs.bs, hM⟩ (by show 1 ≤ s.a - qOf _; omega) (by show s.a - qOf _ < _; omega) (by show s.bs.length < _; omega) hk
    · have h1 : ¬ bit = x % 2 := by simp at h1; omega
      rw [if_neg h1] at hk
      refine ldI_of (H.cell 0 rfl (app_get hR 2 rfl)) ?_
      refine ldI_of (H.cell 3 rfl rfl) ?_
      refine bcase_of (fun h3 => ?_) fun h3 => ?_
      · have h3 : s.a - qOf (x / 2) < qOf (x / 2) := by simp at h3; omega
        rw [if_pos h3] at hk
        refine ldI_of (H.cell 0 rfl (app_get hR 3 rfl)) ?_
        refine ldI_of (H.cell 3 rfl rfl) ?_
        refine bindI_of (((s.c + qOf (x / 2) : Nat) : Int)) (by exact u32_at _ _ (by omega) (by omega)) ?_
        refine stV_hr H 0 rfl hR 3 (Nat.le_of_ble_eq_true rfl) rfl fun h hsz H => ?_
        refine ldI_of (H.cell 3 rfl rfl) ?_
        refine ldI_of (H.cell 3 rfl rfl) ?_
        refine ldI_of (H.cell 3 rfl rfl) ?_
        refine ldI_of (H.cell 3 rfl rfl) ?_
        refine unlikely_ok H 1 rfl hx hx94 rfl rfl fun h H => ?_
        have H2 : Hp h0 F h (codL p q r { s with a := s.a - qOf (x / 2), c := s.c + qOf (x / 2), n := s.n + 1, st := s.st.set (idx ctx s.st.length) (upL x) } rest) := (H.take 3).as (by simp [codL, codE, crest])
        exact renew_ok H2 ⟨hs.t1, hs.t12, by show s.c + qOf _ + (s.a - qOf _) < 2 ^ (28 - s.t); omega, hs.l, hs.bs, hL⟩ (by show 1 ≤ s.a - qOf _; omega) (by show s.a - qOf _ < _; omega) (by show s.bs.length < _; omega) hk
      · have h3 : ¬ s.a - qOf (x / 2) < qOf (x / 2) := by simp at h3; omega
        rw [if_neg h3] at hk
        refine ldI_of (H.cell 3 rfl rfl) ?_
        refine stV_hr H 0 rfl hR 2 (Nat.le_of_ble_eq_true rfl) rfl fun h hsz H => ?_
        refine ldI_of (H.cell 3 rfl rfl) ?_
        refine ldI_of (H.cell 3 rfl rfl) ?_
        refine ldI_of (H.cell 3 rfl rfl) ?_
        refine ldI_of (H.cell 3 rfl rfl) ?_
        refine unlikely_ok H 1 rfl hx hx94 rfl rfl fun h H => ?_
        have H2 : Hp h0 F h (codL p q r { s with a := qOf (x / 2), n := s.n + 1, st := s.st.set (idx ctx s.st.length) (upL x) } rest) := (H.take 3).as (by simp [codL, codE, crest])
        exact renew_ok H2 ⟨hs.t1, hs.t12, by show s.c + qOf _ < 2 ^ (28 - s.t); omega, hs.l, hs.bs, hL⟩ hq1 (by show qOf _ < _; omega) (by show s.bs.length < _; omega) hk

end Go.Ar
