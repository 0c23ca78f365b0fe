/- ArD: a decoder in memory; what its functions do with it. -/
import Derived.Test.YtlmopdohgipbeaaArC
set_option linter.unusedVariables false
set_option linter.unusedSimpArgs false
namespace Go.Ar
open Go Go.Den Go.Den.Ytlmopdohgipbeaa

/-- The row of a decoder's bytes: where there are none, any row of its own. -/
def BOk (e : Ent) (bp : Option Addr) (b : List Nat) : Prop := e.w = true ∧ (b = [] ∨ ∃ rest, bp = some ⟨e.b, 0, none⟩ ∧ e.cs = u8s b ++ rest)
def drest (q nst n a c : Nat) (t : Int) (bp : Option Addr) (bl bc : Nat) (i : Nat) : List Value :=
  [.slice (some ⟨q, 0, none⟩) nst nst, .int .i64 (n : Nat), .int .u32 (a : Nat), .int .u32 (c : Nat), .int .i64 t, .slice bp bl bc, .int .i64 (i : Nat)]
def decE (p q : Nat) (bp : Option Addr) (bc : Nat) (s : Dec) : Ent :=
  ⟨p, true, T_arith_Decoder, rowsV ++ drest q s.st.length s.n s.a s.c (s.t : Nat) bp s.b.length bc s.i⟩
def decL (p q : Nat) (e : Ent) (bp : Option Addr) (bc : Nat) (s : Dec) : List Ent := [decE p q bp bc s, ⟨q, true, T_uint8, u8s s.st⟩, e]

theorem byte_ok {h : Heap} {p q : Nat} {e : Ent} {bp : Option Addr} {bc : Nat} {s : Dec} {F : List Nat} {h0 : Heap} (H : Hp h0 F h (decL p q e bp bc s)) (hb : BOk e bp s.b) (hb8 : ∀ x ∈ s.b, x < 256) {i : Nat}
    {K : Value → Heap → Prop} {Kp : List PanicEntry → Heap → Prop} (hk : K (.int .u32 (byteD s i : Nat)) h) : CP F_arith_Decoder_byte #[.pointer (at0 p), .int .i64 (i : Nat)] h K Kp := by
  refine call_arith_Decoder_byte ?_
  unfold arith_Decoder_byte
  try simp only [ptr_some_eq, add_mk, Nat.zero_add, Nat.add_zero]
  refine ldS_of (H.cell 0 rfl (app_get hR 5 rfl)) ?_
  refine bcase_of (fun h1 => ?_) fun h1 => ?_
  · have h1 : i < s.b.length := by simp at h1; omega
    obtain ⟨_, hb | ⟨rest, hbp, he⟩⟩ := hb
    · rw [hb] at h1; simp at h1
    · have hg : s.b[i]? = some (byteD s i) := by
        unfold byteD
        rw [List.getD_eq_getElem?_getD, List.getElem?_eq_getElem h1]; rfl
      have hlt := byteD_lt hb8 (s := s) i
      refine ldS_of (H.cell 0 rfl (app_get hR 5 rfl)) ?_
      refine needs_of (by omega) ?_
      rw [hbp]
      simp only [Int.toNat_natCast, Nat.mul_one]
      try simp only [ptr_some_eq, add_mk, Nat.zero_add, Nat.add_zero]
      refine ldI_of (H.cell 2 rfl (i := i) (by rw [he]; exact get_app (u8s_get hg))) ?_
      refine bindI_of (((byteD s i : Nat) : Int)) (by exact u32_in _ (by omega)) ?_
      exact hk
  · have h1 : s.b.length ≤ i := by simp at h1; omega
    have hg : byteD s i = 255 := by
      unfold byteD
      rw [List.getD_eq_getElem?_getD, List.getElem?_eq_none h1]; rfl
    rw [hg] at hk
    exact hk

theorem inD_eq (s : Dec) : inD s =
  if byteD s s.i ≠ 255 then { s with i := s.i + 1, c := (s.c + byteD s (s.i + 1) * 256) % M32, t := 8 }
  else if byteD s (s.i + 1) > 143 then { s with c := (s.c + 65280) % M32, t := 8 }
  else { s with i := s.i + 1, c := (s.c + byteD s (s.i + 1) * 512) % M32, t := 7 } := rfl
theorem in_ok {h : Heap} {p q : Nat} {e : Ent} {bp : Option Addr} {bc : Nat} {s : Dec} {F : List Nat} {h0 : Heap} (H : Hp h0 F h (decL p q e bp bc s)) (hb : BOk e bp s.b) (hs : MidD s) (hbl : s.b.length < 140737488351300)
    {K : Value → Heap → Prop} {Kp : List PanicEntry → Heap → Prop} (hk : ∀ h', Hp h0 F h' (decL p q e bp bc (inD s)) → K (.tuple #[]) h') : CP F_arith_Decoder_in #[.pointer (at0 p)] h K Kp := by
  refine call_arith_Decoder_in ?_
  unfold arith_Decoder_in
  have hi := hs.i
  have hc := hs.c
  have hM : M32 = 4294967296 := rfl
  have hb1 := byteD_lt hs.b (s := s) (s.i + 1)
  have hb0 := byteD_lt hs.b (s := s) s.i
  try simp only [ptr_some_eq, add_mk, Nat.zero_add, Nat.add_zero]
  refine ldI_of (H.cell 0 rfl (app_get hR 6 rfl)) ?_
  refine byte_ok H hb hs.b ?_
  refine ⟨_, rfl, ?_⟩
  rw [inD_eq] at hk
  refine bcase_of (fun h1 => ?_) fun h1 => ?_
  · have h1 : byteD s s.i ≠ 255 := by simp at h1; omega
    rw [if_pos h1] at hk
    refine ldI_of (H.cell 0 rfl (app_get hR 6 rfl)) ?_
    refine bindI_of (((s.i + 1 : Nat) : Int)) (by exact i64_at _ _ (by omega) (by omega) (by omega)) ?_
    refine stV_hr H 0 rfl hR 6 (Nat.le_of_ble_eq_true rfl) rfl fun h hsz H => ?_
    refine ldI_of (H.cell 0 rfl (app_get hR 3 rfl)) ?_
    refine ldI_of (H.cell 0 rfl (app_get hR 6 rfl)) ?_
    have H2 : Hp h0 F h (decL p q e bp bc { s with i := s.i + 1 }) := H
    refine byte_ok H2 hb hs.b ?_
    refine ⟨_, rfl, hext.refl _, ?_⟩
    have hb2 : byteD { s with i := s.i + 1 } (s.i + 1) = byteD s (s.i + 1) := rfl
    rw [hb2]
    refine bindI_of (((byteD s (s.i + 1) * 256 : Nat) : Int)) (by exact shl_of (i := 8) (by decide) (u32_in _ (by omega))) ?_
    refine bindI_of ((((s.c + byteD s (s.i + 1) * 256) % M32 : Nat) : Int)) (by rw [IntKind.wrap_u32, hM]; omega) ?_
    refine stV_hr H 0 rfl hR 3 (Nat.le_of_ble_eq_true rfl) rfl fun h hsz H => ?_
    refine stV_hr H 0 rfl hR 4 (Nat.le_of_ble_eq_true rfl) rfl fun h hsz H => ?_
    exact hk _ H
  · have h1 : ¬ byteD s s.i ≠ 255 := by simp at h1; omega
    rw [if_neg h1] at hk
    refine ldI_of (H.cell 0 rfl (app_get hR 6 rfl)) ?_
    refine bindI_of (((s.i + 1 : Nat) : Int)) (by exact i64_at _ _ (by omega) (by omega) (by omega)) ?_
    refine byte_ok H hb hs.b ?_
    refine ⟨_, rfl, ?_⟩
    refine bcase_of (fun h2 => ?_) fun h2 => ?_
    · have h2 : byteD s (s.i + 1) > 143 := by simp at h2; omega
      rw [if_pos h2] at hk
      refine ldI_of (H.cell 0 rfl (app_get hR 3 rfl)) ?_
      refine bindI_of ((((s.c + 65280) % M32 : Nat) : Int)) (by rw [IntKind.wrap_u32, hM]; omega) ?_
      refine stV_hr H 0 rfl hR 3 (Nat.le_of_ble_eq_true rfl) rfl fun h hsz H => ?_
      refine stV_hr H 0 rfl hR 4 (Nat.le_of_ble_eq_true rfl) rfl fun h hsz H => ?_
      exact hk _ H
    · have h2 : ¬ byteD s (s.i + 1) > 143 := by simp at h2; omega
      rw [if_neg h2] at hk
      refine ldI_of (H.cell 0 rfl (app_get hR 6 rfl)) ?_
      refine bindI_of (((s.i + 1 : Nat) : Int)) (by exact i64_at _ _ (by omega) (by omega) (by omega)) ?_
      refine stV_hr H 0 rfl hR 6 (Nat.le_of_ble_eq_true rfl) rfl fun h hsz H => ?_
      refine ldI_of (H.cell 0 rfl (app_get hR 3 rfl)) ?_
      refine ldI_of (H.cell 0 rfl (app_get hR 6 rfl)) ?_
      have H2 : Hp h0 F h (decL p q e bp bc { s with i := s.i + 1 }) := H
      refine byte_ok H2 hb hs.b ?_
      refine ⟨_, rfl, hext.refl _, ?_⟩
      have hb2 : byteD { s with i := s.i + 1 } (s.i + 1) = byteD s (s.i + 1) := rfl
      rw [hb2]
      refine bindI_of (((byteD s (s.i + 1) * 512 : Nat) : Int)) (by exact shl_of (i := 9) (by decide) (u32_in _ (by omega))) ?_
      refine bindI_of ((((s.c + byteD s (s.i + 1) * 512) % M32 : Nat) : Int)) (by rw [IntKind.wrap_u32, hM]; omega) ?_
      refine stV_hr H 0 rfl hR 3 (Nat.le_of_ble_eq_true rfl) rfl fun h hsz H => ?_
      refine stV_hr H 0 rfl hR 4 (Nat.le_of_ble_eq_true rfl) rfl fun h hsz H => ?_
      exact hk _ H

theorem shiftD_eq (s : Dec) : shiftD s = { (if s.t = 0 then inD s else s) with a := 2 * (if s.t = 0 then inD s else s).a, c := 2 * (if s.t = 0 then inD s else s).c % M32, t := (if s.t = 0 then inD s else s).t - 1 } := rfl
theorem renewD_succ (n : Nat) (s : Dec) : renewD (n + 1) s = if 0x8000 ≤ (shiftD s).a then shiftD s else renewD n (shiftD s) := rfl

theorem renewD_ok {h : Heap} {p q : Nat} {e : Ent} {bp : Option Addr} {bc : Nat} {s : Dec} {F : List Nat} {h0 : Heap} (H : Hp h0 F h (decL p q e bp bc s)) (hb : BOk e bp s.b) (hs : MidD s) (hbl : s.b.length < 140737488351300) (ha : 1 ≤ s.a) (ha' : s.a < 0x8000)
    {K : Value → Heap → Prop} {Kp : List PanicEntry → Heap → Prop} (hk : ∀ h', Hp h0 F h' (decL p q e bp bc (renewD 17 s)) → K (.tuple #[]) h') : CP F_arith_Decoder_renew #[.pointer (at0 p)] h K Kp := by
  refine call_arith_Decoder_renew ?_
  unfold arith_Decoder_renew
  refine ⟨fun n vs h' => ∃ s' : Dec, Hp h0 F h' (decL p q e bp bc s') ∧ MidD s' ∧ s'.a < 0x8000 ∧ 0x8000 ≤ s'.a * 2 ^ n ∧ renewD n s' = renewD 17 s ∧ s'.b = s.b,
    ⟨17, s, H, hs, ha', by have : (2 : Nat) ^ 17 = 131072 := rfl; omega, rfl, rfl⟩, ?_⟩
  clear H
  rintro n h u ⟨s', H, hm, hlt, hge, he, hbe⟩
  obtain ⟨n, rfl⟩ : ∃ m, n = m + 1 := by
    cases n with
    | zero => simp at hge; omega
    | succ m => exact ⟨m, rfl⟩
  obtain ⟨g1, g2, g3, g4, g5⟩ := shiftD_mid hm
  have hnext : 0x8000 ≤ (shiftD s').a * 2 ^ n := by
    rw [g2]
    rw [Nat.pow_succ] at hge
    have : s'.a * (2 ^ n * 2) = 2 * s'.a * 2 ^ n := by rw [Nat.mul_comm (2 ^ n) 2, ← Nat.mul_assoc, Nat.mul_comm s'.a 2]
    omega
  rw [renewD_succ] at he
  rw [← hbe] at hb hbl
  refine ⟨fun vs h' => Hp h0 F h' (decL p q e bp bc (if s'.t = 0 then inD s' else s')), ?_, ?_⟩
  · try simp only [ptr_some_eq, add_mk, Nat.zero_add, Nat.add_zero]
    refine ldI_of (H.cell 0 rfl (app_get hR 4 rfl)) ?_
    refine bcase_of (fun h1 => ?_) fun h1 => ?_
    · have h1 : s'.t = 0 := by simp at h1; omega
      refine in_ok H hb hm hbl fun h' H => ?_
      rw [if_pos h1]
      exact H
    · have h1 : ¬ s'.t = 0 := by simp at h1; omega
      rw [if_neg h1]
      exact H
  · intro h u H
    rw [shiftD_eq] at g1 g2 g5 hnext he
    have hS : MidD (if s'.t = 0 then inD s' else s') ∧ (if s'.t = 0 then inD s' else s').a = s'.a ∧ 1 ≤ (if s'.t = 0 then inD s' else s').t := by
      split
      · obtain ⟨i1, i2, _, _, _, i6⟩ := inD_mid hm
        exact ⟨i1, i2, i6⟩
      · exact ⟨hm, rfl, by omega⟩
    generalize (if s'.t = 0 then inD s' else s') = S at H g1 g2 g5 hnext he hS
    obtain ⟨hS1, hS2, hS3⟩ := hS
    have hSc := hS1.c
    have hSt := hS1.t8
    have hM : M32 = 4294967296 := rfl
    try simp only [ptr_some_eq, add_mk, Nat.zero_add, Nat.add_zero]
    refine ldI_of (H.cell 0 rfl (app_get hR 2 rfl)) ?_
    refine bindI_of (((2 * S.a : Nat) : Int)) (by exact shl_of (i := 1) (by decide) ((u32_in _ (by omega)).trans (by omega))) ?_
    refine stV_hr H 0 rfl hR 2 (Nat.le_of_ble_eq_true rfl) rfl fun h hsz H => ?_
    refine ldI_of (H.cell 0 rfl (app_get hR 3 rfl)) ?_
    refine bindI_of (((2 * S.c % M32 : Nat) : Int)) (by exact shl_of (i := 1) (by decide) (by rw [IntKind.wrap_u32, hM]; omega)) ?_
    refine stV_hr H 0 rfl hR 3 (Nat.le_of_ble_eq_true rfl) rfl fun h hsz H => ?_
    refine ldI_of (H.cell 0 rfl (app_get hR 4 rfl)) ?_
    refine bindI_of (((S.t - 1 : Nat) : Int)) (by exact i64_at _ _ (by omega) (by omega) (by omega)) ?_
    refine stV_hr H 0 rfl hR 4 (Nat.le_of_ble_eq_true rfl) rfl fun h hsz H => ?_
    refine ldI_of (H.cell 0 rfl (app_get hR 2 rfl)) ?_
    have H2 : Hp h0 F h (decL p q e bp bc { S with a := 2 * S.a, c := 2 * S.c % M32, t := S.t - 1 }) := H
    refine bcase_of (fun h3 => ?_) fun h3 => ?_
    · have h3 : 0x8000 ≤ 2 * S.a := by simp at h3; omega
      rw [if_pos h3] at he
      exact hk _ (he ▸ H2)
    · have h3 : ¬ 0x8000 ≤ 2 * S.a := by simp at h3; omega
      rw [if_neg h3] at he
      exact ⟨n, Nat.lt_succ_self n, _, H2, g1, by show 2 * S.a < _; omega, hnext, he, g5.trans hbe⟩

/-! ### NewDecoder -/
theorem dec_eq (q n : Nat) (bp : Option Addr) (bl bc : Nat) : putL (putL (putL Z_arith_Decoder 0 (tabV q n)) 190 ([.int .u32 32768] : List Value)) 193 ([.slice bp bl bc] : List Value) = rowsV ++ drest q n 0 0x8000 0 0 bp bl bc 0 := by kernel_rfl

/-- What NewDecoder has behind its first lines. -/
def dec0 (b : List Nat) (n : Nat) : Dec := { a := 0x8000, c := 0, t := 0, n := 0, st := List.replicate n 0, b := b, i := 0 }

theorem appC_nil {h0 h : Heap} {F : List Nat} {L : List Ent} (H : Hp h0 F h L) {t : TypeId} {by_ : Nat} {z : Value} {src : Option Addr} {new : List Value} (hr : rdO h src (0 * 1) new) {K : Option Addr → Nat → Nat → Heap → Prop} (hk : K none 0 0 h) :
    appC h t 1 by_ [z] none 0 0 src 0 K := ⟨new, hr, by rw [if_pos (Nat.le_refl _)]; exact hk⟩

set_option maxRecDepth 100000 in
theorem newDecoder_ok {hB : Heap} {n : Nat} (h1 : 1 ≤ n) (h2 : n ≤ 131072) {b : List Nat} (hb : ∀ x ∈ b, x < 256) (hbl : b.length < 140737488351300) {src : Option Addr} {bc0 : Nat} (hr : rdO hB src (b.length * 1) (u8s b)) {K : Value → Heap → Prop} {Kp : List PanicEntry → Heap → Prop}
    (hk : ∀ p q e bp bc h', BOk e bp b → Hp hB [] h' (decL p q e bp bc (newD b n)) → K (.tuple #[.pointer (at0 p), .int .i64 0]) h') : CP F_arith_NewDecoder #[.slice src b.length bc0, .int .i64 (n : Nat)] hB K Kp := by
  refine call_arith_NewDecoder ?_
  unfold arith_NewDecoder
  refine made_ok h1 h2 fun q h' H => ?_
  refine ⟨tabV q n, tab_length q n, true, rfl, ?_⟩
  refine newC_hp H fun t h H => ?_
  refine needs_of (tab_length q n) ?_
  refine stVs_all H 1 rfl (tab_length q n) (tab_cells q n) fun h' hsz H => ?_
  refine bcase_false (by rfl) ?_
  refine ldAll_hp H 1 rfl (tab_length q n) ?_
  have goal : ∀ (bp : Option Addr) (bc : Nat) (e : Ent) (h2 : Heap), BOk e bp b → Hp hB [] h2 [⟨q, true, T_uint8, u8s (List.replicate n 0)⟩, e] →
      needs ((tabV q n).length = 190 ∧ 0 + 190 ≤ (Z_arith_Decoder).length) (
      needs ((([.int .u32 32768] : List Value)).length = 1 ∧ 190 + 1 ≤ ((putL Z_arith_Decoder 0 (tabV q n))).length) <|
      needs ((([.slice bp b.length bc] : List Value)).length = 1 ∧ 193 + 1 ≤ ((putL (putL Z_arith_Decoder 0 (tabV q n)) 190 ([.int .u32 32768] : List Value))).length) <|
      Go.Den.newC h2 ((putL (putL (putL Z_arith_Decoder 0 (tabV q n)) 190 ([.int .u32 32768] : List Value)) 193 ([.slice bp b.length bc] : List Value))) T_arith_Decoder fun r_11 h_12 =>
      CP F_arith_Decoder_byte #[.pointer (some ⟨r_11, 0, none⟩), .int .i64 0] h_12 (fun v_13 h_14 =>
      ∃ (r_15 : Int), v_13 = .int .u32 r_15 ∧ (
      bindI (shlI .u32 r_15 (16 : Int)) fun z_16 =>
      stV h_14 ((⟨r_11, 0, none⟩ : Addr).add 191) (.int .u32 z_16) fun h_17 =>
      CP F_arith_Decoder_in #[.pointer (some ⟨r_11, 0, none⟩)] h_17 (fun v_18 h_19 =>
      ldI h_19 ((⟨r_11, 0, none⟩ : Addr).add 191) .u32 fun x_20 =>
      bindI (shlI .u32 x_20 (7 : Int)) fun z_21 =>
      stV h_19 ((⟨r_11, 0, none⟩ : Addr).add 191) (.int .u32 z_21) fun h_22 =>
      ldI h_22 ((⟨r_11, 0, none⟩ : Addr).add 192) .i64 fun x_23 =>
      bindI (IntKind.i64.wrap (x_23 - (7 : Int))) fun z_24 =>
      stV h_22 ((⟨r_11, 0, none⟩ : Addr).add 192) (.int .i64 z_24) fun h_25 =>
      K (.tuple #[.pointer (some ⟨r_11, 0, none⟩), .int .i64 0]) h_25) (Kp))) (Kp)) := by
    intro bp bc e h2 hbo H
    refine needs_of ⟨tab_length q n, by decide⟩ ?_
    refine needs_of ⟨rfl, by simp only [putL_length]; decide⟩ ?_
    refine needs_of ⟨rfl, by simp only [putL_length]; decide⟩ ?_
    rw [dec_eq]
    refine newC_hp H fun p h H => ?_
    have H2 := H.pick [2, 0, 1] (by decide) (L' := decL p q e bp bc (dec0 b n)) (by simp [decL, decE, dec0])
    have H := H2
    clear H2
    have hb0 := byteD_lt (s := dec0 b n) hb 0
    refine byte_ok (i := 0) H hbo hb ?_
    refine ⟨_, rfl, ?_⟩
    refine bindI_of (((byteD (dec0 b n) 0 * 65536 : Nat) : Int)) (by exact shl_of (i := 16) (by decide) (u32_in _ (by omega))) ?_
    try simp only [ptr_some_eq, add_mk, Nat.zero_add, Nat.add_zero]
    refine stV_hr H 0 rfl hR 3 (Nat.le_of_ble_eq_true rfl) rfl fun h hsz H => ?_
    have H2 : Hp _ [] h (decL p q e bp bc { dec0 b n with c := byteD (dec0 b n) 0 * 65536 }) := H
    have hm : MidD { dec0 b n with c := byteD (dec0 b n) 0 * 65536 } := ⟨Nat.zero_le _, by show byteD (dec0 b n) 0 * 65536 < 4294967296; omega, hb, fun x hx => by simp only [dec0, List.mem_replicate] at hx; omega, Nat.zero_le _⟩
    obtain ⟨i1, i2, i3, i4, i5, i6⟩ := inD_mid hm
    refine in_ok H2 hbo hm hbl fun h H => ?_
    have hn : newD b n = { inD { dec0 b n with c := byteD (dec0 b n) 0 * 65536 } with c := (inD { dec0 b n with c := byteD (dec0 b n) 0 * 65536 }).c * 128 % M32, t := (inD { dec0 b n with c := byteD (dec0 b n) 0 * 65536 }).t - 7 } := rfl
    have ht7 : 7 ≤ (inD { dec0 b n with c := byteD (dec0 b n) 0 * 65536 }).t := by
      unfold inD
      split
      · show 7 ≤ 8; omega
      · split
        · show 7 ≤ 8; omega
        · show 7 ≤ 7; omega
    generalize inD { dec0 b n with c := byteD (dec0 b n) 0 * 65536 } = S at H hn i1 ht7
    have hSc := i1.c
    have hSt := i1.t8
    have hM : M32 = 4294967296 := rfl
    refine ldI_of (H.cell 0 rfl (app_get hR 3 rfl)) ?_
    refine bindI_of (((S.c * 128 % M32 : Nat) : Int)) (by exact shl_of (i := 7) (by decide) (by rw [IntKind.wrap_u32, hM]; omega)) ?_
    refine stV_hr H 0 rfl hR 3 (Nat.le_of_ble_eq_true rfl) rfl fun h hsz H => ?_
    refine ldI_of (H.cell 0 rfl (app_get hR 4 rfl)) ?_
    refine bindI_of (((S.t - 7 : Nat) : Int)) (by exact i64_at _ _ (by omega) (by omega) (by omega)) ?_
    refine stV_hr H 0 rfl hR 4 (Nat.le_of_ble_eq_true rfl) rfl fun h hsz H => ?_
    refine hk p q e bp bc _ hbo ?_
    rw [hn]
    exact H
  have hr2 := H.rdO hr
  rcases Nat.eq_zero_or_pos b.length with hz | hpos
  · have hbn : b = [] := List.length_eq_zero_iff.1 hz
    rw [hz] at hr2 goal ⊢
    refine appC_nil H hr2 ⟨hext.refl _, ?_⟩
    exact goal none 0 ⟨t, true, T_arith_table, tabV q n⟩ _ ⟨rfl, .inl hbn⟩ H
  · refine appC_new H hr2 (u8s_length b) hpos (by omega) fun o rest h' he H' => ⟨he, ?_⟩
    · exact goal (some ⟨o, 0, none⟩) _ ⟨o, true, T_uint8, u8s b ++ rest⟩ _ ⟨rfl, .inr ⟨rest, rfl, rfl⟩⟩ (H'.pick [0, 2] (by decide) rfl)

/-! ### Get -/
theorem getD_at (s : Dec) (k x : Nat) (hx : s.st[k]? = some x) : getD s k =
  if s.c / 65536 < qOf (x / 2) then
    if s.a - qOf (x / 2) < qOf (x / 2) then (renewD 17 { s with a := qOf (x / 2), n := s.n + 1, st := s.st.set k (upM x) }, x % 2)
    else (renewD 17 { s with a := qOf (x / 2), n := s.n + 1, st := s.st.set k (upL x) }, 1 - x % 2)
  else
    if 0x8000 ≤ s.a - qOf (x / 2) then ({ s with a := s.a - qOf (x / 2), c := s.c - qOf (x / 2) * 65536, n := s.n + 1 }, x % 2)
    else if s.a - qOf (x / 2) < qOf (x / 2) then (renewD 17 { s with a := s.a - qOf (x / 2), c := s.c - qOf (x / 2) * 65536, n := s.n + 1, st := s.st.set k (upL x) }, 1 - x % 2)
    else (renewD 17 { s with a := s.a - qOf (x / 2), c := s.c - qOf (x / 2) * 65536, n := s.n + 1, st := s.st.set k (upM x) }, x % 2) := by
  rw [← getD_of hx]; rfl
theorem xor_one {y : Nat} (hy : y < 2) : y ^^^ 1 = 1 - y := by
  have : ∀ y ∈ List.range 2, y ^^^ 1 = 1 - y := by decide
  exact this y (List.mem_range.2 hy)

theorem get_ok {h : Heap} {p q : Nat} {e : Ent} {bp : Option Addr} {bc : Nat} {s : Dec} {F : List Nat} {h0 : Heap} (H : Hp h0 F h (decL p q e bp bc s)) (hb : BOk e bp s.b) (hs : WfD s) (hbl : s.b.length < 140737488351300) (hn : s.n < 16777216) (hl : 1 ≤ s.st.length) (hl2 : s.st.length ≤ 131072)
    {ctx : Int} {K : Value → Heap → Prop} {Kp : List PanicEntry → Heap → Prop} (hk : ∀ h', Hp h0 F h' (decL p q e bp bc (getD s (idx ctx s.st.length)).1) → K (.tuple #[.int .i64 ((getD s (idx ctx s.st.length)).2 : Nat), .int .i64 0]) h') :
    CP F_arith_Decoder_Get #[.pointer (at0 p), .int .i64 ctx] h K Kp := by
  refine call_arith_Decoder_Get ?_
  unfold arith_Decoder_Get
  try simp only [ptr_some_eq, add_mk, Nat.zero_add, Nat.add_zero]
  refine ldI_of (H.cell 0 rfl (app_get hR 1 rfl)) ?_
  refine bcase_false (by simp; omega) ?_
  refine ldI_of (H.cell 0 rfl (app_get hR 1 rfl)) ?_
  refine bindI_of (((s.n + 1 : Nat) : Int)) (by exact i64_at _ _ (by omega) (by omega) (by omega)) ?_
  refine stV_hr H 0 rfl hR 1 (Nat.le_of_ble_eq_true rfl) rfl fun h hsz H => ?_
  refine at_ok H 0 1 rfl rfl hl hl2 hs.st fun h x hx hx94 H => ?_
  refine ⟨_, _, _, _, _, rfl, ?_⟩
  refine newC_hp H fun w h H => ?_
  try simp only [ptr_some_eq, add_mk, Nat.zero_add, Nat.add_zero]
  refine stV_hp H 3 rfl (by first | exact Nat.le_of_ble_eq_true rfl | simp) rfl fun h hsz H => ?_
  refine stV_hp H 3 rfl (by first | exact Nat.le_of_ble_eq_true rfl | simp) rfl fun h hsz H => ?_
  refine stV_hp H 3 rfl (by first | exact Nat.le_of_ble_eq_true rfl | simp) rfl fun h hsz H => ?_
  refine stV_hp H 3 rfl (by first | exact Nat.le_of_ble_eq_true rfl | simp) rfl fun h hsz H => ?_
  refine ldI_of (H.cell 1 rfl (u8s_get hx)) ?_
  refine bindI_of (((x % 2 : Nat) : Int)) (by exact (and8 _ 1 (by omega) (by omega)).trans (by rw [Nat.and_one_is_mod])) ?_
  refine bindI_of (((x % 2 : Nat) : Int)) (by exact i64_in _ (by omega) (by omega)) ?_
  refine ldI_of (H.cell 0 rfl (app_get hR 2 rfl)) ?_
  refine ldI_of (H.cell 3 rfl rfl) ?_
  have hr : x / 2 < 47 := by omega
  have hq1 := qOf_pos hr
  have hq2 := qOf_le hr
  have hlo := hs.lo
  have hhi := hs.hi
  have hc := hs.c
  have hM32 : M32 = 4294967296 := rfl
  have hM := set_lt hs.st (k := idx ctx s.st.length) (upM_lt hx94)
  have hL := set_lt hs.st (k := idx ctx s.st.length) (upL_lt hx94)
  have hil : idx ctx s.st.length < s.st.length := idx_lt ctx hl
  rw [getD_at s _ x hx] at hk
  generalize idx ctx s.st.length = k at hk hM hL hx hil H ⊢
  refine bindI_of (((s.a - qOf (x / 2) : Nat) : Int)) (by exact u32_at _ _ (by omega) (by omega)) ?_
  refine stV_hr H 0 rfl hR 2 (Nat.le_of_ble_eq_true rfl) rfl fun h hsz H => ?_
  refine ldI_of (H.cell 0 rfl (app_get hR 3 rfl)) ?_
  refine bindI_of (((s.c / 65536 : Nat) : Int)) (by exact shr_of (i := 16) (by decide)) ?_
  refine ldI_of (H.cell 3 rfl rfl) ?_
  have hcmp : decide (((s.c / 65536 : Nat) : Int) < ((qOf (x / 2) : Nat) : Int)) = decide (s.c / 65536 < qOf (x / 2)) := by
    by_cases h1 : s.c / 65536 < qOf (x / 2)
    · rw [decide_eq_true h1]; exact decide_eq_true (by omega)
    · rw [decide_eq_false h1]; exact decide_eq_false (by omega)
  rw [hcmp]
  have H2 : Hp h0 F h (decL p q e bp bc { s with a := s.a - qOf (x / 2), n := s.n + 1 } ++ [⟨w, true, T_arith_row, [.int .u32 (qOf (x / 2) : Nat), .int .u8 (mOf (x / 2) : Nat), .int .u8 (lOf (x / 2) : Nat), .int .u8 (cOf (x / 2) : Nat)]⟩]) := H
  have H := H2
  clear H2
  refine ⟨fun vs h' => (s.c / 65536 < qOf (x / 2) ∧ h' = h) ∨ (¬ s.c / 65536 < qOf (x / 2) ∧ ¬ 0x8000 ≤ s.a - qOf (x / 2) ∧ Hp h0 F h' (decL p q e bp bc { s with a := s.a - qOf (x / 2), c := s.c - qOf (x / 2) * 65536, n := s.n + 1 } ++ [⟨w, true, T_arith_row, [.int .u32 (qOf (x / 2) : Nat), .int .u8 (mOf (x / 2) : Nat), .int .u8 (lOf (x / 2) : Nat), .int .u8 (cOf (x / 2) : Nat)]⟩])), ?_, ?_⟩
  · refine bcase_of (fun h1 => ?_) fun h1 => ?_
    · have h1 : ¬ s.c / 65536 < qOf (x / 2) := by simpa using h1
      refine ldI_of (H.cell 0 rfl (app_get hR 3 rfl)) ?_
      refine ldI_of (H.cell 3 rfl rfl) ?_
      refine bindI_of (((qOf (x / 2) * 65536 : Nat) : Int)) (by exact shl_of (i := 16) (by decide) (u32_in _ (by omega))) ?_
      refine bindI_of (((s.c - qOf (x / 2) * 65536 : Nat) : Int)) (by exact u32_at _ _ (by show (s.c : Int) - ((qOf (x / 2) * 65536 : Nat) : Int) = _; omega) (by omega)) ?_
      refine stV_hr H 0 rfl hR 3 (Nat.le_of_ble_eq_true rfl) rfl fun h hsz H => ?_
      refine ldI_of (H.cell 0 rfl (app_get hR 2 rfl)) ?_
      refine bcase_of (fun h2 => ?_) fun h2 => ?_
      · have h2 : 0x8000 ≤ s.a - qOf (x / 2) := by simp at h2; omega
        rw [if_neg h1, if_pos h2] at hk
        exact hk _ (H.take 3)
      · have h2 : ¬ 0x8000 ≤ s.a - qOf (x / 2) := by simp at h2; omega
        exact .inr ⟨h1, h2, H⟩
    · have h1 : s.c / 65536 < qOf (x / 2) := by simpa using h1
      exact .inl ⟨h1, rfl⟩
  · rintro h' u (⟨h1, rfl⟩ | ⟨h1, h2, H'⟩)
    · rw [decide_eq_true h1]
      rw [if_pos h1] at hk
      refine ⟨fun vs h'' => (s.a - qOf (x / 2) < qOf (x / 2) ∧ vs = [.int .i64 ((x % 2 : Nat) : Int)] ∧ Hp h0 F h'' (decL p q e bp bc { s with a := s.a - qOf (x / 2), n := s.n + 1, st := s.st.set k (upM x) } ++ [⟨w, true, T_arith_row, [.int .u32 (qOf (x / 2) : Nat), .int .u8 (mOf (x / 2) : Nat), .int .u8 (lOf (x / 2) : Nat), .int .u8 (cOf (x / 2) : Nat)]⟩])) ∨
        (¬ s.a - qOf (x / 2) < qOf (x / 2) ∧ vs = [.int .i64 ((1 - x % 2 : Nat) : Int)] ∧ Hp h0 F h'' (decL p q e bp bc { s with a := s.a - qOf (x / 2), n := s.n + 1, st := s.st.set k (upL x) } ++ [⟨w, true, T_arith_row, [.int .u32 (qOf (x / 2) : Nat), .int .u8 (mOf (x / 2) : Nat), .int .u8 (lOf (x / 2) : Nat), .int .u8 (cOf (x / 2) : Nat)]⟩])), ?_, ?_⟩
      · refine ldI_of (H.cell 0 rfl (app_get hR 2 rfl)) ?_
        refine ldI_of (H.cell 3 rfl rfl) ?_
        refine bcase_of (fun h3 => ?_) fun h3 => ?_
        · have h3 : s.a - qOf (x / 2) < qOf (x / 2) := by simp at h3; omega
          refine ldI_of (H.cell 3 rfl rfl) ?_
          refine ldI_of (H.cell 3 rfl rfl) ?_
          refine ldI_of (H.cell 3 rfl rfl) ?_
          refine ldI_of (H.cell 3 rfl rfl) ?_
          refine likely_ok H 1 rfl hx hx94 rfl fun h H => ?_
          exact .inl ⟨h3, rfl, H.as (by simp [decL, decE, drest])⟩
        · have h3 : ¬ s.a - qOf (x / 2) < qOf (x / 2) := by simp at h3; omega
          refine bindI_of (((1 - x % 2 : Nat) : Int)) (by exact (xor63 _ 1 (by omega) (by omega)).trans (by rw [xor_one (by omega)])) ?_
          refine ldI_of (H.cell 3 rfl rfl) ?_
          refine ldI_of (H.cell 3 rfl rfl) ?_
          refine ldI_of (H.cell 3 rfl rfl) ?_
          refine ldI_of (H.cell 3 rfl rfl) ?_
          refine unlikely_ok H 1 rfl hx hx94 rfl rfl fun h H => ?_
          exact .inr ⟨h3, rfl, H.as (by simp [decL, decE, drest])⟩
      · rintro h'' u y (⟨h3, hy, H⟩ | ⟨h3, hy, H⟩)
        · injection hy with hy
          injection hy with _ hy
          subst hy
          rw [if_pos h3] at hk
          refine bcase_true (by rfl) ?_
          refine ldI_of (H.cell 3 rfl rfl) ?_
          refine stV_hr H 0 rfl hR 2 (Nat.le_of_ble_eq_true rfl) rfl fun h hsz H => ?_
          exact renewD_ok (s := { s with a := qOf (x / 2), n := s.n + 1, st := s.st.set k (upM x) }) (H.take 3) hb ⟨hs.t8, hc, hs.b, hM, hs.i⟩ hbl hq1 (by show qOf _ < _; omega) hk
        · injection hy with hy
          injection hy with _ hy
          subst hy
          rw [if_neg h3] at hk
          refine bcase_true (by rfl) ?_
          refine ldI_of (H.cell 3 rfl rfl) ?_
          refine stV_hr H 0 rfl hR 2 (Nat.le_of_ble_eq_true rfl) rfl fun h hsz H => ?_
          exact renewD_ok (s := { s with a := qOf (x / 2), n := s.n + 1, st := s.st.set k (upL x) }) (H.take 3) hb ⟨hs.t8, hc, hs.b, hL, hs.i⟩ hbl hq1 (by show qOf _ < _; omega) hk
    · have H := H'
      clear H'
      rw [decide_eq_false h1]
      rw [if_neg h1, if_neg h2] at hk
      have hc' : s.c - qOf (x / 2) * 65536 < M32 := by omega
      refine ⟨fun vs h'' => (s.a - qOf (x / 2) < qOf (x / 2) ∧ vs = [.int .i64 ((1 - x % 2 : Nat) : Int)] ∧ Hp h0 F h'' (decL p q e bp bc { s with a := s.a - qOf (x / 2), c := s.c - qOf (x / 2) * 65536, n := s.n + 1, st := s.st.set k (upL x) } ++ [⟨w, true, T_arith_row, [.int .u32 (qOf (x / 2) : Nat), .int .u8 (mOf (x / 2) : Nat), .int .u8 (lOf (x / 2) : Nat), .int .u8 (cOf (x / 2) : Nat)]⟩])) ∨
        (¬ s.a - qOf (x / 2) < qOf (x / 2) ∧ vs = [.int .i64 ((x % 2 : Nat) : Int)] ∧ Hp h0 F h'' (decL p q e bp bc { s with a := s.a - qOf (x / 2), c := s.c - qOf (x / 2) * 65536, n := s.n + 1, st := s.st.set k (upM x) } ++ [⟨w, true, T_arith_row, [.int .u32 (qOf (x / 2) : Nat), .int .u8 (mOf (x / 2) : Nat), .int .u8 (lOf (x / 2) : Nat), .int .u8 (cOf (x / 2) : Nat)]⟩])), ?_, ?_⟩
      · refine ldI_of (H.cell 0 rfl (app_get hR 2 rfl)) ?_
        refine ldI_of (H.cell 3 rfl rfl) ?_
        refine bcase_of (fun h3 => ?_) fun h3 => ?_
        · have h3 : ¬ s.a - qOf (x / 2) < qOf (x / 2) := by simp at h3; omega
          refine ldI_of (H.cell 3 rfl rfl) ?_
          refine ldI_of (H.cell 3 rfl rfl) ?_
          refine ldI_of (H.cell 3 rfl rfl) ?_
          refine ldI_of (H.cell 3 rfl rfl) ?_
          refine likely_ok H 1 rfl hx hx94 rfl fun h H => ?_
          exact .inr ⟨h3, rfl, H.as (by simp [decL, decE, drest])⟩
        · have h3 : s.a - qOf (x / 2) < qOf (x / 2) := by simp at h3; omega
          refine bindI_of (((1 - x % 2 : Nat) : Int)) (by exact (xor63 _ 1 (by omega) (by omega)).trans (by rw [xor_one (by omega)])) ?_
          refine ldI_of (H.cell 3 rfl rfl) ?_
          refine ldI_of (H.cell 3 rfl rfl) ?_
          refine ldI_of (H.cell 3 rfl rfl) ?_
          refine ldI_of (H.cell 3 rfl rfl) ?_
          refine unlikely_ok H 1 rfl hx hx94 rfl rfl fun h H => ?_
          exact .inl ⟨h3, rfl, H.as (by simp [decL, decE, drest])⟩
      · rintro h'' u y (⟨h3, hy, H⟩ | ⟨h3, hy, H⟩)
        · injection hy with hy
          injection hy with _ hy
          subst hy
          rw [if_pos h3] at hk
          refine bcase_false (by rfl) ?_
          exact renewD_ok (s := { s with a := s.a - qOf (x / 2), c := s.c - qOf (x / 2) * 65536, n := s.n + 1, st := s.st.set k (upL x) }) (H.take 3) hb ⟨hs.t8, hc', hs.b, hL, hs.i⟩ hbl (by show 1 ≤ s.a - _; omega) (by show s.a - _ < _; omega) hk
        · injection hy with hy
          injection hy with _ hy
          subst hy
          rw [if_neg h3] at hk
          refine bcase_false (by rfl) ?_
          exact renewD_ok (s := { s with a := s.a - qOf (x / 2), c := s.c - qOf (x / 2) * 65536, n := s.n + 1, st := s.st.set k (upM x) }) (H.take 3) hb ⟨hs.t8, hc', hs.b, hM, hs.i⟩ hbl (by show 1 ≤ s.a - _; omega) (by show s.a - _ < _; omega) hk

end Go.Ar
