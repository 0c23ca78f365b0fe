/- W3: put together by wip/tools/bundle.py: ArD Mburinkit Bburinkit RnA RnB RnC Mburinref0 Bburinref0 ArE GnJa BmA Mbitmap Bbitmap Mslices Bslices. -/
import Derived.Test.YteakipgcanafoaaW1
import Derived.Test.YteakipgcanafoaaW2
import Derived.Test.YteakipgcanafoaaProg
import Derived.OrdersHeld
import Derived.OrdersIn
import Derived.TacticsIn
import Derived.RangeFuncSeq
import Derived.RangeFuncLeaves

/- ArD: a decoder in memory; what its functions do with it. -/
set_option linter.unusedVariables false
set_option linter.unusedSimpArgs false
namespace Go.Ar
open Go Go.Den Go.Den.Yteakipgcanafoaa

/-- The row of a decoder's bytes: where there are none, any row of its own. -/
def BOk (e : Ent) (bp : Option Addr) (b : List Nat) : Prop := e.w = true ∧ (b = [] ∨ ∃ rest, bp = some ⟨e.b, 0, none⟩ ∧ e.cs = u8s b ++ rest)
def drest (q nst n a c : Nat) (t : Int) (bp : Option Addr) (bl bc : Nat) (i : Nat) : List Value :=
  [.slice (some ⟨q, 0, none⟩) nst nst, .int .i64 (n : Nat), .int .u32 (a : Nat), .int .u32 (c : Nat), .int .i64 t, .slice bp bl bc, .int .i64 (i : Nat)]
def decE (p q : Nat) (bp : Option Addr) (bc : Nat) (s : Dec) : Ent :=
  ⟨p, true, T_arith_Decoder, rowsV ++ drest q s.st.length s.n s.a s.c (s.t : Nat) bp s.b.length bc s.i⟩
def decL (p q : Nat) (e : Ent) (bp : Option Addr) (bc : Nat) (s : Dec) : List Ent := [decE p q bp bc s, ⟨q, true, T_uint8, u8s s.st⟩, e]

theorem byte_ok {h : Heap} {p q : Nat} {e : Ent} {bp : Option Addr} {bc : Nat} {s : Dec} {F : List Nat} {h0 : Heap} (H : Hp h0 F h (decL p q e bp bc s)) (hb : BOk e bp s.b) (hb8 : ∀ x ∈ s.b, x < 256) {i : Nat}
    {K : Value → Heap → Prop} {Kp : List PanicEntry → Heap → Prop} (hk : K (.int .u32 (byteD s i : Nat)) h) : CP F_arith_Decoder_byte #[.pointer (at0 p), .int .i64 (i : Nat)] h K Kp := by
  refine call_arith_Decoder_byte ?_
  unfold arith_Decoder_byte
  try simp only [ptr_some_eq, add_mk, Nat.zero_add, Nat.add_zero]
  refine ldS_of (H.cell 0 rfl (app_get hR 5 rfl)) ?_
  refine bcase_of (fun h1 => ?_) fun h1 => ?_
  · have h1 : i < s.b.length := by simp at h1; omega
    obtain ⟨_, hb | ⟨rest, hbp, he⟩⟩ := hb
    · rw [hb] at h1; simp at h1
    · have hg : s.b[i]? = some (byteD s i) := by
        unfold byteD
        rw [List.getD_eq_getElem?_getD, List.getElem?_eq_getElem h1]; rfl
      have hlt := byteD_lt hb8 (s := s) i
      refine ldS_of (H.cell 0 rfl (app_get hR 5 rfl)) ?_
      refine needs_of (by omega) ?_
      rw [hbp]
      simp only [Int.toNat_natCast, Nat.mul_one]
      try simp only [ptr_some_eq, add_mk, Nat.zero_add, Nat.add_zero]
      refine ldI_of (H.cell 2 rfl (i := i) (by rw [he]; exact get_app (u8s_get hg))) ?_
      refine bindI_of (((byteD s i : Nat) : Int)) (by exact u32_in _ (by omega)) ?_
      exact hk
  · have h1 : s.b.length ≤ i := by simp at h1; omega
    have hg : byteD s i = 255 := by
      unfold byteD
      rw [List.getD_eq_getElem?_getD, List.getElem?_eq_none h1]; rfl
    rw [hg] at hk
    exact hk

theorem inD_eq (s : Dec) : inD s =
  if byteD s s.i ≠ 255 then { s with i := s.i + 1, c := (s.c + byteD s (s.i + 1) * 256) % M32, t := 8 }
  else if byteD s (s.i + 1) > 143 then { s with c := (s.c + 65280) % M32, t := 8 }
  else { s with i := s.i + 1, c := (s.c + byteD s (s.i + 1) * 512) % M32, t := 7 } := rfl
theorem in_ok {h : Heap} {p q : Nat} {e : Ent} {bp : Option Addr} {bc : Nat} {s : Dec} {F : List Nat} {h0 : Heap} (H : Hp h0 F h (decL p q e bp bc s)) (hb : BOk e bp s.b) (hs : MidD s) (hbl : s.b.length < 140737488351300)
    {K : Value → Heap → Prop} {Kp : List PanicEntry → Heap → Prop} (hk : ∀ h', Hp h0 F h' (decL p q e bp bc (inD s)) → K (.tuple #[]) h') : CP F_arith_Decoder_in #[.pointer (at0 p)] h K Kp := by
  refine call_arith_Decoder_in ?_
  unfold arith_Decoder_in
  have hi := hs.i
  have hc := hs.c
  have hM : M32 = 4294967296 := rfl
  have hb1 := byteD_lt hs.b (s := s) (s.i + 1)
  have hb0 := byteD_lt hs.b (s := s) s.i
  try simp only [ptr_some_eq, add_mk, Nat.zero_add, Nat.add_zero]
  refine ldI_of (H.cell 0 rfl (app_get hR 6 rfl)) ?_
  refine byte_ok H hb hs.b ?_
  refine ⟨_, rfl, ?_⟩
  rw [inD_eq] at hk
  refine bcase_of (fun h1 => ?_) fun h1 => ?_
  · have h1 : byteD s s.i ≠ 255 := by simp at h1; omega
    rw [if_pos h1] at hk
    refine ldI_of (H.cell 0 rfl (app_get hR 6 rfl)) ?_
    refine bindI_of (((s.i + 1 : Nat) : Int)) (by exact i64_at _ _ (by omega) (by omega) (by omega)) ?_
    refine stV_hr H 0 rfl hR 6 (Nat.le_of_ble_eq_true rfl) rfl fun h hsz H => ?_
    refine ldI_of (H.cell 0 rfl (app_get hR 3 rfl)) ?_
    refine ldI_of (H.cell 0 rfl (app_get hR 6 rfl)) ?_
    have H2 : Hp h0 F h (decL p q e bp bc { s with i := s.i + 1 }) := H
    refine byte_ok H2 hb hs.b ?_
    refine ⟨_, rfl, hext.refl _, ?_⟩
    have hb2 : byteD { s with i := s.i + 1 } (s.i + 1) = byteD s (s.i + 1) := rfl
    rw [hb2]
    refine bindI_of (((byteD s (s.i + 1) * 256 : Nat) : Int)) (by exact shl_of (i := 8) (by decide) (u32_in _ (by omega))) ?_
    refine bindI_of ((((s.c + byteD s (s.i + 1) * 256) % M32 : Nat) : Int)) (by rw [IntKind.wrap_u32, hM]; omega) ?_
    refine stV_hr H 0 rfl hR 3 (Nat.le_of_ble_eq_true rfl) rfl fun h hsz H => ?_
    refine stV_hr H 0 rfl hR 4 (Nat.le_of_ble_eq_true rfl) rfl fun h hsz H => ?_
    exact hk _ H
  · have h1 : ¬ byteD s s.i ≠ 255 := by simp at h1; omega
    rw [if_neg h1] at hk
    refine ldI_of (H.cell 0 rfl (app_get hR 6 rfl)) ?_
    refine bindI_of (((s.i + 1 : Nat) : Int)) (by exact i64_at _ _ (by omega) (by omega) (by omega)) ?_
    refine byte_ok H hb hs.b ?_
    refine ⟨_, rfl, ?_⟩
    refine bcase_of (fun h2 => ?_) fun h2 => ?_
    · have h2 : byteD s (s.i + 1) > 143 := by simp at h2; omega
      rw [if_pos h2] at hk
      refine ldI_of (H.cell 0 rfl (app_get hR 3 rfl)) ?_
      refine bindI_of ((((s.c + 65280) % M32 : Nat) : Int)) (by rw [IntKind.wrap_u32, hM]; omega) ?_
      refine stV_hr H 0 rfl hR 3 (Nat.le_of_ble_eq_true rfl) rfl fun h hsz H => ?_
      refine stV_hr H 0 rfl hR 4 (Nat.le_of_ble_eq_true rfl) rfl fun h hsz H => ?_
      exact hk _ H
    · have h2 : ¬ byteD s (s.i + 1) > 143 := by simp at h2; omega
      rw [if_neg h2] at hk
      refine ldI_of (H.cell 0 rfl (app_get hR 6 rfl)) ?_
      refine bindI_of (((s.i + 1 : Nat) : Int)) (by exact i64_at _ _ (by omega) (by omega) (by omega)) ?_
      refine stV_hr H 0 rfl hR 6 (Nat.le_of_ble_eq_true rfl) rfl fun h hsz H => ?_
      refine ldI_of (H.cell 0 rfl (app_get hR 3 rfl)) ?_
      refine ldI_of (H.cell 0 rfl (app_get hR 6 rfl)) ?_
      have H2 : Hp h0 F h (decL p q e bp bc { s with i := s.i + 1 }) := H
      refine byte_ok H2 hb hs.b ?_
      refine ⟨_, rfl, hext.refl _, ?_⟩
      have hb2 : byteD { s with i := s.i + 1 } (s.i + 1) = byteD s (s.i + 1) := rfl
      rw [hb2]
      refine bindI_of (((byteD s (s.i + 1) * 512 : Nat) : Int)) (by exact shl_of (i := 9) (by decide) (u32_in _ (by omega))) ?_
      refine bindI_of ((((s.c + byteD s (s.i + 1) * 512) % M32 : Nat) : Int)) (by rw [IntKind.wrap_u32, hM]; omega) ?_
      refine stV_hr H 0 rfl hR 3 (Nat.le_of_ble_eq_true rfl) rfl fun h hsz H => ?_
      refine stV_hr H 0 rfl hR 4 (Nat.le_of_ble_eq_true rfl) rfl fun h hsz H => ?_
      exact hk _ H

theorem shiftD_eq (s : Dec) : shiftD s = { (if s.t = 0 then inD s else s) with a := 2 * (if s.t = 0 then inD s else s).a, c := 2 * (if s.t = 0 then inD s else s).c % M32, t := (if s.t = 0 then inD s else s).t - 1 } := rfl
theorem renewD_succ (n : Nat) (s : Dec) : renewD (n + 1) s = if 0x8000 ≤ (shiftD s).a then shiftD s else renewD n (shiftD s) := rfl

theorem renewD_ok {h : Heap} {p q : Nat} {e : Ent} {bp : Option Addr} {bc : Nat} {s : Dec} {F : List Nat} {h0 : Heap} (H : Hp h0 F h (decL p q e bp bc s)) (hb : BOk e bp s.b) (hs : MidD s) (hbl : s.b.length < 140737488351300) (ha : 1 ≤ s.a) (ha' : s.a < 0x8000)
    {K : Value → Heap → Prop} {Kp : List PanicEntry → Heap → Prop} (hk : ∀ h', Hp h0 F h' (decL p q e bp bc (renewD 17 s)) → K (.tuple #[]) h') : CP F_arith_Decoder_renew #[.pointer (at0 p)] h K Kp := by
  refine call_arith_Decoder_renew ?_
  unfold arith_Decoder_renew
  refine ⟨fun n vs h' => ∃ s' : Dec, Hp h0 F h' (decL p q e bp bc s') ∧ MidD s' ∧ s'.a < 0x8000 ∧ 0x8000 ≤ s'.a * 2 ^ n ∧ renewD n s' = renewD 17 s ∧ s'.b = s.b,
    ⟨17, s, H, hs, ha', by have : (2 : Nat) ^ 17 = 131072 := rfl; omega, rfl, rfl⟩, ?_⟩
  clear H
  rintro n h u ⟨s', H, hm, hlt, hge, he, hbe⟩
  obtain ⟨n, rfl⟩ : ∃ m, n = m + 1 := by
    cases n with
    | zero => simp at hge; omega
    | succ m => exact ⟨m, rfl⟩
  obtain ⟨g1, g2, g3, g4, g5⟩ := shiftD_mid hm
  have hnext : 0x8000 ≤ (shiftD s').a * 2 ^ n := by
    rw [g2]
    rw [Nat.pow_succ] at hge
    have : s'.a * (2 ^ n * 2) = 2 * s'.a * 2 ^ n := by rw [Nat.mul_comm (2 ^ n) 2, ← Nat.mul_assoc, Nat.mul_comm s'.a 2]
    omega
  rw [renewD_succ] at he
  rw [← hbe] at hb hbl
  refine ⟨fun vs h' => Hp h0 F h' (decL p q e bp bc (if s'.t = 0 then inD s' else s')), ?_, ?_⟩
  · try simp only [ptr_some_eq, add_mk, Nat.zero_add, Nat.add_zero]
    refine ldI_of (H.cell 0 rfl (app_get hR 4 rfl)) ?_
    refine bcase_of (fun h1 => ?_) fun h1 => ?_
    · have h1 : s'.t = 0 := by simp at h1; omega
      refine in_ok H hb hm hbl fun h' H => ?_
      rw [if_pos h1]
      exact H
    · have h1 : ¬ s'.t = 0 := by simp at h1; omega
      rw [if_neg h1]
      exact H
  · intro h u H
    rw [shiftD_eq] at g1 g2 g5 hnext he
    have hS : MidD (if s'.t = 0 then inD s' else s') ∧ (if s'.t = 0 then inD s' else s').a = s'.a ∧ 1 ≤ (if s'.t = 0 then inD s' else s').t := by
      split
      · obtain ⟨i1, i2, _, _, _, i6⟩ := inD_mid hm
        exact ⟨i1, i2, i6⟩
      · exact ⟨hm, rfl, by omega⟩
    generalize (if s'.t = 0 then inD s' else s') = S at H g1 g2 g5 hnext he hS
    obtain ⟨hS1, hS2, hS3⟩ := hS
    have hSc := hS1.c
    have hSt := hS1.t8
    have hM : M32 = 4294967296 := rfl
    try simp only [ptr_some_eq, add_mk, Nat.zero_add, Nat.add_zero]
    refine ldI_of (H.cell 0 rfl (app_get hR 2 rfl)) ?_
    refine bindI_of (((2 * S.a : Nat) : Int)) (by exact shl_of (i := 1) (by decide) ((u32_in _ (by omega)).trans (by omega))) ?_
    refine stV_hr H 0 rfl hR 2 (Nat.le_of_ble_eq_true rfl) rfl fun h hsz H => ?_
    refine ldI_of (H.cell 0 rfl (app_get hR 3 rfl)) ?_
    refine bindI_of (((2 * S.c % M32 : Nat) : Int)) (by exact shl_of (i := 1) (by decide) (by rw [IntKind.wrap_u32, hM]; omega)) ?_
    refine stV_hr H 0 rfl hR 3 (Nat.le_of_ble_eq_true rfl) rfl fun h hsz H => ?_
    refine ldI_of (H.cell 0 rfl (app_get hR 4 rfl)) ?_
    refine bindI_of (((S.t - 1 : Nat) : Int)) (by exact i64_at _ _ (by omega) (by omega) (by omega)) ?_
    refine stV_hr H 0 rfl hR 4 (Nat.le_of_ble_eq_true rfl) rfl fun h hsz H => ?_
    refine ldI_of (H.cell 0 rfl (app_get hR 2 rfl)) ?_
    have H2 : Hp h0 F h (decL p q e bp bc { S with a := 2 * S.a, c := 2 * S.c % M32, t := S.t - 1 }) := H
    refine bcase_of (fun h3 => ?_) fun h3 => ?_
    · have h3 : 0x8000 ≤ 2 * S.a := by simp at h3; omega
      rw [if_pos h3] at he
      exact hk _ (he ▸ H2)
    · have h3 : ¬ 0x8000 ≤ 2 * S.a := by simp at h3; omega
      rw [if_neg h3] at he
      exact ⟨n, Nat.lt_succ_self n, _, H2, g1, by show 2 * S.a < _; omega, hnext, he, g5.trans hbe⟩

/-! ### NewDecoder -/
theorem dec_eq (q n : Nat) (bp : Option Addr) (bl bc : Nat) : putL (putL (putL Z_arith_Decoder 0 (tabV q n)) 190 ([.int .u32 32768] : List Value)) 193 ([.slice bp bl bc] : List Value) = rowsV ++ drest q n 0 0x8000 0 0 bp bl bc 0 := by kernel_rfl

/-- What NewDecoder has behind its first lines. -/
def dec0 (b : List Nat) (n : Nat) : Dec := { a := 0x8000, c := 0, t := 0, n := 0, st := List.replicate n 0, b := b, i := 0 }

theorem appC_nil {h0 h : Heap} {F : List Nat} {L : List Ent} (H : Hp h0 F h L) {t : TypeId} {by_ : Nat} {z : Value} {src : Option Addr} {new : List Value} (hr : rdO h src (0 * 1) new) {K : Option Addr → Nat → Nat → Heap → Prop} (hk : K none 0 0 h) :
    appC h t 1 by_ [z] none 0 0 src 0 K := ⟨new, hr, by rw [if_pos (Nat.le_refl _)]; exact hk⟩

set_option maxRecDepth 100000 in
theorem newDecoder_ok {hB : Heap} {n : Nat} (h1 : 1 ≤ n) (h2 : n ≤ 131072) {b : List Nat} (hb : ∀ x ∈ b, x < 256) (hbl : b.length < 140737488351300) {src : Option Addr} {bc0 : Nat} (hr : rdO hB src (b.length * 1) (u8s b)) {K : Value → Heap → Prop} {Kp : List PanicEntry → Heap → Prop}
    (hk : ∀ p q e bp bc h', BOk e bp b → Hp hB [] h' (decL p q e bp bc (newD b n)) → K (.tuple #[.pointer (at0 p), .int .i64 0]) h') : CP F_arith_NewDecoder #[.slice src b.length bc0, .int .i64 (n : Nat)] hB K Kp := by
  refine call_arith_NewDecoder ?_
  unfold arith_NewDecoder
  refine made_ok h1 h2 fun q h' H => ?_
  refine ⟨tabV q n, tab_length q n, true, rfl, ?_⟩
  refine newC_hp H fun t h H => ?_
  refine needs_of (tab_length q n) ?_
  refine stVs_all H 1 rfl (tab_length q n) (tab_cells q n) fun h' hsz H => ?_
  refine bcase_false (by rfl) ?_
  refine ldAll_hp H 1 rfl (tab_length q n) ?_
  have goal : ∀ (bp : Option Addr) (bc : Nat) (e : Ent) (h2 : Heap), BOk e bp b → Hp hB [] h2 [⟨q, true, T_uint8, u8s (List.replicate n 0)⟩, e] →
      needs ((tabV q n).length = 190 ∧ 0 + 190 ≤ (Z_arith_Decoder).length) (
      needs ((([.int .u32 32768] : List Value)).length = 1 ∧ 190 + 1 ≤ ((putL Z_arith_Decoder 0 (tabV q n))).length) <|
      needs ((([.slice bp b.length bc] : List Value)).length = 1 ∧ 193 + 1 ≤ ((putL (putL Z_arith_Decoder 0 (tabV q n)) 190 ([.int .u32 32768] : List Value))).length) <|
      Go.Den.newC h2 ((putL (putL (putL Z_arith_Decoder 0 (tabV q n)) 190 ([.int .u32 32768] : List Value)) 193 ([.slice bp b.length bc] : List Value))) T_arith_Decoder fun r_11 h_12 =>
      CP F_arith_Decoder_byte #[.pointer (some ⟨r_11, 0, none⟩), .int .i64 0] h_12 (fun v_13 h_14 =>
      ∃ (r_15 : Int), v_13 = .int .u32 r_15 ∧ (
      bindI (shlI .u32 r_15 (16 : Int)) fun z_16 =>
      stV h_14 ((⟨r_11, 0, none⟩ : Addr).add 191) (.int .u32 z_16) fun h_17 =>
      CP F_arith_Decoder_in #[.pointer (some ⟨r_11, 0, none⟩)] h_17 (fun v_18 h_19 =>
      ldI h_19 ((⟨r_11, 0, none⟩ : Addr).add 191) .u32 fun x_20 =>
      bindI (shlI .u32 x_20 (7 : Int)) fun z_21 =>
      stV h_19 ((⟨r_11, 0, none⟩ : Addr).add 191) (.int .u32 z_21) fun h_22 =>
      ldI h_22 ((⟨r_11, 0, none⟩ : Addr).add 192) .i64 fun x_23 =>
      bindI (IntKind.i64.wrap (x_23 - (7 : Int))) fun z_24 =>
      stV h_22 ((⟨r_11, 0, none⟩ : Addr).add 192) (.int .i64 z_24) fun h_25 =>
      K (.tuple #[.pointer (some ⟨r_11, 0, none⟩), .int .i64 0]) h_25) (Kp))) (Kp)) := by
    intro bp bc e h2 hbo H
    refine needs_of ⟨tab_length q n, by decide⟩ ?_
    refine needs_of ⟨rfl, by simp only [putL_length]; decide⟩ ?_
    refine needs_of ⟨rfl, by simp only [putL_length]; decide⟩ ?_
    rw [dec_eq]
    refine newC_hp H fun p h H => ?_
    have H2 := H.pick [2, 0, 1] (by decide) (L' := decL p q e bp bc (dec0 b n)) (by simp [decL, decE, dec0])
    have H := H2
    clear H2
    have hb0 := byteD_lt (s := dec0 b n) hb 0
    refine byte_ok (i := 0) H hbo hb ?_
    refine ⟨_, rfl, ?_⟩
    refine bindI_of (((byteD (dec0 b n) 0 * 65536 : Nat) : Int)) (by exact shl_of (i := 16) (by decide) (u32_in _ (by omega))) ?_
    try simp only [ptr_some_eq, add_mk, Nat.zero_add, Nat.add_zero]
    refine stV_hr H 0 rfl hR 3 (Nat.le_of_ble_eq_true rfl) rfl fun h hsz H => ?_
    have H2 : Hp _ [] h (decL p q e bp bc { dec0 b n with c := byteD (dec0 b n) 0 * 65536 }) := H
    have hm : MidD { dec0 b n with c := byteD (dec0 b n) 0 * 65536 } := ⟨Nat.zero_le _, by show byteD (dec0 b n) 0 * 65536 < 4294967296; omega, hb, fun x hx => by simp only [dec0, List.mem_replicate] at hx; omega, Nat.zero_le _⟩
    obtain ⟨i1, i2, i3, i4, i5, i6⟩ := inD_mid hm
    refine in_ok H2 hbo hm hbl fun h H => ?_
    have hn : newD b n = { inD { dec0 b n with c := byteD (dec0 b n) 0 * 65536 } with c := (inD { dec0 b n with c := byteD (dec0 b n) 0 * 65536 }).c * 128 % M32, t := (inD { dec0 b n with c := byteD (dec0 b n) 0 * 65536 }).t - 7 } := rfl
    have ht7 : 7 ≤ (inD { dec0 b n with c := byteD (dec0 b n) 0 * 65536 }).t := by
      unfold inD
      split
      · show 7 ≤ 8; omega
      · split
        · show 7 ≤ 8; omega
        · show 7 ≤ 7; omega
    generalize inD { dec0 b n with c := byteD (dec0 b n) 0 * 65536 } = S at H hn i1 ht7
    have hSc := i1.c
    have hSt := i1.t8
    have hM : M32 = 4294967296 := rfl
    refine ldI_of (H.cell 0 rfl (app_get hR 3 rfl)) ?_
    refine bindI_of (((S.c * 128 % M32 : Nat) : Int)) (by exact shl_of (i := 7) (by decide) (by rw [IntKind.wrap_u32, hM]; omega)) ?_
    refine stV_hr H 0 rfl hR 3 (Nat.le_of_ble_eq_true rfl) rfl fun h hsz H => ?_
    refine ldI_of (H.cell 0 rfl (app_get hR 4 rfl)) ?_
    refine bindI_of (((S.t - 7 : Nat) : Int)) (by exact i64_at _ _ (by omega) (by omega) (by omega)) ?_
    refine stV_hr H 0 rfl hR 4 (Nat.le_of_ble_eq_true rfl) rfl fun h hsz H => ?_
    refine hk p q e bp bc _ hbo ?_
    rw [hn]
    exact H
  have hr2 := H.rdO hr
  rcases Nat.eq_zero_or_pos b.length with hz | hpos
  · have hbn : b = [] := List.length_eq_zero_iff.1 hz
    rw [hz] at hr2 goal ⊢
    refine appC_nil H hr2 ⟨hext.refl _, ?_⟩
    exact goal none 0 ⟨t, true, T_arith_table, tabV q n⟩ _ ⟨rfl, .inl hbn⟩ H
  · refine appC_new H hr2 (u8s_length b) hpos (by omega) fun o rest h' he H' => ⟨he, ?_⟩
    · exact goal (some ⟨o, 0, none⟩) _ ⟨o, true, T_uint8, u8s b ++ rest⟩ _ ⟨rfl, .inr ⟨rest, rfl, rfl⟩⟩ (H'.pick [0, 2] (by decide) rfl)

/-! ### Get -/
theorem getD_at (s : Dec) (k x : Nat) (hx : s.st[k]? = some x) : getD s k =
  if s.c / 65536 < qOf (x / 2) then
    if s.a - qOf (x / 2) < qOf (x / 2) then (renewD 17 { s with a := qOf (x / 2), n := s.n + 1, st := s.st.set k (upM x) }, x % 2)
    else (renewD 17 { s with a := qOf (x / 2), n := s.n + 1, st := s.st.set k (upL x) }, 1 - x % 2)
  else
    if 0x8000 ≤ s.a - qOf (x / 2) then ({ s with a := s.a - qOf (x / 2), c := s.c - qOf (x / 2) * 65536, n := s.n + 1 }, x % 2)
    else if s.a - qOf (x / 2) < qOf (x / 2) then (renewD 17 { s with a := s.a - qOf (x / 2), c := s.c - qOf (x / 2) * 65536, n := s.n + 1, st := s.st.set k (upL x) }, 1 - x % 2)
    else (renewD 17 { s with a := s.a - qOf (x / 2), c := s.c - qOf (x / 2) * 65536, n := s.n + 1, st := s.st.set k (upM x) }, x % 2) := by
  rw [← getD_of hx]; rfl
theorem xor_one {y : Nat} (hy : y < 2) : y ^^^ 1 = 1 - y := by
  have : ∀ y ∈ List.range 2, y ^^^ 1 = 1 - y := by decide
  exact this y (List.mem_range.2 hy)

theorem get_ok {h : Heap} {p q : Nat} {e : Ent} {bp : Option Addr} {bc : Nat} {s : Dec} {F : List Nat} {h0 : Heap} (H : Hp h0 F h (decL p q e bp bc s)) (hb : BOk e bp s.b) (hs : WfD s) (hbl : s.b.length < 140737488351300) (hn : s.n < 16777216) (hl : 1 ≤ s.st.length) (hl2 : s.st.length ≤ 131072)
    {ctx : Int} {K : Value → Heap → Prop} {Kp : List PanicEntry → Heap → Prop} (hk : ∀ h', Hp h0 F h' (decL p q e bp bc (getD s (idx ctx s.st.length)).1) → K (.tuple #[.int .i64 ((getD s (idx ctx s.st.length)).2 : Nat), .int .i64 0]) h') :
    CP F_arith_Decoder_Get #[.pointer (at0 p), .int .i64 ctx] h K Kp := by
  refine call_arith_Decoder_Get ?_
  unfold arith_Decoder_Get
  try simp only [ptr_some_eq, add_mk, Nat.zero_add, Nat.add_zero]
  refine ldI_of (H.cell 0 rfl (app_get hR 1 rfl)) ?_
  refine bcase_false (by simp; omega) ?_
  refine ldI_of (H.cell 0 rfl (app_get hR 1 rfl)) ?_
  refine bindI_of (((s.n + 1 : Nat) : Int)) (by exact i64_at _ _ (by omega) (by omega) (by omega)) ?_
  refine stV_hr H 0 rfl hR 1 (Nat.le_of_ble_eq_true rfl) rfl fun h hsz H => ?_
  refine at_ok H 0 1 rfl rfl hl hl2 hs.st fun h x hx hx94 H => ?_
  refine ⟨_, _, _, _, _, rfl, ?_⟩
  refine newC_hp H fun w h H => ?_
  try simp only [ptr_some_eq, add_mk, Nat.zero_add, Nat.add_zero]
  refine stV_hp H 3 rfl (by first | exact Nat.le_of_ble_eq_true rfl | simp) rfl fun h hsz H => ?_
  refine stV_hp H 3 rfl (by first | exact Nat.le_of_ble_eq_true rfl | simp) rfl fun h hsz H => ?_
  refine stV_hp H 3 rfl (by first | exact Nat.le_of_ble_eq_true rfl | simp) rfl fun h hsz H => ?_
  refine stV_hp H 3 rfl (by first | exact Nat.le_of_ble_eq_true rfl | simp) rfl fun h hsz H => ?_
  refine ldI_of (H.cell 1 rfl (u8s_get hx)) ?_
  refine bindI_of (((x % 2 : Nat) : Int)) (by exact (and8 _ 1 (by omega) (by omega)).trans (by rw [Nat.and_one_is_mod])) ?_
  refine bindI_of (((x % 2 : Nat) : Int)) (by exact i64_in _ (by omega) (by omega)) ?_
  refine ldI_of (H.cell 0 rfl (app_get hR 2 rfl)) ?_
  refine ldI_of (H.cell 3 rfl rfl) ?_
  have hr : x / 2 < 47 := by omega
  have hq1 := qOf_pos hr
  have hq2 := qOf_le hr
  have hlo := hs.lo
  have hhi := hs.hi
  have hc := hs.c
  have hM32 : M32 = 4294967296 := rfl
  have hM := set_lt hs.st (k := idx ctx s.st.length) (upM_lt hx94)
  have hL := set_lt hs.st (k := idx ctx s.st.length) (upL_lt hx94)
  have hil : idx ctx s.st.length < s.st.length := idx_lt ctx hl
  rw [getD_at s _ x hx] at hk
  generalize idx ctx s.st.length = k at hk hM hL hx hil H ⊢
  refine bindI_of (((s.a - qOf (x / 2) : Nat) : Int)) (by exact u32_at _ _ (by omega) (by omega)) ?_
  refine stV_hr H 0 rfl hR 2 (Nat.le_of_ble_eq_true rfl) rfl fun h hsz H => ?_
  refine ldI_of (H.cell 0 rfl (app_get hR 3 rfl)) ?_
  refine bindI_of (((s.c / 65536 : Nat) : Int)) (by exact shr_of (i := 16) (by decide)) ?_
  refine ldI_of (H.cell 3 rfl rfl) ?_
  have hcmp : decide (((s.c / 65536 : Nat) : Int) < ((qOf (x / 2) : Nat) : Int)) = decide (s.c / 65536 < qOf (x / 2)) := by
    by_cases h1 : s.c / 65536 < qOf (x / 2)
    · rw [decide_eq_true h1]; exact decide_eq_true (by omega)
    · rw [decide_eq_false h1]; exact decide_eq_false (by omega)
  rw [hcmp]
  have H2 : Hp h0 F h (decL p q e bp bc { s with a := s.a - qOf (x / 2), n := s.n + 1 } ++ [⟨w, true, T_arith_row, [.int .u32 (qOf (x / 2) : Nat), .int .u8 (mOf (x / 2) : Nat), .int .u8 (lOf (x / 2) : Nat), .int .u8 (cOf (x / 2) : Nat)]⟩]) := H
  have H := H2
  clear H2
  refine ⟨fun vs h' => (s.c / 65536 < qOf (x / 2) ∧ h' = h) ∨ (¬ s.c / 65536 < qOf (x / 2) ∧ ¬ 0x8000 ≤ s.a - qOf (x / 2) ∧ Hp h0 F h' (decL p q e bp bc { s with a := s.a - qOf (x / 2), c := s.c - qOf (x / 2) * 65536, n := s.n + 1 } ++ [⟨w, true, T_arith_row, [.int .u32 (qOf (x / 2) : Nat), .int .u8 (mOf (x / 2) : Nat), .int .u8 (lOf (x / 2) : Nat), .int .u8 (cOf (x / 2) : Nat)]⟩])), ?_, ?_⟩
  · refine bcase_of (fun h1 => ?_) fun h1 => ?_
    · have h1 : ¬ s.c / 65536 < qOf (x / 2) := by simpa using h1
      refine ldI_of (H.cell 0 rfl (app_get hR 3 rfl)) ?_
      refine ldI_of (H.cell 3 rfl rfl) ?_
      refine bindI_of (((qOf (x / 2) * 65536 : Nat) : Int)) (by exact shl_of (i := 16) (by decide) (u32_in _ (by omega))) ?_
      refine bindI_of (((s.c - qOf (x / 2) * 65536 : Nat) : Int)) (by exact u32_at _ _ (by show (s.c : Int) - ((qOf (x / 2) * 65536 : Nat) : Int) = _; omega) (by omega)) ?_
      refine stV_hr H 0 rfl hR 3 (Nat.le_of_ble_eq_true rfl) rfl fun h hsz H => ?_
      refine ldI_of (H.cell 0 rfl (app_get hR 2 rfl)) ?_
      refine bcase_of (fun h2 => ?_) fun h2 => ?_
      · have h2 : 0x8000 ≤ s.a - qOf (x / 2) := by simp at h2; omega
        rw [if_neg h1, if_pos h2] at hk
        exact hk _ (H.take 3)
      · have h2 : ¬ 0x8000 ≤ s.a - qOf (x / 2) := by simp at h2; omega
        exact .inr ⟨h1, h2, H⟩
    · have h1 : s.c / 65536 < qOf (x / 2) := by simpa using h1
      exact .inl ⟨h1, rfl⟩
  · rintro h' u (⟨h1, rfl⟩ | ⟨h1, h2, H'⟩)
    · rw [decide_eq_true h1]
      rw [if_pos h1] at hk
      refine ⟨fun vs h'' => (s.a - qOf (x / 2) < qOf (x / 2) ∧ vs = [.int .i64 ((x % 2 : Nat) : Int)] ∧ Hp h0 F h'' (decL p q e bp bc { s with a := s.a - qOf (x / 2), n := s.n + 1, st := s.st.set k (upM x) } ++ [⟨w, true, T_arith_row, [.int .u32 (qOf (x / 2) : Nat), .int .u8 (mOf (x / 2) : Nat), .int .u8 (lOf (x / 2) : Nat), .int .u8 (cOf (x / 2) : Nat)]⟩])) ∨
        (¬ s.a - qOf (x / 2) < qOf (x / 2) ∧ vs = [.int .i64 ((1 - x % 2 : Nat) : Int)] ∧ Hp h0 F h'' (decL p q e bp bc { s with a := s.a - qOf (x / 2), n := s.n + 1, st := s.st.set k (upL x) } ++ [⟨w, true, T_arith_row, [.int .u32 (qOf (x / 2) : Nat), .int .u8 (mOf (x / 2) : Nat), .int .u8 (lOf (x / 2) : Nat), .int .u8 (cOf (x / 2) : Nat)]⟩])), ?_, ?_⟩
      · refine ldI_of (H.cell 0 rfl (app_get hR 2 rfl)) ?_
        refine ldI_of (H.cell 3 rfl rfl) ?_
        refine bcase_of (fun h3 => ?_) fun h3 => ?_
        · have h3 : s.a - qOf (x / 2) < qOf (x / 2) := by simp at h3; omega
          refine ldI_of (H.cell 3 rfl rfl) ?_
          refine ldI_of (H.cell 3 rfl rfl) ?_
          refine ldI_of (H.cell 3 rfl rfl) ?_
          refine ldI_of (H.cell 3 rfl rfl) ?_
          refine likely_ok H 1 rfl hx hx94 rfl fun h H => ?_
          exact .inl ⟨h3, rfl, H.as (by simp [decL, decE, drest])⟩
        · have h3 : ¬ s.a - qOf (x / 2) < qOf (x / 2) := by simp at h3; omega
          refine bindI_of (((1 - x % 2 : Nat) : Int)) (by exact (xor63 _ 1 (by omega) (by omega)).trans (by rw [xor_one (by omega)])) ?_
          refine ldI_of (H.cell 3 rfl rfl) ?_
          refine ldI_of (H.cell 3 rfl rfl) ?_
          refine ldI_of (H.cell 3 rfl rfl) ?_
          refine ldI_of (H.cell 3 rfl rfl) ?_
          refine unlikely_ok H 1 rfl hx hx94 rfl rfl fun h H => ?_
          exact .inr ⟨h3, rfl, H.as (by simp [decL, decE, drest])⟩
      · rintro h'' u y (⟨h3, hy, H⟩ | ⟨h3, hy, H⟩)
        · injection hy with hy
          injection hy with _ hy
          subst hy
          rw [if_pos h3] at hk
          refine bcase_true (by rfl) ?_
          refine ldI_of (H.cell 3 rfl rfl) ?_
          refine stV_hr H 0 rfl hR 2 (Nat.le_of_ble_eq_true rfl) rfl fun h hsz H => ?_
          exact renewD_ok (s := { s with a := qOf (x / 2), n := s.n + 1, st := s.st.set k (upM x) }) (H.take 3) hb ⟨hs.t8, hc, hs.b, hM, hs.i⟩ hbl hq1 (by show qOf _ < _; omega) hk
        · injection hy with hy
          injection hy with _ hy
          subst hy
          rw [if_neg h3] at hk
          refine bcase_true (by rfl) ?_
          refine ldI_of (H.cell 3 rfl rfl) ?_
          refine stV_hr H 0 rfl hR 2 (Nat.le_of_ble_eq_true rfl) rfl fun h hsz H => ?_
          exact renewD_ok (s := { s with a := qOf (x / 2), n := s.n + 1, st := s.st.set k (upL x) }) (H.take 3) hb ⟨hs.t8, hc, hs.b, hL, hs.i⟩ hbl hq1 (by show qOf _ < _; omega) hk
    · have H := H'
      clear H'
      rw [decide_eq_false h1]
      rw [if_neg h1, if_neg h2] at hk
      have hc' : s.c - qOf (x / 2) * 65536 < M32 := by omega
      refine ⟨fun vs h'' => (s.a - qOf (x / 2) < qOf (x / 2) ∧ vs = [.int .i64 ((1 - x % 2 : Nat) : Int)] ∧ Hp h0 F h'' (decL p q e bp bc { s with a := s.a - qOf (x / 2), c := s.c - qOf (x / 2) * 65536, n := s.n + 1, st := s.st.set k (upL x) } ++ [⟨w, true, T_arith_row, [.int .u32 (qOf (x / 2) : Nat), .int .u8 (mOf (x / 2) : Nat), .int .u8 (lOf (x / 2) : Nat), .int .u8 (cOf (x / 2) : Nat)]⟩])) ∨
        (¬ s.a - qOf (x / 2) < qOf (x / 2) ∧ vs = [.int .i64 ((x % 2 : Nat) : Int)] ∧ Hp h0 F h'' (decL p q e bp bc { s with a := s.a - qOf (x / 2), c := s.c - qOf (x / 2) * 65536, n := s.n + 1, st := s.st.set k (upM x) } ++ [⟨w, true, T_arith_row, [.int .u32 (qOf (x / 2) : Nat), .int .u8 (mOf (x / 2) : Nat), .int .u8 (lOf (x / 2) : Nat), .int .u8 (cOf (x / 2) : Nat)]⟩])), ?_, ?_⟩
      · refine ldI_of (H.cell 0 rfl (app_get hR 2 rfl)) ?_
        refine ldI_of (H.cell 3 rfl rfl) ?_
        refine bcase_of (fun h3 => ?_) fun h3 => ?_
        · have h3 : ¬ s.a - qOf (x / 2) < qOf (x / 2) := by simp at h3; omega
          refine ldI_of (H.cell 3 rfl rfl) ?_
          refine ldI_of (H.cell 3 rfl rfl) ?_
          refine ldI_of (H.cell 3 rfl rfl) ?_
          refine ldI_of (H.cell 3 rfl rfl) ?_
          refine likely_ok H 1 rfl hx hx94 rfl fun h H => ?_
          exact .inr ⟨h3, rfl, H.as (by simp [decL, decE, drest])⟩
        · have h3 : s.a - qOf (x / 2) < qOf (x / 2) := by simp at h3; omega
          refine bindI_of (((1 - x % 2 : Nat) : Int)) (by exact (xor63 _ 1 (by omega) (by omega)).trans (by rw [xor_one (by omega)])) ?_
          refine ldI_of (H.cell 3 rfl rfl) ?_
          refine ldI_of (H.cell 3 rfl rfl) ?_
          refine ldI_of (H.cell 3 rfl rfl) ?_
          refine ldI_of (H.cell 3 rfl rfl) ?_
          refine unlikely_ok H 1 rfl hx hx94 rfl rfl fun h H => ?_
          exact .inl ⟨h3, rfl, H.as (by simp [decL, decE, drest])⟩
      · rintro h'' u y (⟨h3, hy, H⟩ | ⟨h3, hy, H⟩)
        · injection hy with hy
          injection hy with _ hy
          subst hy
          rw [if_pos h3] at hk
          refine bcase_false (by rfl) ?_
          exact renewD_ok (s := { s with a := s.a - qOf (x / 2), c := s.c - qOf (x / 2) * 65536, n := s.n + 1, st := s.st.set k (upL x) }) (H.take 3) hb ⟨hs.t8, hc', hs.b, hL, hs.i⟩ hbl (by show 1 ≤ s.a - _; omega) (by show s.a - _ < _; omega) hk
        · injection hy with hy
          injection hy with _ hy
          subst hy
          rw [if_neg h3] at hk
          refine bcase_false (by rfl) ?_
          exact renewD_ok (s := { s with a := s.a - qOf (x / 2), c := s.c - qOf (x / 2) * 65536, n := s.n + 1, st := s.st.set k (upM x) }) (H.take 3) hb ⟨hs.t8, hc', hs.b, hM, hs.i⟩ hbl (by show 1 ≤ s.a - _; omega) (by show s.a - _ < _; omega) hk

end Go.Ar

/- Written by gen.py: the conditions of the functions of burinkit. -/
set_option linter.unusedVariables false
set_option linter.unusedSimpArgs false
namespace Go.Den.Yteakipgcanafoaa
open Go Go.Den

/- burin/burinkit.Lend -/
set_option maxRecDepth 100000 in
def burinkit_Lend (C : CallP) (b : Option Addr) (bn : Nat) (bc : Nat) (h : Heap) (K : Value → Heap → Prop) (Kp : List PanicEntry → Heap → Prop) : Prop :=
bindI (IntKind.i64.wrap ((bn : Int) + (7 : Int))) fun z_1 =>
needs (0 ≤ (0 : Int) ∧ (0 : Int) ≤ z_1 ∧ z_1 ≤ 9223372036854775807 ∧ ((1 : Nat) : Int) * z_1 ≤ 281474976710656) <|
newC h (repZ [.int .u8 0] z_1.toNat) T_uint8 fun r_2 h_3 =>
appC h_3 T_uint8 1 1 [.int .u8 0] (some ⟨r_2, 0, none⟩) ((0 : Int).toNat) (z_1.toNat) b (bn) fun q_4 q_4n q_4c h_5 =>
∃ J_6 : Nat → List Value → Heap → Prop, (∃ n_8, J_6 n_8 [.slice q_4 q_4n q_4c, .int .i64 0] h_5) ∧ ∀ (n_8 : Nat) (h_9 : Heap) (u_10 : Nat → Value) (x_11 : Option Addr) (x_11n : Nat) (x_11c : Nat) (i_12 : Int), J_6 n_8 [.slice x_11 x_11n x_11c, .int .i64 i_12] h_9 → (
bcase (decide (i_12 < (7 : Int))) (
newC h_9 [.int .u8 165] T_uint8 fun r_13 h_14 =>
appC h_14 T_uint8 1 1 [.int .u8 0] x_11 (x_11n) (x_11c) (some ⟨r_13, 0, none⟩) (1) fun q_15 q_15n q_15c h_16 =>
bindI (IntKind.i64.wrap (i_12 + (1 : Int))) fun z_17 =>
∃ m_7, m_7 < n_8 ∧ J_6 m_7 [.slice q_15 q_15n q_15c, .int .i64 z_17] h_16) <|
needs (0 ≤ (bn : Int) ∧ (bn : Int) ≤ ((x_11c : Nat) : Int)) <|
K (.slice (subA x_11 (x_11c) (0) 1) ((bn : Int).toNat - 0) (x_11c - 0)) h_9)

/- burin/burinkit.Back -/
set_option maxRecDepth 100000 in
def burinkit_Back (C : CallP) (x : Option Addr) (xn : Nat) (xc : Nat) (b : Option Addr) (bn : Nat) (bc : Nat) (h : Heap) (K : Value → Heap → Prop) (Kp : List PanicEntry → Heap → Prop) : Prop :=
C F_burinref0_Eq #[.slice x xn xc, .slice b bn bc] h (fun v_1 h_2 =>
∃ (r_3 : Bool), v_1 = .bool r_3 ∧ (
bindI (IntKind.i64.wrap ((bn : Int) + (7 : Int))) fun z_4 =>
needs (0 ≤ z_4 ∧ z_4 ≤ ((xc : Nat) : Int)) <|
∃ J_5 : Nat → List Value → Heap → Prop, (∃ n_7, J_5 n_7 [.bool r_3, .int .i64 (bn : Int)] h_2) ∧ ∀ (n_7 : Nat) (h_8 : Heap) (u_9 : Nat → Value) (ok_10 : Bool) (i_11 : Int), J_5 n_7 [.bool ok_10, .int .i64 i_11] h_8 → (
bcase (decide (i_11 < (((z_4.toNat - 0) : Nat) : Int))) (
bcase ok_10 (
needs (0 ≤ i_11 ∧ i_11 < (((z_4.toNat - 0) : Nat) : Int)) <|
ptr (subA x (xc) (0) 1) fun a_12 =>
ldI h_8 (a_12.add (i_11.toNat * 1)) .u8 fun x_13 =>
bindI (IntKind.i64.wrap (i_11 + (1 : Int))) fun z_14 =>
∃ m_6, m_6 < n_7 ∧ J_5 m_6 [.bool (x_13 == (165 : Int)), .int .i64 z_14] h_8) <|
bindI (IntKind.i64.wrap (i_11 + (1 : Int))) fun z_15 =>
∃ m_6, m_6 < n_7 ∧ J_5 m_6 [.bool false, .int .i64 z_15] h_8) <|
∃ J_16 : Nat → List Value → Heap → Prop, (∃ n_18, J_16 n_18 [.int .i64 0] h_8) ∧ ∀ (n_18 : Nat) (h_19 : Heap) (u_20 : Nat → Value) (i_21 : Int), J_16 n_18 [.int .i64 i_21] h_19 → (
bcase (decide (i_21 < (((z_4.toNat - 0) : Nat) : Int))) (
needs (0 ≤ i_21 ∧ i_21 < (((z_4.toNat - 0) : Nat) : Int)) <|
ptr (subA x (xc) (0) 1) fun a_22 =>
stV h_19 (a_22.add (i_21.toNat * 1)) (.int .u8 90) fun h_23 =>
bindI (IntKind.i64.wrap (i_21 + (1 : Int))) fun z_24 =>
∃ m_17, m_17 < n_18 ∧ J_16 m_17 [.int .i64 z_24] h_23) <|
K (.bool ok_10) h_19)))) (Kp)

/- burin/burinkit.LendBitmap -/
set_option maxRecDepth 100000 in
def burinkit_LendBitmap (C : CallP) (b_1 : Int) (b_2 : Int) (b_3 : Option Addr) (b_3n : Nat) (b_3c : Nat) (h : Heap) (K : Value → Heap → Prop) (Kp : List PanicEntry → Heap → Prop) : Prop :=
newC h [.int .i64 b_1, .int .i64 b_2, .slice b_3 b_3n b_3c] T_api_Bitmap fun r_4 h_5 =>
newC h_5 [.int .i64 0, .int .i64 0, .slice none 0 0] T_api_Bitmap fun r_6 h_7 =>
ldS h_7 ((⟨r_4, 0, none⟩ : Addr).add 2) fun x_8 x_8n x_8c =>
bindI (IntKind.i64.wrap ((x_8n : Int) + (7 : Int))) fun z_9 =>
needs (0 ≤ (0 : Int) ∧ (0 : Int) ≤ z_9 ∧ z_9 ≤ 9223372036854775807 ∧ ((8 : Nat) : Int) * z_9 ≤ 281474976710656) <|
newC h_7 (repZ [.int .u64 0] z_9.toNat) T_uint64 fun r_10 h_11 =>
ldS h_11 ((⟨r_4, 0, none⟩ : Addr).add 2) fun x_12 x_12n x_12c =>
appC h_11 T_uint64 1 8 [.int .u64 0] (some ⟨r_10, 0, none⟩) ((0 : Int).toNat) (z_9.toNat) x_12 (x_12n) fun q_13 q_13n q_13c h_14 =>
∃ J_15 : Nat → List Value → Heap → Prop, (∃ n_17, J_15 n_17 [.slice q_13 q_13n q_13c, .int .i64 0] h_14) ∧ ∀ (n_17 : Nat) (h_18 : Heap) (u_19 : Nat → Value) (x_20 : Option Addr) (x_20n : Nat) (x_20c : Nat) (i_21 : Int), J_15 n_17 [.slice x_20 x_20n x_20c, .int .i64 i_21] h_18 → (
bcase (decide (i_21 < (7 : Int))) (
newC h_18 [.int .u64 42405] T_uint64 fun r_22 h_23 =>
appC h_23 T_uint64 1 8 [.int .u64 0] x_20 (x_20n) (x_20c) (some ⟨r_22, 0, none⟩) (1) fun q_24 q_24n q_24c h_25 =>
bindI (IntKind.i64.wrap (i_21 + (1 : Int))) fun z_26 =>
∃ m_16, m_16 < n_17 ∧ J_15 m_16 [.slice q_24 q_24n q_24c, .int .i64 z_26] h_25) <|
ldI h_18 ((⟨r_4, 0, none⟩ : Addr).add 0) .i64 fun x_27 =>
ldI h_18 ((⟨r_4, 0, none⟩ : Addr).add 1) .i64 fun x_28 =>
ldS h_18 ((⟨r_4, 0, none⟩ : Addr).add 2) fun x_29 x_29n x_29c =>
needs (0 ≤ (x_29n : Int) ∧ (x_29n : Int) ≤ ((x_20c : Nat) : Int)) <|
stV h_18 ((⟨r_6, 0, none⟩ : Addr).add 0) (.int .i64 x_27) fun h_30 =>
stV h_30 ((⟨r_6, 0, none⟩ : Addr).add 1) (.int .i64 x_28) fun h_31 =>
stV h_31 ((⟨r_6, 0, none⟩ : Addr).add 2) (.slice (subA x_20 (x_20c) (0) 1) ((x_29n : Int).toNat - 0) (x_20c - 0)) fun h_32 =>
ldI h_32 ((⟨r_6, 0, none⟩ : Addr).add 0) .i64 fun r_33 =>
ldI h_32 ((⟨r_6, 0, none⟩ : Addr).add 1) .i64 fun r_34 =>
ldS h_32 ((⟨r_6, 0, none⟩ : Addr).add 2) fun r_35 r_35n r_35c =>
K (.agg #[.int .i64 r_33, .int .i64 r_34, .slice r_35 r_35n r_35c]) h_32)

/- burin/burinkit.BackBitmap -/
set_option maxRecDepth 100000 in
def burinkit_BackBitmap (C : CallP) (x_1 : Int) (x_2 : Int) (x_3 : Option Addr) (x_3n : Nat) (x_3c : Nat) (b_4 : Int) (b_5 : Int) (b_6 : Option Addr) (b_6n : Nat) (b_6c : Nat) (h : Heap) (K : Value → Heap → Prop) (Kp : List PanicEntry → Heap → Prop) : Prop :=
newC h [.int .i64 x_1, .int .i64 x_2, .slice x_3 x_3n x_3c] T_api_Bitmap fun r_7 h_8 =>
newC h_8 [.int .i64 b_4, .int .i64 b_5, .slice b_6 b_6n b_6c] T_api_Bitmap fun r_9 h_10 =>
ldI h_10 ((⟨r_7, 0, none⟩ : Addr).add 0) .i64 fun x_11 =>
ldI h_10 ((⟨r_7, 0, none⟩ : Addr).add 1) .i64 fun x_12 =>
ldS h_10 ((⟨r_7, 0, none⟩ : Addr).add 2) fun x_13 x_13n x_13c =>
ldI h_10 ((⟨r_9, 0, none⟩ : Addr).add 0) .i64 fun x_14 =>
ldI h_10 ((⟨r_9, 0, none⟩ : Addr).add 1) .i64 fun x_15 =>
ldS h_10 ((⟨r_9, 0, none⟩ : Addr).add 2) fun x_16 x_16n x_16c =>
C F_burinref0_EqBitmap #[.agg #[.int .i64 x_11, .int .i64 x_12, .slice x_13 x_13n x_13c], .agg #[.int .i64 x_14, .int .i64 x_15, .slice x_16 x_16n x_16c]] h_10 (fun v_17 h_18 =>
∃ (r_19 : Bool), v_17 = .bool r_19 ∧ (
ldS h_18 ((⟨r_7, 0, none⟩ : Addr).add 2) fun x_20 x_20n x_20c =>
ldS h_18 ((⟨r_9, 0, none⟩ : Addr).add 2) fun x_21 x_21n x_21c =>
bindI (IntKind.i64.wrap ((x_21n : Int) + (7 : Int))) fun z_22 =>
needs (0 ≤ z_22 ∧ z_22 ≤ ((x_20c : Nat) : Int)) <|
ldS h_18 ((⟨r_9, 0, none⟩ : Addr).add 2) fun x_23 x_23n x_23c =>
∃ J_24 : Nat → List Value → Heap → Prop, (∃ n_26, J_24 n_26 [.bool r_19, .int .i64 (x_23n : Int)] h_18) ∧ ∀ (n_26 : Nat) (h_27 : Heap) (u_28 : Nat → Value) (ok_29 : Bool) (i_30 : Int), J_24 n_26 [.bool ok_29, .int .i64 i_30] h_27 → (
bcase (decide (i_30 < (((z_22.toNat - 0) : Nat) : Int))) (
bcase ok_29 (
needs (0 ≤ i_30 ∧ i_30 < (((z_22.toNat - 0) : Nat) : Int)) <|
ptr (subA x_20 (x_20c) (0) 1) fun a_31 =>
ldI h_27 (a_31.add (i_30.toNat * 1)) .u64 fun x_32 =>
bindI (IntKind.i64.wrap (i_30 + (1 : Int))) fun z_33 =>
∃ m_25, m_25 < n_26 ∧ J_24 m_25 [.bool (x_32 == (42405 : Int)), .int .i64 z_33] h_27) <|
bindI (IntKind.i64.wrap (i_30 + (1 : Int))) fun z_34 =>
∃ m_25, m_25 < n_26 ∧ J_24 m_25 [.bool false, .int .i64 z_34] h_27) <|
∃ J_35 : Nat → List Value → Heap → Prop, (∃ n_37, J_35 n_37 [.int .i64 0] h_27) ∧ ∀ (n_37 : Nat) (h_38 : Heap) (u_39 : Nat → Value) (i_40 : Int), J_35 n_37 [.int .i64 i_40] h_38 → (
bcase (decide (i_40 < (((z_22.toNat - 0) : Nat) : Int))) (
needs (0 ≤ i_40 ∧ i_40 < (((z_22.toNat - 0) : Nat) : Int)) <|
ptr (subA x_20 (x_20c) (0) 1) fun a_41 =>
stV h_38 (a_41.add (i_40.toNat * 1)) (.int .u64 1515870810) fun h_42 =>
bindI (IntKind.i64.wrap (i_40 + (1 : Int))) fun z_43 =>
∃ m_36, m_36 < n_37 ∧ J_35 m_36 [.int .i64 z_43] h_42) <|
K (.bool ok_29) h_38)))) (Kp)

/- burin/burinkit.Small -/
set_option maxRecDepth 100000 in
def burinkit_Small (C : CallP) (l : Option Addr) (ln : Nat) (lc : Nat) (most : Int) (h : Heap) (K : Value → Heap → Prop) (Kp : List PanicEntry → Heap → Prop) : Prop :=
∃ J_1 : Nat → List Value → Heap → Prop, (∃ n_3, J_1 n_3 [.int .i64 0, .int .i64 0] h) ∧ ∀ (n_3 : Nat) (h_4 : Heap) (u_5 : Nat → Value) (n_6 : Int) (i_7 : Int), J_1 n_3 [.int .i64 n_6, .int .i64 i_7] h_4 → (
bcase (decide (i_7 < (ln : Int))) (
needs (0 ≤ i_7 ∧ i_7 < (ln : Int)) <|
ptr l fun a_8 =>
ldS h_4 ((a_8.add (i_7.toNat * 3)).add 2) fun x_9 x_9n x_9c =>
bindI (IntKind.i64.wrap ((64 : Int) * (x_9n : Int))) fun z_10 =>
bindI (IntKind.i64.wrap (n_6 + z_10)) fun z_11 =>
bindI (IntKind.i64.wrap (z_11 + (64 : Int))) fun z_12 =>
bcase (decide (z_12 > most)) (
K (.bool false) h_4) <|
bindI (IntKind.i64.wrap (i_7 + (1 : Int))) fun z_13 =>
∃ m_2, m_2 < n_3 ∧ J_1 m_2 [.int .i64 z_12, .int .i64 z_13] h_4) <|
K (.bool true) h_4)

/- burin/burinkit.Within -/
set_option maxRecDepth 100000 in
def burinkit_Within (C : CallP) (i : Int) (n : Int) (h : Heap) (K : Value → Heap → Prop) (Kp : List PanicEntry → Heap → Prop) : Prop :=
needs (IntKind.i64 = IntKind.i64 ∧ n ≠ 0) <|
bindI (i.tmod n) fun z_1 =>
bcase (decide (z_1 < (0 : Int))) (
bindI (IntKind.i64.wrap (z_1 + n)) fun z_2 =>
K (.int .i64 z_2) h) <|
K (.int .i64 z_1) h

end Go.Den.Yteakipgcanafoaa

/- Written by gen.py: each condition of the functions of burinkit is the one of its body; so it is enough for its call. -/
set_option linter.unusedVariables false
set_option linter.unusedSimpArgs false
namespace Go.Den.Yteakipgcanafoaa
open Go Go.Den

noncomputable def hints_burinkit_Lend : Hints := Hints.mk (fun i => none)
  (fun i => bif Nat.beq i 4 then some ([(3, .slc), (4, .int .i64)], 520216) else (none))
  (fun i => none) []
set_option maxRecDepth 100000 in
theorem eq_burinkit_Lend (C : CallP) (b : Option Addr) (bn : Nat) (bc : Nat) (h : Heap) (K : Value → Heap → Prop) (Kp : List PanicEntry → Heap → Prop) :
    fnD Go.Proofs.Try.prog C hints_burinkit_Lend Go.Proofs.Try.f22 [.slice b bn bc] h K Kp = burinkit_Lend C b bn bc h K Kp := by kernel_rfl

theorem call_burinkit_Lend {b : Option Addr} {bn : Nat} {bc : Nat} {h : Heap} {K : Value → Heap → Prop} {Kp : List PanicEntry → Heap → Prop} (H : burinkit_Lend (CallsHP Go.Proofs.Try.prog) b bn bc h K Kp) : CallsHP Go.Proofs.Try.prog F_burinkit_Lend #[.slice b bn bc] h K Kp :=
  callsHP_of hints_burinkit_Lend (by kernel_rfl) Go.Proofs.Try.func22 (by kernel_rfl) (by rw [eq_burinkit_Lend]; exact H)

noncomputable def hints_burinkit_Back : Hints := Hints.mk (fun i => none)
  (fun i => bif Nat.beq i 4 then some ([(5, .bool), (7, .int .i64)], 8589410464) else (bif Nat.beq i 8 then some ([(8, .int .i64)], 4389456576768) else (none)))
  (fun i => none) []
set_option maxRecDepth 100000 in
theorem eq_burinkit_Back (C : CallP) (x : Option Addr) (xn : Nat) (xc : Nat) (b : Option Addr) (bn : Nat) (bc : Nat) (h : Heap) (K : Value → Heap → Prop) (Kp : List PanicEntry → Heap → Prop) :
    fnD Go.Proofs.Try.prog C hints_burinkit_Back Go.Proofs.Try.f25 [.slice x xn xc, .slice b bn bc] h K Kp = burinkit_Back C x xn xc b bn bc h K Kp := by kernel_rfl

theorem call_burinkit_Back {x : Option Addr} {xn : Nat} {xc : Nat} {b : Option Addr} {bn : Nat} {bc : Nat} {h : Heap} {K : Value → Heap → Prop} {Kp : List PanicEntry → Heap → Prop} (H : burinkit_Back (CallsHP Go.Proofs.Try.prog) x xn xc b bn bc h K Kp) : CallsHP Go.Proofs.Try.prog F_burinkit_Back #[.slice x xn xc, .slice b bn bc] h K Kp :=
  callsHP_of hints_burinkit_Back (by kernel_rfl) Go.Proofs.Try.func25 (by kernel_rfl) (by rw [eq_burinkit_Back]; exact H)

noncomputable def hints_burinkit_LendBitmap : Hints := Hints.mk (fun i => bif Nat.beq i 7 then some ([10], .take 0 <| .take 2 <| .take 4 <| .take 5 <| .take 1 <| .take 3 <| .take 6 <| .take 7 <| .take 8 <| .take 9 <| .bar 10 [] <| .done) else (none))
  (fun i => bif Nat.beq i 4 then some ([(3, .slc), (4, .int .i64)], 2080792) else (none))
  (fun i => none) []
set_option maxRecDepth 100000 in
theorem eq_burinkit_LendBitmap (C : CallP) (b_1 : Int) (b_2 : Int) (b_3 : Option Addr) (b_3n : Nat) (b_3c : Nat) (h : Heap) (K : Value → Heap → Prop) (Kp : List PanicEntry → Heap → Prop) :
    fnD Go.Proofs.Try.prog C hints_burinkit_LendBitmap Go.Proofs.Try.f43 [.agg #[.int .i64 b_1, .int .i64 b_2, .slice b_3 b_3n b_3c]] h K Kp = burinkit_LendBitmap C b_1 b_2 b_3 b_3n b_3c h K Kp := by kernel_rfl

theorem call_burinkit_LendBitmap {b_1 : Int} {b_2 : Int} {b_3 : Option Addr} {b_3n : Nat} {b_3c : Nat} {h : Heap} {K : Value → Heap → Prop} {Kp : List PanicEntry → Heap → Prop} (H : burinkit_LendBitmap (CallsHP Go.Proofs.Try.prog) b_1 b_2 b_3 b_3n b_3c h K Kp) : CallsHP Go.Proofs.Try.prog F_burinkit_LendBitmap #[.agg #[.int .i64 b_1, .int .i64 b_2, .slice b_3 b_3n b_3c]] h K Kp :=
  callsHP_of hints_burinkit_LendBitmap (by kernel_rfl) Go.Proofs.Try.func43 (by kernel_rfl) (by rw [eq_burinkit_LendBitmap]; exact H)

noncomputable def hints_burinkit_BackBitmap : Hints := Hints.mk (fun i => none)
  (fun i => bif Nat.beq i 4 then some ([(5, .bool), (7, .int .i64)], 68715282592) else (bif Nat.beq i 8 then some ([(8, .int .i64)], 35115652612352) else (none)))
  (fun i => none) []
set_option maxRecDepth 100000 in
theorem eq_burinkit_BackBitmap (C : CallP) (x_1 : Int) (x_2 : Int) (x_3 : Option Addr) (x_3n : Nat) (x_3c : Nat) (b_4 : Int) (b_5 : Int) (b_6 : Option Addr) (b_6n : Nat) (b_6c : Nat) (h : Heap) (K : Value → Heap → Prop) (Kp : List PanicEntry → Heap → Prop) :
    fnD Go.Proofs.Try.prog C hints_burinkit_BackBitmap Go.Proofs.Try.f46 [.agg #[.int .i64 x_1, .int .i64 x_2, .slice x_3 x_3n x_3c], .agg #[.int .i64 b_4, .int .i64 b_5, .slice b_6 b_6n b_6c]] h K Kp = burinkit_BackBitmap C x_1 x_2 x_3 x_3n x_3c b_4 b_5 b_6 b_6n b_6c h K Kp := by kernel_rfl

theorem call_burinkit_BackBitmap {x_1 : Int} {x_2 : Int} {x_3 : Option Addr} {x_3n : Nat} {x_3c : Nat} {b_4 : Int} {b_5 : Int} {b_6 : Option Addr} {b_6n : Nat} {b_6c : Nat} {h : Heap} {K : Value → Heap → Prop} {Kp : List PanicEntry → Heap → Prop} (H : burinkit_BackBitmap (CallsHP Go.Proofs.Try.prog) x_1 x_2 x_3 x_3n x_3c b_4 b_5 b_6 b_6n b_6c h K Kp) : CallsHP Go.Proofs.Try.prog F_burinkit_BackBitmap #[.agg #[.int .i64 x_1, .int .i64 x_2, .slice x_3 x_3n x_3c], .agg #[.int .i64 b_4, .int .i64 b_5, .slice b_6 b_6n b_6c]] h K Kp :=
  callsHP_of hints_burinkit_BackBitmap (by kernel_rfl) Go.Proofs.Try.func46 (by kernel_rfl) (by rw [eq_burinkit_BackBitmap]; exact H)

noncomputable def hints_burinkit_Small : Hints := Hints.mk (fun i => none)
  (fun i => bif Nat.beq i 3 then some ([(5, .int .i64), (6, .int .i64)], 67108848) else (none))
  (fun i => none) []
set_option maxRecDepth 100000 in
theorem eq_burinkit_Small (C : CallP) (l : Option Addr) (ln : Nat) (lc : Nat) (most : Int) (h : Heap) (K : Value → Heap → Prop) (Kp : List PanicEntry → Heap → Prop) :
    fnD Go.Proofs.Try.prog C hints_burinkit_Small Go.Proofs.Try.f55 [.slice l ln lc, .int .i64 most] h K Kp = burinkit_Small C l ln lc most h K Kp := by kernel_rfl

theorem call_burinkit_Small {l : Option Addr} {ln : Nat} {lc : Nat} {most : Int} {h : Heap} {K : Value → Heap → Prop} {Kp : List PanicEntry → Heap → Prop} (H : burinkit_Small (CallsHP Go.Proofs.Try.prog) l ln lc most h K Kp) : CallsHP Go.Proofs.Try.prog F_burinkit_Small #[.slice l ln lc, .int .i64 most] h K Kp :=
  callsHP_of hints_burinkit_Small (by kernel_rfl) Go.Proofs.Try.func55 (by kernel_rfl) (by rw [eq_burinkit_Small]; exact H)

noncomputable def hints_burinkit_Within : Hints := Hints.mk (fun i => none)
  (fun i => none)
  (fun i => none) []
set_option maxRecDepth 100000 in
theorem eq_burinkit_Within (C : CallP) (i : Int) (n : Int) (h : Heap) (K : Value → Heap → Prop) (Kp : List PanicEntry → Heap → Prop) :
    fnD Go.Proofs.Try.prog C hints_burinkit_Within Go.Proofs.Try.f58 [.int .i64 i, .int .i64 n] h K Kp = burinkit_Within C i n h K Kp := by kernel_rfl

theorem call_burinkit_Within {i : Int} {n : Int} {h : Heap} {K : Value → Heap → Prop} {Kp : List PanicEntry → Heap → Prop} (H : burinkit_Within (CallsHP Go.Proofs.Try.prog) i n h K Kp) : CallsHP Go.Proofs.Try.prog F_burinkit_Within #[.int .i64 i, .int .i64 n] h K Kp :=
  callsHP_of hints_burinkit_Within (by kernel_rfl) Go.Proofs.Try.func58 (by kernel_rfl) (by rw [eq_burinkit_Within]; exact H)

end Go.Den.Yteakipgcanafoaa

/- RnA: as DenH, DenI, DenJ, inside a fence: code that ranges over functions, and functions that are ranged over. No program in sight. -/
set_option linter.unusedVariables false
set_option linter.unusedSimpArgs false
namespace Go.Den

/-- What is known of calls of yield: at a heap, what follows a return. -/
abbrev YP := Nat → List Value → Heap → (Value → Heap → Prop) → Prop
def YieldsHP (P : Program) : YP := fun l args h K => ∀ w : World, w.heap = h → YieldAt Fence.wide 0 P l args.toArray w fun e w' => keeps w w' ∧ ∃ v, e = .returned v ∧ K v w'.heap
def yieldOf : Value → Option Nat
  | .func (.yield l) f c => (match f.toList, c.toList with
    | [], [] => some l
    | _, _ => none)
  | _ => none
theorem yieldOf_spec {v : Value} {l : Nat} (h : yieldOf v = some l) : v = .func (.yield l) #[] #[] := by
  unfold yieldOf at h
  split at h
  · rename_i l' f c
    split at h
    · rename_i hf hc
      obtain rfl := Option.some.inj h
      have e1 : f = #[] := by apply Array.toList_inj.1; rw [hf]
      have e2 : c = #[] := by apply Array.toList_inj.1; rw [hc]
      rw [e1, e2]
    · cases h
  · cases h
/-! ### structs of numbers and truths held against one another -/
def eqCellsD (P : Program) : List Field → List Value → List Value → (Bool → Prop) → Prop
  | [], _, _, K => K true
  | f :: fs, cs, ds, K => match f.name != "_", P.underlying f.type, cs[f.offset]?, ds[f.offset]? with
    | true, some (.int _), some (.int k x), some (.int k' y) => needs (k = k') (eqCellsD P fs cs ds fun r => K ((x == y) && r))
    | true, some .bool, some (.bool x), some (.bool y) => eqCellsD P fs cs ds fun r => K ((x == y) && r)
    | _, _, _, _ => False
def structEqD (P : Program) (op : BinOp) (t : TypeId) (cs ds : List Value) (K : Value → Prop) : Prop := match op, P.underlying t, P.eqGuardType P.depth t, P.stoodInHeld t with
  | .eql, some (.struct fs), false, false => eqCellsD P fs.toList cs ds fun r => K (.bool r)
  | .neq, some (.struct fs), false, false => eqCellsD P fs.toList cs ds fun r => K (.bool (!r))
  | _, _, _, _ => False
section
variable {P : Program} {qt : Bool}
theorem wpS_partCell {t : TypeId} {d : TypeDesc} {cs : Array Value} {off : Nat} {v : Value} {h : Heap} {K : Value → Heap → Prop} (hu : P.underlying t = some d) (hd : isAggT P t = false) (hv : cs.toList[off]? = some v) (H : K v h) : wpS P qt (part t cs off) h K := by
  unfold part
  rw [wpS_bind, isAggT_spec t hu, hd]
  simp only [Bool.false_eq_true, if_false]
  have : cs[off]? = some v := by simpa using hv
  simp only [this]
  exact H
theorem equalIn_int {t : TypeId} {k0 : IntKind} (hu : P.underlying t = some (.int k0)) (k : IntKind) (a b : Int) (h : Heap) (K : Bool → Heap → Prop) (d : Nat) : wpS P qt (Op.equalIn (d + 1) t (.int k a) (.int k b)) h K = K (a == b) h := by
  unfold Op.equalIn
  rw [wpS_bind, wpS_underlying hu]
  simp [wpS_pure]
theorem eqCells_const {p : Prop} {cs ds : List Value} : ∀ {fs : List Field}, eqCellsD P fs cs ds (fun _ => p) → p
  | [], H => H
  | f :: fs, H => by
    unfold eqCellsD at H
    split at H
    · exact eqCells_const (needs_iff.1 H).2
    · exact eqCells_const H
    · exact H.elim
def eqBody (d : Nat) (xs ys : Array Value) (f : Field) : Sem (ForInStep (Option Bool × Unit)) := do
  if f.name ≠ "_" then
    if !(← Op.equalIn (d + 1) f.type (← part f.type xs f.offset) (← part f.type ys f.offset)) then pure (ForInStep.done (some false, ())) else pure (ForInStep.yield (none, ()))
  else pure (ForInStep.yield (none, ()))
theorem eqBody_ok {d : Nat} {xs ys : Array Value} {f : Field} {v w : Value} {r : Bool} {dd : TypeDesc} {h : Heap} {K : ForInStep (Option Bool × Unit) → Heap → Prop} (hn : f.name ≠ "_") (hu : P.underlying f.type = some dd) (ha : isAggT P f.type = false)
    (hv : xs.toList[f.offset]? = some v) (hw : ys.toList[f.offset]? = some w) (he : ∀ K' : Bool → Heap → Prop, wpS P qt (Op.equalIn (d + 1) f.type v w) h K' = K' r h) (h1 : r = true → K (.yield (none, ())) h) (h2 : r = false → K (.done (some false, ())) h) : wpS P qt (eqBody d xs ys f) h K := by
  unfold eqBody
  rw [if_pos hn, wpS_bind]
  refine wpS_partCell hu ha hv ?_
  rw [wpS_bind]
  refine wpS_partCell hu ha hw ?_
  rw [wpS_bind, he]
  cases r with
  | true => exact h1 rfl
  | false => exact h2 rfl
theorem loop_eq {d : Nat} {xs ys : Array Value} {h : Heap} : ∀ {fs : List Field} {K : Bool → Prop}, eqCellsD P fs xs.toList ys.toList K →
    wpS P qt (forIn fs ((none, ()) : Option Bool × Unit) fun f _ => eqBody d xs ys f) h (fun r h' => h' = h ∧ ((r.1 = none ∧ K true) ∨ (r.1 = some false ∧ K false))) := by
  intro fs
  induction fs with
  | nil => intro K H; rw [List.forIn_nil]; exact ⟨rfl, .inl ⟨rfl, H⟩⟩
  | cons f fs ih =>
    intro K H
    rw [List.forIn_cons, wpS_bind]
    unfold eqCellsD at H
    split at H
    · rename_i k0 k x k' y hn hu hv hw
      obtain ⟨hk, H2⟩ := needs_iff.1 H
      subst hk
      exact eqBody_ok (by simpa using hn) hu (by unfold isAggT; rw [hu]) hv hw (fun K' => equalIn_int hu k x y h K' d) (fun hr => by rw [hr] at H2; simp only [Bool.true_and] at H2; exact ih H2) (fun hr => by rw [hr] at H2; simp only [Bool.false_and] at H2; exact ⟨rfl, .inr ⟨rfl, eqCells_const H2⟩⟩)
    · rename_i x y hn hu hv hw
      exact eqBody_ok (by simpa using hn) hu (by unfold isAggT; rw [hu]) hv hw (fun K' => equalIn_bool hu x y h K' d) (fun hr => by rw [hr] at H; simp only [Bool.true_and] at H; exact ih H) (fun hr => by rw [hr] at H; simp only [Bool.false_and] at H; exact ⟨rfl, .inr ⟨rfl, eqCells_const H⟩⟩)
    · exact H.elim
theorem equalIn_struct {t : TypeId} {fs : Array Field} {xs ys : Array Value} {h : Heap} {K : Bool → Heap → Prop} {d : Nat} (hu : P.underlying t = some (.struct fs)) (hst : P.stoodInHeld t = false) (H : eqCellsD P fs.toList xs.toList ys.toList fun r => K r h) :
    wpS P qt (Op.equalIn (d + 2) t (.agg xs) (.agg ys)) h K := by
  unfold Op.equalIn
  rw [wpS_bind, wpS_underlying hu]
  simp only
  rw [wpS_bind, wpS_program, hst]
  simp only [Bool.false_eq_true, if_false]
  rw [wpS_bind, ← Array.forIn_toList]
  refine wpS_mono _ (loop_eq (d := d) H) ?_
  rintro r h' ⟨rfl, ⟨h1, h2⟩ | ⟨h1, h2⟩⟩
  · rw [h1]; exact h2
  · rw [h1]; exact h2
theorem structEqD_sound {op : BinOp} {t : TypeId} {xs ys : Array Value} {X Y : Operand} {h : Heap} {K : Value → Heap → Prop} (H : structEqD P op t xs.toList ys.toList fun v => K v h) :
    wpS P qt (do eqGuard op t X Y (.agg xs) (.agg ys); binOp op t (.agg xs) (.agg ys)) h K := by
  have hm : Op.maxDepth = 9998 + 2 := rfl
  have guard : ∀ op, (op = .eql ∨ op = .neq) → P.eqGuardType P.depth t = false → ∀ K' : Unit → Heap → Prop, K' () h → wpS P qt (eqGuard op t X Y (.agg xs) (.agg ys)) h K' := fun op ho hg K' hk => by
    unfold eqGuard
    rcases ho with rfl | rfl
    · simp only
      rw [if_neg (by simp)]
      simp only [wpS_bind, wpS_program, hg]
      exact hk
    · simp only
      rw [if_neg (by simp)]
      simp only [wpS_bind, wpS_program, hg]
      exact hk
  unfold structEqD at H
  split at H
  · rename_i fs hu hg hst
    rw [wpS_bind]
    refine guard _ (.inl rfl) hg _ ?_
    show wpS P qt (do pure (.bool (← Op.equal t (.agg xs) (.agg ys)))) h K
    rw [wpS_bind]
    unfold Op.equal
    rw [hm]
    exact equalIn_struct hu hst H
  · rename_i fs hu hg hst
    rw [wpS_bind]
    refine guard _ (.inr rfl) hg _ ?_
    show wpS P qt (do pure (.bool (!(← Op.equal t (.agg xs) (.agg ys))))) h K
    rw [wpS_bind]
    unfold Op.equal
    rw [hm]
    exact equalIn_struct hu hst H
  · exact H.elim
end
def stepY (P : Program) (C : CallP) (Y : YP) (Q : PostD) (o : Oper) (a : Act) (h : Heap) (K : Act → Heap → Prop) : Prop := match o.op with
  | .call c => (match c.callee with
    | .value f => (match yieldOf (a.eval f) with
      | some l => Y l (c.args.toList.map a.eval) h fun v h' => asResT P o.type v fun v' => K (a.put o.dst v') h'
      | none => stepD P C Q o a h K)
    | _ => stepD P C Q o a h K)
  | .binOp op t x y _ => (match a.eval x, a.eval y with
    | .agg cs, .agg ds => structEqD P op t cs.toList ds.toList fun v => K (a.put o.dst v) h
    | _, _ => stepD P C Q o a h K)
  | _ => stepD P C Q o a h K
theorem stepY_eq {P : Program} {C : CallP} {Y : YP} {Q : PostD} {o : Oper} {a : Act} {h : Heap} {K : Act → Heap → Prop} (hn : ∀ c, o.op ≠ .call c) (hb : ∀ op t x y yt, o.op ≠ .binOp op t x y yt) : stepY P C Y Q o a h K = stepD P C Q o a h K := by
  unfold stepY
  split
  · rename_i c ho; exact absurd ho (hn c)
  · rename_i op t x y yt ho; exact absurd ho (hb op t x y yt)
  · rfl

section
variable {P : Program} {C : CallP} {Q : PostD} {ops : Array Oper}
theorem oper_wide {o : Oper} {a : Act} {w : World} {n : Nat} {next : Act → World → Prop} {Q' : Exit → Act → World → Prop} (h : o.wp P a w next Q') : o.wpIn Fence.wide n P a w next Q' := by
  unfold Oper.wp at h
  refine ⟨fun _ _ => trivial, ?_⟩
  have e : o.semAt Fence.wide.round a.eval = execOp a.eval o := Oper.semAt_none _ _
  rw [e]
  generalize (execOp a.eval o).run P w = r at h
  cases r with
  | ok x w' =>
    cases x <;> simp only [Oper.upon] at h <;> simp only [Oper.uponIn]
    case value u => exact h
    case skip => exact h
    case defer d => exact h
    case enter f args => exact ⟨fun hh => by simp [Fence.wide] at hh, callsIn_wide.2 h⟩
    case row row args => exact ⟨fun hh => by simp [Fence.wide] at hh, fun c cs _ => let ⟨v, w', r, s⟩ := h c cs; ⟨v, w', r, stepsIn_wide.2 s⟩⟩
  | halt x w' =>
    cases x <;> simp only [Oper.upon] at h <;> simp only [Oper.uponIn]
    case panic u => exact h

theorem stepY_wpIn (hC : CallOK P C) {o : Oper} {a : Act} {K : Act → Heap → Prop} {next : Act → World → Prop} {Q' : Exit → Act → World → Prop} {w : World}
    (H : stepY P C (YieldsHP P) Q o a w.heap K) (hK : ∀ a' w', keeps w w' → ((∃ v, a' = a.put o.dst v) ∨ (∃ c, o.op = .defer c)) → K a' w'.heap → next a' w')
    (hp : ∀ c w', keeps w w' → Q (.panic c) a w'.heap → Q' (.panic c) a w') : o.wpIn Fence.wide 0 P a w next Q' := by
  unfold stepY at H
  split at H
  · rename_i c ho
    split at H
    · rename_i f hf
      split at H
      · rename_i l hl
        obtain ⟨fn, tmps, assign, body, hy, hround⟩ := H w rfl
        refine ⟨fun _ _ => trivial, ?_⟩
        have e : o.semAt Fence.wide.round a.eval = execOp a.eval o := Oper.semAt_none _ _
        have hargs : (c.args.toList.map a.eval).toArray = c.args.map a.eval := by apply Array.toList_inj.1; simp
        rw [hargs] at hy
        have hrun : (execOp a.eval o).run P w = .ok (.round l fn tmps assign body) w := by
          unfold execOp
          simp only [ho, resolve, hf, yieldOf_spec hl, Deferred.ofValue]
          simp only [Sem.run_bind, Sem.run_pure, Result.andThen, invoke]
          rw [show (#[] : Array Value) ++ c.args.map a.eval = c.args.map a.eval by simp]
          exact hy
        rw [e, hrun]
        simp only [Oper.uponIn]
        refine ⟨fun hh => by simp [Fence.wide] at hh, hround.mono fun e w' he => ?_⟩
        obtain ⟨hk, v, rfl, hv⟩ := he
        exact hK _ _ hk (.inl ⟨_, rfl⟩) (asResT_sound hv)
      · exact oper_wide (stepD_wp hC H hK hp)
    · exact oper_wide (stepD_wp hC H hK hp)
  · rename_i op t x y yt ho
    split at H
    · rename_i cs ds hx hy
      refine oper_wide ?_
      have h1 : wpS P false (execOp a.eval o) w.heap (nextOK false (fun _ _ _ _ _ => False) (fun _ _ => False) fun v h' => K (a.put o.dst v) h') := by
        unfold execOp
        simp only [ho, hx, hy]
        exact wpS_v (structEqD_sound H)
      obtain ⟨n, w', hr, hk, _, hn⟩ := wpS_run _ h1 rfl
      unfold Oper.wp
      rw [hr]
      cases n <;> simp only [nextOK] at hn <;> simp only [Oper.upon]
      · exact hK _ _ hk (.inl ⟨_, rfl⟩) hn
      · exact hK _ _ hk (.inl ⟨_, rfl⟩) hn.2
      · exact hn.2.elim
    · exact oper_wide (stepD_wp hC H hK hp)
  · exact oper_wide (stepD_wp hC H hK hp)
end

def seqY (P : Program) (C : CallP) (Y : YP) (Q : PostD) (ops : Array Oper) : List Oper → Act → Heap → (Act → Heap → Prop) → Prop
  | [], a, h, K => K a h
  | o :: rest, a, h, K => guardD ops o a (fun a => stepY P C Y Q o a h fun a' h' => seqY P C Y Q ops rest a' h' K) (fun a => seqY P C Y Q ops rest (a.put o.dst undef) h K)
def withY (P : Program) (C : CallP) (Y : YP) (Q : PostD) (ops : Array Oper) (i : Nat) (a : Act) (h : Heap) (k : Act → Heap → Prop) : Prop := match ops[i]? with
  | none => False
  | some o => guardD ops o a (fun a => stepY P C Y Q o a h k) (fun a => k (a.put o.dst undef) h)
def goY (P : Program) (C : CallP) (Y : YP) (Q : PostD) (ops : Array Oper) (ro : Option (Nat → Prop)) (i : Nat) (a : Act) (h : Heap) (k : Act → Heap → Prop) : Prop := match newB ops i with
  | true => withD P C Q ops i a h k
  | false => withY P C Y Q ops i a h fun a' h' => relH ro h h' ∧ k a' h'
def planY (P : Program) (C : CallP) (Y : YP) (Q : PostD) (ops : Array Oper) (ro : Option (Nat → Prop)) : Plan → Act → Heap → (Act → Heap → Prop) → Prop
  | .done, a, h, K => K a h
  | .take i p, a, h, K => withT P C Q ops ro i a h fun a' h' => planY P C Y Q ops ro p a' h' K
  | .go i p, a, h, K => goY P C Y Q ops ro i a h fun a' h' => planY P C Y Q ops ro p a' h' K
  | .alt i p q, a, h, K => goY P C Y Q ops ro i a h (fun a' h' => planY P C Y Q ops ro p a' h' K) ∧ planY P C Y Q ops ro q a h K
  | .bar i _ p, a, h, K => withY P C Y Q ops i a h fun a' h' => planY P C Y Q ops ro p a' h' K
  | .keep _, _, _, _ => False

/-! ### any order, fenced -/
section
variable {P : Program} {md : Region.Mode} {ops : Array Oper} {Q : Exit → Act → World → Prop} {bar : Nat → Bool} {S : World → Prop}
theorem yieldsW {i : Nat} {o : Oper} {v : Value} {a : Act} (hi : ops[i]? = some o) (hy : YieldsIf P ops S o v a) {K : Act → World → Prop} {w : World} (hS : S w) (h : K (a.put o.dst v) w) : wpOpIn Fence.wide 0 P ops Q i K a w := by
  unfold wpOpIn
  simp only [hi]
  rcases hy with ⟨hw, hv⟩ | ⟨hw, rfl⟩
  · rw [if_pos hw]
    refine ⟨fun _ _ => trivial, ?_⟩
    have e : o.semAt Fence.wide.round a.eval = execOp a.eval o := Oper.semAt_none _ _
    rw [e, hv w hS]
    exact h
  · rw [if_neg (by rw [hw]; simp)]
    exact ⟨fun _ _ => trivial, h⟩
theorem putW {j : Nat} {oi oj : Oper} {v : Value} (hj : ops[j]? = some oj) (hap : oi.apart ops oj = true) (hsi : ∀ cs b, oi.op ≠ .select cs b) (hsj : ∀ cs b, oj.op ≠ .select cs b)
    (hQ : ∀ c a w, Q (.panic c) (a.put oi.dst v) w → Q (.panic c) a w) {K : Act → World → Prop} {a : Act} {w : World} (hy : YieldsIf P ops S oi v a) (h : wpOpIn Fence.wide 0 P ops Q j K (a.put oi.dst v) w) :
    wpOpIn Fence.wide 0 P ops Q j (fun a' w' => YieldsIf P ops S oi v a' ∧ K (a'.put oi.dst v) w') a w := by
  obtain ⟨h1, h2, h3⟩ := Oper.apart_spec hap
  have keep : ∀ (a : Act), YieldsIf P ops S oi v a → ∀ u, YieldsIf P ops S oi v (a.put oj.dst u) := fun a hy u => hy.of_same (execOp_put oi hsi a oj.dst u h3) (wanted_put oi a oj.dst u h3)
  have swap : ∀ (a : Act) u, (a.put oi.dst v).put oj.dst u = (a.put oj.dst u).put oi.dst v := fun a u => Act.put_comm a v u h2
  unfold wpOpIn at h ⊢
  simp only [hj] at h ⊢
  rw [wanted_put oj a oi.dst v h1] at h
  by_cases hw : Region.wanted oj (yielded ops a.tmps) = true
  · rw [if_pos hw] at h ⊢
    obtain ⟨_, h⟩ := h
    refine ⟨fun _ _ => trivial, ?_⟩
    have e : ∀ ρ, oj.semAt Fence.wide.round ρ = execOp ρ oj := fun ρ => Oper.semAt_none _ _
    rw [e, execOp_put oj hsj a oi.dst v h1] at h
    rw [e]
    generalize (execOp a.eval oj).run P w = r at h
    cases r with
    | ok x w' =>
      cases x <;> simp only [Oper.uponIn] at h ⊢
      case value u => rw [swap] at h; exact ⟨keep a hy u, h⟩
      case skip => rw [swap] at h; exact ⟨keep a hy _, h⟩
      case defer d =>
        have hy' : YieldsIf P ops S oi v { a with defers := d :: a.defers } := hy.of_same rfl rfl
        refine ⟨keep _ hy' _, ?_⟩
        rw [← swap, ← Act.put_defers]
        exact h
      case enter f args =>
        refine ⟨h.1, h.2.mono fun e w'' he => ?_⟩
        cases e with
        | returned u => simp only [swap] at he; exact ⟨keep a hy u, he⟩
        | panicked c => exact hQ _ _ _ he
        | outgrown => exact he
      case row row args => exact ⟨h.1, h.2.mono fun u w'' he => by rw [swap] at he; exact ⟨keep a hy u, he⟩⟩
      case round l f tmps assign body =>
        refine ⟨h.1, h.2.mono fun e w'' he => ?_⟩
        cases e with
        | returned u => simp only [swap] at he; exact ⟨keep a hy u, he⟩
        | panicked c => exact hQ _ _ _ he
        | outgrown => exact he
    | halt x w' =>
      cases x <;> simp only [Oper.uponIn] at h ⊢
      case panic u => exact hQ _ _ _ h
  · rw [if_neg hw] at h ⊢
    rw [swap] at h
    exact ⟨fun _ _ => trivial, keep a hy _, h.2⟩
def wpAnyEW (P : Program) (md : Region.Mode) (ops : Array Oper) (Q : Exit → Act → World → Prop) (bar : Nat → Bool) (S : World → Prop) : Nat → Array Bool → Act → World → Prop
  | 0, listed, a, w => Region.ready md ops listed = [] ∧ Q .normal a w
  | fuel + 1, listed, a, w =>
    (Region.ready md ops listed = [] → Q .normal a w) ∧
    ∀ i ∈ Region.ready md ops listed, wpOpIn Fence.wide 0 P ops Q i (fun a' w' => (bar i = true → wpAnyIn Fence.wide 0 P md ops Q fuel (listed.setIfInBounds i true) a' w') ∧
      (bar i = false → S w' ∧ wpAnyEW P md ops Q bar S fuel (listed.setIfInBounds i true) a' w')) a w

theorem wpAnyW_of_E : ∀ (fuel : Nat) (listed : Array Bool) (a : Act) (w : World), wpAnyEW P md ops Q bar S fuel listed a w → wpAnyIn Fence.wide 0 P md ops Q fuel listed a w
  | 0, _, _, _, h => h
  | fuel + 1, _, _, _, h => ⟨h.1, fun i hi => wpOpIn_mono (fun a' w' h' => by
      cases hb : bar i with
      | true => exact h'.1 hb
      | false => exact wpAnyW_of_E fuel _ a' w' (h'.2 hb).2) (h.2 i hi)⟩

theorem wpAnyEW_mono {S' : World → Prop} (hS : ∀ w, S w → S' w) : ∀ (fuel : Nat) (listed : Array Bool) (a : Act) (w : World), wpAnyEW P md ops Q bar S fuel listed a w → wpAnyEW P md ops Q bar S' fuel listed a w
  | 0, _, _, _, h => h
  | fuel + 1, _, _, _, h => ⟨h.1, fun i hi => wpOpIn_mono (fun a' w' h' => ⟨h'.1, fun hb => ⟨hS _ (h'.2 hb).1, wpAnyEW_mono hS fuel _ a' w' (h'.2 hb).2⟩⟩) (h.2 i hi)⟩

theorem wpAnyEW_first {i : Nat} {oi : Oper} {v : Value} (Yl : Act → Prop) (hi : ops[i]? = some oi)
    (hY1 : ∀ a w, S w → Yl a → ∀ K : Act → World → Prop, K (a.put oi.dst v) w → wpOpIn Fence.wide 0 P ops Q i K a w)
    (hY2 : ∀ j oj, ops[j]? = some oj → oi.apart ops oj = true → ∀ (K : Act → World → Prop) a w, Yl a → wpOpIn Fence.wide 0 P ops Q j K (a.put oi.dst v) w → wpOpIn Fence.wide 0 P ops Q j (fun a' w' => Yl a' ∧ K (a'.put oi.dst v) w') a w)
    (hB : ∀ j (listed : Array Bool) fuel a' w', bar j = true → ClosedL md ops listed → j ∈ Region.ready md ops listed → i ∈ Region.ready md ops (listed.setIfInBounds j true) →
      (∀ k ok, ops[k]? = some ok → k ≠ i → (listed.setIfInBounds j true).getD k true = false → (∀ e ∈ ok.after, Region.binds md e = true → e.on ≠ i) → oi.apart ops ok = true) →
      Yl a' → wpAnyIn Fence.wide 0 P md ops Q fuel ((listed.setIfInBounds j true).setIfInBounds i true) (a'.put oi.dst v) w' → wpAnyIn Fence.wide 0 P md ops Q (fuel + 1) (listed.setIfInBounds j true) a' w') :
    ∀ (fuel : Nat) (listed : Array Bool) (a : Act) (w : World), ClosedL md ops listed →
      (∀ j oj, ops[j]? = some oj → j ≠ i → listed.getD j true = false → (∀ e ∈ oj.after, Region.binds md e = true → e.on ≠ i) → oi.apart ops oj = true) →
      i ∈ Region.ready md ops listed → bar i = false → Yl a → S w →
      wpAnyEW P md ops Q bar S fuel (listed.setIfInBounds i true) (a.put oi.dst v) w → wpAnyEW P md ops Q bar S (fuel + 1) listed a w := by
  intro fuel
  induction fuel with
  | zero =>
    intro listed a w _ _ hr hbi hy hS H
    refine ⟨fun h => (by rw [h] at hr; cases hr), fun j hj => ?_⟩
    by_cases hji : j = i
    · subst hji
      exact hY1 a w hS hy _ ⟨fun e => (by rw [hbi] at e; cases e), fun _ => ⟨hS, H⟩⟩
    · have := ready_mono hj hji
      rw [H.1] at this
      cases this
  | succ fuel ih =>
    intro listed a w hcl hfree hr hbi hy hS H
    refine ⟨fun h => (by rw [h] at hr; cases hr), fun j hj => ?_⟩
    by_cases hji : j = i
    · subst hji
      exact hY1 a w hS hy _ ⟨fun e => (by rw [hbi] at e; cases e), fun _ => ⟨hS, H⟩⟩
    · have h1 := H.2 j (ready_mono hj hji)
      obtain ⟨hjun, oj, hoj, hall⟩ := mem_ready.1 hj
      have hnot : ∀ e ∈ oj.after, Region.binds md e = true → e.on ≠ i := fun e he hb heq => by
        have h1 := hall e he hb
        have h0 := (mem_ready.1 hr).1
        rw [heq] at h1
        rcases Nat.lt_or_ge i listed.size with h' | h'
        · simp [h'] at h0 h1; rw [h0] at h1; cases h1
        · simp [Array.getElem?_eq_none h'] at h1
      have h2 := hY2 j oj hoj (hfree j oj hoj hji hjun hnot) _ a w hy h1
      have hfree' : ∀ k ok, ops[k]? = some ok → k ≠ i → (listed.setIfInBounds j true).getD k true = false →
          (∀ e ∈ ok.after, Region.binds md e = true → e.on ≠ i) → oi.apart ops ok = true := fun k ok hk hki hun hno => by
        refine hfree k ok hk hki ?_ hno
        by_cases hjk : j = k
        · subst hjk; exact hjun
        · rw [getD_set_ne true hjk] at hun; exact hun
      refine wpOpIn_mono (fun a' w' h3 => ?_) h2
      obtain ⟨hy', h4, h5⟩ := h3
      refine ⟨fun hb => ?_, fun hb => ?_⟩
      · have h6 := h4 hb
        rw [Array.setIfInBounds_comm _ _ (Ne.symm hji)] at h6
        exact hB j listed fuel a' w' hb hcl hj (ready_mono hr (Ne.symm hji)) hfree' hy' h6
      · obtain ⟨hS', h6⟩ := h5 hb
        rw [Array.setIfInBounds_comm _ _ (Ne.symm hji)] at h6
        exact ⟨hS', ih (listed.setIfInBounds j true) a' w' (hcl.set hj) hfree' (ready_mono hr (Ne.symm hji)) hbi hy' hS' h6⟩


theorem anyEW_of : ∀ (fuel : Nat) (listed : Array Bool) (a : Act) (w : World), wpAnyIn Fence.wide 0 P md ops Q fuel listed a w → wpAnyEW P md ops Q (fun _ => false) (fun _ => True) fuel listed a w
  | 0, _, _, _, h => h
  | fuel + 1, _, _, _, h => ⟨h.1, fun i hi => wpOpIn_mono (fun a' w' h' => ⟨fun e => (by cases e), fun _ => ⟨trivial, anyEW_of fuel _ a' w' h'⟩⟩) (h.2 i hi)⟩
theorem anyW_first {i : Nat} {oi : Oper} {v : Value} (hi : ops[i]? = some oi) (hsel : ∀ (j : Nat) (o : Oper) cs b, ops[j]? = some o → o.op ≠ .select cs b) (hQ : ∀ c a w, Q (.panic c) (a.put oi.dst v) w → Q (.panic c) a w)
    (fuel : Nat) (listed : Array Bool) (a : Act) (w : World) (hcl : ClosedL md ops listed)
    (hfree : ∀ j oj, ops[j]? = some oj → j ≠ i → listed.getD j true = false → (∀ e ∈ oj.after, Region.binds md e = true → e.on ≠ i) → oi.apart ops oj = true) (hr : i ∈ Region.ready md ops listed)
    (hy : YieldsIf P ops (fun _ => True) oi v a) (H : wpAnyIn Fence.wide 0 P md ops Q fuel (listed.setIfInBounds i true) (a.put oi.dst v) w) : wpAnyIn Fence.wide 0 P md ops Q (fuel + 1) listed a w :=
  wpAnyW_of_E _ _ _ _ (wpAnyEW_first (bar := fun _ => false) (S := fun _ => True) (fun a' => YieldsIf P ops (fun _ => True) oi v a') hi (fun a' w' hS hy' K hK => yieldsW hi hy' hS hK)
    (fun j oj hj hap K a' w' hy' hh => putW hj hap (fun cs b => hsel i oi cs b hi) (fun cs b => hsel j oj cs b hj) hQ hy' hh) (fun j listed' fuel' a' w' hb => by cases hb) fuel listed a w hcl hfree hr rfl hy trivial (anyEW_of _ _ _ _ H))
end

/-! ### soundness -/
section
variable {P : Program} {C : CallP} {Q : PostD} {ops : Array Oper}
theorem seqY_sound (hC : CallOK P C) (w₀ : World) (Fr : Act → Prop) : ∀ (l : List Oper) (a : Act) (w : World) (K : Act → Heap → Prop), keeps w₀ w → seqY P C (YieldsHP P) Q ops l a w.heap K →
    (∀ a' w', keeps w₀ w' → FrL l a a' → K a' w'.heap → Q .normal a' w'.heap) → (∀ a', FrL l a a' → Fr a') → wpListIn Fence.wide 0 P ops (postOf w₀ Fr Q) l a w
  | [], a, w, K, hk, H, hQ, hF => ⟨hk, hF a (fun W _ => agree.refl W a), hQ a w hk (fun W _ => agree.refl W a) H⟩
  | o :: rest, a, w, K, hk, H, hQ, hF => by
    have hcons : ∀ a1, (∀ W, dstIn W o = true → agree W a a1) → ∀ a', FrL rest a1 a' → FrL (o :: rest) a a' := fun a1 h1 a' h2 W hW => by
      simp only [List.all_cons, Bool.and_eq_true] at hW
      exact (h1 W hW.1).trans (h2 W hW.2)
    have hrec : ∀ a1 w1, keeps w₀ w1 → (∀ W, dstIn W o = true → agree W a a1) → seqY P C (YieldsHP P) Q ops rest a1 w1.heap K → wpListIn Fence.wide 0 P ops (postOf w₀ Fr Q) rest a1 w1 := fun a1 w1 hk1 h1 H1 =>
      seqY_sound hC w₀ Fr rest a1 w1 K hk1 H1 (fun a' w' hk' hf => hQ a' w' hk' (hcons a1 h1 a' hf)) (fun a' hf => hF a' (hcons a1 h1 a' hf))
    unfold wpListIn
    rcases guardD_spec H with ⟨hw, H⟩ | ⟨hw, H⟩
    · rw [if_pos hw]
      exact (stepY_wpIn hC H (fun a' w' hk' hs h => hrec a' w' (hk.trans hk') (fun W hW => step_agree hs hW) h) (fun c w' hk' h => ⟨hk.trans hk', h⟩))
    · rw [if_neg (by rw [hw]; simp)]
      exact ⟨fun _ _ => trivial, hrec _ w hk (fun W hW => (agree.refl W a).put hW undef) H⟩

theorem withY_wpOp (hC : CallOK P C) {w₀ : World} {Fr : Act → Prop} {i : Nat} {a : Act} {w : World} {k : Act → Heap → Prop} {next : Act → World → Prop} (hk : keeps w₀ w) (H : withY P C (YieldsHP P) Q ops i a w.heap k)
    (hnext : ∀ a' w', keeps w₀ w' → (∀ W, ops.toList.all (dstIn W) = true → agree W a a') → k a' w'.heap → next a' w') : wpOpIn Fence.wide 0 P ops (postOf w₀ Fr Q) i next a w := by
  unfold withY at H
  split at H
  · exact H.elim
  · rename_i o ho
    unfold wpOpIn
    simp only [ho]
    have hin : ∀ W, ops.toList.all (dstIn W) = true → dstIn W o = true := fun W hW => List.all_eq_true.1 hW o (by
      have := Array.mem_of_getElem? ho
      simpa using this)
    rcases guardD_spec H with ⟨hw, H⟩ | ⟨hw, H⟩
    · rw [if_pos hw]
      exact (stepY_wpIn hC H (fun a' w' hk' hs h => hnext a' w' (hk.trans hk') (fun W hW => step_agree hs (hin W hW)) h) (fun c w' hk' h => ⟨hk.trans hk', h⟩))
    · rw [if_neg (by rw [hw]; simp)]
      exact ⟨fun _ _ => trivial, hnext _ w hk (fun W hW => (agree.refl W a).put (hin W hW) undef) H⟩

theorem withY_of_new {Y : YP} {i : Nat} {a : Act} {h : Heap} {k : Act → Heap → Prop} (hn : newB ops i = true) (H : withD P C Q ops i a h k) : withY P C Y Q ops i a h k := by
  unfold newB at hn
  unfold withD at H
  unfold withY
  split at hn
  · rename_i o ho
    simp only [ho] at H ⊢
    have hc : ∀ c, o.op ≠ .call c := fun c e => by rw [e] at hn; cases hn
    have hb : ∀ op t x y yt, o.op ≠ .binOp op t x y yt := fun op t x y yt e => by rw [e] at hn; cases hn
    simp only [stepY_eq hc hb]
    exact H
  · cases hn
theorem goY_wpOp (hC : CallOK P C) {ro : Option (Nat → Prop)} {w₀ : World} {Fr : Act → Prop} {i : Nat} {a : Act} {w : World} {k : Act → Heap → Prop} {next : Act → World → Prop} (hk : keeps w₀ w) (H : goY P C (YieldsHP P) Q ops ro i a w.heap k)
    (hnext : ∀ a' w', keeps w₀ w' → (∀ W, ops.toList.all (dstIn W) = true → agree W a a') → relH ro w.heap w'.heap → k a' w'.heap → next a' w') : wpOpIn Fence.wide 0 P ops (postOf w₀ Fr Q) i next a w := by
  unfold goY at H
  split at H
  · rename_i hn; exact withY_wpOp hC hk (withY_of_new hn (new_withD hn H)) fun a' w' h1 h2 h => hnext a' w' h1 h2 (h.1.rel ro) h.2
  · exact withY_wpOp hC hk H fun a' w' h1 h2 h => hnext a' w' h1 h2 h.1 h.2

theorem planY_sound (ro : Option (Nat → Prop)) (hC : CallOK P C) {R : List Tmp} (hQp : PanicOK R Q) (hR : avoidR R ops = true) (w₀ : World) (a₀ : Act) (Fr : Act → Prop) (hs : Region.noSelect ops = true)
    (hF : ∀ a', (∀ W, ops.toList.all (dstIn W) = true → agree W a₀ a') → Fr a') :
    ∀ (p : Plan) (n : Nat) (bars : List Nat) (listed : Array Bool) (a : Act) (w : World), ClosedL .any ops listed → keeps w₀ w →
      (∀ W, ops.toList.all (dstIn W) = true → agree W a₀ a) → planY P C (YieldsHP P) Q ops ro p a w.heap (fun a' h' => Q .normal a' h') →
      (okPlan ops true bars n listed p = true → wpAnyEW P .any ops (postOf w₀ Fr Q) (fun i => bars.contains i) (fun w' => relH ro w.heap w'.heap) n listed a w) ∧
      (∀ m n', n = n' + 1 → okPlan ops false bars n listed p = true → m ∈ headsP p → m ∈ Region.ready .any ops listed →
        wpOpIn Fence.wide 0 P ops (postOf w₀ Fr Q) m (fun a' w' => (bars.contains m = true → wpAnyIn Fence.wide 0 P .any ops (postOf w₀ Fr Q) n' (listed.setIfInBounds m true) a' w') ∧
          (bars.contains m = false → relH ro w.heap w'.heap ∧ wpAnyEW P .any ops (postOf w₀ Fr Q) (fun i => bars.contains i) (fun w' => relH ro w.heap w'.heap) n' (listed.setIfInBounds m true) a' w')) a w) := by
  have hsel := Region.noSelect_spec hs
  have hQ' : ∀ (i : Nat) (o : Oper), ops[i]? = some o → ∀ (v : Value) c a w, postOf w₀ Fr Q (.panic c) (a.put o.dst v) w → postOf w₀ Fr Q (.panic c) a w := fun i o ho v c a w h => ⟨h.1, hQp c a o.dst v _ (avoidR_spec hR ho) h.2⟩
  intro p
  induction p with
  | done =>
    intro n bars listed a w hcl hk hag H
    refine ⟨fun hok => ?_, fun m n' _ _ hm => by cases hm⟩
    have hr : Region.ready .any ops listed = [] := by
      have : (readyL ops listed).isEmpty = true := by cases n <;> exact hok
      simpa [readyL] using this
    cases n with
    | zero => exact ⟨hr, hk, hF a hag, H⟩
    | succ n => exact ⟨fun _ => ⟨hk, hF a hag, H⟩, by rw [hr]; simp⟩
  | take i p ih =>
    intro n bars listed a w hcl hk hag H
    refine ⟨fun hok => ?_, fun m n' _ _ hm => by cases hm⟩
    cases n with
    | zero => cases hok
    | succ n =>
      simp only [okPlan, Bool.and_eq_true] at hok
      obtain ⟨⟨_, ht⟩, hok⟩ := hok
      unfold okTake at ht
      cases ho : ops[i]? with
      | none => rw [ho] at ht; cases ht
      | some o =>
        rw [ho] at ht
        simp only [Bool.and_eq_true, Bool.not_eq_true', List.contains_eq_mem, decide_eq_true_eq, decide_eq_false_iff_not, Bool.or_eq_true] at ht
        obtain ⟨⟨⟨⟨hf, hr⟩, hfree⟩, hbi⟩, hload⟩ := ht
        obtain ⟨v, hv, hy, hyp⟩ := float_take hC ho hf H
        have hbi' : (fun i => bars.contains i) i = false := by simpa using hbi
        have hin : ∀ W, ops.toList.all (dstIn W) = true → agree W a₀ (a.put o.dst v) := fun W hW => (hag W hW).put (List.all_eq_true.1 hW o (by
          have := Array.mem_of_getElem? ho
          simpa using this)) v
        have hrec := (ih n bars (listed.setIfInBounds i true) (a.put o.dst v) w (hcl.set hr) hk hin hv).1 hok
        cases hl : isLoad o.op with
        | false =>
          refine wpAnyEW_first (fun a' => YieldsIf P ops (fun _ => True) o v a') ho (fun a' w' _ hy' K hK => yieldsW ho hy' trivial hK)
            (fun j oj hj hap K a' w' hy' hh => putW hj hap (fun cs b => hsel i o cs b ho) (fun cs b => hsel j oj cs b hj) (hQ' i o ho v) hy' hh)
            (fun j listed' fuel a' w' _ hcl' hrj hri hfr hy' hh => anyW_first ho hsel (hQ' i o ho v) fuel _ a' w' (hcl'.set hrj) hfr hri hy' hh)
            n listed a w hcl (Region.free_spec ho hfree) hr hbi' (hyp hl).yieldsIf (relH.refl ro _) hrec
        | true =>
          refine wpAnyEW_first (fun a' => YieldsIf P ops (fun w' => relH ro w.heap w'.heap) o v a') ho (fun a' w' hS hy' K hK => yieldsW ho hy' hS hK)
            (fun j oj hj hap K a' w' hy' hh => putW hj hap (fun cs b => hsel i o cs b ho) (fun cs b => hsel j oj cs b hj) (hQ' i o ho v) hy' hh)
            (fun j listed' fuel a' w' hb hcl' hrj hri _ _ _ => by
              rcases hload with h | h
              · rw [hl] at h; cases h
              · have hd := depB_spec (List.all_eq_true.1 h j (by simpa using hb))
                have h1 := hcl'.ready hd hrj
                have h2 := (mem_ready.1 hri).1
                have hji : j ≠ i := fun e => by subst e; exact hbi (by simpa using hb)
                rw [getD_set_ne true hji] at h2
                rcases Nat.lt_or_ge i listed'.size with h' | h'
                · simp [h'] at h1 h2; rw [h1] at h2; cases h2
                · simp [Array.getElem?_eq_none h'] at h1)
            n listed a w hcl (Region.free_spec ho hfree) hr hbi' hy (relH.refl ro _) hrec
  | keep p ih =>
    intro n bars listed a w hcl hk hag H
    exact H.elim
  | go i p ih =>
    intro n bars listed a w hcl hk hag H
    have one : ∀ n', okPlan ops true bars n' (listed.setIfInBounds i true) p = true → bars.contains i = false → i ∈ Region.ready .any ops listed →
        wpOpIn Fence.wide 0 P ops (postOf w₀ Fr Q) i (fun a' w' => (bars.contains i = true → wpAnyIn Fence.wide 0 P .any ops (postOf w₀ Fr Q) n' (listed.setIfInBounds i true) a' w') ∧
          (bars.contains i = false → relH ro w.heap w'.heap ∧ wpAnyEW P .any ops (postOf w₀ Fr Q) (fun i => bars.contains i) (fun w' => relH ro w.heap w'.heap) n' (listed.setIfInBounds i true) a' w')) a w := fun n' hok hbi hr => by
      refine goY_wpOp hC hk H fun a' w' hk' hin he h => ⟨fun hb => (by rw [hbi] at hb; cases hb), fun _ => ⟨he, ?_⟩⟩
      exact wpAnyEW_mono (fun w'' hw => he.trans hw) n' _ a' w' ((ih n' bars _ a' w' (hcl.set hr) hk' (fun W hW => (hag W hW).trans (hin W hW)) h).1 hok)
    refine ⟨fun hok => ?_, fun m n' hn hok hm hr => ?_⟩
    · cases n with
      | zero => cases hok
      | succ n =>
        simp only [okPlan, Bool.and_eq_true, Bool.or_eq_true, decide_eq_true_eq, Bool.not_eq_true'] at hok
        obtain ⟨⟨hr, hbi⟩, hok⟩ := hok
        have hr' : Region.ready .any ops listed = [i] := by
          rcases hr with h | h
          · cases h
          · exact h
        refine ⟨fun h => (by rw [hr'] at h; cases h), fun j hj => ?_⟩
        rw [hr'] at hj
        obtain rfl := List.mem_singleton.1 hj
        exact one n hok hbi (by rw [hr']; simp)
    · subst hn
      simp only [okPlan, Bool.and_eq_true, Bool.or_eq_true, decide_eq_true_eq, Bool.not_eq_true'] at hok
      obtain ⟨⟨_, hbi⟩, hok⟩ := hok
      obtain rfl : m = i := List.mem_singleton.1 hm
      exact one n' hok hbi hr
  | alt i p q ihp ihq =>
    intro n bars listed a w hcl hk hag H
    have one : ∀ n', okPlan ops true bars n' (listed.setIfInBounds i true) p = true → bars.contains i = false → i ∈ Region.ready .any ops listed →
        wpOpIn Fence.wide 0 P ops (postOf w₀ Fr Q) i (fun a' w' => (bars.contains i = true → wpAnyIn Fence.wide 0 P .any ops (postOf w₀ Fr Q) n' (listed.setIfInBounds i true) a' w') ∧
          (bars.contains i = false → relH ro w.heap w'.heap ∧ wpAnyEW P .any ops (postOf w₀ Fr Q) (fun i => bars.contains i) (fun w' => relH ro w.heap w'.heap) n' (listed.setIfInBounds i true) a' w')) a w := fun n' hok hbi hr => by
      refine goY_wpOp hC hk H.1 fun a' w' hk' hin he h => ⟨fun hb => (by rw [hbi] at hb; cases hb), fun _ => ⟨he, ?_⟩⟩
      exact wpAnyEW_mono (fun w'' hw => he.trans hw) n' _ a' w' ((ihp n' bars _ a' w' (hcl.set hr) hk' (fun W hW => (hag W hW).trans (hin W hW)) h).1 hok)
    have both : ∀ m n', okPlan ops false bars (n' + 1) listed q = true → okPlan ops true bars n' (listed.setIfInBounds i true) p = true → bars.contains i = false → m ∈ i :: headsP q → m ∈ Region.ready .any ops listed →
        wpOpIn Fence.wide 0 P ops (postOf w₀ Fr Q) m (fun a' w' => (bars.contains m = true → wpAnyIn Fence.wide 0 P .any ops (postOf w₀ Fr Q) n' (listed.setIfInBounds m true) a' w') ∧
          (bars.contains m = false → relH ro w.heap w'.heap ∧ wpAnyEW P .any ops (postOf w₀ Fr Q) (fun i => bars.contains i) (fun w' => relH ro w.heap w'.heap) n' (listed.setIfInBounds m true) a' w')) a w := fun m n' hq hp hbi hm hr => by
      rcases List.mem_cons.1 hm with rfl | hm
      · exact one n' hp hbi hr
      · exact (ihq (n' + 1) bars listed a w hcl hk hag H.2).2 m n' rfl hq hm hr
    refine ⟨fun hok => ?_, fun m n' hn hok hm hr => ?_⟩
    · cases n with
      | zero => cases hok
      | succ n =>
        simp only [okPlan, Bool.and_eq_true, Bool.or_eq_true, decide_eq_true_eq, Bool.not_eq_true'] at hok
        obtain ⟨⟨⟨hr, hbi⟩, hok1⟩, hok2⟩ := hok
        have hr' : Region.ready .any ops listed = i :: headsP q := by
          rcases hr with h | h
          · cases h
          · exact h
        refine ⟨fun h => (by rw [hr'] at h; cases h), fun j hj => ?_⟩
        exact both j n hok2 hok1 hbi (by rw [hr'] at hj; exact hj) hj
    · subst hn
      simp only [okPlan, Bool.and_eq_true, Bool.or_eq_true, decide_eq_true_eq, Bool.not_eq_true'] at hok
      obtain ⟨⟨⟨_, hbi⟩, hok1⟩, hok2⟩ := hok
      exact both m n' hok2 hok1 hbi hm hr
  | bar i bars' p ih =>
    intro n bars listed a w hcl hk hag H
    refine ⟨fun hok => ?_, fun m n' _ _ hm => by cases hm⟩
    cases n with
    | zero => cases hok
    | succ n =>
      simp only [okPlan, Bool.and_eq_true, decide_eq_true_eq] at hok
      obtain ⟨⟨⟨_, hr⟩, hbi⟩, hok⟩ := hok
      have hr' : Region.ready .any ops listed = [i] := hr
      refine ⟨fun h => (by rw [hr'] at h; cases h), fun j hj => ?_⟩
      rw [hr'] at hj
      obtain rfl := List.mem_singleton.1 hj
      refine withY_wpOp hC hk H fun a' w' hk' hin h => ⟨fun _ => ?_, fun hb => (by have hb : bars.contains j = false := hb; rw [hbi] at hb; cases hb)⟩
      exact wpAnyW_of_E n _ a' w' ((ih n bars' _ a' w' (hcl.set (by rw [hr']; simp)) hk' (fun W hW => (hag W hW).trans (hin W hW)) h).1 hok)

end
end Go.Den

/- RnB: as DenJ and DenK, inside a fence: whole bodies that range over functions. No program in sight. -/
set_option linter.unusedVariables false
set_option linter.unusedSimpArgs false
namespace Go.Den

structure HintsY extends Hints where
  rng : Nat → Option (List CT) := fun _ => none

/-! ### leaving a round -/
/-- The ways out of a round: 0 is a return; an exit; a goto. -/
def keyX : Exit → Option Nat
  | .ret => some 0
  | .exit id => some (2 * id + 1)
  | .goto t => some (2 * t + 2)
  | _ => none
def jumpsOf : Code → List Nat
  | .ret => [0]
  | .exit id => [2 * id + 1]
  | .goto t => [2 * t + 2]
  | .seq a b => jumpsOf a ++ jumpsOf b
  | .cond _ a b => jumpsOf a ++ jumpsOf b
  | .block id c => (jumpsOf c).filter fun k => !(Nat.beq k (2 * id + 1))
  | .loop c => jumpsOf c
  | _ => []
def exitK : Nat → Exit
  | 0 => .ret
  | n + 1 => match Nat.beq (n % 2) 0 with
    | true => .exit (n / 2)
    | false => .goto (n / 2)
def codeK : Nat → Code
  | 0 => .ret
  | n + 1 => match Nat.beq (n % 2) 0 with
    | true => .exit (n / 2)
    | false => .goto (n / 2)
theorem exitK_key {e : Exit} {k : Nat} (h : keyX e = some k) : exitK k = e ∧ ((e = .ret ∧ codeK k = .ret) ∨ (∃ id, e = .exit id ∧ codeK k = .exit id) ∨ ∃ t, e = .goto t ∧ codeK k = .goto t) := by
  cases e with
  | ret =>
    obtain rfl := Option.some.inj h
    exact ⟨rfl, .inl ⟨rfl, rfl⟩⟩
  | exit id =>
    obtain rfl := Option.some.inj h
    have h1 : Nat.beq (2 * id % 2) 0 = true := by rw [Nat.mul_mod_right]; rfl
    have h2 : 2 * id / 2 = id := by omega
    refine ⟨?_, .inr (.inl ⟨id, rfl, ?_⟩)⟩
    · show (match Nat.beq (2 * id % 2) 0 with | true => Exit.exit (2 * id / 2) | false => .goto (2 * id / 2)) = _
      rw [h1, h2]
    · show (match Nat.beq (2 * id % 2) 0 with | true => Code.exit (2 * id / 2) | false => .goto (2 * id / 2)) = _
      rw [h1, h2]
  | goto t =>
    obtain rfl := Option.some.inj h
    have h1 : Nat.beq ((2 * t + 1) % 2) 0 = false := by rw [show (2 * t + 1) % 2 = 1 by omega]; rfl
    have h2 : (2 * t + 1) / 2 = t := by omega
    refine ⟨?_, .inr (.inr ⟨t, rfl, ?_⟩)⟩
    · show (match Nat.beq ((2 * t + 1) % 2) 0 with | true => Exit.exit ((2 * t + 1) / 2) | false => .goto ((2 * t + 1) / 2)) = _
      rw [h1, h2]
    · show (match Nat.beq ((2 * t + 1) % 2) 0 with | true => Code.exit ((2 * t + 1) / 2) | false => .goto ((2 * t + 1) / 2)) = _
      rw [h1, h2]
  | normal => cases h
  | panic c => cases h
  | outgrown => cases h

def objAt (h : Heap) (l : Nat) (o : Obj) : Prop := h[l]? = some o
def putO (h : Heap) (l : Nat) (o : Obj) : Heap := h.setIfInBounds l o
def mark (D : Nat) (a : Act) : Act := { a with defers := { target := .collected D, args := #[] } :: a.defers }
/-- A function's value, with what it has captured. -/
def funD (v : Value) (K : FuncId → List Value → Prop) : Prop := match v with
  | .func (.func g) first lb => (match first.toList with
    | [] => K g lb.toList
    | _ => False)
  | _ => False
theorem funD_spec {v : Value} {K : FuncId → List Value → Prop} (H : funD v K) : ∃ g lb, v = .func (.func g) #[] lb ∧ K g lb.toList := by
  unfold funD at H
  split at H
  · rename_i g first lb
    split at H
    · rename_i hf
      have e : first = #[] := by apply Array.toList_inj.1; rw [hf]
      exact ⟨g, lb, by rw [e], H⟩
    · exact H.elim
  · exact H.elim
def roundQ (l : Nat) (oR oB : Obj) (oJ : Nat → Obj) (js : List Nat) (K : Value → Heap → Prop) : PostD := fun e _ h => match e with
  | .normal => objAt h l oB ∧ K (.bool true) (putO h l oR)
  | e => (match keyX e with
    | some k => (match js.contains k with
      | true => objAt h l oB ∧ K (.bool false) (putO h l (oJ k))
      | false => False)
    | none => False)
def assignQ (l : Nat) (oR oB : Obj) (next : Act → Heap → Prop) : PostD := fun e a h => match e with
  | .normal => objAt h l oR ∧ next a (putO h l oB)
  | _ => False
def afterQ (l : Nat) (oJ oXJ : Nat → Obj) (Q : PostD) (a : Act) (h : Heap) : List Nat → Prop
  | [] => False
  | k :: js => (objAt h l (oJ k) ∧ Q (exitK k) a (putO h l (oXJ k))) ∨ afterQ l oJ oXJ Q a h js
def allTs : List CT → (List Value → Prop) → Prop
  | [], p => p []
  | t :: ts, p => allC t fun v => allTs ts fun vs => p (v :: vs)
def putTs : List Tmp → List Value → Act → Act
  | p :: ps, v :: vs, a => putTs ps vs (a.put (some p) v)
  | _, _, a => a
def noDefB (ops : Array Oper) : Bool := ops.toList.all fun o => match o.op with
  | .defer _ => false
  | _ => true

def denY (P : Program) (C : CallP) (Y : YP) (H : HintsY) : Bool → Code → PostD → Act → Heap → Prop
  | _, .skip, Q, a, h => Q .normal a h
  | top, .region id ops draw, Q, a, h => (match top || noDefB ops with
    | true => (match draw with
      | false => seqY P C Y Q ops ops.toList a h fun a' h' => Q .normal a' h'
      | true => (match H.plan id with
        | some (bars, p) => (match checkPlan ops bars (stripK p) && avoidR H.keep ops with
          | true => keepD (fun ro p => planY P C Y Q ops ro p a h fun a' h' => Q .normal a' h') p
          | false => False)
        | none => False))
    | false => False)
  | top, .seq x y, Q, a, h => (match hintAt H.join y with
    | none => denY P C Y H top x (seqQ (fun a' h' => denY P C Y H top y Q a' h') Q) a h
    | some (S, W) => (match okW W x && inS W S with
      | true => joinD S W (fun Q' a' h' => denY P C Y H top x Q' a' h') (fun Q' a' h' => denY P C Y H top y Q' a' h') Q a h
      | false => False))
  | top, .cond c x y, Q, a, h => (match a.eval c with
    | .bool b => bcase b (denY P C Y H top x Q a h) (denY P C Y H top y Q a h)
    | _ => False)
  | top, .block id c, Q, a, h => denY P C Y H top c (blockQ id Q) a h
  | top, .loop c, Q, a, h => (match hintAt H.loop c with
    | none => False
    | some (S, W) => (match okW W c && inS W S with
      | true => loopD S W (fun Q' a' h' => denY P C Y H top c Q' a' h') Q a h
      | false => False))
  | _, .exit id, Q, a, h => Q (.exit id) a h
  | _, .label _, Q, a, h => Q .normal a h
  | _, .goto l, Q, a, h => Q (.goto l) a h
  | _, .ret, Q, a, h => Q .ret a h
  | true, .rangeFunc g ps x y, Q, a, h => (match (headId y).bind H.rng with
    | some ts => (match Nat.beq ts.length ps.toList.length with
      | true => funD (a.eval g) fun gf lb => ∀ (oR oB oX : Obj) (oJ oXJ : Nat → Obj),
          (∀ (h' : Heap) (K : Value → Heap → Prop), objAt h' (h.size + 1) oR → allTs ts fun vs =>
            denY P C Y H false x (assignQ (h.size + 1) oR oB fun a1 h1 => denY P C Y H false y (roundQ (h.size + 1) oR oB oJ (jumpsOf y) K) a1 h1) (putTs ps.toList vs { a with defers := [] }) h' → Y (h.size + 1) vs h' K) →
          C gf (.func (.yield (h.size + 1)) #[] #[] :: lb).toArray ((h.push (.deferred (some []))).push oR)
            (fun _ h2 => (objAt h2 (h.size + 1) oR ∧ Q .normal (mark h.size a) (putO h2 (h.size + 1) oX)) ∨ afterQ (h.size + 1) oJ oXJ Q (mark h.size a) h2 (jumpsOf y)) (fun c h2 => Q (.panic c) (mark h.size a) h2)
      | false => False)
    | none => False)
  | _, _, _, _, _ => False

/-! ### soundness -/
/-- The fence of a function's own frame, and of a round's. -/
def FR : Option Nat → Fence
  | none => Fence.wide
  | some l => Fence.wide.inRound l

section
variable {P : Program} {ops : Array Oper} {Q : Exit → Act → World → Prop} {r : Nat}
theorem oper_round {o : Oper} {a : Act} {w : World} {next : Act → World → Prop} (hd : ∀ c, o.op ≠ .defer c) (h : o.wpIn Fence.wide 0 P a w next Q) : o.wpIn (Fence.wide.inRound r) 0 P a w next Q := by
  refine ⟨fun _ _ => trivial, ?_⟩
  have h := h.2
  have e1 : o.semAt Fence.wide.round a.eval = execOp a.eval o := Oper.semAt_none _ _
  have e2 : o.semAt (Fence.wide.inRound r).round a.eval = execOp a.eval o := Oper.semAt_eq _ _ _ hd
  rw [e1] at h
  rw [e2]
  exact h
theorem no_def {ops : Array Oper} (h : noDefB ops = true) {o : Oper} (ho : o ∈ ops.toList) : ∀ c, o.op ≠ .defer c := fun c e => by
  have := List.all_eq_true.1 h o ho
  rw [e] at this
  cases this
theorem list_round : ∀ (l : List Oper) (a : Act) (w : World), (∀ o ∈ l, ∀ c, o.op ≠ .defer c) → wpListIn Fence.wide 0 P ops Q l a w → wpListIn (Fence.wide.inRound r) 0 P ops Q l a w
  | [], a, w, _, h => h
  | o :: rest, a, w, hd, h => by
    unfold wpListIn at h ⊢
    by_cases hw : Region.wanted o (yielded ops a.tmps) = true
    · rw [if_pos hw] at h ⊢
      exact Oper.wpIn_mono (fun a' w' h' => list_round rest a' w' (fun o ho => hd o (List.mem_cons_of_mem _ ho)) h') (oper_round (hd o (List.mem_cons_self ..)) h)
    · rw [if_neg hw] at h ⊢
      exact ⟨fun _ _ => trivial, list_round rest _ w (fun o ho => hd o (List.mem_cons_of_mem _ ho)) h.2⟩
theorem op_round {i : Nat} {a : Act} {w : World} {K : Act → World → Prop} (hd : ∀ o ∈ ops.toList, ∀ c, o.op ≠ .defer c) (h : wpOpIn Fence.wide 0 P ops Q i K a w) : wpOpIn (Fence.wide.inRound r) 0 P ops Q i K a w := by
  unfold wpOpIn at h ⊢
  cases ho : ops[i]? with
  | none => simp only [ho] at h ⊢; exact h
  | some o =>
    simp only [ho] at h ⊢
    have hm : o ∈ ops.toList := by have := Array.mem_of_getElem? ho; simpa using this
    by_cases hw : Region.wanted o (yielded ops a.tmps) = true
    · rw [if_pos hw] at h ⊢
      exact oper_round (hd o hm) h
    · rw [if_neg hw] at h ⊢
      exact ⟨fun _ _ => trivial, h.2⟩
theorem any_round {md : Region.Mode} (hd : ∀ o ∈ ops.toList, ∀ c, o.op ≠ .defer c) : ∀ (fuel : Nat) (listed : Array Bool) (a : Act) (w : World), wpAnyIn Fence.wide 0 P md ops Q fuel listed a w → wpAnyIn (Fence.wide.inRound r) 0 P md ops Q fuel listed a w
  | 0, _, _, _, h => h
  | fuel + 1, _, _, _, h => ⟨h.1, fun i hi => wpOpIn_mono (fun a' w' h' => any_round hd fuel _ a' w' h') (op_round hd (h.2 i hi))⟩
end

section
variable {P : Program} {H : HintsY} {F : Fence} {n : Nat}
theorem wpIn_loop_ex {c : Code} {Q : Exit → Act → World → Prop} {a : Act} {w : World} (I : Nat → Act → World → Prop) (h₀ : ∃ n, I n a w)
    (round : ∀ m a w, I m a w → c.wpIn F n P (Exit.then (fun a' w' => ∃ m', m' < m ∧ I m' a' w') Q) a w) : (Code.loop c).wpIn F n P Q a w := by
  classical
  let μ : Act → World → Nat := fun a w => if h : ∃ n, I n a w then Classical.choose (least h) else 0
  refine wpIn_loop (fun a w => ∃ n, I n a w) μ h₀ fun a w hI => ?_
  have hs := Classical.choose_spec (least hI)
  refine wpIn_mono (round _ a w hs.1) fun e a' w' h => ?_
  cases e with
  | normal =>
    obtain ⟨m, hlt, hm⟩ := h
    refine ⟨⟨m, hm⟩, ?_⟩
    have h1 : μ a' w' = Classical.choose (least ⟨m, hm⟩) := dif_pos ⟨m, hm⟩
    have h2 : μ a w = Classical.choose (least hI) := dif_pos hI
    rw [h1, h2]
    exact Nat.lt_of_le_of_lt ((Classical.choose_spec (least ⟨m, hm⟩)).2 m hm) hlt
  | _ => exact h

theorem allC_of {t : CT} {p : Value → Prop} (h : ∀ v, p v) : allC t p := by
  cases t <;> first
    | exact fun x => h _
    | exact fun q n c => h _
theorem allTs_of : ∀ {ts : List CT} {q : List Value → Prop}, (∀ vs, vs.length = ts.length → q vs) → allTs ts q
  | [], q, h => h [] rfl
  | t :: ts, q, h => allC_of fun v => allTs_of fun vs hl => h (v :: vs) (by simp [hl])
theorem putTs_zip : ∀ (ps : List Tmp) (vs : List Value) (a : Act), putTs ps vs a = { a with tmps := (ps.zip vs).foldl (fun t (p, v) => t.setIfInBounds p v) a.tmps }
  | [], vs, a => by simp [putTs]
  | p :: ps, [], a => by simp [putTs]
  | p :: ps, v :: vs, a => by
    rw [putTs, putTs_zip ps vs]
    rfl
theorem afterQ_spec {l : Nat} {oJ oXJ : Nat → Obj} {Q : PostD} {a : Act} {h : Heap} : ∀ {js : List Nat}, afterQ l oJ oXJ Q a h js → ∃ k, objAt h l (oJ k) ∧ Q (exitK k) a (putO h l (oXJ k))
  | k :: js, H => by
    rcases H with H | H
    · exact ⟨k, H⟩
    · exact afterQ_spec H

theorem denY_sound (hm : P.follows .mixedOrders = true) : ∀ (c : Code) (ro : Option Nat) (w₀ : World) (Q : PostD) (a : Act) (w : World), keeps w₀ w → PanicOK H.keep Q → denY P (CallsHP P) (YieldsHP P) H ro.isNone c Q a w.heap →
    c.wpIn (FR ro) 0 P (postC w₀ c a Q) a w := by
  have hC := callsHP_ok P
  intro c
  induction c with
  | skip => intro ro w₀ Q a w hk hp h; exact wpIn_skip ⟨hk, fun W _ => agree.refl W a, h⟩
  | region id ops draw =>
    intro ro w₀ Q a w hk hp h
    simp only [denY] at h
    split at h
    · rename_i hok
      have hdef : ∀ l, ro = some l → ∀ o ∈ ops.toList, ∀ c, o.op ≠ .defer c := fun l hl o ho => by
        rw [hl] at hok
        exact no_def (by simpa using hok) ho
      split at h
      · have h1 := seqY_sound hC w₀ _ ops.toList a w _ hk h (fun _ _ _ _ h => h) (fun a' hf W hW => hf W hW)
        refine wpIn_region_list ?_
        cases ro with
        | none => exact h1
        | some l => exact list_round _ _ _ (hdef l rfl) h1
      · split at h
        · rename_i bars p hpl
          split at h
          · rename_i hc
            simp only [checkPlan, noSel, Bool.and_eq_true] at hc
            obtain ⟨hc, hav⟩ := hc
            refine wpIn_region_any hm ?_
            obtain ⟨ro', h⟩ := keepD_spec h
            have h1 := wpAnyW_of_E _ _ _ _ ((planY_sound ro' hC hp hav w₀ a _ hc.1 (fun a' hf W hW => hf W hW) (stripK p) _ bars _ a { w with drawn := w.drawn + 1 } (ClosedL.start _) ⟨hk.1, hk.2.1, hk.2.2⟩ (fun W _ => agree.refl W a) h).1 hc.2)
            cases ro with
            | none => exact h1
            | some l => exact any_round (hdef l rfl) _ _ _ _ h1
          · exact h.elim
        · exact h.elim
    · exact h.elim
  | seq x y ihx ihy =>
    intro ro w₀ Q a w hk hp h
    have hseq : ∀ a1 w1, frC x a a1 → keeps w₀ w1 → denY P (CallsHP P) (YieldsHP P) H ro.isNone y Q a1 w1.heap → y.wpIn (FR ro) 0 P (postC w₀ (.seq x y) a Q) a1 w1 := fun a1 w1 hf hk1 h1 => by
      refine wpIn_mono (ihy ro w₀ Q a1 w1 hk1 hp h1) fun e a' w' h2 => ?_
      have hfr : frC y a1 a' → frC (.seq x y) a a' := fun hf2 W hW => by
        simp only [okW, Bool.and_eq_true] at hW
        exact (hf W hW.1).trans (hf2 W hW.2)
      cases e <;> first | exact h2 | exact ⟨h2.1, hfr h2.2.1, h2.2.2⟩
    have hfx : ∀ a', frC x a a' → frC (.seq x y) a a' := fun a' hf W hW => by
      simp only [okW, Bool.and_eq_true] at hW
      exact hf W hW.1
    simp only [denY] at h
    split at h
    · refine wpIn_seq (wpIn_mono (ihx ro w₀ _ a w hk (hp.seqQ _) h) fun e a1 w1 h1 => ?_)
      cases e with
      | normal => exact hseq a1 w1 h1.2.1 h1.1 h1.2.2
      | panic c => exact h1
      | outgrown => exact h1
      | exit id => exact ⟨h1.1, hfx _ h1.2.1, h1.2.2⟩
      | goto l => exact ⟨h1.1, hfx _ h1.2.1, h1.2.2⟩
      | ret => exact ⟨h1.1, hfx _ h1.2.1, h1.2.2⟩
    · rename_i S W hj
      split at h
      · rename_i hok
        simp only [Bool.and_eq_true] at hok
        obtain ⟨K, h1, h2⟩ := h
        refine wpIn_seq (wpIn_mono (ihx ro w₀ _ a w hk (hp.joinQ S K) h1) fun e a1 w1 h1 => ?_)
        cases e with
        | normal =>
          obtain ⟨ht, hK⟩ := headOK_spec h1.2.2
          have h3 := allCs_spec (h2 w1.heap (fun i => a1.tmps.getD i undef)) ht hK
          rw [← patch_self (h1.2.1 W hok.1)] at h3
          exact hseq a1 w1 h1.2.1 h1.1 h3
        | panic c => exact h1
        | outgrown => exact h1
        | exit id => exact ⟨h1.1, hfx _ h1.2.1, h1.2.2⟩
        | goto l => exact ⟨h1.1, hfx _ h1.2.1, h1.2.2⟩
        | ret => exact ⟨h1.1, hfx _ h1.2.1, h1.2.2⟩
      · exact h.elim
  | cond c x y ihx ihy =>
    intro ro w₀ Q a w hk hp h
    simp only [denY] at h
    split at h
    · rename_i b hb
      unfold bcase at h
      cases b with
      | true =>
        refine wpIn_cond_true hb (wpIn_mono (ihx ro w₀ Q a w hk hp h) fun e a' w' h2 => ?_)
        have hfr : frC x a a' → frC (.cond c x y) a a' := fun hf W hW => by
          simp only [okW, Bool.and_eq_true] at hW
          exact hf W hW.1
        cases e <;> first | exact h2 | exact ⟨h2.1, hfr h2.2.1, h2.2.2⟩
      | false =>
        refine wpIn_cond_false hb (wpIn_mono (ihy ro w₀ Q a w hk hp h) fun e a' w' h2 => ?_)
        have hfr : frC y a a' → frC (.cond c x y) a a' := fun hf W hW => by
          simp only [okW, Bool.and_eq_true] at hW
          exact hf W hW.2
        cases e <;> first | exact h2 | exact ⟨h2.1, hfr h2.2.1, h2.2.2⟩
    · exact h.elim
  | block id c ih =>
    intro ro w₀ Q a w hk hp h
    refine wpIn_block (wpIn_mono (ih ro w₀ _ a w hk (hp.blockQ id) h) fun e a' w' h2 => ?_)
    cases e with
    | exit id' =>
      obtain ⟨h1, h3, h4⟩ := h2
      simp only [blockQ] at h4
      simp only [Exit.inBlock]
      split at h4
      · rename_i hb
        rw [if_pos (Nat.eq_of_beq_eq_true hb)]
        exact ⟨h1, h3, h4⟩
      · rename_i hb
        rw [if_neg (fun e => by subst e; rw [Nat.beq_refl] at hb; cases hb)]
        exact ⟨h1, h3, h4⟩
    | normal => exact h2
    | goto l => exact h2
    | ret => exact h2
    | panic c => exact h2
    | outgrown => exact h2
  | loop c ih =>
    intro ro w₀ Q a w hk hp h
    simp only [denY] at h
    split at h
    · exact h.elim
    · rename_i S W hj
      split at h
      · rename_i hok
        simp only [Bool.and_eq_true] at hok
        obtain ⟨J, ⟨n, h0⟩, hround⟩ := h
        obtain ⟨ht, hJ⟩ := headOK_spec h0
        refine wpIn_loop_ex (fun n a' w' => keeps w₀ w' ∧ frC c a a' ∧ ∃ vs u, typBs S vs = true ∧ a' = patch a S vs W u ∧ J n vs w'.heap)
          ⟨n, hk, fun W' _ => agree.refl W' a, valsOf S a, (fun i => a.tmps.getD i undef), ht, patch_self (agree.refl W a), hJ⟩ ?_
        rintro n a' w' ⟨hk', hf', vs, u, htv, rfl, hJn⟩
        have h1 := allCs_spec (hround n w'.heap u) htv hJn
        refine wpIn_mono (ih ro w₀ _ _ w' hk' (hp.loopQ S J n) h1) fun e a'' w'' h2 => ?_
        have hfr : frC c (patch a S vs W u) a'' → frC c a a'' := fun hf2 W' hW => (hf' W' hW).trans (hf2 W' hW)
        cases e with
        | normal =>
          obtain ⟨h3, h4, m, hlt, h5⟩ := h2
          obtain ⟨ht2, hJ2⟩ := headOK_spec h5
          exact ⟨m, hlt, h3, hfr h4, valsOf S a'', (fun i => a''.tmps.getD i undef), ht2, patch_self (hfr h4 W hok.1), hJ2⟩
        | panic c => exact h2
        | outgrown => exact h2
        | exit id => exact ⟨h2.1, hfr h2.2.1, h2.2.2⟩
        | goto l => exact ⟨h2.1, hfr h2.2.1, h2.2.2⟩
        | ret => exact ⟨h2.1, hfr h2.2.1, h2.2.2⟩
      · exact h.elim
  | rangeFunc g ps x y ihx ihy =>
    intro ro w₀ Q a w hk hp h
    cases ro with
    | some l => exact h.elim
    | none =>
      simp only [Option.isNone_none, denY] at h
      split at h
      · rename_i ts hts
        split at h
        · rename_i hlen
          have hlen := Nat.eq_of_beq_eq_true hlen
          obtain ⟨gf, lb, hg, h⟩ := funD_spec h
          refine wpIn_rangeFunc fun fn hfn => ?_
          obtain ⟨rec, hrec⟩ : ∃ rec : LoopState → Option Code → Loop, rec = fun st pe => { state := st, pending := pe, fn, tmps := a.tmps, params := ps, assign := x, body := y, defers := w.heap.size } := ⟨_, rfl⟩
          obtain ⟨W1, hW1⟩ : ∃ W1, (w.alloc (.deferred (some []))).alloc (.loop (rec .ready none)) = W1 := ⟨_, rfl⟩
          have hh1 : W1.heap = (w.heap.push (.deferred (some []))).push (.loop (rec .ready none)) := by rw [← hW1]; rfl
          have hk1 : keeps w W1 := by rw [← hW1]; exact keeps.refl w
          have H1 := h (.loop (rec .ready none)) (.loop (rec .busy none)) (.loop (rec .exhausted none)) (fun k => .loop (rec .done (some (codeK k)))) (fun k => .loop (rec .exhausted (some (codeK k)))) ?_
          · rw [← hh1] at H1
            obtain ⟨fn', h1, h2, h3⟩ := H1.1
            have hargs : (.func (.yield (w.heap.size + 1)) #[] #[] :: lb.toList).toArray = #[.func (.yield (w.heap.size + 1)) #[] #[]] ++ lb := by apply Array.toList_inj.1; simp
            rw [hargs] at H1
            refine ⟨w.heap.size + 1, [{ target := .collected w.heap.size, args := #[] }], W1, { target := .fn (.func gf) lb, args := #[.func (.yield (w.heap.size + 1)) #[] #[]] }, W1, gf,
              #[.func (.yield (w.heap.size + 1)) #[] #[]] ++ lb, W1, ?_, ?_, fun _ _ => trivial, ?_, fun hh => by simp [FR, Fence.wide] at hh, ?_⟩
            · rw [← hW1, hrec]; exact run_enterLoop_outer _ _ _ _ _
            · simp only [resolve, hg]
              simp [go_sem]
            · unfold invoke callFunc
              simp only [Sem.run_bind, run_program, Result.andThen, h1, h2, h3, Bool.false_eq_true, if_false, Sem.run_pure]
            · refine (callsIn_wide.2 (H1.2 W1 rfl)).mono fun e w3 he => ?_
              obtain ⟨hk3, he⟩ := he
              have hk3 := hk.trans (hk1.trans hk3)
              cases e with
              | outgrown => exact he.elim
              | panicked c => exact ⟨hk3, he⟩
              | returned v =>
                rcases he with ⟨hl, hq⟩ | hq
                · refine ⟨none, w3.putObj (w.heap.size + 1) (.loop (rec .exhausted none)), ?_, ?_⟩
                  · have := run_endLoop (P := P) hl (by rw [hrec]; simp)
                    rw [hrec] at this ⊢
                    exact this
                  · exact ⟨hk3, (fun W hW => by cases hW), hq⟩
                · obtain ⟨k, hl, hq⟩ := afterQ_spec hq
                  refine ⟨some (codeK k), w3.putObj (w.heap.size + 1) (.loop (rec .exhausted (some (codeK k)))), ?_, ?_⟩
                  · have := run_endLoop (P := P) hl (by rw [hrec]; simp)
                    rw [hrec] at this ⊢
                    exact this
                  · have hq : Q (exitK k) (mark w.heap.size a) (w3.putObj (w.heap.size + 1) (.loop (rec .exhausted (some (codeK k))))).heap := hq
                    generalize w3.putObj (w.heap.size + 1) (.loop (rec .exhausted (some (codeK k)))) = w4, hw4 : w3.putObj (w.heap.size + 1) (.loop (rec .exhausted (some (codeK k)))) = w4 at hq ⊢
                    have hk4 : keeps w₀ w4 := by rw [← hw4]; exact hk3
                    unfold exitK at hq
                    unfold codeK
                    split at hq
                    · exact wpIn_ret ⟨hk4, (fun W hW => by cases hW), hq⟩
                    · split at hq
                      · rename_i hb
                        simp only [hb]
                        exact wpIn_exit ⟨hk4, (fun W hW => by cases hW), hq⟩
                      · rename_i hb
                        simp only [hb]
                        exact wpIn_goto ⟨hk4, (fun W hW => by cases hW), hq⟩
          · intro h' K hready
            refine allTs_of fun vs hvl hd w' hw' => ?_
            subst hw'
            have hsz : vs.toArray.size = (rec .ready none).params.size := by
              rw [hrec]
              simp only [List.size_toArray, hvl]
              simpa using hlen
            have hy := run_yield (P := P) (args := vs.toArray) hready hsz
            refine ⟨_, _, _, _, hy, roundIn_of_wpIn trivial ?_⟩
            have hact : ({ tmps := ((rec .ready none).params.zip vs.toArray).foldl (fun tmps (t, a) => tmps.setIfInBounds t a) (rec .ready none).tmps, defers := [] } : Act) = putTs ps.toList vs { a with defers := [] } := by
              rw [putTs_zip, hrec]
              congr 1
              rw [← Array.foldl_toList]
              simp
            rw [hact]
            have hx := ihx (some (w.heap.size + 1)) w' _ _ w' (keeps.refl w') (fun c a d v h _ hh => hh.elim) hd
            rw [show (rec .ready none).assign = x by rw [hrec]]
            refine wpIn_mono hx fun e a1 w1 h1 => ?_
            cases e with
            | normal =>
              obtain ⟨k1, _, hl1, hb⟩ := h1
              refine ⟨w1.putObj (w.heap.size + 1) (.loop (rec .busy none)), ?_, ?_⟩
              · have := run_beginRound (P := P) hl1 (by rw [hrec])
                rw [hrec] at this ⊢
                exact this
              · rw [show (rec .ready none).body = y by rw [hrec]]
                refine wpIn_mono (ihy (some (w.heap.size + 1)) w' _ a1 (w1.putObj (w.heap.size + 1) (.loop (rec .busy none))) k1 (fun c a d v h _ hh => hh.elim) hb) fun e a2 w2 h2 => ?_
                have out : ∀ e, keyX e ≠ none → keeps w' w2 ∧ roundQ (w.heap.size + 1) (.loop (rec .ready none)) (.loop (rec .busy none)) (fun k => .loop (rec .done (some (codeK k)))) (jumpsOf y) K e a2 w2.heap → ∃ k, keyX e = some k ∧
                    (Instr.endRound (w.heap.size + 1) (some (codeK k))).run P w2 = .ok (.bool false) (w2.putObj (w.heap.size + 1) (.loop (rec .done (some (codeK k))))) ∧ keeps w' (w2.putObj (w.heap.size + 1) (.loop (rec .done (some (codeK k))))) ∧
                    K (.bool false) (w2.putObj (w.heap.size + 1) (.loop (rec .done (some (codeK k))))).heap := fun e hne he => by
                  obtain ⟨k2, he⟩ := he
                  cases hke : keyX e with
                  | none => exact absurd hke hne
                  | some k =>
                    have he' : objAt w2.heap (w.heap.size + 1) (.loop (rec .busy none)) ∧ K (.bool false) (putO w2.heap (w.heap.size + 1) (.loop (rec .done (some (codeK k))))) := by
                      cases e <;> simp only [roundQ, hke] at he <;> first
                        | (cases hke; done)
                        | (split at he
                           · exact he
                           · exact he.elim)
                    refine ⟨k, rfl, ?_, k2, he'.2⟩
                    have := run_endRound (P := P) (some (codeK k)) he'.1
                    rw [hrec] at this ⊢
                    exact this
                cases e with
                | normal =>
                  obtain ⟨k2, _, hl2, hK⟩ := h2
                  refine ⟨.bool true, w2.putObj (w.heap.size + 1) (.loop (rec .ready none)), ?_, k2, _, rfl, hK⟩
                  have := run_endRound (P := P) none hl2
                  rw [hrec] at this ⊢
                  exact this
                | ret =>
                  obtain ⟨k, hk', h3, h4, h5⟩ := out .ret (by simp [keyX]) ⟨h2.1, h2.2.2⟩
                  obtain rfl := Option.some.inj hk'
                  exact ⟨.bool false, _, h3, h4, _, rfl, h5⟩
                | exit id =>
                  obtain ⟨k, hk', h3, h4, h5⟩ := out (.exit id) (by simp [keyX]) ⟨h2.1, h2.2.2⟩
                  have hc : codeK k = .exit id := by
                    rcases (exitK_key hk').2 with ⟨e1, _⟩ | ⟨id', e1, e2⟩ | ⟨t', e1, _⟩
                    · cases e1
                    · rw [e2]; cases e1; rfl
                    · cases e1
                  rw [hc] at h3 h4 h5
                  exact ⟨.bool false, _, h3, h4, _, rfl, h5⟩
                | goto t =>
                  obtain ⟨k, hk', h3, h4, h5⟩ := out (.goto t) (by simp [keyX]) ⟨h2.1, h2.2.2⟩
                  have hc : codeK k = .goto t := by
                    rcases (exitK_key hk').2 with ⟨e1, _⟩ | ⟨id', e1, e2⟩ | ⟨t', e1, e2⟩
                    · cases e1
                    · cases e1
                    · rw [e2]; cases e1; rfl
                  rw [hc] at h3 h4 h5
                  exact ⟨.bool false, _, h3, h4, _, rfl, h5⟩
                | panic c => exact h2.2.elim
                | outgrown => exact h2.elim
            | panic c => exact h1.2.elim
            | outgrown => exact h1.elim
            | ret => exact h1.2.2.elim
            | exit id => exact h1.2.2.elim
            | goto t => exact h1.2.2.elim
        · exact h.elim
      · exact h.elim
  | exit id => intro ro w₀ Q a w hk hp h; exact wpIn_exit ⟨hk, fun W _ => agree.refl W a, h⟩
  | scope c ih => intro ro w₀ Q a w hk hp h; cases ro <;> exact h.elim
  | label l => intro ro w₀ Q a w hk hp h; exact wpIn_label ⟨hk, fun W _ => agree.refl W a, h⟩
  | goto l => intro ro w₀ Q a w hk hp h; exact wpIn_goto ⟨hk, fun W _ => agree.refl W a, h⟩
  | ret => intro ro w₀ Q a w hk hp h; exact wpIn_ret ⟨hk, fun W _ => agree.refl W a, h⟩
  | refuse why => intro ro w₀ Q a w hk hp h; cases ro <;> exact h.elim

end
end Go.Den

/- RnC: a function that ranges over functions, or is ranged over: the condition of its body is enough for its call. No program in sight. -/
set_option linter.unusedVariables false
set_option linter.unusedSimpArgs false
namespace Go.Den

/-- Behind a body: with nothing deferred, or with the mark of one range over a function. -/
def endY (Res : Heap → Prop) (ds : List Deferred) (h : Heap) : Prop := match ds with
  | [] => Res h
  | [d] => (match d.target with
    | .collected D => objAt h D (.deferred (some [])) ∧ Res (putO h D (.deferred none))
    | _ => False)
  | _ => False
def fnQY (P : Program) (rs : List ResultVar) (K : Value → Heap → Prop) (Kp : List PanicEntry → Heap → Prop) : PostD := fun e a h => match e with
  | .normal => endY (fun h' => resD P a h' rs fun vs => K (retV vs) h') a.defers h
  | .ret => endY (fun h' => resD P a h' rs fun vs => K (retV vs) h') a.defers h
  | .panic c => endY (fun h' => Kp c h') a.defers h
  | _ => False
def fnY (P : Program) (C : CallP) (Y : YP) (H : HintsY) (fn : Func) (args : List Value) (h : Heap) (K : Value → Heap → Prop) (Kp : List PanicEntry → Heap → Prop) : Prop :=
  match fn.body with
  | some c => denY P C Y H true c (fnQY P fn.results.toList K Kp) ⟨(args ++ List.replicate (fn.ntmps - args.length) undef).toArray, []⟩ h
  | none => False

section
variable {P : Program}
theorem fnQY_panic (rs : List ResultVar) (K : Value → Heap → Prop) (Kp : List PanicEntry → Heap → Prop) (R : List Tmp) : PanicOK R (fnQY P rs K Kp) := fun c a d v h _ hh => by
  simp only [fnQY, put_defers] at hh ⊢
  exact hh
theorem endY_leaves {fn : Func} {tmps : Array Value} {R : Ending → World → Prop} {Res : Heap → Prop} {ds : List Deferred} {w w0 : World} {u : FrameMode} (hu : u ≠ .run) (hk : keeps w0 w) (H : endY Res ds w.heap)
    (hR : ∀ w', keeps w0 w' → Res w'.heap → LeavesIn Fence.wide 0 P fn tmps R [] u w') : LeavesInM Fence.wide 0 P fn tmps R ds u w := by
  unfold endY at H
  split at H
  · exact hR w hk H
  · rename_i d
    split at H
    · rename_i D hd
      refine ⟨hu, .inl ⟨D, w.putObj D (.deferred none), hd, run_takeDeferred H.1, hR _ hk H.2⟩⟩
    · exact H.elim
  · exact H.elim
theorem callsHP_ofY {f : FuncId} {fn : Func} {args : List Value} {h : Heap} {K : Value → Heap → Prop} {Kp : List PanicEntry → Heap → Prop} (Hn : HintsY) (hm : P.follows .mixedOrders = true)
    (hf : P.funcs[f]? = some fn) (hn : (fn.name == "runtime.NumGoroutine") = false) (H : fnY P (CallsHP P) (YieldsHP P) Hn fn args h K Kp) : CallsHP P f args.toArray h K Kp := by
  unfold fnY at H
  split at H
  · rename_i c hb
    refine ⟨⟨fn, hf, hn, by rw [hb]; rfl⟩, fun w hw => ?_⟩
    subst hw
    refine callsIn_wide.1 (callsIn_of_wp_marks (n := 0) hf hb trivial ?_)
    have hact : (⟨args.toArray ++ Array.replicate (fn.ntmps - args.toArray.size) undef, []⟩ : Act) = ⟨(args ++ List.replicate (fn.ntmps - args.length) undef).toArray, []⟩ := by
      congr 1
      apply Array.toList_inj.1
      simp
    rw [hact]
    have h1 := denY_sound hm c none w _ _ w (keeps.refl w) (fnQY_panic _ K Kp _) H
    refine wpIn_mono (F := Fence.wide) (n := 0) h1 fun e a w' he => ?_
    have res : ∀ w'', keeps w w'' → resD P a w''.heap fn.results.toList (fun vs => K (retV vs) w''.heap) → LeavesIn Fence.wide 0 P fn a.tmps (fun e w' => keeps w w' ∧ match e with
        | .returned v => K v w'.heap
        | .panicked c => Kp c w'.heap
        | .outgrown => False) [] .returning w'' := fun w'' hk hr => by
      obtain ⟨v, hv, hkv⟩ := results_run hr
      exact ⟨v, hv, hk, hkv⟩
    cases e with
    | normal =>
      obtain ⟨h2, _, h3⟩ := he
      exact endY_leaves (Res := fun h' => resD P a h' fn.results.toList fun vs => K (retV vs) h') (by simp) h2 h3 res
    | ret =>
      obtain ⟨h2, _, h3⟩ := he
      exact endY_leaves (Res := fun h' => resD P a h' fn.results.toList fun vs => K (retV vs) h') (by simp) h2 h3 res
    | panic c =>
      obtain ⟨h2, h3⟩ := he
      exact endY_leaves (Res := fun h' => Kp c h') (by simp) h2 h3 fun w'' hk hr => ⟨hk, hr⟩
    | outgrown => exact he.elim
    | exit id => exact he.2.2.elim
    | goto l => exact he.2.2.elim
  · exact H.elim
end
end Go.Den

/- Written by gen.py: the conditions of the functions of burinref0. -/
set_option linter.unusedVariables false
set_option linter.unusedSimpArgs false
namespace Go.Den.Yteakipgcanafoaa
open Go Go.Den

/- burin/burinref0.Eq -/
set_option maxRecDepth 100000 in
def burinref0_Eq (C : CallP) (a : Option Addr) (an : Nat) (ac : Nat) (b : Option Addr) (bn : Nat) (bc : Nat) (h : Heap) (K : Value → Heap → Prop) (Kp : List PanicEntry → Heap → Prop) : Prop :=
bcase ((an : Int) != (bn : Int)) (
K (.bool false) h) <|
∃ J_1 : Nat → List Value → Heap → Prop, (∃ n_3, J_1 n_3 [.int .i64 0] h) ∧ ∀ (n_3 : Nat) (h_4 : Heap) (u_5 : Nat → Value) (i_6 : Int), J_1 n_3 [.int .i64 i_6] h_4 → (
bcase (decide (i_6 < (an : Int))) (
needs (0 ≤ i_6 ∧ i_6 < (an : Int)) <|
ptr a fun a_7 =>
needs (0 ≤ i_6 ∧ i_6 < (bn : Int)) <|
ptr b fun a_8 =>
ldI h_4 (a_7.add (i_6.toNat * 1)) .u8 fun x_9 =>
ldI h_4 (a_8.add (i_6.toNat * 1)) .u8 fun x_10 =>
bcase (x_9 != x_10) (
K (.bool false) h_4) <|
bindI (IntKind.i64.wrap (i_6 + (1 : Int))) fun z_11 =>
∃ m_2, m_2 < n_3 ∧ J_1 m_2 [.int .i64 z_11] h_4) <|
K (.bool true) h_4)

/- burin/burinref0.EqWholes -/
set_option maxRecDepth 100000 in
def burinref0_EqWholes (C : CallP) (Y : YP) (a : Option Addr) (an : Nat) (ac : Nat) (b : Option Addr) (bn : Nat) (bc : Nat) (h : Heap) (K : Value → Heap → Prop) (Kp : List PanicEntry → Heap → Prop) : Prop :=
bcase ((an : Int) != (bn : Int)) (
K (.bool false) h) <|
∃ J_1 : Nat → List Value → Heap → Prop, (∃ n_3, J_1 n_3 [.int .i64 0] h) ∧ ∀ (n_3 : Nat) (h_4 : Heap) (u_5 : Nat → Value) (i_6 : Int), J_1 n_3 [.int .i64 i_6] h_4 → (
bcase (decide (i_6 < (an : Int))) (
needs (0 ≤ i_6 ∧ i_6 < (an : Int)) <|
ptr a fun a_7 =>
needs (0 ≤ i_6 ∧ i_6 < (bn : Int)) <|
ptr b fun a_8 =>
ldI h_4 ((a_7.add (i_6.toNat * 2)).add 0) .i64 fun x_9 =>
ldB h_4 ((a_7.add (i_6.toNat * 2)).add 1) fun x_10 =>
ldI h_4 ((a_8.add (i_6.toNat * 2)).add 0) .i64 fun x_11 =>
ldB h_4 ((a_8.add (i_6.toNat * 2)).add 1) fun x_12 =>
needs (IntKind.i64 = IntKind.i64) <|
bcase (!((x_9 == x_11) && ((x_10 == x_12) && true))) (
K (.bool false) h_4) <|
bindI (IntKind.i64.wrap (i_6 + (1 : Int))) fun z_13 =>
∃ m_2, m_2 < n_3 ∧ J_1 m_2 [.int .i64 z_13] h_4) <|
K (.bool true) h_4)

/- burin/burinref0.Size -/
set_option maxRecDepth 100000 in
def burinref0_Size (C : CallP) (w : Int) (h' : Int) (h : Heap) (K : Value → Heap → Prop) (Kp : List PanicEntry → Heap → Prop) : Prop :=
bcase (decide (w ≥ (1 : Int))) (
bcase (decide (h' ≥ (1 : Int))) (
bcase (decide (w ≤ (1048576 : Int))) (
needs (IntKind.i64 = IntKind.i64 ∧ w ≠ 0) <|
bindI (IntKind.i64.wrap ((1048576 : Int).tdiv w)) fun z_1 =>
K (.bool (decide (h' ≤ z_1))) h) <|
K (.bool false) h) <|
K (.bool false) h) <|
K (.bool false) h

/- burin/burinref0.EqBitmap -/
set_option maxRecDepth 100000 in
def burinref0_EqBitmap (C : CallP) (a_1 : Int) (a_2 : Int) (a_3 : Option Addr) (a_3n : Nat) (a_3c : Nat) (b_4 : Int) (b_5 : Int) (b_6 : Option Addr) (b_6n : Nat) (b_6c : Nat) (h : Heap) (K : Value → Heap → Prop) (Kp : List PanicEntry → Heap → Prop) : Prop :=
newC h [.int .i64 a_1, .int .i64 a_2, .slice a_3 a_3n a_3c] T_api_Bitmap fun r_7 h_8 =>
newC h_8 [.int .i64 b_4, .int .i64 b_5, .slice b_6 b_6n b_6c] T_api_Bitmap fun r_9 h_10 =>
ldI h_10 ((⟨r_7, 0, none⟩ : Addr).add 0) .i64 fun x_11 =>
ldI h_10 ((⟨r_9, 0, none⟩ : Addr).add 0) .i64 fun x_12 =>
bcase (x_11 == x_12) (
ldI h_10 ((⟨r_7, 0, none⟩ : Addr).add 1) .i64 fun x_13 =>
ldI h_10 ((⟨r_9, 0, none⟩ : Addr).add 1) .i64 fun x_14 =>
bcase (x_13 == x_14) (
ldS h_10 ((⟨r_7, 0, none⟩ : Addr).add 2) fun x_15 x_15n x_15c =>
ldS h_10 ((⟨r_9, 0, none⟩ : Addr).add 2) fun x_16 x_16n x_16c =>
C F_burinref0_EqWords #[.slice x_15 x_15n x_15c, .slice x_16 x_16n x_16c] h_10 (fun v_17 h_18 =>
∃ (r_19 : Bool), v_17 = .bool r_19 ∧ (
K (.bool r_19) h_18)) (Kp)) <|
K (.bool false) h_10) <|
K (.bool false) h_10

/- burin/burinref0.May -/
set_option maxRecDepth 100000 in
def burinref0_May (C : CallP) (b_1 : Int) (b_2 : Int) (b_3 : Option Addr) (b_3n : Nat) (b_3c : Nat) (h : Heap) (K : Value → Heap → Prop) (Kp : List PanicEntry → Heap → Prop) : Prop :=
newC h [.int .i64 b_1, .int .i64 b_2, .slice b_3 b_3n b_3c] T_api_Bitmap fun r_4 h_5 =>
ldI h_5 ((⟨r_4, 0, none⟩ : Addr).add 0) .i64 fun x_6 =>
ldI h_5 ((⟨r_4, 0, none⟩ : Addr).add 1) .i64 fun x_7 =>
C F_burinref0_Size #[.int .i64 x_6, .int .i64 x_7] h_5 (fun v_8 h_9 =>
∃ (r_10 : Bool), v_8 = .bool r_10 ∧ (
bcase (!r_10) (
hext h_9 h_9 ∧ (
K (.bool false) h_9)) <|
ldS h_9 ((⟨r_4, 0, none⟩ : Addr).add 2) fun x_11 x_11n x_11c =>
ldI h_9 ((⟨r_4, 0, none⟩ : Addr).add 1) .i64 fun x_12 =>
ldI h_9 ((⟨r_4, 0, none⟩ : Addr).add 0) .i64 fun x_13 =>
C F_burinref0_words #[.int .i64 x_13] h_9 (fun v_14 h_15 =>
∃ (r_16 : Int), v_14 = .int .i64 r_16 ∧ (
hext h_9 h_15 ∧ (
bindI (IntKind.i64.wrap (x_12 * r_16)) fun z_17 =>
bcase ((x_11n : Int) != z_17) (
K (.bool false) h_15) <|
ldI h_15 ((⟨r_4, 0, none⟩ : Addr).add 0) .i64 fun x_18 =>
bindI (x_18.tmod (64 : Int)) fun z_19 =>
bcase (z_19 == (0 : Int)) (
K (.bool true) h_15) <|
∃ J_20 : Nat → List Value → Heap → Prop, (∃ n_22, J_20 n_22 [.int .i64 0] h_15) ∧ ∀ (n_22 : Nat) (h_23 : Heap) (u_24 : Nat → Value) (y_25 : Int), J_20 n_22 [.int .i64 y_25] h_23 → (
ldI h_23 ((⟨r_4, 0, none⟩ : Addr).add 1) .i64 fun x_26 =>
bcase (decide (y_25 < x_26)) (
bindI (IntKind.i64.wrap (y_25 + (1 : Int))) fun z_27 =>
ldS h_23 ((⟨r_4, 0, none⟩ : Addr).add 2) fun x_28 x_28n x_28c =>
ldI h_23 ((⟨r_4, 0, none⟩ : Addr).add 0) .i64 fun x_29 =>
ldI h_23 ((⟨r_4, 0, none⟩ : Addr).add 0) .i64 fun x_30 =>
bindI (x_30.tmod (64 : Int)) fun z_31 =>
bindI (IntKind.u64.wrap z_31) fun z_32 =>
C F_burinref0_words #[.int .i64 x_29] h_23 (fun v_33 h_34 =>
∃ (r_35 : Int), v_33 = .int .i64 r_35 ∧ (
hext h_23 h_34 ∧ (
bindI (IntKind.i64.wrap (z_27 * r_35)) fun z_36 =>
bindI (IntKind.i64.wrap (z_36 - (1 : Int))) fun z_37 =>
needs (0 ≤ z_37 ∧ z_37 < (x_28n : Int)) <|
ptr x_28 fun a_38 =>
ldI h_34 (a_38.add (z_37.toNat * 1)) .u64 fun x_39 =>
needs (0 ≤ z_32) <|
bindI (shlI .u64 x_39 z_32) fun z_40 =>
bcase (z_40 != (0 : Int)) (
K (.bool false) h_34) <|
bindI (IntKind.i64.wrap (y_25 + (1 : Int))) fun z_41 =>
∃ m_21, m_21 < n_22 ∧ J_20 m_21 [.int .i64 z_41] h_34))) (Kp)) <|
K (.bool true) h_23)))) (Kp))) (Kp)

/- burin/burinref0.White -/
set_option maxRecDepth 100000 in
def burinref0_White (C : CallP) (w : Int) (h' : Int) (h : Heap) (K : Value → Heap → Prop) (Kp : List PanicEntry → Heap → Prop) : Prop :=
newC h [.int .i64 0, .int .i64 0, .slice none 0 0] T_api_Bitmap fun r_1 h_2 =>
C F_burinref0_words #[.int .i64 w] h_2 (fun v_3 h_4 =>
∃ (r_5 : Int), v_3 = .int .i64 r_5 ∧ (
bindI (IntKind.i64.wrap (h' * r_5)) fun z_6 =>
needs (0 ≤ z_6 ∧ z_6 ≤ z_6 ∧ z_6 ≤ 9223372036854775807 ∧ ((8 : Nat) : Int) * z_6 ≤ 281474976710656) <|
newC h_4 (repZ [.int .u64 0] z_6.toNat) T_uint64 fun r_7 h_8 =>
stV h_8 ((⟨r_1, 0, none⟩ : Addr).add 0) (.int .i64 w) fun h_9 =>
stV h_9 ((⟨r_1, 0, none⟩ : Addr).add 1) (.int .i64 h') fun h_10 =>
stV h_10 ((⟨r_1, 0, none⟩ : Addr).add 2) (.slice (some ⟨r_7, 0, none⟩) z_6.toNat z_6.toNat) fun h_11 =>
ldI h_11 ((⟨r_1, 0, none⟩ : Addr).add 0) .i64 fun r_12 =>
ldI h_11 ((⟨r_1, 0, none⟩ : Addr).add 1) .i64 fun r_13 =>
ldS h_11 ((⟨r_1, 0, none⟩ : Addr).add 2) fun r_14 r_14n r_14c =>
K (.agg #[.int .i64 r_12, .int .i64 r_13, .slice r_14 r_14n r_14c]) h_11)) (Kp)

/- burin/burinref0.Lay -/
set_option maxRecDepth 100000 in
def burinref0_Lay (C : CallP) (a0_1 : Int) (a0_2 : Int) (a0_3 : Option Addr) (a0_3n : Nat) (a0_3c : Nat) (a1 : Int) (a2 : Int) (a3 : Int) (a4_4 : Int) (a4_5 : Int) (a4_6 : Option Addr) (a4_6n : Nat) (a4_6c : Nat) (h : Heap) (K : Value → Heap → Prop) (Kp : List PanicEntry → Heap → Prop) : Prop :=
newC h [.int .i64 a0_1, .int .i64 a0_2, .slice a0_3 a0_3n a0_3c] T_api_Bitmap fun r_7 h_8 =>
newC h_8 [.int .i64 a4_4, .int .i64 a4_5, .slice a4_6 a4_6n a4_6c] T_api_Bitmap fun r_9 h_10 =>
ldI h_10 ((⟨r_7, 0, none⟩ : Addr).add 0) .i64 fun x_11 =>
bcase (decide (a1 ≥ x_11)) (
K (.tuple #[]) h_10) <|
ldI h_10 ((⟨r_7, 0, none⟩ : Addr).add 1) .i64 fun x_12 =>
bcase (decide (a2 ≥ x_12)) (
K (.tuple #[]) h_10) <|
ldI h_10 ((⟨r_9, 0, none⟩ : Addr).add 0) .i64 fun x_13 =>
bindI (IntKind.i64.wrap (0 - x_13)) fun z_14 =>
bcase (decide (a1 ≤ z_14)) (
K (.tuple #[]) h_10) <|
ldI h_10 ((⟨r_9, 0, none⟩ : Addr).add 1) .i64 fun x_15 =>
bindI (IntKind.i64.wrap (0 - x_15)) fun z_16 =>
bcase (decide (a2 ≤ z_16)) (
K (.tuple #[]) h_10) <|
∃ J_17 : Nat → List Value → Heap → Prop, (∃ n_19, J_17 n_19 [.int .i64 0] h_10) ∧ ∀ (n_19 : Nat) (h_20 : Heap) (u_21 : Nat → Value) (x_22 : Int), J_17 n_19 [.int .i64 x_22] h_20 → (
ldI h_20 ((⟨r_9, 0, none⟩ : Addr).add 1) .i64 fun x_23 =>
bcase (decide (x_22 < x_23)) (
∃ J_24 : Nat → List Value → Heap → Prop, (∃ n_26, J_24 n_26 [.int .i64 0] h_20) ∧ ∀ (n_26 : Nat) (h_27 : Heap) (u_28 : Nat → Value) (x_29 : Int), J_24 n_26 [.int .i64 x_29] h_27 → (
ldI h_27 ((⟨r_9, 0, none⟩ : Addr).add 0) .i64 fun x_30 =>
bcase (decide (x_29 < x_30)) (
∃ K_31 : List Value → Heap → Prop, (
bindI (IntKind.i64.wrap (a1 + x_29)) fun z_34 =>
bcase (decide (z_34 ≥ (0 : Int))) (
bindI (IntKind.i64.wrap (a1 + x_29)) fun z_35 =>
ldI h_27 ((⟨r_7, 0, none⟩ : Addr).add 0) .i64 fun x_36 =>
bcase (decide (z_35 < x_36)) (
bindI (IntKind.i64.wrap (a2 + x_22)) fun z_37 =>
bcase (decide (z_37 ≥ (0 : Int))) (
bindI (IntKind.i64.wrap (a2 + x_22)) fun z_38 =>
ldI h_27 ((⟨r_7, 0, none⟩ : Addr).add 1) .i64 fun x_39 =>
K_31 [.bool (decide (z_38 < x_39))] h_27) <|
K_31 [.bool false] h_27) <|
K_31 [.bool false] h_27) <|
K_31 [.bool false] h_27) ∧ ∀ (h_32 : Heap) (u_33 : Nat → Value) (x_40 : Bool), K_31 [.bool x_40] h_32 → (
bcase x_40 (
bindI (IntKind.i64.wrap (a1 + x_29)) fun z_41 =>
bindI (IntKind.i64.wrap (a2 + x_22)) fun z_42 =>
bindI (IntKind.i64.wrap (a1 + x_29)) fun z_43 =>
bindI (IntKind.i64.wrap (a2 + x_22)) fun z_44 =>
ldI h_32 ((⟨r_7, 0, none⟩ : Addr).add 0) .i64 fun x_45 =>
ldI h_32 ((⟨r_7, 0, none⟩ : Addr).add 1) .i64 fun x_46 =>
ldS h_32 ((⟨r_7, 0, none⟩ : Addr).add 2) fun x_47 x_47n x_47c =>
ldI h_32 ((⟨r_7, 0, none⟩ : Addr).add 0) .i64 fun x_48 =>
ldI h_32 ((⟨r_7, 0, none⟩ : Addr).add 1) .i64 fun x_49 =>
ldS h_32 ((⟨r_7, 0, none⟩ : Addr).add 2) fun x_50 x_50n x_50c =>
ldI h_32 ((⟨r_9, 0, none⟩ : Addr).add 0) .i64 fun x_51 =>
ldI h_32 ((⟨r_9, 0, none⟩ : Addr).add 1) .i64 fun x_52 =>
ldS h_32 ((⟨r_9, 0, none⟩ : Addr).add 2) fun x_53 x_53n x_53c =>
C F_burinref0_Get #[.agg #[.int .i64 x_48, .int .i64 x_49, .slice x_50 x_50n x_50c], .int .i64 z_43, .int .i64 z_44] h_32 (fun v_54 h_55 =>
∃ (r_56 : Int), v_54 = .int .i64 r_56 ∧ (
hext h_32 h_55 ∧ (
C F_burinref0_Get #[.agg #[.int .i64 x_51, .int .i64 x_52, .slice x_53 x_53n x_53c], .int .i64 x_29, .int .i64 x_22] h_55 (fun v_57 h_58 =>
∃ (r_59 : Int), v_57 = .int .i64 r_59 ∧ (
hext h_55 h_58 ∧ (
C F_burinref0_Do #[.int .i64 a3, .int .i64 r_56, .int .i64 r_59] h_58 (fun v_60 h_61 =>
∃ (r_62 : Int), v_60 = .int .i64 r_62 ∧ (
hext h_58 h_61 ∧ (
C F_burinref0_Put #[.agg #[.int .i64 x_45, .int .i64 x_46, .slice x_47 x_47n x_47c], .int .i64 z_41, .int .i64 z_42, .int .i64 r_62] h_61 (fun v_63 h_64 =>
bindI (IntKind.i64.wrap (x_29 + (1 : Int))) fun z_65 =>
∃ m_25, m_25 < n_26 ∧ J_24 m_25 [.int .i64 z_65] h_64) (Kp)))) (Kp)))) (Kp)))) (Kp)) <|
bindI (IntKind.i64.wrap (x_29 + (1 : Int))) fun z_66 =>
∃ m_25, m_25 < n_26 ∧ J_24 m_25 [.int .i64 z_66] h_32)) <|
bindI (IntKind.i64.wrap (x_22 + (1 : Int))) fun z_67 =>
∃ m_18, m_18 < n_19 ∧ J_17 m_18 [.int .i64 z_67] h_27)) <|
K (.tuple #[]) h_20)

/- burin/burinref0.Put -/
set_option maxRecDepth 100000 in
def burinref0_Put (C : CallP) (b_1 : Int) (b_2 : Int) (b_3 : Option Addr) (b_3n : Nat) (b_3c : Nat) (x : Int) (y : Int) (bit : Int) (h : Heap) (K : Value → Heap → Prop) (Kp : List PanicEntry → Heap → Prop) : Prop :=
newC h [.int .i64 b_1, .int .i64 b_2, .slice b_3 b_3n b_3c] T_api_Bitmap fun r_4 h_5 =>
ldI h_5 ((⟨r_4, 0, none⟩ : Addr).add 0) .i64 fun x_6 =>
C F_burinref0_words #[.int .i64 x_6] h_5 (fun v_7 h_8 =>
∃ (r_9 : Int), v_7 = .int .i64 r_9 ∧ (
bindI (IntKind.i64.wrap (y * r_9)) fun z_10 =>
bindI (IntKind.i64.wrap (x.tdiv (64 : Int))) fun z_11 =>
bindI (IntKind.i64.wrap (z_10 + z_11)) fun z_12 =>
bindI (x.tmod (64 : Int)) fun z_13 =>
bindI (IntKind.i64.wrap ((63 : Int) - z_13)) fun z_14 =>
bindI (IntKind.u64.wrap z_14) fun z_15 =>
needs (0 ≤ z_15) <|
bindI (shlI .u64 (1 : Int) z_15) fun z_16 =>
ldS h_8 ((⟨r_4, 0, none⟩ : Addr).add 2) fun x_17 x_17n x_17c =>
ldS h_8 ((⟨r_4, 0, none⟩ : Addr).add 2) fun x_18 x_18n x_18c =>
needs (0 ≤ z_12 ∧ z_12 < (x_18n : Int)) <|
ptr x_18 fun a_19 =>
ldI h_8 (a_19.add (z_12.toNat * 1)) .u64 fun x_20 =>
bindI (bitI .andNot .u64 x_20 z_16) fun z_21 =>
needs (0 ≤ z_12 ∧ z_12 < (x_17n : Int)) <|
ptr x_17 fun a_22 =>
stV h_8 (a_22.add (z_12.toNat * 1)) (.int .u64 z_21) fun h_23 =>
bcase (bit == (1 : Int)) (
ldS h_23 ((⟨r_4, 0, none⟩ : Addr).add 2) fun x_24 x_24n x_24c =>
ldS h_23 ((⟨r_4, 0, none⟩ : Addr).add 2) fun x_25 x_25n x_25c =>
needs (0 ≤ z_12 ∧ z_12 < (x_25n : Int)) <|
ptr x_25 fun a_26 =>
ldI h_23 (a_26.add (z_12.toNat * 1)) .u64 fun x_27 =>
bindI (bitI .or .u64 x_27 z_16) fun z_28 =>
needs (0 ≤ z_12 ∧ z_12 < (x_24n : Int)) <|
ptr x_24 fun a_29 =>
stV h_23 (a_29.add (z_12.toNat * 1)) (.int .u64 z_28) fun h_30 =>
K (.tuple #[]) h_30) <|
K (.tuple #[]) h_23)) (Kp)

/- burin/burinref0.EqWords -/
set_option maxRecDepth 100000 in
def burinref0_EqWords (C : CallP) (a : Option Addr) (an : Nat) (ac : Nat) (b : Option Addr) (bn : Nat) (bc : Nat) (h : Heap) (K : Value → Heap → Prop) (Kp : List PanicEntry → Heap → Prop) : Prop :=
bcase ((an : Int) != (bn : Int)) (
K (.bool false) h) <|
∃ J_1 : Nat → List Value → Heap → Prop, (∃ n_3, J_1 n_3 [.int .i64 0] h) ∧ ∀ (n_3 : Nat) (h_4 : Heap) (u_5 : Nat → Value) (i_6 : Int), J_1 n_3 [.int .i64 i_6] h_4 → (
bcase (decide (i_6 < (an : Int))) (
needs (0 ≤ i_6 ∧ i_6 < (an : Int)) <|
ptr a fun a_7 =>
needs (0 ≤ i_6 ∧ i_6 < (bn : Int)) <|
ptr b fun a_8 =>
ldI h_4 (a_7.add (i_6.toNat * 1)) .u64 fun x_9 =>
ldI h_4 (a_8.add (i_6.toNat * 1)) .u64 fun x_10 =>
bcase (x_9 != x_10) (
K (.bool false) h_4) <|
bindI (IntKind.i64.wrap (i_6 + (1 : Int))) fun z_11 =>
∃ m_2, m_2 < n_3 ∧ J_1 m_2 [.int .i64 z_11] h_4) <|
K (.bool true) h_4)

/- burin/burinref0.words -/
set_option maxRecDepth 100000 in
def burinref0_words (C : CallP) (w : Int) (h : Heap) (K : Value → Heap → Prop) (Kp : List PanicEntry → Heap → Prop) : Prop :=
bindI (IntKind.i64.wrap (w + (63 : Int))) fun z_1 =>
bindI (IntKind.i64.wrap (z_1.tdiv (64 : Int))) fun z_2 =>
K (.int .i64 z_2) h

/- burin/burinref0.Do -/
set_option maxRecDepth 100000 in
def burinref0_Do (C : CallP) (op : Int) (d : Int) (s : Int) (h : Heap) (K : Value → Heap → Prop) (Kp : List PanicEntry → Heap → Prop) : Prop :=
bcase (op == (0 : Int)) (
bindI (bitI .or .i64 d s) fun z_1 =>
K (.int .i64 z_1) h) <|
bcase (op == (1 : Int)) (
bindI (bitI .and .i64 d s) fun z_2 =>
K (.int .i64 z_2) h) <|
bcase (op == (2 : Int)) (
bindI (bitI .xor .i64 d s) fun z_3 =>
K (.int .i64 z_3) h) <|
bcase (op == (3 : Int)) (
bindI (bitI .xor .i64 d s) fun z_4 =>
bindI (IntKind.i64.wrap ((1 : Int) - z_4)) fun z_5 =>
K (.int .i64 z_5) h) <|
K (.int .i64 s) h

/- burin/burinref0.Get -/
set_option maxRecDepth 100000 in
def burinref0_Get (C : CallP) (b_1 : Int) (b_2 : Int) (b_3 : Option Addr) (b_3n : Nat) (b_3c : Nat) (x : Int) (y : Int) (h : Heap) (K : Value → Heap → Prop) (Kp : List PanicEntry → Heap → Prop) : Prop :=
newC h [.int .i64 b_1, .int .i64 b_2, .slice b_3 b_3n b_3c] T_api_Bitmap fun r_4 h_5 =>
bcase (decide (x < (0 : Int))) (
K (.int .i64 0) h_5) <|
bcase (decide (y < (0 : Int))) (
K (.int .i64 0) h_5) <|
ldI h_5 ((⟨r_4, 0, none⟩ : Addr).add 0) .i64 fun x_6 =>
bcase (decide (x ≥ x_6)) (
K (.int .i64 0) h_5) <|
ldI h_5 ((⟨r_4, 0, none⟩ : Addr).add 1) .i64 fun x_7 =>
bcase (decide (y ≥ x_7)) (
K (.int .i64 0) h_5) <|
bindI (IntKind.i64.wrap (x.tdiv (64 : Int))) fun z_8 =>
bindI (x.tmod (64 : Int)) fun z_9 =>
bindI (IntKind.i64.wrap ((63 : Int) - z_9)) fun z_10 =>
bindI (IntKind.u64.wrap z_10) fun z_11 =>
ldS h_5 ((⟨r_4, 0, none⟩ : Addr).add 2) fun x_12 x_12n x_12c =>
ldI h_5 ((⟨r_4, 0, none⟩ : Addr).add 0) .i64 fun x_13 =>
C F_burinref0_words #[.int .i64 x_13] h_5 (fun v_14 h_15 =>
∃ (r_16 : Int), v_14 = .int .i64 r_16 ∧ (
hext h_5 h_15 ∧ (
bindI (IntKind.i64.wrap (y * r_16)) fun z_17 =>
bindI (IntKind.i64.wrap (z_17 + z_8)) fun z_18 =>
needs (0 ≤ z_18 ∧ z_18 < (x_12n : Int)) <|
ptr x_12 fun a_19 =>
ldI h_15 (a_19.add (z_18.toNat * 1)) .u64 fun x_20 =>
needs (0 ≤ z_11) <|
bindI (shrI .u64 x_20 z_11) fun z_21 =>
bindI (bitI .and .u64 z_21 (1 : Int)) fun z_22 =>
bindI (IntKind.i64.wrap z_22) fun z_23 =>
K (.int .i64 z_23) h_15))) (Kp)

end Go.Den.Yteakipgcanafoaa

/- Written by gen.py: each condition of the functions of burinref0 is the one of its body; so it is enough for its call. -/
set_option linter.unusedVariables false
set_option linter.unusedSimpArgs false
namespace Go.Den.Yteakipgcanafoaa
open Go Go.Den

noncomputable def hints_burinref0_Eq : Hints := Hints.mk (fun i => bif Nat.beq i 6 then some ([], .take 0 <| .take 1 <| .take 2 <| .take 4 <| .take 5 <| .take 6 <| .take 3 <| .take 7 <| .take 8 <| .done) else (none))
  (fun i => bif Nat.beq i 4 then some ([(5, .int .i64)], 67106864) else (none))
  (fun i => none) []
set_option maxRecDepth 100000 in
theorem eq_burinref0_Eq (C : CallP) (a : Option Addr) (an : Nat) (ac : Nat) (b : Option Addr) (bn : Nat) (bc : Nat) (h : Heap) (K : Value → Heap → Prop) (Kp : List PanicEntry → Heap → Prop) :
    fnD Go.Proofs.Try.prog C hints_burinref0_Eq Go.Proofs.Try.f20 [.slice a an ac, .slice b bn bc] h K Kp = burinref0_Eq C a an ac b bn bc h K Kp := by kernel_rfl

theorem call_burinref0_Eq {a : Option Addr} {an : Nat} {ac : Nat} {b : Option Addr} {bn : Nat} {bc : Nat} {h : Heap} {K : Value → Heap → Prop} {Kp : List PanicEntry → Heap → Prop} (H : burinref0_Eq (CallsHP Go.Proofs.Try.prog) a an ac b bn bc h K Kp) : CallsHP Go.Proofs.Try.prog F_burinref0_Eq #[.slice a an ac, .slice b bn bc] h K Kp :=
  callsHP_of hints_burinref0_Eq (by kernel_rfl) Go.Proofs.Try.func20 (by kernel_rfl) (by rw [eq_burinref0_Eq]; exact H)

noncomputable def hints_burinref0_EqWholes : HintsY := HintsY.mk (Hints.mk (fun i => bif Nat.beq i 6 then some ([8], .take 0 <| .take 1 <| .take 2 <| .take 4 <| .take 5 <| .take 6 <| .take 3 <| .take 7 <| .bar 8 [] <| .done) else (none))
  (fun i => bif Nat.beq i 4 then some ([(5, .int .i64)], 67106864) else (none))
  (fun i => none) []) (fun i => none)
set_option maxRecDepth 100000 in
theorem eq_burinref0_EqWholes (C : CallP) (Y : YP) (a : Option Addr) (an : Nat) (ac : Nat) (b : Option Addr) (bn : Nat) (bc : Nat) (h : Heap) (K : Value → Heap → Prop) (Kp : List PanicEntry → Heap → Prop) :
    fnY Go.Proofs.Try.prog C Y hints_burinref0_EqWholes Go.Proofs.Try.f21 [.slice a an ac, .slice b bn bc] h K Kp = burinref0_EqWholes C Y a an ac b bn bc h K Kp := by kernel_rfl

theorem call_burinref0_EqWholes {a : Option Addr} {an : Nat} {ac : Nat} {b : Option Addr} {bn : Nat} {bc : Nat} {h : Heap} {K : Value → Heap → Prop} {Kp : List PanicEntry → Heap → Prop} (H : burinref0_EqWholes (CallsHP Go.Proofs.Try.prog) (YieldsHP Go.Proofs.Try.prog) a an ac b bn bc h K Kp) : CallsHP Go.Proofs.Try.prog F_burinref0_EqWholes #[.slice a an ac, .slice b bn bc] h K Kp :=
  callsHP_ofY hints_burinref0_EqWholes (by kernel_rfl) Go.Proofs.Try.func21 (by kernel_rfl) (by rw [eq_burinref0_EqWholes]; exact H)

noncomputable def hints_burinref0_Size : Hints := Hints.mk (fun i => none)
  (fun i => none)
  (fun i => none) []
set_option maxRecDepth 100000 in
theorem eq_burinref0_Size (C : CallP) (w : Int) (h' : Int) (h : Heap) (K : Value → Heap → Prop) (Kp : List PanicEntry → Heap → Prop) :
    fnD Go.Proofs.Try.prog C hints_burinref0_Size Go.Proofs.Try.f48 [.int .i64 w, .int .i64 h'] h K Kp = burinref0_Size C w h' h K Kp := by kernel_rfl

theorem call_burinref0_Size {w : Int} {h' : Int} {h : Heap} {K : Value → Heap → Prop} {Kp : List PanicEntry → Heap → Prop} (H : burinref0_Size (CallsHP Go.Proofs.Try.prog) w h' h K Kp) : CallsHP Go.Proofs.Try.prog F_burinref0_Size #[.int .i64 w, .int .i64 h'] h K Kp :=
  callsHP_of hints_burinref0_Size (by kernel_rfl) Go.Proofs.Try.func48 (by kernel_rfl) (by rw [eq_burinref0_Size]; exact H)

noncomputable def hints_burinref0_EqBitmap : Hints := Hints.mk (fun i => none)
  (fun i => none)
  (fun i => none) []
set_option maxRecDepth 100000 in
theorem eq_burinref0_EqBitmap (C : CallP) (a_1 : Int) (a_2 : Int) (a_3 : Option Addr) (a_3n : Nat) (a_3c : Nat) (b_4 : Int) (b_5 : Int) (b_6 : Option Addr) (b_6n : Nat) (b_6c : Nat) (h : Heap) (K : Value → Heap → Prop) (Kp : List PanicEntry → Heap → Prop) :
    fnD Go.Proofs.Try.prog C hints_burinref0_EqBitmap Go.Proofs.Try.f51 [.agg #[.int .i64 a_1, .int .i64 a_2, .slice a_3 a_3n a_3c], .agg #[.int .i64 b_4, .int .i64 b_5, .slice b_6 b_6n b_6c]] h K Kp = burinref0_EqBitmap C a_1 a_2 a_3 a_3n a_3c b_4 b_5 b_6 b_6n b_6c h K Kp := by kernel_rfl

theorem call_burinref0_EqBitmap {a_1 : Int} {a_2 : Int} {a_3 : Option Addr} {a_3n : Nat} {a_3c : Nat} {b_4 : Int} {b_5 : Int} {b_6 : Option Addr} {b_6n : Nat} {b_6c : Nat} {h : Heap} {K : Value → Heap → Prop} {Kp : List PanicEntry → Heap → Prop} (H : burinref0_EqBitmap (CallsHP Go.Proofs.Try.prog) a_1 a_2 a_3 a_3n a_3c b_4 b_5 b_6 b_6n b_6c h K Kp) : CallsHP Go.Proofs.Try.prog F_burinref0_EqBitmap #[.agg #[.int .i64 a_1, .int .i64 a_2, .slice a_3 a_3n a_3c], .agg #[.int .i64 b_4, .int .i64 b_5, .slice b_6 b_6n b_6c]] h K Kp :=
  callsHP_of hints_burinref0_EqBitmap (by kernel_rfl) Go.Proofs.Try.func51 (by kernel_rfl) (by rw [eq_burinref0_EqBitmap]; exact H)

noncomputable def hints_burinref0_May : Hints := Hints.mk (fun i => bif Nat.beq i 1 then some ([4, 14], .take 0 <| .take 2 <| .take 1 <| .take 3 <| .bar 4 [] <| .take 5 <| .take 6 <| .take 7 <| .take 10 <| .take 12 <| .take 8 <| .take 9 <| .take 11 <| .take 13 <| .go 14 <| .take 15 <| .take 16 <| .take 17 <| .done) else (bif Nat.beq i 8 then some ([], .take 0 <| .take 2 <| .take 3 <| .take 4 <| .take 11 <| .take 1 <| .take 5 <| .take 12 <| .take 13 <| .take 14 <| .go 6 <| .take 7 <| .take 8 <| .take 9 <| .take 10 <| .take 15 <| .take 16 <| .done) else (none)))
  (fun i => bif Nat.beq i 6 then some ([(3, .int .i64)], 562949886312460) else (none))
  (fun i => none) []
set_option maxRecDepth 100000 in
theorem eq_burinref0_May (C : CallP) (b_1 : Int) (b_2 : Int) (b_3 : Option Addr) (b_3n : Nat) (b_3c : Nat) (h : Heap) (K : Value → Heap → Prop) (Kp : List PanicEntry → Heap → Prop) :
    fnD Go.Proofs.Try.prog C hints_burinref0_May Go.Proofs.Try.f52 [.agg #[.int .i64 b_1, .int .i64 b_2, .slice b_3 b_3n b_3c]] h K Kp = burinref0_May C b_1 b_2 b_3 b_3n b_3c h K Kp := by kernel_rfl

theorem call_burinref0_May {b_1 : Int} {b_2 : Int} {b_3 : Option Addr} {b_3n : Nat} {b_3c : Nat} {h : Heap} {K : Value → Heap → Prop} {Kp : List PanicEntry → Heap → Prop} (H : burinref0_May (CallsHP Go.Proofs.Try.prog) b_1 b_2 b_3 b_3n b_3c h K Kp) : CallsHP Go.Proofs.Try.prog F_burinref0_May #[.agg #[.int .i64 b_1, .int .i64 b_2, .slice b_3 b_3n b_3c]] h K Kp :=
  callsHP_of hints_burinref0_May (by kernel_rfl) Go.Proofs.Try.func52 (by kernel_rfl) (by rw [eq_burinref0_May]; exact H)

noncomputable def hints_burinref0_White : Hints := Hints.mk (fun i => none)
  (fun i => none)
  (fun i => none) []
set_option maxRecDepth 100000 in
theorem eq_burinref0_White (C : CallP) (w : Int) (h' : Int) (h : Heap) (K : Value → Heap → Prop) (Kp : List PanicEntry → Heap → Prop) :
    fnD Go.Proofs.Try.prog C hints_burinref0_White Go.Proofs.Try.f53 [.int .i64 w, .int .i64 h'] h K Kp = burinref0_White C w h' h K Kp := by kernel_rfl

theorem call_burinref0_White {w : Int} {h' : Int} {h : Heap} {K : Value → Heap → Prop} {Kp : List PanicEntry → Heap → Prop} (H : burinref0_White (CallsHP Go.Proofs.Try.prog) w h' h K Kp) : CallsHP Go.Proofs.Try.prog F_burinref0_White #[.int .i64 w, .int .i64 h'] h K Kp :=
  callsHP_of hints_burinref0_White (by kernel_rfl) Go.Proofs.Try.func53 (by kernel_rfl) (by rw [eq_burinref0_White]; exact H)

noncomputable def hints_burinref0_Lay : Hints := Hints.mk (fun i => bif Nat.beq i 9 then some ([21], .take 1 <| .take 2 <| .take 3 <| .take 4 <| .take 5 <| .take 6 <| .take 7 <| .take 9 <| .take 10 <| .take 11 <| .take 12 <| .take 13 <| .take 14 <| .take 17 <| .take 18 <| .take 0 <| .take 8 <| .take 16 <| .go 15 <| .go 19 <| .go 20 <| .bar 21 [] <| .done) else (none))
  (fun i => bif Nat.beq i 3 then some ([(10, .int .i64)], 79228162514264337524824476672) else (bif Nat.beq i 6 then some ([(11, .int .i64)], 79228162514264333195497441280) else (none)))
  (fun i => bif Nat.beq i 9 then some ([(73, .bool)], 18889465650003604144128) else (none)) []
set_option maxRecDepth 100000 in
theorem eq_burinref0_Lay (C : CallP) (a0_1 : Int) (a0_2 : Int) (a0_3 : Option Addr) (a0_3n : Nat) (a0_3c : Nat) (a1 : Int) (a2 : Int) (a3 : Int) (a4_4 : Int) (a4_5 : Int) (a4_6 : Option Addr) (a4_6n : Nat) (a4_6c : Nat) (h : Heap) (K : Value → Heap → Prop) (Kp : List PanicEntry → Heap → Prop) :
    fnD Go.Proofs.Try.prog C hints_burinref0_Lay Go.Proofs.Try.f54 [.agg #[.int .i64 a0_1, .int .i64 a0_2, .slice a0_3 a0_3n a0_3c], .int .i64 a1, .int .i64 a2, .int .i64 a3, .agg #[.int .i64 a4_4, .int .i64 a4_5, .slice a4_6 a4_6n a4_6c]] h K Kp = burinref0_Lay C a0_1 a0_2 a0_3 a0_3n a0_3c a1 a2 a3 a4_4 a4_5 a4_6 a4_6n a4_6c h K Kp := by kernel_rfl

theorem call_burinref0_Lay {a0_1 : Int} {a0_2 : Int} {a0_3 : Option Addr} {a0_3n : Nat} {a0_3c : Nat} {a1 : Int} {a2 : Int} {a3 : Int} {a4_4 : Int} {a4_5 : Int} {a4_6 : Option Addr} {a4_6n : Nat} {a4_6c : Nat} {h : Heap} {K : Value → Heap → Prop} {Kp : List PanicEntry → Heap → Prop} (H : burinref0_Lay (CallsHP Go.Proofs.Try.prog) a0_1 a0_2 a0_3 a0_3n a0_3c a1 a2 a3 a4_4 a4_5 a4_6 a4_6n a4_6c h K Kp) : CallsHP Go.Proofs.Try.prog F_burinref0_Lay #[.agg #[.int .i64 a0_1, .int .i64 a0_2, .slice a0_3 a0_3n a0_3c], .int .i64 a1, .int .i64 a2, .int .i64 a3, .agg #[.int .i64 a4_4, .int .i64 a4_5, .slice a4_6 a4_6n a4_6c]] h K Kp :=
  callsHP_of hints_burinref0_Lay (by kernel_rfl) Go.Proofs.Try.func54 (by kernel_rfl) (by rw [eq_burinref0_Lay]; exact H)

noncomputable def hints_burinref0_Put : Hints := Hints.mk (fun i => bif Nat.beq i 3 then some ([11], .take 0 <| .take 2 <| .take 3 <| .take 5 <| .take 8 <| .take 1 <| .take 4 <| .take 6 <| .take 7 <| .take 9 <| .take 10 <| .bar 11 [] <| .done) else (bif Nat.beq i 5 then some ([11], .take 0 <| .take 2 <| .take 3 <| .take 5 <| .take 8 <| .take 1 <| .take 4 <| .take 6 <| .take 7 <| .take 9 <| .take 10 <| .bar 11 [] <| .done) else (none)))
  (fun i => none)
  (fun i => none) []
set_option maxRecDepth 100000 in
theorem eq_burinref0_Put (C : CallP) (b_1 : Int) (b_2 : Int) (b_3 : Option Addr) (b_3n : Nat) (b_3c : Nat) (x : Int) (y : Int) (bit : Int) (h : Heap) (K : Value → Heap → Prop) (Kp : List PanicEntry → Heap → Prop) :
    fnD Go.Proofs.Try.prog C hints_burinref0_Put Go.Proofs.Try.f59 [.agg #[.int .i64 b_1, .int .i64 b_2, .slice b_3 b_3n b_3c], .int .i64 x, .int .i64 y, .int .i64 bit] h K Kp = burinref0_Put C b_1 b_2 b_3 b_3n b_3c x y bit h K Kp := by kernel_rfl

theorem call_burinref0_Put {b_1 : Int} {b_2 : Int} {b_3 : Option Addr} {b_3n : Nat} {b_3c : Nat} {x : Int} {y : Int} {bit : Int} {h : Heap} {K : Value → Heap → Prop} {Kp : List PanicEntry → Heap → Prop} (H : burinref0_Put (CallsHP Go.Proofs.Try.prog) b_1 b_2 b_3 b_3n b_3c x y bit h K Kp) : CallsHP Go.Proofs.Try.prog F_burinref0_Put #[.agg #[.int .i64 b_1, .int .i64 b_2, .slice b_3 b_3n b_3c], .int .i64 x, .int .i64 y, .int .i64 bit] h K Kp :=
  callsHP_of hints_burinref0_Put (by kernel_rfl) Go.Proofs.Try.func59 (by kernel_rfl) (by rw [eq_burinref0_Put]; exact H)

noncomputable def hints_burinref0_EqWords : Hints := Hints.mk (fun i => bif Nat.beq i 6 then some ([], .take 0 <| .take 1 <| .take 2 <| .take 4 <| .take 5 <| .take 6 <| .take 3 <| .take 7 <| .take 8 <| .done) else (none))
  (fun i => bif Nat.beq i 4 then some ([(5, .int .i64)], 67106864) else (none))
  (fun i => none) []
set_option maxRecDepth 100000 in
theorem eq_burinref0_EqWords (C : CallP) (a : Option Addr) (an : Nat) (ac : Nat) (b : Option Addr) (bn : Nat) (bc : Nat) (h : Heap) (K : Value → Heap → Prop) (Kp : List PanicEntry → Heap → Prop) :
    fnD Go.Proofs.Try.prog C hints_burinref0_EqWords Go.Proofs.Try.f86 [.slice a an ac, .slice b bn bc] h K Kp = burinref0_EqWords C a an ac b bn bc h K Kp := by kernel_rfl

theorem call_burinref0_EqWords {a : Option Addr} {an : Nat} {ac : Nat} {b : Option Addr} {bn : Nat} {bc : Nat} {h : Heap} {K : Value → Heap → Prop} {Kp : List PanicEntry → Heap → Prop} (H : burinref0_EqWords (CallsHP Go.Proofs.Try.prog) a an ac b bn bc h K Kp) : CallsHP Go.Proofs.Try.prog F_burinref0_EqWords #[.slice a an ac, .slice b bn bc] h K Kp :=
  callsHP_of hints_burinref0_EqWords (by kernel_rfl) Go.Proofs.Try.func86 (by kernel_rfl) (by rw [eq_burinref0_EqWords]; exact H)

noncomputable def hints_burinref0_words : Hints := Hints.mk (fun i => none)
  (fun i => none)
  (fun i => none) []
set_option maxRecDepth 100000 in
theorem eq_burinref0_words (C : CallP) (w : Int) (h : Heap) (K : Value → Heap → Prop) (Kp : List PanicEntry → Heap → Prop) :
    fnD Go.Proofs.Try.prog C hints_burinref0_words Go.Proofs.Try.f87 [.int .i64 w] h K Kp = burinref0_words C w h K Kp := by kernel_rfl

theorem call_burinref0_words {w : Int} {h : Heap} {K : Value → Heap → Prop} {Kp : List PanicEntry → Heap → Prop} (H : burinref0_words (CallsHP Go.Proofs.Try.prog) w h K Kp) : CallsHP Go.Proofs.Try.prog F_burinref0_words #[.int .i64 w] h K Kp :=
  callsHP_of hints_burinref0_words (by kernel_rfl) Go.Proofs.Try.func87 (by kernel_rfl) (by rw [eq_burinref0_words]; exact H)

noncomputable def hints_burinref0_Do : Hints := Hints.mk (fun i => none)
  (fun i => none)
  (fun i => none) []
set_option maxRecDepth 100000 in
theorem eq_burinref0_Do (C : CallP) (op : Int) (d : Int) (s : Int) (h : Heap) (K : Value → Heap → Prop) (Kp : List PanicEntry → Heap → Prop) :
    fnD Go.Proofs.Try.prog C hints_burinref0_Do Go.Proofs.Try.f88 [.int .i64 op, .int .i64 d, .int .i64 s] h K Kp = burinref0_Do C op d s h K Kp := by kernel_rfl

theorem call_burinref0_Do {op : Int} {d : Int} {s : Int} {h : Heap} {K : Value → Heap → Prop} {Kp : List PanicEntry → Heap → Prop} (H : burinref0_Do (CallsHP Go.Proofs.Try.prog) op d s h K Kp) : CallsHP Go.Proofs.Try.prog F_burinref0_Do #[.int .i64 op, .int .i64 d, .int .i64 s] h K Kp :=
  callsHP_of hints_burinref0_Do (by kernel_rfl) Go.Proofs.Try.func88 (by kernel_rfl) (by rw [eq_burinref0_Do]; exact H)

noncomputable def hints_burinref0_Get : Hints := Hints.mk (fun i => bif Nat.beq i 3 then some ([], .take 0 <| .take 2 <| .take 3 <| .take 7 <| .take 8 <| .take 12 <| .take 13 <| .take 14 <| .take 15 <| .take 1 <| .take 4 <| .go 5 <| .take 6 <| .take 9 <| .take 10 <| .take 11 <| .take 16 <| .take 17 <| .take 18 <| .take 19 <| .done) else (none))
  (fun i => none)
  (fun i => none) []
set_option maxRecDepth 100000 in
theorem eq_burinref0_Get (C : CallP) (b_1 : Int) (b_2 : Int) (b_3 : Option Addr) (b_3n : Nat) (b_3c : Nat) (x : Int) (y : Int) (h : Heap) (K : Value → Heap → Prop) (Kp : List PanicEntry → Heap → Prop) :
    fnD Go.Proofs.Try.prog C hints_burinref0_Get Go.Proofs.Try.f89 [.agg #[.int .i64 b_1, .int .i64 b_2, .slice b_3 b_3n b_3c], .int .i64 x, .int .i64 y] h K Kp = burinref0_Get C b_1 b_2 b_3 b_3n b_3c x y h K Kp := by kernel_rfl

theorem call_burinref0_Get {b_1 : Int} {b_2 : Int} {b_3 : Option Addr} {b_3n : Nat} {b_3c : Nat} {x : Int} {y : Int} {h : Heap} {K : Value → Heap → Prop} {Kp : List PanicEntry → Heap → Prop} (H : burinref0_Get (CallsHP Go.Proofs.Try.prog) b_1 b_2 b_3 b_3n b_3c x y h K Kp) : CallsHP Go.Proofs.Try.prog F_burinref0_Get #[.agg #[.int .i64 b_1, .int .i64 b_2, .slice b_3 b_3n b_3c], .int .i64 x, .int .i64 y] h K Kp :=
  callsHP_of hints_burinref0_Get (by kernel_rfl) Go.Proofs.Try.func89 (by kernel_rfl) (by rw [eq_burinref0_Get]; exact H)

end Go.Den.Yteakipgcanafoaa

/- ArE: runs of a coder and of a decoder; 'Eq', 'Within', 'known' and 'wakes'. -/
set_option linter.unusedVariables false
set_option linter.unusedSimpArgs false
namespace Go.Ar
open Go Go.Den Go.Den.Yteakipgcanafoaa

/-! ### what stays true of a run -/
structure CodOk (m n : Nat) (s : Cod) : Prop where
  wf : Wf s
  n : s.n = n
  len : s.st.length = m
  done : s.done = false
theorem newC_ok (m : Nat) : CodOk m 0 (newC m) := ⟨newC_wf m, rfl, by simp [newC], rfl⟩
theorem putM_ok {m n : Nat} {s : Cod} (h : CodOk m n s) (k b : Nat) (hn : n < 16777216) : CodOk m (n + 1) (putM s k b) := by
  obtain ⟨h1, h2, h3⟩ := putM_n s k b
  exact ⟨putM_wf h.wf k b (by rw [h.n]; exact hn), by rw [h1, h.n], by rw [h2, h.len], by rw [h3, h.done]⟩
theorem codN_ok (k b : Nat → Nat) (m : Nat) : ∀ n, n ≤ 16777216 → CodOk m n (codN k b m n)
  | 0, _ => newC_ok m
  | n + 1, h => putM_ok (codN_ok k b m n (by omega)) _ _ (by omega)

theorem renewD_st : ∀ (k : Nat) (s : Dec), (renewD k s).st = s.st ∧ (renewD k s).n = s.n ∧ (renewD k s).b = s.b := by
  have hi : ∀ s : Dec, (inD s).st = s.st ∧ (inD s).n = s.n ∧ (inD s).b = s.b := fun s => by
    unfold inD
    split
    · exact ⟨rfl, rfl, rfl⟩
    · split <;> exact ⟨rfl, rfl, rfl⟩
  have hs : ∀ s : Dec, (shiftD s).st = s.st ∧ (shiftD s).n = s.n ∧ (shiftD s).b = s.b := fun s => by
    rw [shiftD_eq]
    split
    · exact hi s
    · exact ⟨rfl, rfl, rfl⟩
  intro k
  induction k with
  | zero => intro s; exact ⟨rfl, rfl, rfl⟩
  | succ k ih =>
    intro s
    obtain ⟨h1, h2, h3⟩ := hs s
    rw [renewD_succ]
    split
    · exact ⟨h1, h2, h3⟩
    · obtain ⟨g1, g2, g3⟩ := ih (shiftD s)
      exact ⟨g1.trans h1, g2.trans h2, g3.trans h3⟩
theorem getD_n (s : Dec) (k : Nat) : (getD s k).1.n = s.n + 1 ∧ (getD s k).1.st.length = s.st.length ∧ (getD s k).1.b = s.b := by
  have hr : ∀ S : Dec, S.n = s.n + 1 → S.st.length = s.st.length → S.b = s.b → (renewD 17 S).n = s.n + 1 ∧ (renewD 17 S).st.length = s.st.length ∧ (renewD 17 S).b = s.b := fun S e1 e2 e3 => by
    obtain ⟨h1, h2, h3⟩ := renewD_st 17 S
    exact ⟨h2.trans e1, by rw [h1, e2], h3.trans e3⟩
  unfold getD
  simp only []
  split
  · split
    · exact hr _ rfl (List.length_set ..) rfl
    · exact hr _ rfl (List.length_set ..) rfl
  · split
    · exact ⟨rfl, rfl, rfl⟩
    · split
      · exact hr _ rfl (List.length_set ..) rfl
      · exact hr _ rfl (List.length_set ..) rfl
theorem getD_bit {s : Dec} (k : Nat) : (getD s k).2 ≤ 1 := by
  have : s.st.getD k 0 % 2 < 2 := Nat.mod_lt _ (by omega)
  unfold getD
  simp only []
  split
  · split
    · show s.st.getD k 0 % 2 ≤ 1; omega
    · show 1 - s.st.getD k 0 % 2 ≤ 1; omega
  · split
    · show s.st.getD k 0 % 2 ≤ 1; omega
    · split
      · show 1 - s.st.getD k 0 % 2 ≤ 1; omega
      · show s.st.getD k 0 % 2 ≤ 1; omega
theorem newD_wf {b : List Nat} (hb : ∀ x ∈ b, x < 256) (n : Nat) : WfD (newD b n) ∧ (newD b n).n = 0 ∧ (newD b n).st.length = n ∧ (newD b n).b = b := by
  have hm : MidD { dec0 b n with c := byteD (dec0 b n) 0 * 65536 } := ⟨Nat.zero_le _, by
    show byteD (dec0 b n) 0 * 65536 < 4294967296
    have := byteD_lt (s := dec0 b n) hb 0
    omega, hb, fun x hx => by simp only [dec0, List.mem_replicate] at hx; omega, Nat.zero_le _⟩
  obtain ⟨i1, i2, i3, i4, i5, i6⟩ := inD_mid hm
  have hn : newD b n = { inD { dec0 b n with c := byteD (dec0 b n) 0 * 65536 } with c := (inD { dec0 b n with c := byteD (dec0 b n) 0 * 65536 }).c * 128 % M32, t := (inD { dec0 b n with c := byteD (dec0 b n) 0 * 65536 }).t - 7 } := rfl
  generalize inD { dec0 b n with c := byteD (dec0 b n) 0 * 65536 } = S at hn i1 i2 i3 i4 i5
  rw [hn]
  have e2 : S.a = 0x8000 := i2
  have e3 : S.n = 0 := i3
  have e4 : S.st = List.replicate n 0 := i4
  have e5 : S.b = b := i5
  refine ⟨⟨⟨by show S.t - 7 ≤ 8; have := i1.t8; omega, Nat.mod_lt _ (by decide), i1.b, i1.st, i1.i⟩, by show S.n ≤ _; omega, by show _ ≤ S.a; omega, by show S.a < _; omega⟩, e3, ?_, e5⟩
  show S.st.length = n
  rw [e4]
  simp
structure DecOk (bytes : List Nat) (m n : Nat) (s : Dec) : Prop where
  wf : WfD s
  n : s.n = n
  len : s.st.length = m
  b : s.b = bytes
theorem newD_ok {b : List Nat} (hb : ∀ x ∈ b, x < 256) (m : Nat) : DecOk b m 0 (newD b m) := by
  obtain ⟨h1, h2, h3, h4⟩ := newD_wf hb m
  exact ⟨h1, h2, h3, h4⟩
theorem getD_ok {b : List Nat} {m n : Nat} {s : Dec} (h : DecOk b m n s) (k : Nat) (hn : n < 16777216) : DecOk b m (n + 1) (getD s k).1 := by
  obtain ⟨h1, h2, h3⟩ := getD_n s k
  exact ⟨getD_wf h.wf k (by rw [h.n]; exact hn), by rw [h1, h.n], by rw [h2, h.len], by rw [h3, h.b]⟩
theorem decN_ok (k : Nat → Nat) {bytes : List Nat} (hb : ∀ x ∈ bytes, x < 256) (m : Nat) : ∀ n, n ≤ 16777216 → DecOk bytes m n (decN k bytes m n)
  | 0, _ => newD_ok hb m
  | n + 1, h => getD_ok (decN_ok k hb m n (by omega)) _ (by omega)

/-- What a coder hands out are bytes. -/
theorem outM_lt {s : Cod} (hl : s.l < 256) (hb : ∀ x ∈ s.bs, x < 256) : (outM s).l < 256 ∧ ∀ x ∈ (outM s).bs, x < 256 := by
  have hm : ∀ (l c : Nat), l < 256 → (outTail s l c).l < 256 ∧ ∀ x ∈ (outTail s l c).bs, x < 256 := fun l c h => by
    have h2 : ∀ x ∈ s.bs ++ [l], x < 256 := fun x hx => by
      rcases List.mem_append.1 hx with h3 | h3
      · exact hb x h3
      · rw [List.mem_singleton.1 h3]; exact h
    unfold outTail
    split
    · exact ⟨Nat.mod_lt _ (by omega), h2⟩
    · exact ⟨Nat.mod_lt _ (by omega), h2⟩
  unfold outM
  split
  · exact hm _ _ (by omega)
  · exact hm _ _ hl
theorem flushM_lt {s : Cod} (h : Wf s) : ∀ x ∈ bytesM (flushM s), x < 256 := by
  have h1 : (flushS { s with c := flushC s, done := true }).l < 256 ∧ ∀ x ∈ (flushS { s with c := flushC s, done := true }).bs, x < 256 := outM_lt (s := { s with c := flushC s * 2 ^ s.t, done := true }) h.l h.bs
  have h2 : (flushM s).l < 256 ∧ ∀ x ∈ (flushM s).bs, x < 256 := outM_lt (s := { flushS { s with c := flushC s, done := true } with c := (flushS { s with c := flushC s, done := true }).c * 2 ^ (flushS { s with c := flushC s, done := true }).t }) h1.1 h1.2
  have h3 : ∀ x ∈ (flushM s).bs ++ [(flushM s).l], x < 256 := fun x hx => by
    rcases List.mem_append.1 hx with h4 | h4
    · exact h2.2 x h4
    · rw [List.mem_singleton.1 h4]; exact h2.1
  intro x hx
  unfold bytesM at hx
  simp only [] at hx
  split at hx
  · exact h3 x (List.mem_of_mem_drop ((List.dropLast_sublist _).subset hx))
  · exact h3 x (List.mem_of_mem_drop hx)
theorem flushM_len (s : Cod) : (bytesM (flushM s)).length ≤ s.bs.length + 3 := by
  have h1 : (flushS { s with c := flushC s, done := true }).bs.length = s.bs.length + 1 := (outM_same _).2.2.2.2
  have h2 : (flushM s).bs.length = (flushS { s with c := flushC s, done := true }).bs.length + 1 := (outM_same _).2.2.2.2
  unfold bytesM
  simp only []
  split
  · simp; omega
  · simp; omega
theorem flushM_keep (s : Cod) : (flushM s).st = s.st ∧ (flushM s).n = s.n := by
  have h1 : (flushS { s with c := flushC s, done := true }).st = s.st ∧ (flushS { s with c := flushC s, done := true }).n = s.n := ⟨(outM_same _).2.2.1, (outM_same _).2.1⟩
  have h2 : (flushM s).st = (flushS { s with c := flushC s, done := true }).st ∧ (flushM s).n = (flushS { s with c := flushC s, done := true }).n := ⟨(outM_same _).2.2.1, (outM_same _).2.1⟩
  exact ⟨h2.1.trans h1.1, h2.2.trans h1.2⟩

/-! ### small functions -/
theorem rdO_cell {h : Heap} {a : Option Addr} {n : Nat} {cs : List Value} (hr : rdO h a n cs) {i : Nat} {v : Value} (hi : cs[i]? = some v) : ∃ ad, a = some ad ∧ hcell h (ad.add i) = some v := by
  cases a with
  | none => rw [show cs = [] from hr] at hi; simp at hi
  | some ad => exact ⟨ad, rfl, hr.2 i v hi⟩
theorem rdO_len {h : Heap} {a : Option Addr} {n : Nat} {cs : List Value} (hr : rdO h a n cs) (hn : a = none → n = 0) : cs.length = n := by
  cases a with
  | none => rw [show cs = [] from hr, hn rfl]; rfl
  | some ad => exact hr.1

theorem eq_ok {h : Heap} {a b : Option Addr} {ac bc : Nat} {xs ys : List Nat} (ha : rdO h a (xs.length * 1) (u8s xs)) (hb : rdO h b (ys.length * 1) (u8s ys)) (hlen : xs.length < 140737488351300)
    {K : Value → Heap → Prop} {Kp : List PanicEntry → Heap → Prop} (hk : K (.bool (decide (xs = ys))) h) : CP F_burinref0_Eq #[.slice a xs.length ac, .slice b ys.length bc] h K Kp := by
  refine call_burinref0_Eq ?_
  unfold burinref0_Eq
  refine bcase_of (fun h1 => ?_) fun h1 => ?_
  · have h1 : xs.length ≠ ys.length := by simp at h1; omega
    rw [decide_eq_false (fun e => h1 (congrArg List.length e))] at hk
    exact hk
  · have h1 : xs.length = ys.length := by simp at h1; omega
    refine ⟨fun n vs h' => ∃ i : Nat, h' = h ∧ vs = [.int .i64 (i : Int)] ∧ i + n = xs.length ∧ xs.take i = ys.take i, ⟨xs.length, 0, rfl, rfl, by omega, rfl⟩, ?_⟩
    rintro n h' u x ⟨i, rfl, hx, hin, hti⟩
    injection hx with hx
    injection hx with _ hx
    subst hx
    refine bcase_of (fun h2 => ?_) fun h2 => ?_
    · have h2 : i < xs.length := by simp at h2; omega
      have h3 : i < ys.length := by omega
      refine needs_of (by omega) ?_
      have hxi : xs[i]? = some xs[i] := List.getElem?_eq_getElem h2
      have hyi : ys[i]? = some ys[i] := List.getElem?_eq_getElem h3
      obtain ⟨aa, rfl, hca⟩ := rdO_cell ha (u8s_get hxi)
      obtain ⟨ba, rfl, hcb⟩ := rdO_cell hb (u8s_get hyi)
      simp only [ptr_some_eq, Int.toNat_natCast, Nat.mul_one]
      refine needs_of (by omega) ?_
      refine ldI_of hca (ldI_of hcb ?_)
      refine bcase_of (fun h4 => ?_) fun h4 => ?_
      · have h4 : xs[i] ≠ ys[i] := by simp at h4; omega
        rw [decide_eq_false (fun e => h4 (by subst e; rfl))] at hk
        exact hk
      · have h4 : xs[i] = ys[i] := by simp at h4; omega
        refine bindI_of (((i + 1 : Nat) : Int)) (by exact i64_at _ _ (by omega) (by omega) (by omega)) ?_
        refine ⟨n - 1, by omega, i + 1, by first | rfl | trivial, rfl, by omega, ?_⟩
        rw [List.take_succ_eq_append_getElem h2, List.take_succ_eq_append_getElem h3, hti, h4]
    · have h2 : i = xs.length := by simp at h2; omega
      subst h2
      have e : xs = ys := by rwa [List.take_of_length_le (Nat.le_refl _), h1, List.take_of_length_le (Nat.le_refl _)] at hti
      rw [decide_eq_true e] at hk
      exact hk

theorem within_ok {h : Heap} {i : Int} {n : Nat} (hn : 1 ≤ n) (hn2 : n < 1000000000) {K : Value → Heap → Prop} {Kp : List PanicEntry → Heap → Prop} (hk : K (.int .i64 (idx i n : Nat)) h) : CP F_burinkit_Within #[.int .i64 i, .int .i64 (n : Nat)] h K Kp := by
  refine call_burinkit_Within ?_
  unfold burinkit_Within
  have habs := tmod_abs i hn
  have h0 := Int.emod_nonneg i (b := (n : Int)) (by omega)
  have hlt := Int.emod_lt_of_pos i (b := (n : Int)) (by omega)
  have e1 : ((idx i n : Nat) : Int) = i % n := by unfold idx; omega
  have e2 := Int.tmod_eq_emod (a := i) (b := (n : Int))
  refine needs_of (by exact ⟨rfl, by omega⟩) ?_
  refine bindI_gen fun z ez => ?_
  subst ez
  refine bcase_of (fun h2 => ?_) fun h2 => ?_
  · have h2 : i.tmod n < 0 := of_decide_eq_true h2
    refine bindI_of ((idx i n : Nat)) (by exact i64_at _ _ (by split at e2 <;> omega) (by omega) (by omega)) ?_
    exact hk
  · have h2 : ¬ i.tmod n < 0 := of_decide_eq_false h2
    have e3 : i.tmod n = ((idx i n : Nat) : Int) := by split at e2 <;> omega
    rw [e3]
    exact hk

theorem idx_nat {x n : Nat} (h : x < n) : idx (x : Int) n = x := by
  unfold idx
  have : ((x : Int) % (n : Int)) = ((x % n : Nat) : Int) := by simp
  rw [this, Nat.mod_eq_of_lt h]
  rfl

/-! ### wakes -/
end Go.Ar

/- GnJa: decisions as a list; the decoder's walk over them. -/
set_option linter.unusedVariables false
set_option linter.unusedSimpArgs false
namespace Go.Bm
open Go Go.Den Go.Den.Yteakipgcanafoaa
open Go.Ar (Cod Dec CodOk codN decN newC newC_ok newD idx bytesM flushM putM getD)

/-! ### decisions as a list -/
def kOf (L : List (Nat × Nat)) (i : Nat) : Nat := (L[i]?.getD (0, 0)).1
def bOf (L : List (Nat × Nat)) (i : Nat) : Nat := (L[i]?.getD (0, 0)).2
def cdL (m : Nat) (L : List (Nat × Nat)) : Cod := codN (kOf L) (bOf L) m L.length
theorem codN_cong {k b k' b' : Nat → Nat} {m : Nat} : ∀ {n : Nat}, (∀ j, j < n → k j = k' j ∧ b j = b' j) → codN k b m n = codN k' b' m n
  | 0, _ => rfl
  | n + 1, h => by
    have := codN_cong (m := m) (n := n) fun j hj => h j (by omega)
    unfold codN
    rw [this, (h n (by omega)).1, (h n (by omega)).2]
theorem cdL_snoc (m : Nat) (L : List (Nat × Nat)) (d : Nat × Nat) : cdL m (L ++ [d]) = putM (cdL m L) d.1 d.2 := by
  have e : codN (kOf (L ++ [d])) (bOf (L ++ [d])) m L.length = cdL m L := codN_cong fun j hj => by
    unfold kOf bOf
    rw [List.getElem?_append_left hj]
    exact ⟨rfl, rfl⟩
  unfold cdL at e ⊢
  rw [List.length_append, List.length_singleton, codN, e]
  unfold kOf bOf
  rw [List.getElem?_append_right (Nat.le_refl _), Nat.sub_self]
  rfl
theorem cdL_ok {m : Nat} {L : List (Nat × Nat)} (h : L.length ≤ 16777216) : CodOk m L.length (cdL m L) := by
  have key : ∀ i, i ≤ 16777216 → CodOk m i (codN (kOf L) (bOf L) m i) := by
    intro i
    induction i with
    | zero => exact fun _ => newC_ok m
    | succ i ih => exact fun hi => Go.Ar.putM_ok (ih (by omega)) _ _ (by omega)
  exact key _ h
theorem bOf_le {L : List (Nat × Nat)} (h : ∀ d ∈ L, d.2 ≤ 1) : ∀ i, i < L.length → bOf L i ≤ 1 := fun i hi => by
  unfold bOf
  rw [List.getElem?_eq_getElem hi]
  exact h _ (List.getElem_mem hi)
theorem kOf_at {L A B : List (Nat × Nat)} {d : Nat × Nat} (h : L = A ++ d :: B) : kOf L A.length = d.1 ∧ bOf L A.length = d.2 := by
  subst h
  unfold kOf bOf
  rw [List.getElem?_append_right (Nat.le_refl _), Nat.sub_self]
  exact ⟨rfl, rfl⟩
/-- The decoder's walk over the decisions. -/
structure Walk (L : List (Nat × Nat)) (D : Nat → Dec) : Prop where
  step : ∀ i, i < L.length → getD (D i) (kOf L i) = (D (i + 1), bOf L i)
theorem Walk.at {L A B : List (Nat × Nat)} {D : Nat → Dec} {d : Nat × Nat} (h : Walk L D) (e : L = A ++ d :: B) : getD (D A.length) d.1 = (D (A.length + 1), d.2) := by
  obtain ⟨h1, h2⟩ := kOf_at e
  have := h.step A.length (by rw [e]; simp)
  rw [h1, h2] at this
  exact this
theorem walk_of {m : Nat} {L : List (Nat × Nat)} (h1 : ∀ d ∈ L, d.2 ≤ 1) (hc : L.length ≤ 16777216) : Walk L (decN (kOf L) (bytesM (flushM (cdL m L))) m) := by
  refine ⟨fun i hi => Prod.ext rfl ?_⟩
  have hlt : ∀ x ∈ bytesM (flushM (cdL m L)), x < 256 := Go.Ar.flushM_lt (cdL_ok hc).wf
  exact Go.Ar.back_bit (kOf L) (bOf L) m L.length (bOf_le h1) hc hlt hi

end Go.Bm

/- BmA: rows of words as pixels; what one word more does. Plain numbers: no Go, no memory. -/
set_option linter.unusedVariables false
set_option linter.unusedSimpArgs false
namespace Go.Bm
open Go Go.Den

def u64s (l : List Nat) : List Value := l.map fun x : Nat => .int .u64 (x : Int)
theorem u64s_length (l : List Nat) : (u64s l).length = l.length := by simp [u64s]
theorem u64s_get {l : List Nat} {i x : Nat} (h : l[i]? = some x) : (u64s l)[i]? = some (.int .u64 (x : Int)) := by
  unfold u64s; rw [List.getElem?_map, h]; rfl
theorem u64s_app (a b : List Nat) : u64s (a ++ b) = u64s a ++ u64s b := by simp [u64s]
theorem u64s_set (l : List Nat) (i x : Nat) : u64s (l.set i x) = (u64s l).set i (.int .u64 (x : Int)) := by simp [u64s, List.map_set]
theorem u64s_cells (l : List Nat) : ∀ v ∈ u64s l, v.oneCell' = true := fun v hv => by
  obtain ⟨x, _, rfl⟩ := List.mem_map.1 hv; rfl
theorem u64s_zero (n : Nat) : repZ [.int .u64 0] n = u64s (List.replicate n 0) := by rw [repZ_one]; simp [u64s]
theorem getD_get {l : List Nat} {i : Nat} (h : i < l.length) : l[i]? = some (l.getD i 0) := by
  rw [List.getD_eq_getElem?_getD, List.getElem?_eq_getElem h]; rfl

abbrev M64 : Nat := 18446744073709551616
def W64 (l : List Nat) : Prop := ∀ v ∈ l, v < M64
theorem W64.get {l : List Nat} (h : W64 l) (i : Nat) : l.getD i 0 < M64 := by
  rw [List.getD_eq_getElem?_getD]
  cases hk : l[i]? with
  | none => decide
  | some x => exact h x (List.mem_of_getElem? hk)
theorem W64.set {l : List Nat} (h : W64 l) {i v : Nat} (hv : v < M64) : W64 (l.set i v) := fun x hx => by
  rcases List.mem_or_eq_of_mem_set hx with h1 | h1
  · exact h x h1
  · rw [h1]; exact hv
theorem W64.zero (n : Nat) : W64 (List.replicate n 0) := fun v hv => by rw [(List.mem_replicate.1 hv).2]; decide
theorem M64_pow : M64 = 2 ^ 64 := rfl
theorem bits_lt {v : Nat} (h : v < M64) {j : Nat} (hj : 64 ≤ j) : v.testBit j = false :=
  Nat.testBit_lt_two_pow (Nat.lt_of_lt_of_le h (by rw [M64_pow]; exact Nat.pow_le_pow_right (by decide) hj))
theorem word_ext {a b : Nat} (ha : a < M64) (hb : b < M64) (h : ∀ j, j < 64 → a.testBit j = b.testBit j) : a = b := by
  apply Nat.eq_of_testBit_eq
  intro j
  rcases Nat.lt_or_ge j 64 with h1 | h1
  · exact h j h1
  · rw [bits_lt ha h1, bits_lt hb h1]

/-- The words of a row of 'w' pixels. -/
def wds (w : Nat) : Nat := (w + 63) / 64
/-- A pixel. -/
def pix (ws : List Nat) (wd x y : Nat) : Bool := (ws.getD (y * wd + x / 64) 0).testBit (63 - x % 64)

theorem idx_inj {wd c c' y y' : Nat} (hc : c < wd) (hc' : c' < wd) (h : y * wd + c = y' * wd + c') : y = y' ∧ c = c' := by
  have h1 : (y * wd + c) / wd = y := by rw [Nat.mul_comm, Nat.mul_add_div (by omega), Nat.div_eq_of_lt hc, Nat.add_zero]
  have h2 : (y' * wd + c') / wd = y' := by rw [Nat.mul_comm, Nat.mul_add_div (by omega), Nat.div_eq_of_lt hc', Nat.add_zero]
  rw [h, h2] at h1
  subst h1
  exact ⟨rfl, by omega⟩
theorem idx_lt {wd c y h : Nat} (hc : c < wd) (hy : y < h) : y * wd + c < h * wd := by
  have : (y + 1) * wd ≤ h * wd := Nat.mul_le_mul_right _ hy
  rw [Nat.add_mul, Nat.one_mul] at this
  omega
/-- Two lists of words with the same pixels. -/
theorem pix_ext {a b : List Nat} {wd h : Nat} (ha : a.length = h * wd) (hb : b.length = h * wd) (wa : W64 a) (wb : W64 b) (hp : ∀ y, y < h → ∀ x, x < 64 * wd → pix a wd x y = pix b wd x y) : a = b := by
  apply List.ext_getElem?
  intro i
  rcases Nat.lt_or_ge i (h * wd) with hi | hi
  · have hw : 0 < wd := by
      rcases Nat.eq_zero_or_pos wd with h0 | h0
      · subst h0; simp at hi
      · exact h0
    rw [getD_get (by omega), getD_get (by omega)]
    congr 1
    refine word_ext (wa.get i) (wb.get i) fun j hj => ?_
    have hy : i / wd < h := (Nat.div_lt_iff_lt_mul hw).2 hi
    have hc : i % wd < wd := Nat.mod_lt _ hw
    have := hp (i / wd) hy (64 * (i % wd) + (63 - j)) (by omega)
    unfold pix at this
    rw [show (64 * (i % wd) + (63 - j)) / 64 = i % wd by omega, show 63 - (64 * (i % wd) + (63 - j)) % 64 = j by omega, show i / wd * wd + i % wd = i by rw [Nat.mul_comm]; exact Nat.div_add_mod i wd] at this
    exact this
  · rw [List.getElem?_eq_none (by omega), List.getElem?_eq_none (by omega)]
/-- One word is written. -/
theorem pix_set {ws : List Nat} {wd c y v h : Nat} (hl : ws.length = h * wd) (hc : c < wd) (hy : y < h) {x' y' : Nat} (hx' : x' < 64 * wd) :
    pix (ws.set (y * wd + c) v) wd x' y' = if y' = y ∧ x' / 64 = c then v.testBit (63 - x' % 64) else pix ws wd x' y' := by
  have hi := idx_lt hc hy
  unfold pix
  split
  · rename_i h1
    rw [h1.1, h1.2, List.getD_eq_getElem?_getD, List.getElem?_set_self (by omega)]
    rfl
  · rename_i h1
    rw [List.getD_eq_getElem?_getD, List.getElem?_set_ne, ← List.getD_eq_getElem?_getD]
    intro e
    obtain ⟨e1, e2⟩ := idx_inj hc (show x' / 64 < wd by omega) e
    exact h1 ⟨e1.symm, e2.symm⟩

/-! ### words' arithmetic -/
/-- All bits turned. -/
def wnot (b : Nat) : Nat := 2 ^ 64 - (b + 1)
theorem wnot_lt (b : Nat) : wnot b < M64 := by unfold wnot; rw [M64_pow]; have : (0 : Nat) < 2 ^ 64 := by decide
                                               omega
theorem wnot_bit {b : Nat} (h : b < M64) {j : Nat} (hj : j < 64) : (wnot b).testBit j = !b.testBit j := by
  unfold wnot
  rw [Nat.testBit_two_pow_sub_succ h, decide_eq_true hj, Bool.true_and]
theorem andNot64 (a b : Nat) (ha : a < M64) (hb : b < M64) : bitI .andNot .u64 a b = ((a &&& wnot b : Nat) : Int) := by
  have ha' : a % 2 ^ 64 = a := Nat.mod_eq_of_lt ha
  have hb' : b % 2 ^ 64 = b := Nat.mod_eq_of_lt hb
  have h1 : (BitVec.ofInt 64 (a : Int) &&& ~~~ BitVec.ofInt 64 (b : Int)).toNat = a &&& wnot b := by
    rw [BitVec.toNat_and, BitVec.toNat_not, BitVec.ofInt_natCast, BitVec.ofInt_natCast, BitVec.toNat_ofNat, BitVec.toNat_ofNat, ha', hb']
    unfold wnot
    congr 1
    omega
  have e : bitI .andNot .u64 (a : Int) (b : Int) = IntKind.u64.wrap (((BitVec.ofInt 64 (a : Int) &&& ~~~ BitVec.ofInt 64 (b : Int)).toNat : Nat) : Int) := rfl
  rw [e, h1]
  exact u64_in _ (by omega) (by
    have : a &&& wnot b ≤ a := Nat.and_le_left
    omega)
theorem xor64 (a b : Nat) (ha : a < M64) (hb : b < M64) : bitI .xor .u64 a b = ((a ^^^ b : Nat) : Int) := bits_nat3 .u64 64 (by decide) wr64 a b ha hb
theorem and_lt {a b : Nat} (ha : a < M64) : a &&& b < M64 := Nat.lt_of_le_of_lt Nat.and_le_left ha
theorem or_lt {a b : Nat} (ha : a < M64) (hb : b < M64) : a ||| b < M64 := Nat.or_lt_two_pow (n := 64) ha hb
theorem xor_lt {a b : Nat} (ha : a < M64) (hb : b < M64) : a ^^^ b < M64 := Nat.xor_lt_two_pow (n := 64) ha hb
theorem ones_shr {p j : Nat} (hp : p ≤ 64) : (18446744073709551615 / 2 ^ p).testBit j = decide (j + p < 64) := by
  rw [Nat.testBit_div_two_pow, show 18446744073709551615 = 2 ^ 64 - 1 from rfl, Nat.testBit_two_pow_sub_one]

/-- An operation on pixels. -/
def opB (op : Nat) (d s : Bool) : Bool := match op with
  | 0 => d || s
  | 1 => d && s
  | 2 => d != s
  | 3 => !(d != s)
  | _ => s

/-- A row of words, asked for any place. -/
def rowB (ws : List Nat) (X : Int) : Bool := decide (0 ≤ X) && (ws.getD (X.toNat / 64) 0).testBit (63 - X.toNat % 64)

end Go.Bm

/- Written by gen.py: the conditions of the functions of bitmap. -/
set_option linter.unusedVariables false
set_option linter.unusedSimpArgs false
namespace Go.Den.Yteakipgcanafoaa
open Go Go.Den

/- burin/bitmap.From -/
set_option maxRecDepth 100000 in
def bitmap_From (C : CallP) (b_1 : Int) (b_2 : Int) (b_3 : Option Addr) (b_3n : Nat) (b_3c : Nat) (h : Heap) (K : Value → Heap → Prop) (Kp : List PanicEntry → Heap → Prop) : Prop :=
newC h [.int .i64 b_1, .int .i64 b_2, .slice b_3 b_3n b_3c] T_api_Bitmap fun r_4 h_5 =>
ldI h_5 ((⟨r_4, 0, none⟩ : Addr).add 0) .i64 fun x_6 =>
ldI h_5 ((⟨r_4, 0, none⟩ : Addr).add 1) .i64 fun x_7 =>
ldS h_5 ((⟨r_4, 0, none⟩ : Addr).add 2) fun x_8 x_8n x_8c =>
C F_bitmap_Check #[.agg #[.int .i64 x_6, .int .i64 x_7, .slice x_8 x_8n x_8c]] h_5 (fun v_9 h_10 =>
∃ (r_11 : Bool), v_9 = .bool r_11 ∧ (
bcase (!r_11) (
K (.tuple #[.pointer none, .int .i64 21]) h_10) <|
ldI h_10 ((⟨r_4, 0, none⟩ : Addr).add 0) .i64 fun x_12 =>
ldI h_10 ((⟨r_4, 0, none⟩ : Addr).add 1) .i64 fun x_13 =>
ldI h_10 ((⟨r_4, 0, none⟩ : Addr).add 0) .i64 fun x_14 =>
bindI (IntKind.i64.wrap (x_14 + (63 : Int))) fun z_15 =>
bindI (IntKind.i64.wrap (z_15.tdiv (64 : Int))) fun z_16 =>
ldS h_10 ((⟨r_4, 0, none⟩ : Addr).add 2) fun x_17 x_17n x_17c =>
C F_slices_Clone_uint64_uint64 #[.slice x_17 x_17n x_17c] h_10 (fun v_18 h_19 =>
∃ (r_20 : Option Addr) (r_20n : Nat) (r_20c : Nat), v_18 = .slice r_20 r_20n r_20c ∧ (
hext h_10 h_19 ∧ (
newC h_19 [.int .i64 x_12, .int .i64 x_13, .int .i64 z_16, .slice r_20 r_20n r_20c] T_bitmap_Map fun r_21 h_22 =>
K (.tuple #[.pointer (some ⟨r_21, 0, none⟩), .int .i64 0]) h_22))) (Kp))) (Kp)

/- burin/bitmap.New -/
set_option maxRecDepth 100000 in
def bitmap_New (C : CallP) (w : Int) (h' : Int) (h : Heap) (K : Value → Heap → Prop) (Kp : List PanicEntry → Heap → Prop) : Prop :=
C F_bitmap_sized #[.int .i64 w, .int .i64 h'] h (fun v_1 h_2 =>
∃ (r_3 : Bool), v_1 = .bool r_3 ∧ (
bcase (!r_3) (
K (.tuple #[.pointer none, .int .i64 20]) h_2) <|
bindI (IntKind.i64.wrap (w + (63 : Int))) fun z_4 =>
bindI (IntKind.i64.wrap (z_4.tdiv (64 : Int))) fun z_5 =>
bindI (IntKind.i64.wrap (h' * z_5)) fun z_6 =>
needs (0 ≤ z_6 ∧ z_6 ≤ z_6 ∧ z_6 ≤ 9223372036854775807 ∧ ((8 : Nat) : Int) * z_6 ≤ 281474976710656) <|
newC h_2 (repZ [.int .u64 0] z_6.toNat) T_uint64 fun r_7 h_8 =>
newC h_8 [.int .i64 w, .int .i64 h', .int .i64 z_5, .slice (some ⟨r_7, 0, none⟩) z_6.toNat z_6.toNat] T_bitmap_Map fun r_9 h_10 =>
K (.tuple #[.pointer (some ⟨r_9, 0, none⟩), .int .i64 0]) h_10)) (Kp)

/- (*burin/bitmap.Map).Plain -/
set_option maxRecDepth 100000 in
def bitmap_Map_Plain (C : CallP) (m : Option Addr) (h : Heap) (K : Value → Heap → Prop) (Kp : List PanicEntry → Heap → Prop) : Prop :=
newC h [.int .i64 0, .int .i64 0, .slice none 0 0] T_api_Bitmap fun r_1 h_2 =>
ptr m fun a_3 =>
ptr m fun a_4 =>
ptr m fun a_5 =>
ldI h_2 (a_3.add 0) .i64 fun x_6 =>
ldI h_2 (a_4.add 1) .i64 fun x_7 =>
ldS h_2 (a_5.add 3) fun x_8 x_8n x_8c =>
C F_slices_Clone_uint64_uint64 #[.slice x_8 x_8n x_8c] h_2 (fun v_9 h_10 =>
∃ (r_11 : Option Addr) (r_11n : Nat) (r_11c : Nat), v_9 = .slice r_11 r_11n r_11c ∧ (
hext h_2 h_10 ∧ (
stV h_10 ((⟨r_1, 0, none⟩ : Addr).add 0) (.int .i64 x_6) fun h_12 =>
stV h_12 ((⟨r_1, 0, none⟩ : Addr).add 1) (.int .i64 x_7) fun h_13 =>
stV h_13 ((⟨r_1, 0, none⟩ : Addr).add 2) (.slice r_11 r_11n r_11c) fun h_14 =>
ldI h_14 ((⟨r_1, 0, none⟩ : Addr).add 0) .i64 fun r_15 =>
ldI h_14 ((⟨r_1, 0, none⟩ : Addr).add 1) .i64 fun r_16 =>
ldS h_14 ((⟨r_1, 0, none⟩ : Addr).add 2) fun r_17 r_17n r_17c =>
K (.agg #[.int .i64 r_15, .int .i64 r_16, .slice r_17 r_17n r_17c]) h_14))) (Kp)

/- burin/bitmap.Check -/
set_option maxRecDepth 100000 in
def bitmap_Check (C : CallP) (b_1 : Int) (b_2 : Int) (b_3 : Option Addr) (b_3n : Nat) (b_3c : Nat) (h : Heap) (K : Value → Heap → Prop) (Kp : List PanicEntry → Heap → Prop) : Prop :=
newC h [.int .i64 b_1, .int .i64 b_2, .slice b_3 b_3n b_3c] T_api_Bitmap fun r_4 h_5 =>
ldI h_5 ((⟨r_4, 0, none⟩ : Addr).add 0) .i64 fun x_6 =>
ldI h_5 ((⟨r_4, 0, none⟩ : Addr).add 1) .i64 fun x_7 =>
C F_bitmap_sized #[.int .i64 x_6, .int .i64 x_7] h_5 (fun v_8 h_9 =>
∃ (r_10 : Bool), v_8 = .bool r_10 ∧ (
bcase (!r_10) (
K (.bool false) h_9) <|
ldI h_9 ((⟨r_4, 0, none⟩ : Addr).add 0) .i64 fun x_11 =>
bindI (IntKind.i64.wrap (x_11 + (63 : Int))) fun z_12 =>
bindI (IntKind.i64.wrap (z_12.tdiv (64 : Int))) fun z_13 =>
ldS h_9 ((⟨r_4, 0, none⟩ : Addr).add 2) fun x_14 x_14n x_14c =>
ldI h_9 ((⟨r_4, 0, none⟩ : Addr).add 1) .i64 fun x_15 =>
bindI (IntKind.i64.wrap (x_15 * z_13)) fun z_16 =>
bcase ((x_14n : Int) != z_16) (
K (.bool false) h_9) <|
ldI h_9 ((⟨r_4, 0, none⟩ : Addr).add 1) .i64 fun x_17 =>
∃ J_18 : Nat → List Value → Heap → Prop, (∃ n_20, J_18 n_20 [.int .i64 0] h_9) ∧ ∀ (n_20 : Nat) (h_21 : Heap) (u_22 : Nat → Value) (x_23 : Int), J_18 n_20 [.int .i64 x_23] h_21 → (
bcase (decide (x_23 < x_17)) (
bindI (IntKind.i64.wrap (x_23 * z_13)) fun z_24 =>
bindI (IntKind.i64.wrap (z_24 + z_13)) fun z_25 =>
bindI (IntKind.i64.wrap (z_25 - (1 : Int))) fun z_26 =>
ldS h_21 ((⟨r_4, 0, none⟩ : Addr).add 2) fun x_27 x_27n x_27c =>
needs (0 ≤ z_26 ∧ z_26 < (x_27n : Int)) <|
ptr x_27 fun a_28 =>
ldI h_21 (a_28.add (z_26.toNat * 1)) .u64 fun x_29 =>
ldI h_21 ((⟨r_4, 0, none⟩ : Addr).add 0) .i64 fun x_30 =>
C F_bitmap_last #[.int .i64 x_30] h_21 (fun v_31 h_32 =>
∃ (r_33 : Int), v_31 = .int .u64 r_33 ∧ (
hext h_21 h_32 ∧ (
bindI (bitI .andNot .u64 x_29 r_33) fun z_34 =>
bcase (z_34 != (0 : Int)) (
K (.bool false) h_32) <|
bindI (IntKind.i64.wrap (x_23 + (1 : Int))) fun z_35 =>
∃ m_19, m_19 < n_20 ∧ J_18 m_19 [.int .i64 z_35] h_32))) (Kp)) <|
K (.bool true) h_21))) (Kp)

/- (*burin/bitmap.Map).Size -/
set_option maxRecDepth 100000 in
def bitmap_Map_Size (C : CallP) (m : Option Addr) (h : Heap) (K : Value → Heap → Prop) (Kp : List PanicEntry → Heap → Prop) : Prop :=
ptr m fun a_1 =>
ptr m fun a_2 =>
ldI h (a_1.add 0) .i64 fun x_3 =>
ldI h (a_2.add 1) .i64 fun x_4 =>
K (.tuple #[.int .i64 x_3, .int .i64 x_4]) h

/- (*burin/bitmap.Map).Blit -/
set_option maxRecDepth 100000 in
def bitmap_Map_Blit (C : CallP) (a0 : Option Addr) (a1 : Option Addr) (a2 : Int) (a3 : Int) (a4 : Int) (a5 : Int) (a6 : Int) (a7 : Int) (a8 : Int) (h : Heap) (K : Value → Heap → Prop) (Kp : List PanicEntry → Heap → Prop) : Prop :=
bcase a1.isNone (
K (.int .i64 26) h) <|
bcase (decide (a4 < (0 : Int))) (
K (.int .i64 24) h) <|
bcase (decide (a5 < (0 : Int))) (
K (.int .i64 24) h) <|
bcase (decide (a8 < (0 : Int))) (
K (.int .i64 25) h) <|
bcase (decide (a8 > (4 : Int))) (
K (.int .i64 25) h) <|
ptr a1 fun a_1 =>
ptr a0 fun a_2 =>
ldI h (a_1.add 0) .i64 fun x_3 =>
ldI h (a_2.add 0) .i64 fun x_4 =>
C F_bitmap_both #[.int .i64 a2, .int .i64 x_3, .int .i64 a6, .int .i64 x_4, .int .i64 a4] h (fun v_5 h_6 =>
∃ (r_7 : Int), ∃ (r_8 : Int), ∃ (r_9 : Int), v_5 = .tuple #[.int .i64 r_7, .int .i64 r_8, .int .i64 r_9] ∧ (
ptr a1 fun a_10 =>
ptr a0 fun a_11 =>
ldI h_6 (a_10.add 1) .i64 fun x_12 =>
ldI h_6 (a_11.add 1) .i64 fun x_13 =>
C F_bitmap_both #[.int .i64 a3, .int .i64 x_12, .int .i64 a7, .int .i64 x_13, .int .i64 a5] h_6 (fun v_14 h_15 =>
∃ (r_16 : Int), ∃ (r_17 : Int), ∃ (r_18 : Int), v_14 = .tuple #[.int .i64 r_16, .int .i64 r_17, .int .i64 r_18] ∧ (
bcase (r_9 == (0 : Int)) (
K (.int .i64 0) h_15) <|
bcase (r_18 == (0 : Int)) (
K (.int .i64 0) h_15) <|
C F_bitmap_operations #[] h_15 (fun v_19 h_20 =>
∃ (r_21 : Option Addr) (r_21n : Nat) (r_21c : Nat), v_19 = .slice r_21 r_21n r_21c ∧ (
needs (0 ≤ a8 ∧ a8 < (r_21n : Int)) <|
ptr r_21 fun a_22 =>
ldV h_20 (a_22.add (a8.toNat * 1)) fun x_23 =>
ptr a1 fun a_24 =>
ldI h_20 (a_24.add 2) .i64 fun x_25 =>
needs (0 ≤ x_25 ∧ x_25 ≤ x_25 ∧ x_25 ≤ 9223372036854775807 ∧ ((8 : Nat) : Int) * x_25 ≤ 281474976710656) <|
newC h_20 (repZ [.int .u64 0] x_25.toNat) T_uint64 fun r_26 h_27 =>
∃ J_28 : Nat → List Value → Heap → Prop, (∃ n_30, J_28 n_30 [.int .i64 0] h_27) ∧ ∀ (n_30 : Nat) (h_31 : Heap) (u_32 : Nat → Value) (x_33 : Int), J_28 n_30 [.int .i64 x_33] h_31 → (
bcase (decide (x_33 < r_18)) (
∃ K_34 : List Value → Heap → Prop, (
bcase (decide (r_17 > r_16)) (
bindI (IntKind.i64.wrap (r_18 - (1 : Int))) fun z_37 =>
bindI (IntKind.i64.wrap (z_37 - x_33)) fun z_38 =>
K_34 [.int .i64 z_38] h_31) <|
K_34 [.int .i64 x_33] h_31) ∧ ∀ (h_35 : Heap) (u_36 : Nat → Value) (x_39 : Int), K_34 [.int .i64 x_39] h_35 → (
bindI (IntKind.i64.wrap (r_16 + x_39)) fun z_40 =>
ptr a1 fun a_41 =>
ldI h_35 (a_41.add 2) .i64 fun x_42 =>
bindI (IntKind.i64.wrap (z_40 * x_42)) fun z_43 =>
ptr a1 fun a_44 =>
ptr a1 fun a_45 =>
ptr a1 fun a_46 =>
ldS h_35 (a_44.add 3) fun x_47 x_47n x_47c =>
ldI h_35 (a_45.add 2) .i64 fun x_48 =>
bindI (IntKind.i64.wrap (z_43 + x_48)) fun z_49 =>
ldI h_35 (a_46.add 2) .i64 fun x_50 =>
bindI (IntKind.i64.wrap (z_43 + x_50)) fun z_51 =>
needs (0 ≤ z_51 ∧ z_51 ≤ ((x_47c : Nat) : Int)) <|
needs (0 ≤ z_49 ∧ z_49 ≤ ((z_51.toNat : Nat) : Int)) <|
needs (0 ≤ z_43 ∧ z_43 ≤ ((z_49.toNat : Nat) : Int)) <|
copC h_35 1 (some ⟨r_26, 0, none⟩) (x_25.toNat) (subA x_47 (z_51.toNat) (z_43.toNat) 1) ((z_49.toNat - z_43.toNat)) fun n_52 h_53 =>
bindI (IntKind.i64.wrap (r_8.tdiv (64 : Int))) fun z_54 =>
∃ J_55 : Nat → List Value → Heap → Prop, (∃ n_57, J_55 n_57 [.int .i64 z_54] h_53) ∧ ∀ (n_57 : Nat) (h_58 : Heap) (u_59 : Nat → Value) (x_60 : Int), J_55 n_57 [.int .i64 x_60] h_58 → (
bindI (IntKind.i64.wrap (r_8 + r_9)) fun z_61 =>
bindI (IntKind.i64.wrap (z_61 - (1 : Int))) fun z_62 =>
bindI (IntKind.i64.wrap (z_62.tdiv (64 : Int))) fun z_63 =>
bcase (decide (x_60 ≤ z_63)) (
ptr a0 fun a_64 =>
bindI (IntKind.i64.wrap (r_17 + x_39)) fun z_65 =>
ptr a0 fun a_66 =>
ldS h_58 (a_64.add 3) fun x_67 x_67n x_67c =>
ldI h_58 (a_66.add 2) .i64 fun x_68 =>
bindI (IntKind.i64.wrap (z_65 * x_68)) fun z_69 =>
bindI (IntKind.i64.wrap (z_69 + x_60)) fun z_70 =>
needs (0 ≤ z_70 ∧ z_70 < (x_67n : Int)) <|
ptr x_67 fun a_71 =>
C F_bitmap_mask #[.int .i64 x_60, .int .i64 r_8, .int .i64 r_9] h_58 (fun v_72 h_73 =>
∃ (r_74 : Int), v_72 = .int .u64 r_74 ∧ (
bindI (IntKind.i64.wrap ((64 : Int) * x_60)) fun z_75 =>
bindI (IntKind.i64.wrap (r_7 + z_75)) fun z_76 =>
bindI (IntKind.i64.wrap (z_76 - r_8)) fun z_77 =>
ldI h_73 (a_71.add (z_70.toNat * 1)) .u64 fun x_78 =>
bindI (bitI .andNot .u64 x_78 r_74) fun z_79 =>
ldI h_73 (a_71.add (z_70.toNat * 1)) .u64 fun x_80 =>
C F_bitmap_word #[.slice (some ⟨r_26, 0, none⟩) x_25.toNat x_25.toNat, .int .i64 z_77] h_73 (fun v_81 h_82 =>
∃ (r_83 : Int), v_81 = .int .u64 r_83 ∧ (
hext h_73 h_82 ∧ (
callD C (Kp) x_23 [.int .u64 x_80, .int .u64 r_83] h_82 fun v_84 h_85 =>
∃ (r_86 : Int), v_84 = .int .u64 r_86 ∧ (
hext h_82 h_85 ∧ (
bindI (bitI .and .u64 r_86 r_74) fun z_87 =>
bindI (bitI .or .u64 z_79 z_87) fun z_88 =>
stV h_85 (a_71.add (z_70.toNat * 1)) (.int .u64 z_88) fun h_89 =>
bindI (IntKind.i64.wrap (x_60 + (1 : Int))) fun z_90 =>
∃ m_56, m_56 < n_57 ∧ J_55 m_56 [.int .i64 z_90] h_89))))) (Kp))) (Kp)) <|
bindI (IntKind.i64.wrap (x_33 + (1 : Int))) fun z_91 =>
∃ m_29, m_29 < n_30 ∧ J_28 m_29 [.int .i64 z_91] h_58))) <|
K (.int .i64 0) h_31))) (Kp))) (Kp))) (Kp)

/- burin/bitmap.sized -/
set_option maxRecDepth 100000 in
def bitmap_sized (C : CallP) (w : Int) (h' : Int) (h : Heap) (K : Value → Heap → Prop) (Kp : List PanicEntry → Heap → Prop) : Prop :=
bcase (decide (w ≥ (1 : Int))) (
bcase (decide (h' ≥ (1 : Int))) (
bcase (decide (w ≤ (1048576 : Int))) (
bcase (decide (h' ≤ (1048576 : Int))) (
bindI (IntKind.i64.wrap (w * h')) fun z_1 =>
K (.bool (decide (z_1 ≤ (1048576 : Int)))) h) <|
K (.bool false) h) <|
K (.bool false) h) <|
K (.bool false) h) <|
K (.bool false) h

/- burin/bitmap.last -/
set_option maxRecDepth 100000 in
def bitmap_last (C : CallP) (w : Int) (h : Heap) (K : Value → Heap → Prop) (Kp : List PanicEntry → Heap → Prop) : Prop :=
bindI (w.tmod (64 : Int)) fun z_1 =>
bindI (IntKind.i64.wrap ((64 : Int) - z_1)) fun z_2 =>
bindI (z_2.tmod (64 : Int)) fun z_3 =>
needs (0 ≤ z_3) <|
bindI (shlI .u64 (18446744073709551615 : Int) z_3) fun z_4 =>
K (.int .u64 z_4) h

/- (*burin/bitmap.Map).Get -/
set_option maxRecDepth 100000 in
def bitmap_Map_Get (C : CallP) (m : Option Addr) (x : Int) (y : Int) (h : Heap) (K : Value → Heap → Prop) (Kp : List PanicEntry → Heap → Prop) : Prop :=
C F_bitmap_Map_inside #[.pointer m, .int .i64 x, .int .i64 y] h (fun v_1 h_2 =>
∃ (r_3 : Bool), v_1 = .bool r_3 ∧ (
bcase (!r_3) (
K (.int .i64 0) h_2) <|
ptr m fun a_4 =>
ptr m fun a_5 =>
bindI (IntKind.i64.wrap (x.tdiv (64 : Int))) fun z_6 =>
bindI (x.tmod (64 : Int)) fun z_7 =>
bindI (IntKind.i64.wrap ((63 : Int) - z_7)) fun z_8 =>
ldS h_2 (a_4.add 3) fun x_9 x_9n x_9c =>
ldI h_2 (a_5.add 2) .i64 fun x_10 =>
bindI (IntKind.i64.wrap (y * x_10)) fun z_11 =>
bindI (IntKind.i64.wrap (z_11 + z_6)) fun z_12 =>
needs (0 ≤ z_12 ∧ z_12 < (x_9n : Int)) <|
ptr x_9 fun a_13 =>
ldI h_2 (a_13.add (z_12.toNat * 1)) .u64 fun x_14 =>
needs (0 ≤ z_8) <|
bindI (shrI .u64 x_14 z_8) fun z_15 =>
bindI (bitI .and .u64 z_15 (1 : Int)) fun z_16 =>
bindI (IntKind.i64.wrap z_16) fun z_17 =>
K (.int .i64 z_17) h_2)) (Kp)

/- burin/bitmap.both -/
set_option maxRecDepth 100000 in
def bitmap_both (C : CallP) (a : Int) (asv : Int) (b : Int) (bs : Int) (n : Int) (h : Heap) (K : Value → Heap → Prop) (Kp : List PanicEntry → Heap → Prop) : Prop :=
C F_bitmap_cut #[.int .i64 a, .int .i64 n, .int .i64 asv] h (fun v_1 h_2 =>
∃ (r_3 : Int), ∃ (r_4 : Int), v_1 = .tuple #[.int .i64 r_3, .int .i64 r_4] ∧ (
bcase (r_4 == (0 : Int)) (
K (.tuple #[.int .i64 0, .int .i64 0, .int .i64 0]) h_2) <|
bindI (IntKind.i64.wrap ((9223372036854775807 : Int) - r_3)) fun z_5 =>
bcase (decide (b > z_5)) (
K (.tuple #[.int .i64 0, .int .i64 0, .int .i64 0]) h_2) <|
bindI (IntKind.i64.wrap (a + r_3)) fun z_6 =>
bindI (IntKind.i64.wrap (b + r_3)) fun z_7 =>
C F_bitmap_cut #[.int .i64 z_7, .int .i64 r_4, .int .i64 bs] h_2 (fun v_8 h_9 =>
∃ (r_10 : Int), ∃ (r_11 : Int), v_8 = .tuple #[.int .i64 r_10, .int .i64 r_11] ∧ (
bindI (IntKind.i64.wrap (z_6 + r_10)) fun z_12 =>
bindI (IntKind.i64.wrap (z_7 + r_10)) fun z_13 =>
K (.tuple #[.int .i64 z_12, .int .i64 z_13, .int .i64 r_11]) h_9)) (Kp))) (Kp)

/- burin/bitmap.operations -/
set_option maxRecDepth 100000 in
def bitmap_operations (C : CallP)  (h : Heap) (K : Value → Heap → Prop) (Kp : List PanicEntry → Heap → Prop) : Prop :=
newC h [.func (.func F_bitmap_operations_c1) #[] #[], .func (.func F_bitmap_operations_c2) #[] #[], .func (.func F_bitmap_operations_c3) #[] #[], .func (.func F_bitmap_operations_c4) #[] #[], .func (.func F_bitmap_operations_c5) #[] #[]] T_func_uint64_uint64_uint64 fun r_1 h_2 =>
K (.slice (some ⟨r_1, 0, none⟩) 5 5) h_2

/- burin/bitmap.mask -/
set_option maxRecDepth 100000 in
def bitmap_mask (C : CallP) (i : Int) (x : Int) (n : Int) (h : Heap) (K : Value → Heap → Prop) (Kp : List PanicEntry → Heap → Prop) : Prop :=
bindI (IntKind.i64.wrap ((64 : Int) * i)) fun z_1 =>
bindI (IntKind.i64.wrap (x - z_1)) fun z_2 =>
bindI (maxI z_2 (0 : Int)) fun z_3 =>
bindI (IntKind.i64.wrap (x + n)) fun z_4 =>
bindI (IntKind.i64.wrap ((64 : Int) * i)) fun z_5 =>
bindI (IntKind.i64.wrap (z_4 - z_5)) fun z_6 =>
bindI (minI z_6 (64 : Int)) fun z_7 =>
needs (0 ≤ z_3) <|
bindI (shrI .u64 (18446744073709551615 : Int) z_3) fun z_8 =>
needs (0 ≤ z_7) <|
bindI (shrI .u64 (18446744073709551615 : Int) z_7) fun z_9 =>
bindI (bitI .andNot .u64 z_8 z_9) fun z_10 =>
K (.int .u64 z_10) h

/- burin/bitmap.word -/
set_option maxRecDepth 100000 in
def bitmap_word (C : CallP) (row : Option Addr) (rown : Nat) (rowc : Nat) (x : Int) (h : Heap) (K : Value → Heap → Prop) (Kp : List PanicEntry → Heap → Prop) : Prop :=
bcase (decide (x < (0 : Int))) (
C F_bitmap_word #[.slice row rown rowc, .int .i64 0] h (fun v_1 h_2 =>
∃ (r_3 : Int), v_1 = .int .u64 r_3 ∧ (
bindI (IntKind.i64.wrap (0 - x)) fun z_4 =>
needs (0 ≤ z_4) <|
bindI (shrI .u64 r_3 z_4) fun z_5 =>
K (.int .u64 z_5) h_2)) (Kp)) <|
bindI (IntKind.i64.wrap (x.tdiv (64 : Int))) fun z_6 =>
bcase (decide (z_6 ≥ (rown : Int))) (
K (.int .u64 0) h) <|
needs (0 ≤ z_6 ∧ z_6 < (rown : Int)) <|
ptr row fun a_7 =>
ldI h (a_7.add (z_6.toNat * 1)) .u64 fun x_8 =>
bindI (x.tmod (64 : Int)) fun z_9 =>
needs (0 ≤ z_9) <|
bindI (shlI .u64 x_8 z_9) fun z_10 =>
∃ K_11 : List Value → Heap → Prop, (
bindI (x.tmod (64 : Int)) fun z_14 =>
bcase (decide (z_14 > (0 : Int))) (
bindI (IntKind.i64.wrap (z_6 + (1 : Int))) fun z_15 =>
K_11 [.bool (decide (z_15 < (rown : Int)))] h) <|
K_11 [.bool false] h) ∧ ∀ (h_12 : Heap) (u_13 : Nat → Value) (x_16 : Bool), K_11 [.bool x_16] h_12 → (
bcase x_16 (
bindI (IntKind.i64.wrap (z_6 + (1 : Int))) fun z_17 =>
needs (0 ≤ z_17 ∧ z_17 < (rown : Int)) <|
ptr row fun a_18 =>
ldI h_12 (a_18.add (z_17.toNat * 1)) .u64 fun x_19 =>
bindI (x.tmod (64 : Int)) fun z_20 =>
bindI (IntKind.i64.wrap ((64 : Int) - z_20)) fun z_21 =>
needs (0 ≤ z_21) <|
bindI (shrI .u64 x_19 z_21) fun z_22 =>
bindI (bitI .or .u64 z_10 z_22) fun z_23 =>
K (.int .u64 z_23) h_12) <|
K (.int .u64 z_10) h_12)

/- (*burin/bitmap.Map).Set -/
set_option maxRecDepth 100000 in
def bitmap_Map_Set (C : CallP) (m : Option Addr) (x : Int) (y : Int) (bit : Int) (h : Heap) (K : Value → Heap → Prop) (Kp : List PanicEntry → Heap → Prop) : Prop :=
C F_bitmap_Map_inside #[.pointer m, .int .i64 x, .int .i64 y] h (fun v_1 h_2 =>
∃ (r_3 : Bool), v_1 = .bool r_3 ∧ (
bcase (!r_3) (
K (.int .i64 22) h_2) <|
bcase (bit != (0 : Int)) (
bcase (bit != (1 : Int)) (
K (.int .i64 23) h_2) <|
C F_bitmap_Map_put #[.pointer m, .int .i64 x, .int .i64 y, .int .i64 bit] h_2 (fun v_4 h_5 =>
K (.int .i64 0) h_5) (Kp)) <|
C F_bitmap_Map_put #[.pointer m, .int .i64 x, .int .i64 y, .int .i64 bit] h_2 (fun v_6 h_7 =>
K (.int .i64 0) h_7) (Kp))) (Kp)

/- (*burin/bitmap.Map).inside -/
set_option maxRecDepth 100000 in
def bitmap_Map_inside (C : CallP) (m : Option Addr) (x : Int) (y : Int) (h : Heap) (K : Value → Heap → Prop) (Kp : List PanicEntry → Heap → Prop) : Prop :=
bcase (decide (x ≥ (0 : Int))) (
ptr m fun a_1 =>
ldI h (a_1.add 0) .i64 fun x_2 =>
bcase (decide (x < x_2)) (
bcase (decide (y ≥ (0 : Int))) (
ptr m fun a_3 =>
ldI h (a_3.add 1) .i64 fun x_4 =>
K (.bool (decide (y < x_4))) h) <|
K (.bool false) h) <|
K (.bool false) h) <|
K (.bool false) h

/- burin/bitmap.cut -/
set_option maxRecDepth 100000 in
def bitmap_cut (C : CallP) (off : Int) (n : Int) (size : Int) (h : Heap) (K : Value → Heap → Prop) (Kp : List PanicEntry → Heap → Prop) : Prop :=
∃ K_1 : List Value → Heap → Prop, (
bcase (decide (n ≤ (0 : Int))) (
K_1 [.bool (decide (n ≤ (0 : Int)))] h) <|
bcase (decide (off ≥ size)) (
K_1 [.bool (decide (off ≥ size))] h) <|
bindI (IntKind.i64.wrap (0 - n)) fun z_4 =>
K_1 [.bool (decide (off ≤ z_4))] h) ∧ ∀ (h_2 : Heap) (u_3 : Nat → Value) (x_5 : Bool), K_1 [.bool x_5] h_2 → (
bcase x_5 (
K (.tuple #[.int .i64 0, .int .i64 0]) h_2) <|
bcase (decide (off ≥ (0 : Int))) (
bindI (IntKind.i64.wrap (size - off)) fun z_6 =>
bindI (minI n z_6) fun z_7 =>
K (.tuple #[.int .i64 0, .int .i64 z_7]) h_2) <|
bindI (IntKind.i64.wrap (0 - off)) fun z_8 =>
bindI (IntKind.i64.wrap (n + off)) fun z_9 =>
bindI (minI z_9 size) fun z_10 =>
K (.tuple #[.int .i64 z_8, .int .i64 z_10]) h_2)

/- burin/bitmap.operations$1 -/
set_option maxRecDepth 100000 in
def bitmap_operations_c1 (C : CallP) (d : Int) (s : Int) (h : Heap) (K : Value → Heap → Prop) (Kp : List PanicEntry → Heap → Prop) : Prop :=
bindI (bitI .or .u64 d s) fun z_1 =>
K (.int .u64 z_1) h

/- burin/bitmap.operations$2 -/
set_option maxRecDepth 100000 in
def bitmap_operations_c2 (C : CallP) (d : Int) (s : Int) (h : Heap) (K : Value → Heap → Prop) (Kp : List PanicEntry → Heap → Prop) : Prop :=
bindI (bitI .and .u64 d s) fun z_1 =>
K (.int .u64 z_1) h

/- burin/bitmap.operations$3 -/
set_option maxRecDepth 100000 in
def bitmap_operations_c3 (C : CallP) (d : Int) (s : Int) (h : Heap) (K : Value → Heap → Prop) (Kp : List PanicEntry → Heap → Prop) : Prop :=
bindI (bitI .xor .u64 d s) fun z_1 =>
K (.int .u64 z_1) h

/- burin/bitmap.operations$4 -/
set_option maxRecDepth 100000 in
def bitmap_operations_c4 (C : CallP) (d : Int) (s : Int) (h : Heap) (K : Value → Heap → Prop) (Kp : List PanicEntry → Heap → Prop) : Prop :=
bindI (bitI .xor .u64 d s) fun z_1 =>
bindI (bitI .xor .u64 IntKind.u64.max z_1) fun z_2 =>
K (.int .u64 z_2) h

/- burin/bitmap.operations$5 -/
set_option maxRecDepth 100000 in
def bitmap_operations_c5 (C : CallP) (d : Int) (s : Int) (h : Heap) (K : Value → Heap → Prop) (Kp : List PanicEntry → Heap → Prop) : Prop :=
K (.int .u64 s) h

/- (*burin/bitmap.Map).put -/
set_option maxRecDepth 100000 in
def bitmap_Map_put (C : CallP) (m : Option Addr) (x : Int) (y : Int) (bit : Int) (h : Heap) (K : Value → Heap → Prop) (Kp : List PanicEntry → Heap → Prop) : Prop :=
ptr m fun a_1 =>
ptr m fun a_2 =>
bindI (IntKind.i64.wrap (x.tdiv (64 : Int))) fun z_3 =>
ldS h (a_1.add 3) fun x_4 x_4n x_4c =>
ldI h (a_2.add 2) .i64 fun x_5 =>
bindI (IntKind.i64.wrap (y * x_5)) fun z_6 =>
bindI (IntKind.i64.wrap (z_6 + z_3)) fun z_7 =>
needs (0 ≤ z_7 ∧ z_7 < (x_4n : Int)) <|
ptr x_4 fun a_8 =>
bindI (x.tmod (64 : Int)) fun z_9 =>
bindI (IntKind.i64.wrap ((63 : Int) - z_9)) fun z_10 =>
needs (0 ≤ z_10) <|
bindI (shlI .u64 (1 : Int) z_10) fun z_11 =>
bindI (IntKind.u64.wrap bit) fun z_12 =>
bindI (x.tmod (64 : Int)) fun z_13 =>
bindI (IntKind.i64.wrap ((63 : Int) - z_13)) fun z_14 =>
needs (0 ≤ z_14) <|
bindI (shlI .u64 z_12 z_14) fun z_15 =>
ldI h (a_8.add (z_7.toNat * 1)) .u64 fun x_16 =>
bindI (bitI .andNot .u64 x_16 z_11) fun z_17 =>
bindI (bitI .or .u64 z_17 z_15) fun z_18 =>
stV h (a_8.add (z_7.toNat * 1)) (.int .u64 z_18) fun h_19 =>
K (.tuple #[]) h_19

end Go.Den.Yteakipgcanafoaa

/- Written by gen.py: each condition of the functions of bitmap is the one of its body; so it is enough for its call. -/
set_option linter.unusedVariables false
set_option linter.unusedSimpArgs false
namespace Go.Den.Yteakipgcanafoaa
open Go Go.Den

noncomputable def hints_bitmap_From : Hints := Hints.mk (fun i => bif Nat.beq i 3 then some ([12], .take 0 <| .take 2 <| .take 4 <| .take 8 <| .take 1 <| .take 3 <| .take 5 <| .take 6 <| .take 7 <| .take 9 <| .go 10 <| .take 11 <| .bar 12 [] <| .take 13 <| .take 14 <| .done) else (none))
  (fun i => none)
  (fun i => none) []
set_option maxRecDepth 100000 in
theorem eq_bitmap_From (C : CallP) (b_1 : Int) (b_2 : Int) (b_3 : Option Addr) (b_3n : Nat) (b_3c : Nat) (h : Heap) (K : Value → Heap → Prop) (Kp : List PanicEntry → Heap → Prop) :
    fnD Go.Proofs.Try.prog C hints_bitmap_From Go.Proofs.Try.f90 [.agg #[.int .i64 b_1, .int .i64 b_2, .slice b_3 b_3n b_3c]] h K Kp = bitmap_From C b_1 b_2 b_3 b_3n b_3c h K Kp := by kernel_rfl

theorem call_bitmap_From {b_1 : Int} {b_2 : Int} {b_3 : Option Addr} {b_3n : Nat} {b_3c : Nat} {h : Heap} {K : Value → Heap → Prop} {Kp : List PanicEntry → Heap → Prop} (H : bitmap_From (CallsHP Go.Proofs.Try.prog) b_1 b_2 b_3 b_3n b_3c h K Kp) : CallsHP Go.Proofs.Try.prog F_bitmap_From #[.agg #[.int .i64 b_1, .int .i64 b_2, .slice b_3 b_3n b_3c]] h K Kp :=
  callsHP_of hints_bitmap_From (by kernel_rfl) Go.Proofs.Try.func90 (by kernel_rfl) (by rw [eq_bitmap_From]; exact H)

noncomputable def hints_bitmap_New : Hints := Hints.mk (fun i => none)
  (fun i => none)
  (fun i => none) []
set_option maxRecDepth 100000 in
theorem eq_bitmap_New (C : CallP) (w : Int) (h' : Int) (h : Heap) (K : Value → Heap → Prop) (Kp : List PanicEntry → Heap → Prop) :
    fnD Go.Proofs.Try.prog C hints_bitmap_New Go.Proofs.Try.f95 [.int .i64 w, .int .i64 h'] h K Kp = bitmap_New C w h' h K Kp := by kernel_rfl

theorem call_bitmap_New {w : Int} {h' : Int} {h : Heap} {K : Value → Heap → Prop} {Kp : List PanicEntry → Heap → Prop} (H : bitmap_New (CallsHP Go.Proofs.Try.prog) w h' h K Kp) : CallsHP Go.Proofs.Try.prog F_bitmap_New #[.int .i64 w, .int .i64 h'] h K Kp :=
  callsHP_of hints_bitmap_New (by kernel_rfl) Go.Proofs.Try.func95 (by kernel_rfl) (by rw [eq_bitmap_New]; exact H)

noncomputable def hints_bitmap_Map_Plain : Hints := Hints.mk (fun i => bif Nat.beq i 1 then some ([14], .take 0 <| .take 1 <| .take 2 <| .take 4 <| .take 5 <| .take 6 <| .take 8 <| .take 9 <| .take 10 <| .take 3 <| .take 7 <| .take 11 <| .go 12 <| .take 13 <| .bar 14 [] <| .done) else (none))
  (fun i => none)
  (fun i => none) []
set_option maxRecDepth 100000 in
theorem eq_bitmap_Map_Plain (C : CallP) (m : Option Addr) (h : Heap) (K : Value → Heap → Prop) (Kp : List PanicEntry → Heap → Prop) :
    fnD Go.Proofs.Try.prog C hints_bitmap_Map_Plain Go.Proofs.Try.f97 [.pointer m] h K Kp = bitmap_Map_Plain C m h K Kp := by kernel_rfl

theorem call_bitmap_Map_Plain {m : Option Addr} {h : Heap} {K : Value → Heap → Prop} {Kp : List PanicEntry → Heap → Prop} (H : bitmap_Map_Plain (CallsHP Go.Proofs.Try.prog) m h K Kp) : CallsHP Go.Proofs.Try.prog F_bitmap_Map_Plain #[.pointer m] h K Kp :=
  callsHP_of hints_bitmap_Map_Plain (by kernel_rfl) Go.Proofs.Try.func97 (by kernel_rfl) (by rw [eq_bitmap_Map_Plain]; exact H)

noncomputable def hints_bitmap_Check : Hints := Hints.mk (fun i => bif Nat.beq i 9 then some ([], .take 0 <| .take 2 <| .take 3 <| .take 4 <| .take 5 <| .take 6 <| .take 7 <| .take 10 <| .take 1 <| .take 8 <| .take 9 <| .take 11 <| .go 12 <| .take 13 <| .take 14 <| .done) else (none))
  (fun i => bif Nat.beq i 7 then some ([(25, .int .i64)], 17592152490004) else (none))
  (fun i => none) []
set_option maxRecDepth 100000 in
theorem eq_bitmap_Check (C : CallP) (b_1 : Int) (b_2 : Int) (b_3 : Option Addr) (b_3n : Nat) (b_3c : Nat) (h : Heap) (K : Value → Heap → Prop) (Kp : List PanicEntry → Heap → Prop) :
    fnD Go.Proofs.Try.prog C hints_bitmap_Check Go.Proofs.Try.f119 [.agg #[.int .i64 b_1, .int .i64 b_2, .slice b_3 b_3n b_3c]] h K Kp = bitmap_Check C b_1 b_2 b_3 b_3n b_3c h K Kp := by kernel_rfl

theorem call_bitmap_Check {b_1 : Int} {b_2 : Int} {b_3 : Option Addr} {b_3n : Nat} {b_3c : Nat} {h : Heap} {K : Value → Heap → Prop} {Kp : List PanicEntry → Heap → Prop} (H : bitmap_Check (CallsHP Go.Proofs.Try.prog) b_1 b_2 b_3 b_3n b_3c h K Kp) : CallsHP Go.Proofs.Try.prog F_bitmap_Check #[.agg #[.int .i64 b_1, .int .i64 b_2, .slice b_3 b_3n b_3c]] h K Kp :=
  callsHP_of hints_bitmap_Check (by kernel_rfl) Go.Proofs.Try.func119 (by kernel_rfl) (by rw [eq_bitmap_Check]; exact H)

noncomputable def hints_bitmap_Map_Size : Hints := Hints.mk (fun i => bif Nat.beq i 1 then some ([], .take 0 <| .take 1 <| .take 2 <| .take 4 <| .take 5 <| .take 6 <| .take 3 <| .take 8 <| .take 7 <| .take 9 <| .done) else (none))
  (fun i => none)
  (fun i => none) []
set_option maxRecDepth 100000 in
theorem eq_bitmap_Map_Size (C : CallP) (m : Option Addr) (h : Heap) (K : Value → Heap → Prop) (Kp : List PanicEntry → Heap → Prop) :
    fnD Go.Proofs.Try.prog C hints_bitmap_Map_Size Go.Proofs.Try.f122 [.pointer m] h K Kp = bitmap_Map_Size C m h K Kp := by kernel_rfl

theorem call_bitmap_Map_Size {m : Option Addr} {h : Heap} {K : Value → Heap → Prop} {Kp : List PanicEntry → Heap → Prop} (H : bitmap_Map_Size (CallsHP Go.Proofs.Try.prog) m h K Kp) : CallsHP Go.Proofs.Try.prog F_bitmap_Map_Size #[.pointer m] h K Kp :=
  callsHP_of hints_bitmap_Map_Size (by kernel_rfl) Go.Proofs.Try.func122 (by kernel_rfl) (by rw [eq_bitmap_Map_Size]; exact H)

noncomputable def hints_bitmap_Map_Blit : Hints := Hints.mk (fun i => bif Nat.beq i 7 then some ([11], .take 0 <| .take 1 <| .take 2 <| .take 3 <| .take 5 <| .take 6 <| .take 7 <| .take 8 <| .take 10 <| .take 4 <| .take 9 <| .bar 11 [] <| .take 12 <| .take 13 <| .take 14 <| .take 15 <| .take 16 <| .take 17 <| .take 18 <| .done) else (bif Nat.beq i 8 then some ([11], .take 0 <| .take 1 <| .take 2 <| .take 3 <| .take 5 <| .take 6 <| .take 7 <| .take 8 <| .take 10 <| .take 4 <| .take 9 <| .bar 11 [] <| .take 12 <| .take 13 <| .take 14 <| .take 15 <| .take 16 <| .take 17 <| .take 18 <| .done) else (bif Nat.beq i 19 then some ([19], .take 0 <| .take 1 <| .take 2 <| .take 3 <| .take 5 <| .take 6 <| .take 7 <| .take 8 <| .take 9 <| .take 12 <| .take 13 <| .take 14 <| .take 15 <| .take 4 <| .take 10 <| .take 11 <| .take 16 <| .take 17 <| .take 18 <| .bar 19 [] <| .done) else (bif Nat.beq i 23 then some ([], .take 0 <| .take 1 <| .take 2 <| .take 4 <| .take 5 <| .take 6 <| .take 7 <| .take 8 <| .take 9 <| .take 12 <| .take 3 <| .take 10 <| .take 11 <| .take 13 <| .take 14 <| .take 15 <| .done) else (bif Nat.beq i 25 then some ([23], .take 0 <| .take 1 <| .take 2 <| .take 4 <| .take 6 <| .take 7 <| .take 8 <| .take 10 <| .take 11 <| .take 12 <| .take 13 <| .take 14 <| .take 15 <| .take 16 <| .take 19 <| .take 3 <| .take 5 <| .take 9 <| .go 17 <| .go 18 <| .take 20 <| .take 21 <| .take 22 <| .bar 23 [] <| .done) else (none))))))
  (fun i => bif Nat.beq i 14 then some ([(91, .int .i64)], 12259964326927110866866776214726593390379152427735580672) else (bif Nat.beq i 21 then some ([(23, .int .i64)], 6129982163463552711174452741093529027478097034647437312) else (none)))
  (fun i => bif Nat.beq i 18 then some ([(21, .int .i64)], 2515494159827892718595022520320) else (none)) []
set_option maxRecDepth 100000 in
theorem eq_bitmap_Map_Blit (C : CallP) (a0 : Option Addr) (a1 : Option Addr) (a2 : Int) (a3 : Int) (a4 : Int) (a5 : Int) (a6 : Int) (a7 : Int) (a8 : Int) (h : Heap) (K : Value → Heap → Prop) (Kp : List PanicEntry → Heap → Prop) :
    fnD Go.Proofs.Try.prog C hints_bitmap_Map_Blit Go.Proofs.Try.f124 [.pointer a0, .pointer a1, .int .i64 a2, .int .i64 a3, .int .i64 a4, .int .i64 a5, .int .i64 a6, .int .i64 a7, .int .i64 a8] h K Kp = bitmap_Map_Blit C a0 a1 a2 a3 a4 a5 a6 a7 a8 h K Kp := by kernel_rfl

theorem call_bitmap_Map_Blit {a0 : Option Addr} {a1 : Option Addr} {a2 : Int} {a3 : Int} {a4 : Int} {a5 : Int} {a6 : Int} {a7 : Int} {a8 : Int} {h : Heap} {K : Value → Heap → Prop} {Kp : List PanicEntry → Heap → Prop} (H : bitmap_Map_Blit (CallsHP Go.Proofs.Try.prog) a0 a1 a2 a3 a4 a5 a6 a7 a8 h K Kp) : CallsHP Go.Proofs.Try.prog F_bitmap_Map_Blit #[.pointer a0, .pointer a1, .int .i64 a2, .int .i64 a3, .int .i64 a4, .int .i64 a5, .int .i64 a6, .int .i64 a7, .int .i64 a8] h K Kp :=
  callsHP_of hints_bitmap_Map_Blit (by kernel_rfl) Go.Proofs.Try.func124 (by kernel_rfl) (by rw [eq_bitmap_Map_Blit]; exact H)

noncomputable def hints_bitmap_sized : Hints := Hints.mk (fun i => none)
  (fun i => none)
  (fun i => none) []
set_option maxRecDepth 100000 in
theorem eq_bitmap_sized (C : CallP) (w : Int) (h' : Int) (h : Heap) (K : Value → Heap → Prop) (Kp : List PanicEntry → Heap → Prop) :
    fnD Go.Proofs.Try.prog C hints_bitmap_sized Go.Proofs.Try.f126 [.int .i64 w, .int .i64 h'] h K Kp = bitmap_sized C w h' h K Kp := by kernel_rfl

theorem call_bitmap_sized {w : Int} {h' : Int} {h : Heap} {K : Value → Heap → Prop} {Kp : List PanicEntry → Heap → Prop} (H : bitmap_sized (CallsHP Go.Proofs.Try.prog) w h' h K Kp) : CallsHP Go.Proofs.Try.prog F_bitmap_sized #[.int .i64 w, .int .i64 h'] h K Kp :=
  callsHP_of hints_bitmap_sized (by kernel_rfl) Go.Proofs.Try.func126 (by kernel_rfl) (by rw [eq_bitmap_sized]; exact H)

noncomputable def hints_bitmap_last : Hints := Hints.mk (fun i => none)
  (fun i => none)
  (fun i => none) []
set_option maxRecDepth 100000 in
theorem eq_bitmap_last (C : CallP) (w : Int) (h : Heap) (K : Value → Heap → Prop) (Kp : List PanicEntry → Heap → Prop) :
    fnD Go.Proofs.Try.prog C hints_bitmap_last Go.Proofs.Try.f129 [.int .i64 w] h K Kp = bitmap_last C w h K Kp := by kernel_rfl

theorem call_bitmap_last {w : Int} {h : Heap} {K : Value → Heap → Prop} {Kp : List PanicEntry → Heap → Prop} (H : bitmap_last (CallsHP Go.Proofs.Try.prog) w h K Kp) : CallsHP Go.Proofs.Try.prog F_bitmap_last #[.int .i64 w] h K Kp :=
  callsHP_of hints_bitmap_last (by kernel_rfl) Go.Proofs.Try.func129 (by kernel_rfl) (by rw [eq_bitmap_last]; exact H)

noncomputable def hints_bitmap_Map_Get : Hints := Hints.mk (fun i => bif Nat.beq i 3 then some ([], .take 0 <| .take 1 <| .take 2 <| .take 4 <| .take 5 <| .take 6 <| .take 7 <| .take 10 <| .take 11 <| .take 15 <| .take 16 <| .take 17 <| .take 3 <| .take 8 <| .take 9 <| .take 12 <| .take 13 <| .take 14 <| .take 18 <| .take 19 <| .take 20 <| .take 21 <| .done) else (none))
  (fun i => none)
  (fun i => none) []
set_option maxRecDepth 100000 in
theorem eq_bitmap_Map_Get (C : CallP) (m : Option Addr) (x : Int) (y : Int) (h : Heap) (K : Value → Heap → Prop) (Kp : List PanicEntry → Heap → Prop) :
    fnD Go.Proofs.Try.prog C hints_bitmap_Map_Get Go.Proofs.Try.f130 [.pointer m, .int .i64 x, .int .i64 y] h K Kp = bitmap_Map_Get C m x y h K Kp := by kernel_rfl

theorem call_bitmap_Map_Get {m : Option Addr} {x : Int} {y : Int} {h : Heap} {K : Value → Heap → Prop} {Kp : List PanicEntry → Heap → Prop} (H : bitmap_Map_Get (CallsHP Go.Proofs.Try.prog) m x y h K Kp) : CallsHP Go.Proofs.Try.prog F_bitmap_Map_Get #[.pointer m, .int .i64 x, .int .i64 y] h K Kp :=
  callsHP_of hints_bitmap_Map_Get (by kernel_rfl) Go.Proofs.Try.func130 (by kernel_rfl) (by rw [eq_bitmap_Map_Get]; exact H)

noncomputable def hints_bitmap_both : Hints := Hints.mk (fun i => none)
  (fun i => none)
  (fun i => none) []
set_option maxRecDepth 100000 in
theorem eq_bitmap_both (C : CallP) (a : Int) (asv : Int) (b : Int) (bs : Int) (n : Int) (h : Heap) (K : Value → Heap → Prop) (Kp : List PanicEntry → Heap → Prop) :
    fnD Go.Proofs.Try.prog C hints_bitmap_both Go.Proofs.Try.f131 [.int .i64 a, .int .i64 asv, .int .i64 b, .int .i64 bs, .int .i64 n] h K Kp = bitmap_both C a asv b bs n h K Kp := by kernel_rfl

theorem call_bitmap_both {a : Int} {asv : Int} {b : Int} {bs : Int} {n : Int} {h : Heap} {K : Value → Heap → Prop} {Kp : List PanicEntry → Heap → Prop} (H : bitmap_both (CallsHP Go.Proofs.Try.prog) a asv b bs n h K Kp) : CallsHP Go.Proofs.Try.prog F_bitmap_both #[.int .i64 a, .int .i64 asv, .int .i64 b, .int .i64 bs, .int .i64 n] h K Kp :=
  callsHP_of hints_bitmap_both (by kernel_rfl) Go.Proofs.Try.func131 (by kernel_rfl) (by rw [eq_bitmap_both]; exact H)

noncomputable def hints_bitmap_operations : Hints := Hints.mk (fun i => none)
  (fun i => none)
  (fun i => none) []
set_option maxRecDepth 100000 in
theorem eq_bitmap_operations (C : CallP)  (h : Heap) (K : Value → Heap → Prop) (Kp : List PanicEntry → Heap → Prop) :
    fnD Go.Proofs.Try.prog C hints_bitmap_operations Go.Proofs.Try.f132 [] h K Kp = bitmap_operations C  h K Kp := by kernel_rfl

theorem call_bitmap_operations  {h : Heap} {K : Value → Heap → Prop} {Kp : List PanicEntry → Heap → Prop} (H : bitmap_operations (CallsHP Go.Proofs.Try.prog)  h K Kp) : CallsHP Go.Proofs.Try.prog F_bitmap_operations #[] h K Kp :=
  callsHP_of hints_bitmap_operations (by kernel_rfl) Go.Proofs.Try.func132 (by kernel_rfl) (by rw [eq_bitmap_operations]; exact H)

noncomputable def hints_bitmap_mask : Hints := Hints.mk (fun i => bif Nat.beq i 2 then some ([], .take 0 <| .take 1 <| .take 2 <| .take 3 <| .take 4 <| .take 5 <| .done) else (none))
  (fun i => none)
  (fun i => none) []
set_option maxRecDepth 100000 in
theorem eq_bitmap_mask (C : CallP) (i : Int) (x : Int) (n : Int) (h : Heap) (K : Value → Heap → Prop) (Kp : List PanicEntry → Heap → Prop) :
    fnD Go.Proofs.Try.prog C hints_bitmap_mask Go.Proofs.Try.f133 [.int .i64 i, .int .i64 x, .int .i64 n] h K Kp = bitmap_mask C i x n h K Kp := by kernel_rfl

theorem call_bitmap_mask {i : Int} {x : Int} {n : Int} {h : Heap} {K : Value → Heap → Prop} {Kp : List PanicEntry → Heap → Prop} (H : bitmap_mask (CallsHP Go.Proofs.Try.prog) i x n h K Kp) : CallsHP Go.Proofs.Try.prog F_bitmap_mask #[.int .i64 i, .int .i64 x, .int .i64 n] h K Kp :=
  callsHP_of hints_bitmap_mask (by kernel_rfl) Go.Proofs.Try.func133 (by kernel_rfl) (by rw [eq_bitmap_mask]; exact H)

noncomputable def hints_bitmap_word : Hints := Hints.mk (fun i => none)
  (fun i => none)
  (fun i => bif Nat.beq i 8 then some ([(36, .bool)], 137304735744) else (none)) []
set_option maxRecDepth 100000 in
theorem eq_bitmap_word (C : CallP) (row : Option Addr) (rown : Nat) (rowc : Nat) (x : Int) (h : Heap) (K : Value → Heap → Prop) (Kp : List PanicEntry → Heap → Prop) :
    fnD Go.Proofs.Try.prog C hints_bitmap_word Go.Proofs.Try.f134 [.slice row rown rowc, .int .i64 x] h K Kp = bitmap_word C row rown rowc x h K Kp := by kernel_rfl

theorem call_bitmap_word {row : Option Addr} {rown : Nat} {rowc : Nat} {x : Int} {h : Heap} {K : Value → Heap → Prop} {Kp : List PanicEntry → Heap → Prop} (H : bitmap_word (CallsHP Go.Proofs.Try.prog) row rown rowc x h K Kp) : CallsHP Go.Proofs.Try.prog F_bitmap_word #[.slice row rown rowc, .int .i64 x] h K Kp :=
  callsHP_of hints_bitmap_word (by kernel_rfl) Go.Proofs.Try.func134 (by kernel_rfl) (by rw [eq_bitmap_word]; exact H)

noncomputable def hints_bitmap_Map_Set : Hints := Hints.mk (fun i => none)
  (fun i => none)
  (fun i => none) []
set_option maxRecDepth 100000 in
theorem eq_bitmap_Map_Set (C : CallP) (m : Option Addr) (x : Int) (y : Int) (bit : Int) (h : Heap) (K : Value → Heap → Prop) (Kp : List PanicEntry → Heap → Prop) :
    fnD Go.Proofs.Try.prog C hints_bitmap_Map_Set Go.Proofs.Try.f136 [.pointer m, .int .i64 x, .int .i64 y, .int .i64 bit] h K Kp = bitmap_Map_Set C m x y bit h K Kp := by kernel_rfl

theorem call_bitmap_Map_Set {m : Option Addr} {x : Int} {y : Int} {bit : Int} {h : Heap} {K : Value → Heap → Prop} {Kp : List PanicEntry → Heap → Prop} (H : bitmap_Map_Set (CallsHP Go.Proofs.Try.prog) m x y bit h K Kp) : CallsHP Go.Proofs.Try.prog F_bitmap_Map_Set #[.pointer m, .int .i64 x, .int .i64 y, .int .i64 bit] h K Kp :=
  callsHP_of hints_bitmap_Map_Set (by kernel_rfl) Go.Proofs.Try.func136 (by kernel_rfl) (by rw [eq_bitmap_Map_Set]; exact H)

noncomputable def hints_bitmap_Map_inside : Hints := Hints.mk (fun i => none)
  (fun i => none)
  (fun i => none) []
set_option maxRecDepth 100000 in
theorem eq_bitmap_Map_inside (C : CallP) (m : Option Addr) (x : Int) (y : Int) (h : Heap) (K : Value → Heap → Prop) (Kp : List PanicEntry → Heap → Prop) :
    fnD Go.Proofs.Try.prog C hints_bitmap_Map_inside Go.Proofs.Try.f137 [.pointer m, .int .i64 x, .int .i64 y] h K Kp = bitmap_Map_inside C m x y h K Kp := by kernel_rfl

theorem call_bitmap_Map_inside {m : Option Addr} {x : Int} {y : Int} {h : Heap} {K : Value → Heap → Prop} {Kp : List PanicEntry → Heap → Prop} (H : bitmap_Map_inside (CallsHP Go.Proofs.Try.prog) m x y h K Kp) : CallsHP Go.Proofs.Try.prog F_bitmap_Map_inside #[.pointer m, .int .i64 x, .int .i64 y] h K Kp :=
  callsHP_of hints_bitmap_Map_inside (by kernel_rfl) Go.Proofs.Try.func137 (by kernel_rfl) (by rw [eq_bitmap_Map_inside]; exact H)

noncomputable def hints_bitmap_cut : Hints := Hints.mk (fun i => none)
  (fun i => none)
  (fun i => bif Nat.beq i 4 then some ([(8, .bool)], 261888) else (none)) []
set_option maxRecDepth 100000 in
theorem eq_bitmap_cut (C : CallP) (off : Int) (n : Int) (size : Int) (h : Heap) (K : Value → Heap → Prop) (Kp : List PanicEntry → Heap → Prop) :
    fnD Go.Proofs.Try.prog C hints_bitmap_cut Go.Proofs.Try.f138 [.int .i64 off, .int .i64 n, .int .i64 size] h K Kp = bitmap_cut C off n size h K Kp := by kernel_rfl

theorem call_bitmap_cut {off : Int} {n : Int} {size : Int} {h : Heap} {K : Value → Heap → Prop} {Kp : List PanicEntry → Heap → Prop} (H : bitmap_cut (CallsHP Go.Proofs.Try.prog) off n size h K Kp) : CallsHP Go.Proofs.Try.prog F_bitmap_cut #[.int .i64 off, .int .i64 n, .int .i64 size] h K Kp :=
  callsHP_of hints_bitmap_cut (by kernel_rfl) Go.Proofs.Try.func138 (by kernel_rfl) (by rw [eq_bitmap_cut]; exact H)

noncomputable def hints_bitmap_operations_c1 : Hints := Hints.mk (fun i => none)
  (fun i => none)
  (fun i => none) []
set_option maxRecDepth 100000 in
theorem eq_bitmap_operations_c1 (C : CallP) (d : Int) (s : Int) (h : Heap) (K : Value → Heap → Prop) (Kp : List PanicEntry → Heap → Prop) :
    fnD Go.Proofs.Try.prog C hints_bitmap_operations_c1 Go.Proofs.Try.f139 [.int .u64 d, .int .u64 s] h K Kp = bitmap_operations_c1 C d s h K Kp := by kernel_rfl

theorem call_bitmap_operations_c1 {d : Int} {s : Int} {h : Heap} {K : Value → Heap → Prop} {Kp : List PanicEntry → Heap → Prop} (H : bitmap_operations_c1 (CallsHP Go.Proofs.Try.prog) d s h K Kp) : CallsHP Go.Proofs.Try.prog F_bitmap_operations_c1 #[.int .u64 d, .int .u64 s] h K Kp :=
  callsHP_of hints_bitmap_operations_c1 (by kernel_rfl) Go.Proofs.Try.func139 (by kernel_rfl) (by rw [eq_bitmap_operations_c1]; exact H)

noncomputable def hints_bitmap_operations_c2 : Hints := Hints.mk (fun i => none)
  (fun i => none)
  (fun i => none) []
set_option maxRecDepth 100000 in
theorem eq_bitmap_operations_c2 (C : CallP) (d : Int) (s : Int) (h : Heap) (K : Value → Heap → Prop) (Kp : List PanicEntry → Heap → Prop) :
    fnD Go.Proofs.Try.prog C hints_bitmap_operations_c2 Go.Proofs.Try.f140 [.int .u64 d, .int .u64 s] h K Kp = bitmap_operations_c2 C d s h K Kp := by kernel_rfl

theorem call_bitmap_operations_c2 {d : Int} {s : Int} {h : Heap} {K : Value → Heap → Prop} {Kp : List PanicEntry → Heap → Prop} (H : bitmap_operations_c2 (CallsHP Go.Proofs.Try.prog) d s h K Kp) : CallsHP Go.Proofs.Try.prog F_bitmap_operations_c2 #[.int .u64 d, .int .u64 s] h K Kp :=
  callsHP_of hints_bitmap_operations_c2 (by kernel_rfl) Go.Proofs.Try.func140 (by kernel_rfl) (by rw [eq_bitmap_operations_c2]; exact H)

noncomputable def hints_bitmap_operations_c3 : Hints := Hints.mk (fun i => none)
  (fun i => none)
  (fun i => none) []
set_option maxRecDepth 100000 in
theorem eq_bitmap_operations_c3 (C : CallP) (d : Int) (s : Int) (h : Heap) (K : Value → Heap → Prop) (Kp : List PanicEntry → Heap → Prop) :
    fnD Go.Proofs.Try.prog C hints_bitmap_operations_c3 Go.Proofs.Try.f141 [.int .u64 d, .int .u64 s] h K Kp = bitmap_operations_c3 C d s h K Kp := by kernel_rfl

theorem call_bitmap_operations_c3 {d : Int} {s : Int} {h : Heap} {K : Value → Heap → Prop} {Kp : List PanicEntry → Heap → Prop} (H : bitmap_operations_c3 (CallsHP Go.Proofs.Try.prog) d s h K Kp) : CallsHP Go.Proofs.Try.prog F_bitmap_operations_c3 #[.int .u64 d, .int .u64 s] h K Kp :=
  callsHP_of hints_bitmap_operations_c3 (by kernel_rfl) Go.Proofs.Try.func141 (by kernel_rfl) (by rw [eq_bitmap_operations_c3]; exact H)

noncomputable def hints_bitmap_operations_c4 : Hints := Hints.mk (fun i => none)
  (fun i => none)
  (fun i => none) []
set_option maxRecDepth 100000 in
theorem eq_bitmap_operations_c4 (C : CallP) (d : Int) (s : Int) (h : Heap) (K : Value → Heap → Prop) (Kp : List PanicEntry → Heap → Prop) :
    fnD Go.Proofs.Try.prog C hints_bitmap_operations_c4 Go.Proofs.Try.f142 [.int .u64 d, .int .u64 s] h K Kp = bitmap_operations_c4 C d s h K Kp := by kernel_rfl

theorem call_bitmap_operations_c4 {d : Int} {s : Int} {h : Heap} {K : Value → Heap → Prop} {Kp : List PanicEntry → Heap → Prop} (H : bitmap_operations_c4 (CallsHP Go.Proofs.Try.prog) d s h K Kp) : CallsHP Go.Proofs.Try.prog F_bitmap_operations_c4 #[.int .u64 d, .int .u64 s] h K Kp :=
  callsHP_of hints_bitmap_operations_c4 (by kernel_rfl) Go.Proofs.Try.func142 (by kernel_rfl) (by rw [eq_bitmap_operations_c4]; exact H)

noncomputable def hints_bitmap_operations_c5 : Hints := Hints.mk (fun i => none)
  (fun i => none)
  (fun i => none) []
set_option maxRecDepth 100000 in
theorem eq_bitmap_operations_c5 (C : CallP) (d : Int) (s : Int) (h : Heap) (K : Value → Heap → Prop) (Kp : List PanicEntry → Heap → Prop) :
    fnD Go.Proofs.Try.prog C hints_bitmap_operations_c5 Go.Proofs.Try.f143 [.int .u64 d, .int .u64 s] h K Kp = bitmap_operations_c5 C d s h K Kp := by kernel_rfl

theorem call_bitmap_operations_c5 {d : Int} {s : Int} {h : Heap} {K : Value → Heap → Prop} {Kp : List PanicEntry → Heap → Prop} (H : bitmap_operations_c5 (CallsHP Go.Proofs.Try.prog) d s h K Kp) : CallsHP Go.Proofs.Try.prog F_bitmap_operations_c5 #[.int .u64 d, .int .u64 s] h K Kp :=
  callsHP_of hints_bitmap_operations_c5 (by kernel_rfl) Go.Proofs.Try.func143 (by kernel_rfl) (by rw [eq_bitmap_operations_c5]; exact H)

noncomputable def hints_bitmap_Map_put : Hints := Hints.mk (fun i => bif Nat.beq i 0 then some ([], .take 0 <| .take 1 <| .take 2 <| .take 4 <| .take 5 <| .take 6 <| .take 7 <| .take 10 <| .take 11 <| .take 3 <| .take 8 <| .take 9 <| .take 12 <| .take 13 <| .take 14 <| .done) else (bif Nat.beq i 1 then some ([17], .take 0 <| .take 1 <| .take 2 <| .take 4 <| .take 5 <| .take 6 <| .take 7 <| .take 9 <| .take 10 <| .take 11 <| .take 12 <| .take 13 <| .take 14 <| .take 3 <| .take 8 <| .take 15 <| .take 16 <| .bar 17 [] <| .done) else (none)))
  (fun i => none)
  (fun i => none) []
set_option maxRecDepth 100000 in
theorem eq_bitmap_Map_put (C : CallP) (m : Option Addr) (x : Int) (y : Int) (bit : Int) (h : Heap) (K : Value → Heap → Prop) (Kp : List PanicEntry → Heap → Prop) :
    fnD Go.Proofs.Try.prog C hints_bitmap_Map_put Go.Proofs.Try.f144 [.pointer m, .int .i64 x, .int .i64 y, .int .i64 bit] h K Kp = bitmap_Map_put C m x y bit h K Kp := by kernel_rfl

theorem call_bitmap_Map_put {m : Option Addr} {x : Int} {y : Int} {bit : Int} {h : Heap} {K : Value → Heap → Prop} {Kp : List PanicEntry → Heap → Prop} (H : bitmap_Map_put (CallsHP Go.Proofs.Try.prog) m x y bit h K Kp) : CallsHP Go.Proofs.Try.prog F_bitmap_Map_put #[.pointer m, .int .i64 x, .int .i64 y, .int .i64 bit] h K Kp :=
  callsHP_of hints_bitmap_Map_put (by kernel_rfl) Go.Proofs.Try.func144 (by kernel_rfl) (by rw [eq_bitmap_Map_put]; exact H)

end Go.Den.Yteakipgcanafoaa

/- Written by gen.py: the conditions of the functions of slices. -/
set_option linter.unusedVariables false
set_option linter.unusedSimpArgs false
namespace Go.Den.Yteakipgcanafoaa
open Go Go.Den

/- slices.Clone[[]uint64,uint64] -/
set_option maxRecDepth 100000 in
def slices_Clone_uint64_uint64 (C : CallP) (s : Option Addr) (sn : Nat) (sc : Nat) (h : Heap) (K : Value → Heap → Prop) (Kp : List PanicEntry → Heap → Prop) : Prop :=
bcase (Option.isNone s) (
K (.slice none 0 0) h) <|
newC h [] T_uint64 fun r_1 h_2 =>
appC h_2 T_uint64 1 8 [.int .u64 0] (some ⟨r_1, 0, none⟩) (0) (0) s (sn) fun q_3 q_3n q_3c h_4 =>
K (.slice q_3 q_3n q_3c) h_4

end Go.Den.Yteakipgcanafoaa

/- Written by gen.py: each condition of the functions of slices is the one of its body; so it is enough for its call. -/
set_option linter.unusedVariables false
set_option linter.unusedSimpArgs false
namespace Go.Den.Yteakipgcanafoaa
open Go Go.Den

noncomputable def hints_slices_Clone_uint64_uint64 : Hints := Hints.mk (fun i => none)
  (fun i => none)
  (fun i => none) []
set_option maxRecDepth 100000 in
theorem eq_slices_Clone_uint64_uint64 (C : CallP) (s : Option Addr) (sn : Nat) (sc : Nat) (h : Heap) (K : Value → Heap → Prop) (Kp : List PanicEntry → Heap → Prop) :
    fnD Go.Proofs.Try.prog C hints_slices_Clone_uint64_uint64 Go.Proofs.Try.f120 [.slice s sn sc] h K Kp = slices_Clone_uint64_uint64 C s sn sc h K Kp := by kernel_rfl

theorem call_slices_Clone_uint64_uint64 {s : Option Addr} {sn : Nat} {sc : Nat} {h : Heap} {K : Value → Heap → Prop} {Kp : List PanicEntry → Heap → Prop} (H : slices_Clone_uint64_uint64 (CallsHP Go.Proofs.Try.prog) s sn sc h K Kp) : CallsHP Go.Proofs.Try.prog F_slices_Clone_uint64_uint64 #[.slice s sn sc] h K Kp :=
  callsHP_of hints_slices_Clone_uint64_uint64 (by kernel_rfl) Go.Proofs.Try.func120 (by kernel_rfl) (by rw [eq_slices_Clone_uint64_uint64]; exact H)

end Go.Den.Yteakipgcanafoaa
