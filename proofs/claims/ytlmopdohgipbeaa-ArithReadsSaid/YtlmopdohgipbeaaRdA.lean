/- RdA: the document's own decoder in memory; bytes that are lent. -/
import Derived.Test.YtlmopdohgipbeaaArY
import Derived.Test.YtlmopdohgipbeaaDen
set_option linter.unusedVariables false
set_option linter.unusedSimpArgs false
namespace Go.Ar
open Go Go.Den Go.Den.Ytlmopdohgipbeaa

/-! ### bytes that are lent -/
set_option maxRecDepth 100000 in
theorem lend_ok {hB : Heap} {b : Option Addr} {bc : Nat} {bs : List Nat} (hr : rdO hB b (bs.length * 1) (u8s bs)) (hl : bs.length < 140737488351300)
    {K : Value → Heap → Prop} {Kp : List PanicEntry → Heap → Prop} (hk : ∀ o rest c h', (u8s bs ++ (u8s (List.replicate 7 165) ++ rest)).length = c → Hp hB [] h' [⟨o, true, T_uint8, u8s bs ++ (u8s (List.replicate 7 165) ++ rest)⟩] → K (.slice (at0 o) bs.length c) h') :
    CP F_burinkit_Lend #[.slice b bs.length bc] hB K Kp := by
  refine call_burinkit_Lend ?_
  unfold burinkit_Lend
  have H := Hp.nil hB []
  obtain ⟨N, hN⟩ : ∃ N, N = bs.length + 7 := ⟨_, rfl⟩
  refine bindI_of (((N : Nat) : Int)) (by exact i64_at _ _ (by omega) (by omega) (by omega)) ?_
  refine needs_of (by simp; omega) ?_
  simp only [Int.toNat_natCast, u8s_zero]
  refine newC_hp H fun r h H => ?_
  refine appC_in H 0 (xs := []) (rest := u8s (List.replicate N 0)) (c := N) rfl rfl (by simp [u8s]) (by simp [hN]) (H.rdO hr) (by rw [u8s_length, Nat.mul_one]) (u8s_cells bs) fun h H => ?_
  generalize hrest : (u8s (List.replicate N 0)).drop (bs.length * 1) = rest at H
  have hrl : rest.length = 7 := by rw [← hrest, List.length_drop, u8s_length, List.length_replicate]; omega
  refine ⟨fun n vs h' => ∃ (i : Nat) (rest : List Value), i + n = 7 ∧ rest.length = n ∧ vs = [.slice (at0 r) (bs.length + i) N, .int .i64 (i : Int)] ∧ Hp hB [] h' [⟨r, true, T_uint8, u8s bs ++ u8s (List.replicate i 165) ++ rest⟩],
    ⟨7, 0, rest, rfl, hrl, by simp, H.as (by simp [u8s])⟩, ?_⟩
  clear H
  rintro n h2 u x xn xc xi ⟨i, rest, hin, hrl, hx, H⟩
  injection hx with hx hx2
  injection hx with hx hxn hxc
  injection hx2 with hx2
  injection hx2 with _ hx2
  subst x xn xc xi
  refine bcase_of (fun h1 => ?_) fun h1 => ?_
  · have h1 : i < 7 := by simp at h1; omega
    refine newC_hp H fun t h H => ?_
    refine appC_in H 0 (xs := u8s bs ++ u8s (List.replicate i 165)) (rest := rest) (c := N) rfl (by simp [u8s]) (by simp [u8s]; omega) (by omega) (rdO_hp (o := 0) (n := 1 * 1) H 1 rfl (Nat.le_refl _)) rfl (fun v hv => by rw [List.mem_singleton.1 hv]; rfl) fun h H => ?_
    refine bindI_of (((i + 1 : Nat) : Int)) (by exact i64_at _ _ (by omega) (by omega) (by omega)) ?_
    refine ⟨n - 1, by omega, i + 1, rest.drop (1 * 1), by omega, by rw [List.length_drop]; omega, by rw [Nat.add_assoc], ?_⟩
    refine (H.take 1).as ?_
    simp [u8s, List.replicate_succ']
  · have h1 : i = 7 := by simp at h1; omega
    subst h1
    refine needs_of (by omega) ?_
    have e : subA (some ⟨r, 0, none⟩) N 0 1 = some ⟨r, 0, none⟩ := by unfold subA; split <;> rfl
    rw [e]
    simp only [Int.toNat_natCast, Nat.sub_zero]
    refine hk r rest N _ ?_ (H.as (by rw [List.append_assoc]))
    simp only [List.length_append, u8s_length, List.length_replicate]
    omega

set_option maxRecDepth 100000 in
theorem back_ok {h : Heap} {o c : Nat} {b : Option Addr} {bc : Nat} {bs : List Nat} {rest : List Value} {F : List Nat} {h0 : Heap} (H : Hp h0 F h [⟨o, true, T_uint8, u8s bs ++ (u8s (List.replicate 7 165) ++ rest)⟩]) (hr : rdO h b (bs.length * 1) (u8s bs)) (hl : bs.length < 140737488351300)
    (hc : (u8s bs ++ (u8s (List.replicate 7 165) ++ rest)).length = c)
    {K : Value → Heap → Prop} {Kp : List PanicEntry → Heap → Prop} (hk : ∀ cs h', Hp h0 F h' [⟨o, true, T_uint8, cs⟩] → K (.bool true) h') :
    CP F_burinkit_Back #[.slice (at0 o) bs.length c, .slice b bs.length bc] h K Kp := by
  refine call_burinkit_Back ?_
  unfold burinkit_Back
  have hlen := hc
  simp only [List.length_append, u8s_length, List.length_replicate] at hlen
  refine eq_ok (xs := bs) (ys := bs) (row_rdO H 0 rfl) hr hl ?_
  refine ⟨_, rfl, ?_⟩
  simp only [decide_true]
  refine bindI_of (((bs.length + 7 : Nat) : Int)) (by exact i64_at _ _ (by omega) (by omega) (by omega)) ?_
  refine needs_of (by omega) ?_
  have e : subA (some ⟨o, 0, none⟩) c 0 1 = some ⟨o, 0, none⟩ := by unfold subA; split <;> rfl
  rw [e]
  simp only [Int.toNat_natCast, Nat.sub_zero]
  refine ⟨fun n vs h' => ∃ i : Nat, i + n = 7 ∧ vs = [.bool true, .int .i64 ((bs.length + i : Nat) : Int)] ∧ h' = h, ⟨7, 0, rfl, rfl, rfl⟩, ?_⟩
  rintro n h2 u ok x ⟨i, hin, hx, rfl⟩
  injection hx with hx hx2
  injection hx with hx
  injection hx2 with hx2
  injection hx2 with _ hx2
  subst ok x
  refine bcase_of (fun h1 => ?_) fun h1 => ?_
  · have h1 : i < 7 := by simp at h1; omega
    refine bcase_true (by rfl) ?_
    refine needs_of (by omega) ?_
    simp only [ptr_some_eq, add_mk, Nat.zero_add, Int.toNat_natCast, Nat.mul_one]
    have hg : (u8s (List.replicate 7 165))[i]? = some (.int .u8 ((165 : Nat) : Int)) := u8s_get (by rw [List.getElem?_replicate, if_pos h1])
    refine ldI_of (H.cell 0 rfl (app_get (u8s_length bs) i (get_app hg))) ?_
    refine bindI_of (((bs.length + (i + 1) : Nat) : Int)) (by exact i64_at _ _ (by omega) (by omega) (by omega)) ?_
    exact ⟨n - 1, by omega, i + 1, by omega, rfl, by first | rfl | trivial⟩
  · have h1 : i = 7 := by simp at h1; omega
    subst h1
    refine ⟨fun n vs h' => ∃ (i : Nat) (cs : List Value), i + n = bs.length + 7 ∧ vs = [.int .i64 (i : Int)] ∧ cs.length = c ∧ Hp h0 F h' [⟨o, true, T_uint8, cs⟩], ⟨bs.length + 7, 0, _, by omega, rfl, hc, H⟩, ?_⟩
    clear H hr
    rintro n h2 u x ⟨i, cs, hin, hx, hcl, H⟩
    injection hx with hx
    injection hx with _ hx
    subst hx
    refine bcase_of (fun h1 => ?_) fun h1 => ?_
    · have h1 : i < bs.length + 7 := by simp at h1; omega
      refine needs_of (by omega) ?_
      simp only [ptr_some_eq, add_mk, Nat.zero_add, Int.toNat_natCast, Nat.mul_one]
      refine stV_hp H 0 rfl (by omega) rfl fun h hsz H => ?_
      refine bindI_of (((i + 1 : Nat) : Int)) (by exact i64_at _ _ (by omega) (by omega) (by omega)) ?_
      exact ⟨n - 1, by omega, i + 1, _, by omega, rfl, by rw [List.length_set]; exact hcl, H⟩
    · exact hk _ _ H

/-! ### the document's decoder -/
def drrest (s : Dec) (bp : Option Addr) (bc : Nat) : List Value :=
  [.int .i64 (s.a : Nat), .int .i64 (s.c : Nat), .int .i64 (s.t : Nat), .slice bp s.b.length bc, .int .i64 (s.i : Nat)]
def refD (A : RP) (e : Ent) (bp : Option Addr) (bc : Nat) (s : Dec) : List Ent :=
  sideL A.p T_burinref4_Decoder (drrest s bp bc) A.g A.gc A.sq A.bq s.n s.st A.grest e

section
variable {h : Heap} {A : RP} {e : Ent} {bp : Option Addr} {bc : Nat} {s : Dec} {F : List Nat} {h0 : Heap}

theorem rbyte_ok (H : Hp h0 F h (refD A e bp bc s)) (hb : BOk e bp s.b) (hb8 : ∀ x ∈ s.b, x < 256) {i : Nat}
    {K : Value → Heap → Prop} {Kp : List PanicEntry → Heap → Prop} (hk : K (.int .i64 (byteD s i : Nat)) h) : CP F_burinref4_Decoder_byte #[.pointer (at0 A.p), .int .i64 (i : Nat)] h K Kp := by
  refine call_burinref4_Decoder_byte ?_
  unfold burinref4_Decoder_byte
  try simp only [ptr_some_eq, add_mk, Nat.zero_add, Nat.add_zero]
  refine ldS_of (H.cell 0 rfl rfl) ?_
  refine bcase_of (fun h1 => ?_) fun h1 => ?_
  · have h1 : i < s.b.length := by simp at h1; omega
    obtain ⟨_, hb | ⟨rest, hbp, he⟩⟩ := hb
    · rw [hb] at h1; simp at h1
    · have hg : s.b[i]? = some (byteD s i) := by
        unfold byteD
        rw [List.getD_eq_getElem?_getD, List.getElem?_eq_getElem h1]; rfl
      have hlt := byteD_lt hb8 (s := s) i
      refine ldS_of (H.cell 0 rfl rfl) ?_
      refine needs_of (by omega) ?_
      rw [hbp]
      simp only [Int.toNat_natCast, Nat.mul_one]
      try simp only [ptr_some_eq, add_mk, Nat.zero_add, Nat.add_zero]
      refine ldI_of (H.cell 4 rfl (i := i) (by rw [he]; exact get_app (u8s_get hg))) ?_
      refine bindI_of (((byteD s i : Nat) : Int)) (by exact i64_in _ (by omega) (by omega)) ?_
      exact hk
  · have h1 : s.b.length ≤ i := by simp at h1; omega
    have hg : byteD s i = 255 := by
      unfold byteD
      rw [List.getD_eq_getElem?_getD, List.getElem?_eq_none h1]; rfl
    rw [hg] at hk
    exact hk

theorem mask32m (x : Nat) (hx : x < 9223372036854775808) : bitI .and .i64 (x : Int) 4294967295 = ((x % M32 : Nat) : Int) :=
  (and63 x 4294967295 hx (by omega)).trans (by congr 1; exact Nat.and_two_pow_sub_one_eq_mod x 32)

set_option maxRecDepth 100000 in
theorem rin_ok (H : Hp h0 F h (refD A e bp bc s)) (hb : BOk e bp s.b) (hs : MidD s) (hbl : s.b.length < 140737488351300)
    {K : Value → Heap → Prop} {Kp : List PanicEntry → Heap → Prop} (hk : ∀ h', Hp h0 F h' (refD A e bp bc (inD s)) → K (.tuple #[]) h') : CP F_burinref4_Decoder_in #[.pointer (at0 A.p)] h K Kp := by
  refine call_burinref4_Decoder_in ?_
  unfold burinref4_Decoder_in
  have hi := hs.i
  have hc := hs.c
  have hM : M32 = 4294967296 := rfl
  have hb1 := byteD_lt hs.b (s := s) (s.i + 1)
  have hb0 := byteD_lt hs.b (s := s) s.i
  try simp only [ptr_some_eq, add_mk, Nat.zero_add, Nat.add_zero]
  refine ldI_of (H.cell 0 rfl rfl) ?_
  refine rbyte_ok H hb hs.b ?_
  refine ⟨_, rfl, ?_⟩
  rw [inD_eq] at hk
  refine bcase_of (fun h1 => ?_) fun h1 => ?_
  · have h1 : ¬ byteD s s.i ≠ 255 := by simp at h1; omega
    rw [if_neg h1] at hk
    refine ldI_of (H.cell 0 rfl rfl) ?_
    refine bindI_of (((s.i + 1 : Nat) : Int)) (by exact i64_at _ _ (by omega) (by omega) (by omega)) ?_
    refine rbyte_ok H hb hs.b ?_
    refine ⟨_, rfl, ?_⟩
    refine bcase_of (fun h2 => ?_) fun h2 => ?_
    · have h2 : byteD s (s.i + 1) > 143 := by simp at h2; omega
      rw [if_pos h2] at hk
      refine ldI_of (H.cell 0 rfl rfl) ?_
      refine bindI_of (((s.c + 65280 : Nat) : Int)) (by exact i64_at _ _ (by omega) (by omega) (by omega)) ?_
      refine stV_hp H 0 rfl (by first | exact Nat.le_of_ble_eq_true rfl | simp) rfl fun h hsz H => ?_
      refine stV_hp H 0 rfl (by first | exact Nat.le_of_ble_eq_true rfl | simp) rfl fun h hsz H => ?_
      refine ldI_of (H.cell 0 rfl rfl) ?_
      refine bindI_of _ (mask32m _ (by omega)) ?_
      refine stV_hp H 0 rfl (by first | exact Nat.le_of_ble_eq_true rfl | simp) rfl fun h hsz H => ?_
      exact hk _ H
    · have h2 : ¬ byteD s (s.i + 1) > 143 := by simp at h2; omega
      rw [if_neg h2] at hk
      refine ldI_of (H.cell 0 rfl rfl) ?_
      refine bindI_of (((s.i + 1 : Nat) : Int)) (by exact i64_at _ _ (by omega) (by omega) (by omega)) ?_
      refine stV_hp H 0 rfl (by first | exact Nat.le_of_ble_eq_true rfl | simp) rfl fun h hsz H => ?_
      refine ldI_of (H.cell 0 rfl rfl) ?_
      refine bindI_of (((byteD s (s.i + 1) * 512 : Nat) : Int)) (by exact shl_of (i := 9) (by decide) (i64_in _ (by omega) (by omega))) ?_
      refine bindI_of (((s.c + byteD s (s.i + 1) * 512 : Nat) : Int)) (by exact i64_at _ _ (by omega) (by omega) (by omega)) ?_
      refine stV_hp H 0 rfl (by first | exact Nat.le_of_ble_eq_true rfl | simp) rfl fun h hsz H => ?_
      refine stV_hp H 0 rfl (by first | exact Nat.le_of_ble_eq_true rfl | simp) rfl fun h hsz H => ?_
      refine ldI_of (H.cell 0 rfl rfl) ?_
      refine bindI_of _ (mask32m _ (by omega)) ?_
      refine stV_hp H 0 rfl (by first | exact Nat.le_of_ble_eq_true rfl | simp) rfl fun h hsz H => ?_
      exact hk _ H
  · have h1 : byteD s s.i ≠ 255 := by simp at h1; omega
    rw [if_pos h1] at hk
    refine ldI_of (H.cell 0 rfl rfl) ?_
    refine bindI_of (((s.i + 1 : Nat) : Int)) (by exact i64_at _ _ (by omega) (by omega) (by omega)) ?_
    refine stV_hp H 0 rfl (by first | exact Nat.le_of_ble_eq_true rfl | simp) rfl fun h hsz H => ?_
    refine ldI_of (H.cell 0 rfl rfl) ?_
    refine ldI_of (H.cell 0 rfl rfl) ?_
    have H2 : Hp h0 F h (refD A e bp bc { s with i := s.i + 1 }) := H
    refine rbyte_ok H2 hb hs.b ?_
    refine ⟨_, rfl, hext.refl _, ?_⟩
    have hb2 : byteD { s with i := s.i + 1 } (s.i + 1) = byteD s (s.i + 1) := rfl
    rw [hb2]
    refine bindI_of (((byteD s (s.i + 1) * 256 : Nat) : Int)) (by exact shl_of (i := 8) (by decide) (i64_in _ (by omega) (by omega))) ?_
    refine bindI_of (((s.c + byteD s (s.i + 1) * 256 : Nat) : Int)) (by exact i64_at _ _ (by omega) (by omega) (by omega)) ?_
    refine stV_hp H 0 rfl (by first | exact Nat.le_of_ble_eq_true rfl | simp) rfl fun h hsz H => ?_
    refine stV_hp H 0 rfl (by first | exact Nat.le_of_ble_eq_true rfl | simp) rfl fun h hsz H => ?_
    refine ldI_of (H.cell 0 rfl rfl) ?_
    refine bindI_of _ (mask32m _ (by omega)) ?_
    refine stV_hp H 0 rfl (by first | exact Nat.le_of_ble_eq_true rfl | simp) rfl fun h hsz H => ?_
    exact hk _ H

set_option maxRecDepth 100000 in
theorem rdrenew_ok (H : Hp h0 F h (refD A e bp bc s)) (hb : BOk e bp s.b) (hs : MidD s) (hbl : s.b.length < 140737488351300) (ha : 1 ≤ s.a) (ha' : s.a < 0x8000)
    {K : Value → Heap → Prop} {Kp : List PanicEntry → Heap → Prop} (hk : ∀ h', Hp h0 F h' (refD A e bp bc (renewD 17 s)) → K (.tuple #[]) h') : CP F_burinref4_Decoder_renew #[.pointer (at0 A.p)] h K Kp := by
  generalize hR : renewD 17 s = R at hk
  refine call_burinref4_Decoder_renew ?_
  unfold burinref4_Decoder_renew
  refine ⟨fun n vs h' => ∃ (first : Bool) (s' : Dec), vs = [.bool first] ∧ Hp h0 F h' (refD A e bp bc s') ∧ MidD s' ∧ s'.b = s.b ∧
      ((first = false ∧ 0x8000 ≤ s'.a ∧ s' = R) ∨ (s'.a < 0x8000 ∧ 0x8000 ≤ s'.a * 2 ^ n ∧ renewD n s' = R)),
    ⟨17, true, s, rfl, H, hs, rfl, .inr ⟨ha', by have : (2 : Nat) ^ 17 = 131072 := rfl; omega, hR⟩⟩, ?_⟩
  clear H
  rintro n h u x ⟨first, s', hx, H, hm, hbe, hc⟩
  injection hx with hx
  injection hx with hx
  subst hx
  refine ⟨fun vs h' => h' = h ∧ s'.a < 0x8000 ∧ 0x8000 ≤ s'.a * 2 ^ n ∧ renewD n s' = R, ?_, ?_⟩
  · refine bcase_of (fun h1 => ?_) fun h1 => ?_
    · rcases hc with ⟨h2, _⟩ | h2
      · rw [h1] at h2; cases h2
      · exact ⟨rfl, h2⟩
    · have hcell0 := H.cell 0 rfl (i := 4) (v := .int .i64 (s'.a : Nat)) rfl
      rcases hc with ⟨_, h2, h5⟩ | h2
      · have h4 : ¬ ((s'.a : Nat) : Int) < 32768 := by
          have : (32768 : Int) ≤ ((s'.a : Nat) : Int) := by exact_mod_cast h2
          exact Int.not_lt.2 this
        refine ldI_of (x := ((s'.a : Nat) : Int)) hcell0 ?_
        simp only [decide_eq_false h4]
        exact hk _ (h5 ▸ H)
      · have h4 : ((s'.a : Nat) : Int) < 32768 := by exact_mod_cast h2.1
        refine ldI_of (x := ((s'.a : Nat) : Int)) hcell0 ?_
        simp only [decide_eq_true h4]
        exact ⟨by first | rfl | trivial, h2⟩
  · rintro h2 u ⟨rfl, hlt, hge, he⟩
    obtain ⟨n, rfl⟩ : ∃ m, n = m + 1 := by
      cases n with
      | zero => simp at hge; omega
      | succ m => exact ⟨m, rfl⟩
    obtain ⟨g1, g2, g3, g4, g5⟩ := shiftD_mid hm
    have hnext : 0x8000 ≤ (shiftD s').a * 2 ^ n := by
      rw [g2]
      rw [Nat.pow_succ] at hge
      have : s'.a * (2 ^ n * 2) = 2 * s'.a * 2 ^ n := by rw [Nat.mul_comm (2 ^ n) 2, ← Nat.mul_assoc, Nat.mul_comm s'.a 2]
      omega
    rw [renewD_succ] at he
    rw [← hbe] at hb hbl
    refine ⟨fun vs h' => Hp h0 F h' (refD A e bp bc (if s'.t = 0 then inD s' else s')), ?_, ?_⟩
    · try simp only [ptr_some_eq, add_mk, Nat.zero_add, Nat.add_zero]
      refine ldI_of (H.cell 0 rfl rfl) ?_
      refine bcase_of (fun h1 => ?_) fun h1 => ?_
      · have h1 : s'.t = 0 := by simp at h1; omega
        refine rin_ok H hb hm hbl fun h' H => ?_
        rw [if_pos h1]
        exact H
      · have h1 : ¬ s'.t = 0 := by simp at h1; omega
        rw [if_neg h1]
        exact H
    · intro h u H
      rw [shiftD_eq] at g1 g2 g5 hnext he
      have hS : MidD (if s'.t = 0 then inD s' else s') ∧ (if s'.t = 0 then inD s' else s').a = s'.a ∧ 1 ≤ (if s'.t = 0 then inD s' else s').t := by
        split
        · obtain ⟨i1, i2, _, _, _, i6⟩ := inD_mid hm
          exact ⟨i1, i2, i6⟩
        · exact ⟨hm, rfl, by omega⟩
      generalize (if s'.t = 0 then inD s' else s') = S at H g1 g2 g5 hnext he hS
      obtain ⟨hS1, hS2, hS3⟩ := hS
      have hSc := hS1.c
      have hSt := hS1.t8
      have hM : M32 = 4294967296 := rfl
      try simp only [ptr_some_eq, add_mk, Nat.zero_add, Nat.add_zero]
      refine ldI_of (H.cell 0 rfl rfl) ?_
      refine bindI_of (((2 * S.a : Nat) : Int)) (by exact i64_at _ _ (by omega) (by omega) (by omega)) ?_
      refine stV_hp H 0 rfl (by first | exact Nat.le_of_ble_eq_true rfl | simp) rfl fun h hsz H => ?_
      refine ldI_of (H.cell 0 rfl rfl) ?_
      refine bindI_of (((2 * S.c : Nat) : Int)) (by exact i64_at _ _ (by omega) (by omega) (by omega)) ?_
      refine bindI_of _ (mask32m _ (by omega)) ?_
      refine stV_hp H 0 rfl (by first | exact Nat.le_of_ble_eq_true rfl | simp) rfl fun h hsz H => ?_
      refine ldI_of (H.cell 0 rfl rfl) ?_
      refine bindI_of (((S.t - 1 : Nat) : Int)) (by exact i64_at _ _ (by omega) (by omega) (by omega)) ?_
      refine stV_hp H 0 rfl (by first | exact Nat.le_of_ble_eq_true rfl | simp) rfl fun h hsz H => ?_
      have H2 : Hp h0 F h (refD A e bp bc { S with a := 2 * S.a, c := 2 * S.c % M32, t := S.t - 1 }) := H
      refine ⟨n, Nat.lt_succ_self n, false, _, rfl, H2, g1, g5.trans hbe, ?_⟩
      by_cases h3 : 0x8000 ≤ 2 * S.a
      · rw [if_pos h3] at he; exact .inl ⟨rfl, h3, he⟩
      · rw [if_neg h3] at he; exact .inr ⟨by show 2 * S.a < _; omega, hnext, he⟩

set_option maxRecDepth 100000 in
theorem rget_ok (H : Hp h0 F h (refD A e bp bc s)) (hb : BOk e bp s.b) (hs : WfD s) (hbl : s.b.length < 140737488351300) (hn : s.n < 16777216) (hl : 1 ≤ s.st.length) (hl2 : s.st.length ≤ 131072)
    {ctx : Int} {K : Value → Heap → Prop} {Kp : List PanicEntry → Heap → Prop} (hk : ∀ h', Hp h0 F h' (refD A e bp bc (getD s (idx ctx s.st.length)).1) → K (.tuple #[.int .i64 ((getD s (idx ctx s.st.length)).2 : Nat), .int .i64 0]) h') :
    CP F_burinref4_Decoder_Get #[.pointer (at0 A.p), .int .i64 ctx] h K Kp := by
  refine call_burinref4_Decoder_Get ?_
  unfold burinref4_Decoder_Get
  try simp only [ptr_some_eq, add_mk, Nat.zero_add, Nat.add_zero]
  refine ldI_of (H.cell 0 rfl rfl) ?_
  refine bcase_false (by simp; omega) ?_
  refine ldI_of (H.cell 0 rfl rfl) ?_
  refine bindI_of (((s.n + 1 : Nat) : Int)) (by exact i64_at _ _ (by omega) (by omega) (by omega)) ?_
  refine stV_hp H 0 rfl (by first | exact Nat.le_of_ble_eq_true rfl | simp) rfl fun h hsz H => ?_
  have H2 : Hp h0 F h (refD A e bp bc { s with n := s.n + 1 }) := H
  refine index_ok (m := s.st.length) (n := s.n + 1) H2 0 rfl hl hl2 ?_
  refine ⟨_, rfl, ?_⟩
  have hil := idx_lt ctx hl
  obtain ⟨x, hx⟩ : ∃ x, s.st[idx ctx s.st.length]? = some x := ⟨_, List.getElem?_eq_getElem hil⟩
  have hx94 : x < 94 := hs.st x (List.mem_of_getElem? hx)
  rw [getD_at s _ x hx] at hk
  have hM := set_lt hs.st (k := idx ctx s.st.length) (upM_lt hx94)
  have hL := set_lt hs.st (k := idx ctx s.st.length) (upL_lt hx94)
  generalize idx ctx s.st.length = k at hk hM hL hx hil ⊢
  have hr : x / 2 < 47 := by omega
  have hq1 := qOf_pos hr
  have hq2 := qOf_le hr
  have hlo := hs.lo
  have hhi := hs.hi
  have hc := hs.c
  have hM32 : M32 = 4294967296 := rfl
  have H := H2
  clear H2
  refine ldS_of (H.cell 0 rfl rfl) ?_
  refine ldS_of (H.cell 0 rfl rfl) ?_
  refine needs_of (by first | omega | (refine ⟨by omega, ?_⟩; show ((k : Nat) : Int) < ((s.st.length : Nat) : Int); omega)) ?_
  try simp only [ptr_some_eq, add_mk, Nat.zero_add, Int.toNat_natCast, Nat.mul_one]
  refine ldI_of (H.cell 2 rfl (i64s_get (half_get hx))) ?_
  refine needs_of (by first | omega | (refine ⟨by omega, ?_⟩; show ((k : Nat) : Int) < ((s.st.length : Nat) : Int); omega)) ?_
  try simp only [ptr_some_eq, add_mk, Nat.zero_add, Int.toNat_natCast, Nat.mul_one]
  refine ldI_of (H.cell 1 rfl (g_get hr (j := 0) rfl)) ?_
  refine ldS_of (H.cell 0 rfl rfl) ?_
  refine needs_of (by first | omega | (refine ⟨by omega, ?_⟩; show ((k : Nat) : Int) < ((s.st.length : Nat) : Int); omega)) ?_
  try simp only [ptr_some_eq, add_mk, Nat.zero_add, Int.toNat_natCast, Nat.mul_one]
  refine ldI_of (H.cell 3 rfl (i64s_get (low_get hx))) ?_
  refine ldI_of (H.cell 0 rfl rfl) ?_
  refine bindI_of (((s.a - qOf (x / 2) : Nat) : Int)) (by exact i64_at _ _ (by show (s.a : Int) - ((qOf (x / 2) : Nat) : Int) = _; omega) (by omega) (by omega)) ?_
  refine stV_hp H 0 rfl (by first | exact Nat.le_of_ble_eq_true rfl | simp) rfl fun h hsz H => ?_
  refine ldI_of (H.cell 0 rfl rfl) ?_
  refine bindI_of (((s.c / 65536 : Nat) : Int)) (by exact shr_of (i := 16) (by decide)) ?_
  have H2 : Hp h0 F h (refD A e bp bc { s with n := s.n + 1, a := s.a - qOf (x / 2) }) := H
  have H := H2
  clear H2
  refine bcase_of (fun h1 => ?_) fun h1 => ?_
  · have h1 : s.c / 65536 < qOf (x / 2) := by simp at h1; omega
    rw [if_pos h1] at hk
    refine ⟨fun vs h'' => (s.a - qOf (x / 2) < qOf (x / 2) ∧ vs = [.int .i64 ((x % 2 : Nat) : Int)] ∧ Hp h0 F h'' (refD A e bp bc { s with a := s.a - qOf (x / 2), n := s.n + 1, st := s.st.set k (upM x) })) ∨
        (¬ s.a - qOf (x / 2) < qOf (x / 2) ∧ vs = [.int .i64 ((1 - x % 2 : Nat) : Int)] ∧ Hp h0 F h'' (refD A e bp bc { s with a := s.a - qOf (x / 2), n := s.n + 1, st := s.st.set k (upL x) })), ?_, ?_⟩
    · refine ldI_of (H.cell 0 rfl rfl) ?_
      refine bcase_of (fun h3 => ?_) fun h3 => ?_
      · have h3 : s.a - qOf (x / 2) < qOf (x / 2) := by simp at h3; omega
        refine slk_ok H hx hx94 fun h H => ?_
        exact .inl ⟨h3, rfl, H.as (by simp [refD, sideL, sideV, drrest])⟩
      · have h3 : ¬ s.a - qOf (x / 2) < qOf (x / 2) := by simp at h3; omega
        refine bindI_of (((1 - x % 2 : Nat) : Int)) (by exact i64_at _ _ (by omega) (by omega) (by omega)) ?_
        refine sother_ok H hx hx94 fun h H => ?_
        exact .inr ⟨h3, rfl, H.as (by simp [refD, sideL, sideV, drrest])⟩
    · rintro h'' u y (⟨h3, hy, H⟩ | ⟨h3, hy, H⟩)
      · injection hy with hy
        injection hy with _ hy
        subst hy
        rw [if_pos h3] at hk
        refine stV_hp H 0 rfl (by first | exact Nat.le_of_ble_eq_true rfl | simp) rfl fun h hsz H => ?_
        exact rdrenew_ok (s := { s with a := qOf (x / 2), n := s.n + 1, st := s.st.set k (upM x) }) H hb ⟨hs.t8, hc, hs.b, hM, hs.i⟩ hbl hq1 (by show qOf _ < _; omega) hk
      · injection hy with hy
        injection hy with _ hy
        subst hy
        rw [if_neg h3] at hk
        refine stV_hp H 0 rfl (by first | exact Nat.le_of_ble_eq_true rfl | simp) rfl fun h hsz H => ?_
        exact rdrenew_ok (s := { s with a := qOf (x / 2), n := s.n + 1, st := s.st.set k (upL x) }) H hb ⟨hs.t8, hc, hs.b, hL, hs.i⟩ hbl hq1 (by show qOf _ < _; omega) hk
  · have h1 : ¬ s.c / 65536 < qOf (x / 2) := by simp at h1; omega
    rw [if_neg h1] at hk
    have hc' : s.c - qOf (x / 2) * 65536 < M32 := by omega
    refine ldI_of (H.cell 0 rfl rfl) ?_
    refine bindI_of (((qOf (x / 2) * 65536 : Nat) : Int)) (by exact shl_of (i := 16) (by decide) (i64_in _ (by omega) (by omega))) ?_
    refine bindI_of (((s.c - qOf (x / 2) * 65536 : Nat) : Int)) (by exact i64_at _ _ (by show (s.c : Int) - ((qOf (x / 2) * 65536 : Nat) : Int) = _; omega) (by omega) (by omega)) ?_
    refine stV_hp H 0 rfl (by first | exact Nat.le_of_ble_eq_true rfl | simp) rfl fun h hsz H => ?_
    refine ldI_of (H.cell 0 rfl rfl) ?_
    have H2 : Hp h0 F h (refD A e bp bc { s with n := s.n + 1, a := s.a - qOf (x / 2), c := s.c - qOf (x / 2) * 65536 }) := H
    have H := H2
    clear H2
    refine bcase_of (fun h2 => ?_) fun h2 => ?_
    · have h2 : 0x8000 ≤ s.a - qOf (x / 2) := by simp at h2; omega
      rw [if_pos h2] at hk
      exact hk _ H
    · have h2 : ¬ 0x8000 ≤ s.a - qOf (x / 2) := by simp at h2; omega
      rw [if_neg h2] at hk
      refine ldI_of (H.cell 0 rfl rfl) ?_
      refine bcase_of (fun h3 => ?_) fun h3 => ?_
      · have h3 : s.a - qOf (x / 2) < qOf (x / 2) := by simp at h3; omega
        rw [if_pos h3] at hk
        refine bindI_of (((1 - x % 2 : Nat) : Int)) (by exact i64_at _ _ (by omega) (by omega) (by omega)) ?_
        refine sother_ok H hx hx94 fun h H => ?_
        exact rdrenew_ok (s := { s with a := s.a - qOf (x / 2), c := s.c - qOf (x / 2) * 65536, n := s.n + 1, st := s.st.set k (upL x) }) (H.as (by simp [refD, sideL, sideV, drrest])) hb ⟨hs.t8, hc', hs.b, hL, hs.i⟩ hbl (by show 1 ≤ s.a - _; omega) (by show s.a - _ < _; omega) hk
      · have h3 : ¬ s.a - qOf (x / 2) < qOf (x / 2) := by simp at h3; omega
        rw [if_neg h3] at hk
        refine slk_ok H hx hx94 fun h H => ?_
        exact rdrenew_ok (s := { s with a := s.a - qOf (x / 2), c := s.c - qOf (x / 2) * 65536, n := s.n + 1, st := s.st.set k (upM x) }) (H.as (by simp [refD, sideL, sideV, drrest])) hb ⟨hs.t8, hc', hs.b, hM, hs.i⟩ hbl (by show 1 ≤ s.a - _; omega) (by show s.a - _ < _; omega) hk
end

/-! ### NewDecoder -/
set_option maxRecDepth 100000 in
theorem rnewD_ok {hB : Heap} {n : Nat} (hn : n ≤ 131072) {b : List Nat} (hb : ∀ x ∈ b, x < 256) (hbl : b.length < 140737488351300) {src : Option Addr} {bc0 : Nat} (hr : rdO hB src (b.length * 1) (u8s b)) {K : Value → Heap → Prop} {Kp : List PanicEntry → Heap → Prop}
    (hk : ∀ A e bp bc h', BOk e bp b → Hp hB [] h' (refD A e bp bc (newD b n)) → K (.pointer (at0 A.p)) h') : CP F_burinref4_NewDecoder #[.slice src b.length bc0, .int .i64 (n : Nat)] hB K Kp := by
  refine call_burinref4_NewDecoder ?_
  unfold burinref4_NewDecoder
  refine begun_ok hn fun g grest gc sq bq sp h' hsp H => ?_
  refine ⟨_, _, _, _, _, _, _, _, _, _, rfl, ?_⟩
  have goal : ∀ (bp : Option Addr) (bc : Nat) (e : Ent) (h2 : Heap), BOk e bp b → Hp hB [] h2 [⟨g, true, T_burinref4_Row, growsN 47 ++ grest⟩, ⟨sq, true, T_int, i64s (List.replicate n 0)⟩, ⟨bq, true, T_int, i64s (List.replicate n 0)⟩, e] →
      Go.Den.newC h2 [.slice (at0 g) 47 gc, .slice (at0 sq) n n, .slice (at0 bq) n n, .int .i64 0, .int .i64 32768, .int .i64 0, .int .i64 0, .slice bp b.length bc, .int .i64 0] T_burinref4_Decoder fun r_9 h_10 =>
      CP F_burinref4_Decoder_byte #[.pointer (some ⟨r_9, 0, none⟩), .int .i64 0] h_10 (fun v_11 h_12 =>
      ∃ (r_13 : Int), v_11 = .int .i64 r_13 ∧ (
      bindI (shlI .i64 r_13 (16 : Int)) fun z_14 =>
      stV h_12 ((⟨r_9, 0, none⟩ : Addr).add 5) (.int .i64 z_14) fun h_15 =>
      CP F_burinref4_Decoder_in #[.pointer (some ⟨r_9, 0, none⟩)] h_15 (fun v_16 h_17 =>
      ldI h_17 ((⟨r_9, 0, none⟩ : Addr).add 5) .i64 fun x_18 =>
      bindI (shlI .i64 x_18 (7 : Int)) fun z_19 =>
      bindI (bitI .and .i64 z_19 (4294967295 : Int)) fun z_20 =>
      stV h_17 ((⟨r_9, 0, none⟩ : Addr).add 5) (.int .i64 z_20) fun h_21 =>
      ldI h_21 ((⟨r_9, 0, none⟩ : Addr).add 6) .i64 fun x_22 =>
      bindI (IntKind.i64.wrap (x_22 - (7 : Int))) fun z_23 =>
      stV h_21 ((⟨r_9, 0, none⟩ : Addr).add 6) (.int .i64 z_23) fun h_24 =>
      K (.pointer (some ⟨r_9, 0, none⟩)) h_24) (Kp))) (Kp) := by
    intro bp bc e h2 hbo H
    refine newC_hp H fun p h H => ?_
    have H2 := H.pick [4, 0, 1, 2, 3] (by decide) (L' := refD ⟨p, g, gc, sq, bq, grest⟩ e bp bc (dec0 b n)) (by simp [refD, sideL, sideV, drrest, dec0, half, low])
    have H := H2
    clear H2
    have hb0 := byteD_lt (s := dec0 b n) hb 0
    refine rbyte_ok (A := ⟨p, g, gc, sq, bq, grest⟩) (i := 0) H hbo hb ?_
    refine ⟨_, rfl, ?_⟩
    refine bindI_of (((byteD (dec0 b n) 0 * 65536 : Nat) : Int)) (by exact shl_of (i := 16) (by decide) (i64_in _ (by omega) (by omega))) ?_
    try simp only [ptr_some_eq, add_mk, Nat.zero_add, Nat.add_zero]
    refine stV_hp H 0 rfl (by first | exact Nat.le_of_ble_eq_true rfl | simp) rfl fun h hsz H => ?_
    have H2 : Hp _ [] h (refD ⟨p, g, gc, sq, bq, grest⟩ e bp bc { dec0 b n with c := byteD (dec0 b n) 0 * 65536 }) := H
    have hm : MidD { dec0 b n with c := byteD (dec0 b n) 0 * 65536 } := ⟨Nat.zero_le _, by show byteD (dec0 b n) 0 * 65536 < 4294967296; omega, hb, fun x hx => by simp only [dec0, List.mem_replicate] at hx; omega, Nat.zero_le _⟩
    obtain ⟨i1, i2, i3, i4, i5, i6⟩ := inD_mid hm
    refine rin_ok (A := ⟨p, g, gc, sq, bq, grest⟩) H2 hbo hm hbl fun h H => ?_
    have hn : newD b n = { inD { dec0 b n with c := byteD (dec0 b n) 0 * 65536 } with c := (inD { dec0 b n with c := byteD (dec0 b n) 0 * 65536 }).c * 128 % M32, t := (inD { dec0 b n with c := byteD (dec0 b n) 0 * 65536 }).t - 7 } := rfl
    have ht7 : 7 ≤ (inD { dec0 b n with c := byteD (dec0 b n) 0 * 65536 }).t := by
      unfold inD
      split
      · show 7 ≤ 8; omega
      · split
        · show 7 ≤ 8; omega
        · show 7 ≤ 7; omega
    generalize inD { dec0 b n with c := byteD (dec0 b n) 0 * 65536 } = S at H hn i1 ht7
    have hSc := i1.c
    have hSt := i1.t8
    have hM : M32 = 4294967296 := rfl
    refine ldI_of (H.cell 0 rfl rfl) ?_
    refine bindI_of (((S.c * 128 : Nat) : Int)) (by exact shl_of (i := 7) (by decide) (i64_in _ (by omega) (by omega))) ?_
    refine bindI_of _ (mask32m _ (by omega)) ?_
    refine stV_hp H 0 rfl (by first | exact Nat.le_of_ble_eq_true rfl | simp) rfl fun h hsz H => ?_
    refine ldI_of (H.cell 0 rfl rfl) ?_
    refine bindI_of (((S.t - 7 : Nat) : Int)) (by exact i64_at _ _ (by omega) (by omega) (by omega)) ?_
    refine stV_hp H 0 rfl (by first | exact Nat.le_of_ble_eq_true rfl | simp) rfl fun h hsz H => ?_
    refine hk ⟨p, g, gc, sq, bq, grest⟩ e bp bc _ hbo ?_
    rw [hn]
    exact H
  have hr2 := H.rdO hr
  rcases Nat.eq_zero_or_pos b.length with hz | hpos
  · have hbn : b = [] := List.length_eq_zero_iff.1 hz
    rw [hz] at hr2 goal ⊢
    refine appC_nil H hr2 ?_
    exact goal none 0 sp _ ⟨hsp, .inl hbn⟩ H
  · refine appC_new H hr2 (u8s_length b) hpos (by omega) fun o rest h' he H' => ?_
    exact goal (some ⟨o, 0, none⟩) _ ⟨o, true, T_uint8, u8s b ++ rest⟩ _ ⟨rfl, .inr ⟨rest, rfl, rfl⟩⟩ (H'.pick [0, 1, 2, 4] (by decide) rfl)

set_option maxRecDepth 100000 in
theorem newDecoder_bad {h : Heap} {n : Int} (hn : n < 1 ∨ 131072 < n) {src : Option Addr} {bl bc : Nat} {K : Value → Heap → Prop} {Kp : List PanicEntry → Heap → Prop}
    (hk : ∀ h', hext h h' → K (.tuple #[.pointer none, .int .i64 40]) h') : CP F_arith_NewDecoder #[.slice src bl bc, .int .i64 n] h K Kp := by
  refine call_arith_NewDecoder ?_
  unfold arith_NewDecoder
  refine made_bad hn fun cs h2 hcs hone e => ?_
  refine ⟨cs, hcs, false, rfl, ?_⟩
  have H := (Hp.nil h []).ext e
  refine newC_hp H fun t h H => ?_
  refine needs_of hcs ?_
  refine stVs_all H 0 rfl (hcs.trans (by kernel_rfl)) hone fun h' hsz H => ?_
  refine bcase_true (by rfl) ?_
  exact hk _ H.hext

end Go.Ar
