/- ArC: New, Flush and States of a coder: what they do in memory. -/
import Derived.Test.YtlmopdohgipbeaaArB
set_option linter.unusedVariables false
set_option linter.unusedSimpArgs false
namespace Go.Ar
open Go Go.Den Go.Den.Ytlmopdohgipbeaa

set_option maxRecDepth 100000 in
theorem rows_ok {h : Heap} {K : Value → Heap → Prop} {Kp : List PanicEntry → Heap → Prop} (hk : ∀ h', hext h h' → K (.agg rowsV.toArray) h') : CP F_arith_rows #[] h K Kp := by
  refine call_arith_rows ?_
  unfold arith_rows
  have H := Hp.nil h []
  refine newC_hp H fun r h H => ?_
  refine stVs_all H 0 rfl (by kernel_rfl) (List.all_eq_true.1 (by kernel_rfl)) fun h' hsz H' => ?_
  refine ldAll_hp H' 0 rfl (by kernel_rfl) ?_
  have key : ∀ X, X = rowsV → K (.agg X.toArray) h' := fun X e => e ▸ hk _ H'.hext
  refine key _ ?_
  kernel_rfl

def tabV (q n : Nat) : List Value := rowsV ++ [.slice (some ⟨q, 0, none⟩) n n, .int .i64 0]
theorem tab_eq (q n : Nat) : putL (putL Z_arith_table 0 rowsV) 188 [.slice (some ⟨q, 0, none⟩) n n] = tabV q n := by kernel_rfl
theorem tab_length (q n : Nat) : (tabV q n).length = 190 := by kernel_rfl
theorem rows_cells : ∀ n, (rowsN n).all Value.oneCell' = true
  | 0 => rfl
  | n + 1 => by rw [rowsN, List.all_append, rows_cells n]; rfl
theorem tab_cells (q n : Nat) : ∀ v ∈ tabV q n, v.oneCell' = true := List.all_eq_true.1 (by unfold tabV; rw [List.all_append]; unfold rowsV; rw [rows_cells]; rfl)
theorem u8s_zero (n : Nat) : repZ [.int .u8 0] n = u8s (List.replicate n 0) := by rw [repZ_one]; simp [u8s]

set_option maxRecDepth 100000 in
theorem made_ok {h : Heap} {n : Nat} (h1 : 1 ≤ n) (h2 : n ≤ 131072) {K : Value → Heap → Prop} {Kp : List PanicEntry → Heap → Prop}
    (hk : ∀ q h', Hp h [] h' [⟨q, true, T_uint8, u8s (List.replicate n 0)⟩] → K (.tuple #[.agg (tabV q n).toArray, .bool true]) h') : CP F_arith_made #[.int .i64 (n : Nat)] h K Kp := by
  refine call_arith_made ?_
  unfold arith_made
  have H := Hp.nil h []
  refine newC_hp H fun r h H => ?_
  refine bcase_false (by simp; omega) ?_
  refine bcase_false (by simp; omega) ?_
  refine ⟨rows_ok fun h2 e => ?_, ?_⟩
  · refine ⟨rowsV, hR, rfl, e, ?_⟩
    have H := H.ext e
    refine needs_of (by simp; omega) ?_
    simp only [Int.toNat_natCast, u8s_zero]
    refine newC_hp H fun q h H => ?_
    refine needs_of ⟨hR, by decide⟩ ?_
    refine needs_of (by exact ⟨rfl, by rw [putL_length]; decide⟩) ?_
    refine needs_of (by rw [tab_eq]; exact tab_length q n) ?_
    rw [tab_eq]
    refine stVs_all H 0 rfl (tab_length q n) (tab_cells q n) fun h' hsz H => ?_
    refine ldAll_hp H 0 rfl (tab_length q n) ?_
    exact hk q _ (H.pick [1] (by decide) rfl)
  · refine needs_of (by simp; omega) ?_
    simp only [Int.toNat_natCast, u8s_zero]
    refine newC_hp H fun q h H => ?_
    refine rows_ok fun h2 e => ?_
    refine ⟨rowsV, hR, rfl, e, ?_⟩
    have H := H.ext e
    refine needs_of ⟨hR, by decide⟩ ?_
    refine needs_of (by exact ⟨rfl, by rw [putL_length]; decide⟩) ?_
    refine needs_of (by rw [tab_eq]; exact tab_length q n) ?_
    rw [tab_eq]
    refine stVs_all H 0 rfl (tab_length q n) (tab_cells q n) fun h' hsz H => ?_
    refine ldAll_hp H 0 rfl (tab_length q n) ?_
    exact hk q _ (H.pick [1] (by decide) rfl)

theorem new_eq (q r n : Nat) : putL (putL (putL (putL Z_arith_Coder 0 (tabV q n)) 190 ([.int .u32 32768] : List Value)) 192 ([.int .i64 12] : List Value)) 193 ([.slice (some ⟨r, 0, none⟩) 1 1] : List Value) = rowsV ++ crest q n 0 0x8000 0 12 r 1 1 false := by kernel_rfl

set_option maxRecDepth 100000 in
theorem new_ok {h : Heap} {n : Nat} (h1 : 1 ≤ n) (h2 : n ≤ 131072) {K : Value → Heap → Prop} {Kp : List PanicEntry → Heap → Prop}
    (hk : ∀ p q r h', Hp h [] h' (codL p q r (newC n) []) → K (.tuple #[.pointer (at0 p), .int .i64 0]) h') : CP F_arith_New #[.int .i64 (n : Nat)] h K Kp := by
  refine call_arith_New ?_
  unfold arith_New
  refine made_ok h1 h2 fun q h' H => ?_
  refine ⟨tabV q n, tab_length q n, true, rfl, ?_⟩
  refine newC_hp H fun t h H => ?_
  refine needs_of (tab_length q n) ?_
  refine stVs_all H 1 rfl (tab_length q n) (tab_cells q n) fun h' hsz H => ?_
  refine bcase_false (by rfl) ?_
  refine ldAll_hp H 1 rfl (tab_length q n) ?_
  refine newC_hp H fun r h H => ?_
  refine needs_of ⟨tab_length q n, by decide⟩ ?_
  refine needs_of (by exact ⟨rfl, by simp only [putL_length]; decide⟩) ?_
  refine needs_of (by exact ⟨rfl, by simp only [putL_length]; decide⟩) ?_
  refine needs_of (by exact ⟨rfl, by simp only [putL_length]; decide⟩) ?_
  rw [new_eq]
  refine newC_hp H fun p h H => ?_
  refine hk p q r _ ?_
  have H2 := H.pick [3, 0, 2] (by decide) (L' := codL p q r (newC n) []) (by simp [codL, codE, newC, u8s])
  exact H2

/-! ### Flush -/
theorem flushC_or (c : Nat) : c ||| 65535 = c / 65536 * 65536 + 65535 := by
  have h1 : c % 65536 ||| 65535 = 65535 := by
    apply Nat.eq_of_testBit_eq
    intro i
    rw [Nat.testBit_or, show 65535 = 2 ^ 16 - 1 from rfl, Nat.testBit_two_pow_sub_one]
    by_cases hi : i < 16
    · simp [hi]
    · have : (c % 65536).testBit i = false := Nat.testBit_lt_two_pow (Nat.lt_of_lt_of_le (Nat.mod_lt c (by decide : 65536 > 0)) (by
        have : 2 ^ 16 ≤ 2 ^ i := Nat.pow_le_pow_right (by omega) (by omega)
        simpa using this))
      simp [hi, this]
  have h2 := Nat.two_pow_add_eq_or_of_lt (i := 16) (b := c % 65536) (by omega) (c / 65536)
  have h3 := Nat.two_pow_add_eq_or_of_lt (i := 16) (b := 65535) (by omega) (c / 65536)
  calc c ||| 65535 = (2 ^ 16 * (c / 65536) + c % 65536) ||| 65535 := by congr 1; omega
    _ = (2 ^ 16 * (c / 65536)) ||| (c % 65536 ||| 65535) := by rw [h2, Nat.or_assoc]
    _ = _ := by rw [h1, ← h3]; omega

def flushI : Nat → Cod → Cod
  | 0, s => s
  | n + 1, s => flushS (flushI n s)
/-- What Flush's rounds start with. -/
structure Fl (s : Cod) (k : Nat) : Prop where
  c : s.c * 2 ^ s.t < 4294967296
  t : s.t ≤ 12
  l : s.l < 256
  n : s.bs.length ≤ 900000000 + k
theorem flushS_fl {s : Cod} {k : Nat} (h : Fl s k) : Fl (flushS s) (k + 1) ∧ (flushS s).bs.length = s.bs.length + 1 := by
  have hm : ∀ (s : Cod) (l c : Nat), l < 256 → c < 4294967296 → s.bs.length ≤ 900000000 + k → Fl (outTail s l c) (k + 1) ∧ (outTail s l c).bs.length = s.bs.length + 1 := fun s l c hl hc hn => by
    unfold outTail
    split
    · exact ⟨⟨by show c % 1048576 * 2 ^ 7 < _; omega, by show 7 ≤ 12; omega, by show c / 1048576 % 256 < 256; omega, by simp; omega⟩, by simp⟩
    · exact ⟨⟨by show c % 524288 * 2 ^ 8 < _; omega, by show 8 ≤ 12; omega, by show c / 524288 % 256 < 256; omega, by simp; omega⟩, by simp⟩
  unfold flushS outM
  split
  · rename_i h1
    have h1 : s.l ≠ 255 ∧ _ := h1
    exact hm { s with c := s.c * 2 ^ s.t } _ _ (by show s.l + 1 < 256; have := h.l; omega) (by show s.c * 2 ^ s.t % 134217728 < _; have := h.c; omega) h.n
  · exact hm { s with c := s.c * 2 ^ s.t } _ _ h.l h.c h.n

theorem flush_ok {h : Heap} {p q r : Nat} {s : Cod} {rest : List Value} {F : List Nat} {h0 : Heap} (H : Hp h0 F h (codL p q r s rest)) (hs : Wf s) (hd : s.done = false)
    {K : Value → Heap → Prop} {Kp : List PanicEntry → Heap → Prop} (hk : ∀ r' rest' o orest h', Hp h0 F h' (codL p q r' (flushM s) rest' ++ [⟨o, true, T_uint8, u8s (bytesM (flushM s)) ++ orest⟩]) →
      K (.tuple #[.slice (at0 o) (bytesM (flushM s)).length ((bytesM (flushM s)).length + orest.length), .int .i64 0]) h') :
    CP F_arith_Coder_Flush #[.pointer (at0 p)] h K Kp := by
  refine call_arith_Coder_Flush ?_
  unfold arith_Coder_Flush
  have hca := hs.ca
  have hcp := pow_le hs.t1
  have hlen := hs.len
  have hn := hs.n
  have hcl : flushC s < 2 ^ (28 - s.t) + 65536 := by
    unfold flushC
    simp only []
    split <;> omega
  have hfl : Fl { s with c := flushC s, done := true } 0 := by
    refine ⟨?_, hs.t12, hs.l, by show s.bs.length ≤ _; omega⟩
    show flushC s * 2 ^ s.t < 4294967296
    have h1 : (2 : Nat) ^ s.t ≤ 2 ^ 12 := Nat.pow_le_pow_right (by omega) hs.t12
    have h2 : flushC s * 2 ^ s.t < (2 ^ (28 - s.t) + 65536) * 2 ^ s.t := Nat.mul_lt_mul_of_pos_right hcl (Nat.two_pow_pos _)
    have h3 : 2 ^ (28 - s.t) * 2 ^ s.t = 2 ^ 28 := by rw [← Nat.pow_add]; congr 1; have := hs.t12; omega
    rw [Nat.add_mul, h3] at h2
    omega
  try simp only [ptr_some_eq, add_mk, Nat.zero_add, Nat.add_zero]
  refine ldB_of (H.cell 0 rfl (app_get hR 6 (congrArg (fun b => some (Value.bool b)) hd))) ?_
  refine bcase_false (by rfl) ?_
  refine stV_hr H 0 rfl hR 6 (Nat.le_of_ble_eq_true rfl) rfl fun h hsz H => ?_
  refine ldI_of (H.cell 0 rfl (app_get hR 3 rfl)) ?_
  refine ldI_of (H.cell 0 rfl (app_get hR 2 rfl)) ?_
  refine bindI_of (((s.c + s.a : Nat) : Int)) (by exact u32_at _ _ (by omega) (by omega)) ?_
  refine ⟨fun vs h' => Hp h0 F h' (codL p q r { s with c := flushC s, done := true } rest), ?_, ?_⟩
  · refine ldI_of (H.cell 0 rfl (app_get hR 3 rfl)) ?_
    refine bindI_of (((s.c / 65536 * 65536 + 65535 : Nat) : Int)) (by exact (or32 _ 65535 (by omega) (by omega)).trans (by rw [flushC_or])) ?_
    refine stV_hr H 0 rfl hR 3 (Nat.le_of_ble_eq_true rfl) rfl fun h hsz H => ?_
    refine ldI_of (H.cell 0 rfl (app_get hR 3 rfl)) ?_
    refine bcase_of (fun h1 => ?_) fun h1 => ?_
    · have h1 : s.c + s.a ≤ s.c / 65536 * 65536 + 65535 := by simp at h1; omega
      refine ldI_of (H.cell 0 rfl (app_get hR 3 rfl)) ?_
      refine bindI_of (((s.c / 65536 * 65536 + 65535 - 0x8000 : Nat) : Int)) (by exact u32_at _ _ (by omega) (by omega)) ?_
      refine stV_hr H 0 rfl hR 3 (Nat.le_of_ble_eq_true rfl) rfl fun h hsz H => ?_
      have e : flushC s = s.c / 65536 * 65536 + 65535 - 0x8000 := by unfold flushC; simp only []; rw [if_pos h1]
      rw [e]
      exact H
    · have h1 : ¬ s.c + s.a ≤ s.c / 65536 * 65536 + 65535 := by simp at h1; omega
      have e : flushC s = s.c / 65536 * 65536 + 65535 := by unfold flushC; simp only []; rw [if_neg h1]
      rw [e]
      exact H
  · intro h u H
    generalize hS : ({ s with c := flushC s, done := true } : Cod) = S at H hfl
    have hfm : flushM s = flushI 2 S := by rw [← hS]; rfl
    rw [hfm] at hk
    refine ⟨fun n vs h' => ∃ r' rest', n ≤ 2 ∧ vs = [.int .i64 ((2 - n : Nat) : Int)] ∧ Hp h0 F h' (codL p q r' (flushI (2 - n) S) rest') ∧ Fl (flushI (2 - n) S) (2 - n) ∧ (flushI (2 - n) S).bs.length = S.bs.length + (2 - n), ⟨2, r, rest, Nat.le_refl _, rfl, H, by simpa [flushI] using hfl, rfl⟩, ?_⟩
    clear H
    rintro n h u x ⟨r', rest', hn2, hx, H, hf, hbl⟩
    injection hx with hx
    injection hx with _ hx
    subst hx
    try simp only [ptr_some_eq, add_mk, Nat.zero_add, Nat.add_zero]
    refine bcase_of (fun h1 => ?_) fun h1 => ?_
    · have h1 : 1 ≤ n := by simp at h1; omega
      obtain ⟨m, rfl⟩ : ∃ m, n = m + 1 := ⟨n - 1, by omega⟩
      have hm1 : 2 - m = (2 - (m + 1)) + 1 := by omega
      generalize 2 - (m + 1) = k at hm1 H hf hbl
      obtain ⟨hf2, hbl2⟩ := flushS_fl hf
      have hft := hf.t
      have hfc := hf.c
      have hfn := hf.n
      have hc0 : (flushI k S).c < 4294967296 := Nat.lt_of_le_of_lt (Nat.le_mul_of_pos_right _ (Nat.two_pow_pos _)) hfc
      refine ldI_of (H.cell 0 rfl (app_get hR 3 rfl)) ?_
      refine ldI_of (H.cell 0 rfl (app_get hR 4 rfl)) ?_
      refine needs_of (by omega) ?_
      refine bindI_of ((((flushI k S).c * 2 ^ (flushI k S).t : Nat) : Int)) (by exact shl_of (by show (flushI k S).t ≤ 32; omega) (u32_in _ hfc)) ?_
      refine stV_hr H 0 rfl hR 3 (Nat.le_of_ble_eq_true rfl) rfl fun h hsz H => ?_
      have H2 : Hp h0 F _ (codL p q r' { flushI k S with c := (flushI k S).c * 2 ^ (flushI k S).t } rest') := H
      refine out_ok H2 hf.l hfc (by show (flushI k S).bs.length < _; omega) fun r2 rest2 h2 H => ?_
      refine bindI_of (((k + 1 : Nat) : Int)) (by exact i64_at _ _ (by omega) (by omega) (by omega)) ?_
      refine ⟨m, Nat.lt_succ_self m, r2, rest2, by omega, by rw [hm1], ?_, ?_, ?_⟩
      · rw [hm1]; exact H
      · rw [hm1]; exact hf2
      · rw [hm1]; show (flushS (flushI k S)).bs.length = _; omega
    · have h1 : n = 0 := by simp at h1; omega
      subst h1
      have hbl : (flushI 2 S).bs.length = S.bs.length + 2 := hbl
      have H : Hp h0 F h (codL p q r' (flushI 2 S) rest') := H
      have hfn : (flushI 2 S).bs.length ≤ 900000000 + 2 := hf.n
      generalize hE : flushI 2 S = E at H hbl hk
      have hEn : E.bs.length < 900000005 := by rw [← hE]; omega
      have hEl : E.l < 256 := by rw [← hE]; exact hf.l
      refine ldS_of (H.cell 0 rfl (app_get hR 5 rfl)) ?_
      refine needs_of (by omega) ?_
      have hsub : ((E.bs.length + 1 - (1 : Int).toNat : Nat) : Int) = (E.bs.length : Nat) := by simp
      rw [hsub]
      refine bindI_of (((E.bs.length - 1 : Nat) : Int)) (by exact i64_at _ _ (by omega) (by omega) (by omega)) ?_
      refine needs_of (by omega) ?_
      have e1 : subA (some ⟨r', 0, none⟩) (E.bs.length + 1 + rest'.length) (1 : Int).toNat 1 = some ⟨r', 1, none⟩ := by
        unfold subA
        rw [if_neg (by simp; omega)]
        rfl
      rw [e1]
      try simp only [ptr_some_eq, add_mk, Nat.zero_add, Nat.add_zero]
      simp only [Int.toNat_natCast, Nat.mul_one]
      have e2 : 1 + (E.bs.length - 1) = E.bs.length := by omega
      rw [e2]
      refine ldI_of (H.cell 2 rfl (last_get _ _ _)) ?_
      have hb : bytesM E = if E.l = 255 then ((E.bs ++ [E.l]).drop 1).dropLast else (E.bs ++ [E.l]).drop 1 := rfl
      refine bcase_of (fun h1 => ?_) fun h1 => ?_
      · have h1 : E.l = 255 := by simp at h1; omega
        rw [if_pos h1] at hb
        refine bindI_of (((E.bs.length - 1 : Nat) : Int)) (by exact i64_at _ _ (by omega) (by omega) (by omega)) ?_
        refine needs_of (by simp; omega) ?_
        have e3 : subA (some ⟨r', 1, none⟩) (E.bs.length + 1 + rest'.length - (1 : Int).toNat) 0 1 = some ⟨r', 1, none⟩ := by
          unfold subA
          split <;> rfl
        rw [e3]
        simp only [Int.toNat_natCast, Nat.sub_zero]
        have hlen : ((u8s (E.bs ++ [E.l]) ++ rest').drop 1).take ((E.bs.length - 1) * 1) = u8s (bytesM E) := by
          rw [hb, Nat.mul_one, List.drop_append_of_le_length (by rw [u8s_length]; simp), List.take_append_of_le_length (by rw [List.length_drop, u8s_length]; simp)]
          unfold u8s
          rw [← List.map_drop, ← List.map_take, List.dropLast_eq_take]
          congr 2
          simp
        have hl2 : (bytesM E).length = E.bs.length - 1 := by rw [hb]; simp
        have hr := rdO_hp H 2 (o := 1) (n := (E.bs.length - 1) * 1) rfl (by simp [u8s_length]; omega)
        rw [hlen] at hr
        refine appC_new H hr (by rw [u8s_length, hl2]) (by omega) (by omega) fun o orest h' _ H => ?_
        have := hk r' rest' o orest _ H
        rw [hl2] at this
        exact this
      · have h1 : ¬ E.l = 255 := by simp at h1; omega
        rw [if_neg h1] at hb
        have hlen : ((u8s (E.bs ++ [E.l]) ++ rest').drop 1).take (E.bs.length * 1) = u8s (bytesM E) := by
          rw [hb, Nat.mul_one, List.drop_append_of_le_length (by rw [u8s_length]; simp), List.take_append_of_le_length (by rw [List.length_drop, u8s_length]; simp)]
          unfold u8s
          rw [← List.map_drop, ← List.map_take, List.take_of_length_le (by simp)]
        have hl2 : (bytesM E).length = E.bs.length := by rw [hb]; simp
        have hr := rdO_hp H 2 (o := 1) (n := E.bs.length * 1) rfl (by simp [u8s_length]; omega)
        rw [hlen] at hr
        have e4 : E.bs.length + 1 - (1 : Int).toNat = E.bs.length := by simp
        rw [e4]
        refine appC_new H hr (by rw [u8s_length, hl2]) (by omega) (by omega) fun o orest h' _ H => ?_
        have := hk r' rest' o orest _ H
        rw [hl2] at this
        exact this

/-! ### States -/
theorem states_ok {h : Heap} {p q : Nat} {st : List Nat} {F : List Nat} {h0 : Heap} {L : List Ent} (H : Hp h0 F h L) (kp kq : Nat) {w w' : Bool} {t : TypeId} {T : List Value} (hp : L[kp]? = some ⟨p, w, t, rowsV ++ (.slice (some ⟨q, 0, none⟩) st.length st.length :: T)⟩)
    (hq : L[kq]? = some ⟨q, w', T_uint8, u8s st⟩) (hn : 1 ≤ st.length) (hn2 : st.length ≤ 131072) {K : Value → Heap → Prop} {Kp : List PanicEntry → Heap → Prop}
    (hk : ∀ o orest h', Hp h0 F h' (L ++ [⟨o, true, T_uint8, u8s st ++ orest⟩]) → K (.slice (at0 o) st.length (st.length + orest.length)) h') : CP F_arith_table_States #[.pointer (at0 p)] h K Kp := by
  refine call_arith_table_States ?_
  unfold arith_table_States
  try simp only [ptr_some_eq, add_mk, Nat.zero_add, Nat.add_zero]
  refine ldS_of (H.cell kp hp (app_get hR 0 rfl)) ?_
  have hr := rdO_hp H kq (o := 0) (n := st.length * 1) hq (by rw [u8s_length]; omega)
  rw [List.drop_zero, List.take_of_length_le (by rw [u8s_length]; omega)] at hr
  exact appC_new H hr (u8s_length st) hn (by omega) fun o orest h' _ H => hk o orest _ H

end Go.Ar
