/- ArV: the document's own coder in memory: States, Flush. -/
import Derived.Test.YtlmopdohgipbeaaArU
set_option linter.unusedVariables false
set_option linter.unusedSimpArgs false
namespace Go.Ar
open Go Go.Den Go.Den.Ytlmopdohgipbeaa

set_option maxRecDepth 100000 in
theorem rstates_ok {h : Heap} {p g gc sq bq n : Nat} {st : List Nat} {grest : List Value} {F : List Nat} {h0 : Heap} {t : TypeId} {T : List Value} {e5 : Ent} (H : Hp h0 F h (sideL p t T g gc sq bq n st grest e5)) (hst : ∀ x ∈ st, x < 94) (hl : 1 ≤ st.length) (hl2 : st.length ≤ 131072)
    {K : Value → Heap → Prop} {Kp : List PanicEntry → Heap → Prop} (hk : ∀ o orest h', Hp h0 F h' (sideL p t T g gc sq bq n st grest e5 ++ [⟨o, true, T_uint8, u8s st ++ orest⟩]) → K (.slice (at0 o) st.length (st.length + orest.length)) h') :
    CP F_burinref4_side_States #[.pointer (at0 p)] h K Kp := by
  refine call_burinref4_side_States ?_
  unfold burinref4_side_States
  refine ⟨fun m vs h' => ∃ i : Nat, i + m = st.length ∧ ((i = 0 ∧ vs = [.slice none 0 0, .int .i64 0] ∧ h' = h) ∨ ∃ o orest, 1 ≤ i ∧ vs = [.slice (at0 o) i (i + orest.length), .int .i64 (i : Int)] ∧ Hp h0 F h' (sideL p t T g gc sq bq n st grest e5 ++ [⟨o, true, T_uint8, u8s (st.take i) ++ orest⟩])),
    ⟨st.length, 0, by omega, .inl ⟨rfl, rfl, rfl⟩⟩, ?_⟩
  rintro m h' u b bn bc x ⟨i, hin, ⟨rfl, hx, rfl⟩ | ⟨o, orest, hi1, hx, H⟩⟩
  · injection hx with hx1 hx
    injection hx1 with e1 e2 e3
    injection hx with hx
    injection hx with _ hx
    subst e1 e2 e3 hx
    obtain ⟨y, hy⟩ : ∃ y, st[0]? = some y := ⟨_, List.getElem?_eq_getElem (by omega)⟩
    have hy94 := hst y (List.mem_of_getElem? hy)
    try simp only [ptr_some_eq, add_mk, Nat.zero_add, Nat.add_zero]
    refine ldS_of (H.cell 0 rfl rfl) ?_
    refine bcase_true (by exact decide_eq_true (by omega)) ?_
    refine ldS_of (H.cell 0 rfl rfl) ?_
    refine needs_of (by omega) ?_
    try simp only [ptr_some_eq, add_mk, Nat.zero_add]
    refine ldI_of (H.cell 2 rfl (i64s_get (half_get hy))) ?_
    refine bindI_of (((2 * (y / 2) : Nat) : Int)) (by exact i64_at _ _ (by omega) (by omega) (by omega)) ?_
    refine ldS_of (H.cell 0 rfl rfl) ?_
    refine needs_of (by omega) ?_
    try simp only [ptr_some_eq, add_mk, Nat.zero_add]
    refine ldI_of (H.cell 3 rfl (i64s_get (low_get hy))) ?_
    refine bindI_of (((y : Nat) : Int)) (by exact i64_at _ _ (by omega) (by omega) (by omega)) ?_
    refine bindI_of (((y : Nat) : Int)) (by exact u8_in y (by omega)) ?_
    refine newC_hp H fun w h H => ?_
    refine appC_new H (new := u8s [y]) (rdO_hp (o := 0) (n := 1 * 1) H 5 rfl (Nat.le_refl _)) rfl (Nat.le_refl _) (by decide) fun o orest h2 _ H => ?_
    refine bindI_of (((1 : Nat) : Int)) (by decide) ?_
    have ht : st.take 1 = [y] := by
      cases st with
      | nil => simp at hy
      | cons z zs => simp at hy; subst hy; rfl
    exact ⟨m - 1, by omega, 1, by omega, .inr ⟨o, orest, Nat.le_refl _, rfl, (H.pick [0, 1, 2, 3, 4, 6] (by decide) (by rw [ht]; rfl))⟩⟩
  · injection hx with hx1 hx
    injection hx1 with e1 e2 e3
    injection hx with hx
    injection hx with _ hx
    subst e1 e2 e3 hx
    try simp only [ptr_some_eq, add_mk, Nat.zero_add, Nat.add_zero]
    refine ldS_of (H.cell 0 rfl rfl) ?_
    rcases Nat.lt_or_ge bn st.length with h1 | h1
    · refine bcase_true (by exact decide_eq_true (by omega)) ?_
      obtain ⟨y, hy⟩ : ∃ y, st[bn]? = some y := ⟨_, List.getElem?_eq_getElem h1⟩
      have hy94 := hst y (List.mem_of_getElem? hy)
      refine ldS_of (H.cell 0 rfl rfl) ?_
      refine needs_of (by omega) ?_
      try simp only [ptr_some_eq, add_mk, Nat.zero_add, Int.toNat_natCast, Nat.mul_one]
      refine ldI_of (H.cell 2 rfl (i64s_get (half_get hy))) ?_
      refine bindI_of (((2 * (y / 2) : Nat) : Int)) (by exact i64_at _ _ (by omega) (by omega) (by omega)) ?_
      refine ldS_of (H.cell 0 rfl rfl) ?_
      refine needs_of (by omega) ?_
      try simp only [ptr_some_eq, add_mk, Nat.zero_add, Int.toNat_natCast, Nat.mul_one]
      refine ldI_of (H.cell 3 rfl (i64s_get (low_get hy))) ?_
      refine bindI_of (((y : Nat) : Int)) (by exact i64_at _ _ (by omega) (by omega) (by omega)) ?_
      refine bindI_of (((y : Nat) : Int)) (by exact u8_in y (by omega)) ?_
      refine newC_hp H fun w h H => ?_
      refine appC_own H 5 rfl (xs := u8s (st.take bn)) (new := u8s [y]) (by rw [u8s_length, List.length_take]; omega) (by rw [List.length_append, u8s_length, List.length_take]; omega) (rdO_hp (o := 0) (n := 1 * 1) H 6 rfl (Nat.le_refl _)) rfl (u8s_cells _) (by omega) fun o' orest' h2 H => ?_
      refine bindI_of (((bn + 1 : Nat) : Int)) (by exact i64_at _ _ (by omega) (by omega) (by omega)) ?_
      have ht : st.take (bn + 1) = st.take bn ++ [y] := by
        rw [List.take_add_one, hy]; rfl
      refine ⟨m - 1, by omega, bn + 1, by omega, .inr ⟨o', orest', by omega, ?_, ?_⟩⟩
      · simp only [List.length_append, u8s_length, List.length_take, List.length_cons, List.length_nil]
        rw [Nat.min_eq_left (by omega)]
      · rw [ht, u8s_app]
        exact H.take 6
    · refine bcase_false (by exact decide_eq_false (by omega)) ?_
      have e : bn = st.length := by omega
      subst e
      rw [List.take_of_length_le (Nat.le_refl _)] at H
      exact hk o orest _ H

theorem or63 (a b : Nat) (ha : a < 9223372036854775808) (hb : b < 9223372036854775808) : bitI .or .i64 a b = ((a ||| b : Nat) : Int) := (bits_nat .i64 63 (by decide) wr63 a b ha hb).2

set_option maxRecDepth 100000 in
theorem rflush_ok {h : Heap} {A : RP} {r : Nat} {s : Cod} {rest : List Value} {F : List Nat} {h0 : Heap} (H : Hp h0 F h (refL A r s rest)) (hs : Wf s) (hd : s.done = false)
    {K : Value → Heap → Prop} {Kp : List PanicEntry → Heap → Prop} (hk : ∀ r' rest' o orest h', Hp h0 F h' (refL A r' (flushM s) rest' ++ [⟨o, true, T_uint8, u8s (bytesM (flushM s)) ++ orest⟩]) →
      K (.tuple #[.slice (at0 o) (bytesM (flushM s)).length ((bytesM (flushM s)).length + orest.length), .int .i64 0]) h') :
    CP F_burinref4_Coder_Flush #[.pointer (at0 A.p)] h K Kp := by
  refine call_burinref4_Coder_Flush ?_
  unfold burinref4_Coder_Flush
  have hca := hs.ca
  have hcp := pow_le hs.t1
  have hlen := hs.len
  have hn := hs.n
  have hcl : flushC s < 2 ^ (28 - s.t) + 65536 := by
    unfold flushC
    simp only []
    split <;> omega
  have hfl : Fl { s with c := flushC s, done := true } 0 := by
    refine ⟨?_, hs.t12, hs.l, by show s.bs.length ≤ _; omega⟩
    show flushC s * 2 ^ s.t < 4294967296
    have h2 : flushC s * 2 ^ s.t < (2 ^ (28 - s.t) + 65536) * 2 ^ s.t := Nat.mul_lt_mul_of_pos_right hcl (Nat.two_pow_pos _)
    have h1 : (2 : Nat) ^ s.t ≤ 2 ^ 12 := Nat.pow_le_pow_right (by omega) hs.t12
    have h3 : 2 ^ (28 - s.t) * 2 ^ s.t = 2 ^ 28 := by rw [← Nat.pow_add]; congr 1; have := hs.t12; omega
    rw [Nat.add_mul, h3] at h2
    omega
  try simp only [ptr_some_eq, add_mk, Nat.zero_add, Nat.add_zero]
  refine ldB_of (H.cell 0 rfl (i := 8) (congrArg (fun b => some (Value.bool b)) hd)) ?_
  refine bcase_false (by rfl) ?_
  refine stV_hp H 0 rfl (by first | exact Nat.le_of_ble_eq_true rfl | simp) rfl fun h hsz H => ?_
  refine ldI_of (H.cell 0 rfl rfl) ?_
  refine ldI_of (H.cell 0 rfl rfl) ?_
  refine bindI_of (((s.c + s.a : Nat) : Int)) (by exact i64_at _ _ (by omega) (by omega) (by omega)) ?_
  refine ldI_of (H.cell 0 rfl rfl) ?_
  refine bindI_of (((s.c / 65536 * 65536 + 65535 : Nat) : Int)) (by exact (or63 _ 65535 (by omega) (by omega)).trans (by rw [flushC_or])) ?_
  refine stV_hp H 0 rfl (by first | exact Nat.le_of_ble_eq_true rfl | simp) rfl fun h hsz H => ?_
  refine ⟨fun vs h' => Hp h0 F h' (refL A r { s with c := flushC s, done := true } rest), ?_, ?_⟩
  · refine ldI_of (H.cell 0 rfl rfl) ?_
    rcases Nat.lt_or_ge (s.c / 65536 * 65536 + 65535) (s.c + s.a) with h1 | h1
    · simp only [decide_eq_false (show ¬ (((s.c / 65536 * 65536 + 65535 : Nat) : Int) ≥ ((s.c + s.a : Nat) : Int)) by omega)]
      have e : flushC s = s.c / 65536 * 65536 + 65535 := by unfold flushC; simp only []; rw [if_neg (by omega)]
      rw [e]
      exact H
    · simp only [decide_eq_true (show (((s.c / 65536 * 65536 + 65535 : Nat) : Int) ≥ ((s.c + s.a : Nat) : Int)) by omega)]
      refine bcase_true rfl ?_
      refine ldI_of (H.cell 0 rfl rfl) ?_
      refine bindI_of (((s.c / 65536 * 65536 + 65535 - 0x8000 : Nat) : Int)) (by exact i64_at _ _ (by omega) (by omega) (by omega)) ?_
      refine stV_hp H 0 rfl (by first | exact Nat.le_of_ble_eq_true rfl | simp) rfl fun h hsz H => ?_
      have e : flushC s = s.c / 65536 * 65536 + 65535 - 0x8000 := by unfold flushC; simp only []; rw [if_pos h1]
      rw [e]
      exact H
  · clear H
    intro h u H
    generalize hS : ({ s with c := flushC s, done := true } : Cod) = S at H hfl
    have hfm : flushM s = flushS (flushS S) := by rw [← hS]; rfl
    rw [hfm] at hk
    have step : ∀ {E : Cod} {k : Nat}, Fl E k → bitI .and .i64 (((E.c * 2 ^ E.t : Nat) : Int)) 4294967295 = ((E.c * 2 ^ E.t : Nat) : Int) := fun hf => mask32 hf.c
    have hsh : ∀ {E : Cod} {k : Nat}, Fl E k → shlI .i64 (E.c : Int) (E.t : Int) = ((E.c * 2 ^ E.t : Nat) : Int) := fun {E k} hf => shl_of (by show E.t ≤ 64; have := hf.t; omega) (i64_in _ (by omega) (by have := hf.c; omega))
    obtain ⟨hf1, hb1⟩ := flushS_fl hfl
    obtain ⟨hf2, hb2⟩ := flushS_fl hf1
    have hn0 := hfl.n
    refine ldI_of (H.cell 0 rfl rfl) ?_
    refine ldI_of (H.cell 0 rfl rfl) ?_
    refine bindI_of (((S.t : Nat) : Int)) (by exact u64_in _ (by omega) (by have := hfl.t; omega)) ?_
    refine needs_of (by omega) ?_
    refine bindI_of _ (hsh hfl) ?_
    refine bindI_of _ (step hfl) ?_
    refine stV_hp H 0 rfl (by first | exact Nat.le_of_ble_eq_true rfl | simp) rfl fun h hsz H => ?_
    have H2 : Hp h0 F h (refL A r { S with c := S.c * 2 ^ S.t } rest) := H
    refine rout_ok H2 hfl.l hfl.c (by show S.bs.length < _; omega) fun r2 rest2 h H => ?_
    have H2 : Hp h0 F h (refL A r2 (flushS S) rest2) := H
    have H := H2
    clear H2
    try simp only [ptr_some_eq, add_mk, Nat.zero_add]
    generalize hE1 : flushS S = E1 at hf1 hf2 hb1 hb2 H hk
    refine ldI_of (H.cell 0 rfl rfl) ?_
    refine ldI_of (H.cell 0 rfl rfl) ?_
    refine bindI_of (((E1.t : Nat) : Int)) (by exact u64_in _ (by omega) (by have := hf1.t; omega)) ?_
    refine needs_of (by omega) ?_
    refine bindI_of _ (hsh hf1) ?_
    refine bindI_of _ (step hf1) ?_
    refine stV_hp H 0 rfl (by first | exact Nat.le_of_ble_eq_true rfl | simp) rfl fun h hsz H => ?_
    have H2 : Hp h0 F h (refL A r2 { E1 with c := E1.c * 2 ^ E1.t } rest2) := H
    refine rout_ok H2 hf1.l hf1.c (by show E1.bs.length < _; omega) fun r' rest' h H => ?_
    have H2 : Hp h0 F h (refL A r' (flushS E1) rest') := H
    have H := H2
    clear H2
    try simp only [ptr_some_eq, add_mk, Nat.zero_add]
    have hEl := hf2.l
    generalize hE : flushS E1 = E at hb2 H hk hEl
    have hb : bytesM E = if E.l = 255 then ((E.bs ++ [E.l]).drop 1).dropLast else (E.bs ++ [E.l]).drop 1 := rfl
    refine ldS_of (H.cell 0 rfl rfl) ?_
    refine ⟨fun vs h' => vs = [.int .i64 ((if E.l = 255 then E.bs.length else E.bs.length + 1 : Nat) : Int)] ∧ h' = h, ?_, ?_⟩
    · refine ldS_of (H.cell 0 rfl rfl) ?_
      refine bindI_of (((E.bs.length : Nat) : Int)) (by exact i64_at _ _ (by omega) (by omega) (by omega)) ?_
      refine needs_of (by constructor <;> omega) ?_
      try simp only [ptr_some_eq, add_mk, Nat.zero_add, Int.toNat_natCast, Nat.mul_one]
      refine ldI_of (H.cell 4 rfl (last_get _ _ _)) ?_
      refine bcase_of (fun h1 => ?_) fun h1 => ?_
      · have h1 : E.l = 255 := by simp at h1; omega
        refine bindI_of (((E.bs.length : Nat) : Int)) (by exact i64_at _ _ (by omega) (by omega) (by omega)) ?_
        exact ⟨by rw [if_pos h1], by first | rfl | trivial⟩
      · have h1 : E.l ≠ 255 := by simp at h1; omega
        exact ⟨by rw [if_neg h1], by first | rfl | trivial⟩
    · rintro h' u y ⟨hy, rfl⟩
      injection hy with hy
      injection hy with _ hy
      have hlm : ∃ m : Nat, y = ((m : Nat) : Int) ∧ 1 ≤ m ∧ m ≤ E.bs.length + 1 ∧ (bytesM E).length = m - 1 ∧ 1 ≤ m - 1 ∧ ((u8s (E.bs ++ [E.l]) ++ rest').drop 1).take ((m - 1) * 1) = u8s (bytesM E) := by
        by_cases h1 : E.l = 255
        · rw [if_pos h1] at hy hb
          refine ⟨E.bs.length, hy, by omega, by omega, by rw [hb]; simp, by omega, ?_⟩
          rw [hb, Nat.mul_one, List.drop_append_of_le_length (by rw [u8s_length]; simp), List.take_append_of_le_length (by rw [List.length_drop, u8s_length]; simp)]
          unfold u8s
          rw [← List.map_drop, ← List.map_take, List.dropLast_eq_take]
          congr 2
          simp
        · rw [if_neg h1] at hy hb
          refine ⟨E.bs.length + 1, hy, by omega, by omega, by rw [hb]; simp, by omega, ?_⟩
          rw [hb, Nat.mul_one, List.drop_append_of_le_length (by rw [u8s_length]; simp), List.take_append_of_le_length (by rw [List.length_drop, u8s_length]; simp)]
          unfold u8s
          rw [← List.map_drop, ← List.map_take, List.take_of_length_le (by simp)]
      obtain ⟨m, rfl, hm1, hm2, hbl, hm3, hlist⟩ := hlm
      refine ldS_of (H.cell 0 rfl rfl) ?_
      refine needs_of (by omega) ?_
      refine needs_of (by simp; omega) ?_
      have e1 : subA (some ⟨r', 0, none⟩) (E.bs.length + 1 + rest'.length) (1 : Int).toNat 1 = some ⟨r', 1, none⟩ := by
        unfold subA
        rw [if_neg (by simp; omega)]
        rfl
      rw [e1]
      have e2 : ((m : Nat) : Int).toNat - (1 : Int).toNat = m - 1 := by simp
      rw [e2]
      have hr := rdO_hp H 4 (o := 1) (n := (m - 1) * 1) rfl (by simp [u8s_length]; omega)
      rw [hlist] at hr
      refine appC_new H hr (by rw [u8s_length, hbl]) (by omega) (by omega) fun o orest h' _ H => ?_
      have := hk r' rest' o orest _ H
      rw [hbl] at this
      exact this

end Go.Ar
