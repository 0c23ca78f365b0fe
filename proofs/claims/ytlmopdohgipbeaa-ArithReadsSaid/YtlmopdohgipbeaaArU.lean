/- ArU: the document's own coder in memory: renew, Put, Flush, States. -/
import Derived.Test.YtlmopdohgipbeaaArT
set_option linter.unusedVariables false
set_option linter.unusedSimpArgs false
namespace Go.Ar
open Go Go.Den Go.Den.Ytlmopdohgipbeaa

theorem mask32 {x : Nat} (hx : x < 4294967296) : bitI .and .i64 (x : Int) 4294967295 = ((x : Nat) : Int) :=
  (and63 x 4294967295 (by omega) (by omega)).trans (by congr 1; exact (Nat.and_two_pow_sub_one_eq_mod x 32).trans (Nat.mod_eq_of_lt hx))

set_option maxRecDepth 100000 in
theorem rrenew_ok {h : Heap} {A : RP} {r : Nat} {s : Cod} {rest : List Value} {F : List Nat} {h0 : Heap} (H : Hp h0 F h (refL A r s rest)) (hs : Mid s) (ha : 1 ≤ s.a) (ha' : s.a < 0x8000) (hb : s.bs.length < 999999983)
    {K : Value → Heap → Prop} {Kp : List PanicEntry → Heap → Prop} (hk : ∀ r' rest' h', Hp h0 F h' (refL A r' (renewM 17 s) rest') → K (.tuple #[]) h') :
    CP F_burinref4_Coder_renew #[.pointer (at0 A.p)] h K Kp := by
  generalize hR : renewM 17 s = R at hk
  refine call_burinref4_Coder_renew ?_
  unfold burinref4_Coder_renew
  refine ⟨fun n vs h' => ∃ (first : Bool) (s' : Cod) (r' : Nat) (rest' : List Value), vs = [.bool first] ∧ Hp h0 F h' (refL A r' s' rest') ∧ Mid s' ∧ s'.bs.length + n < 1000000000 ∧
      ((first = false ∧ 0x8000 ≤ s'.a ∧ s' = R) ∨ (s'.a < 0x8000 ∧ 0x8000 ≤ s'.a * 2 ^ n ∧ renewM n s' = R)),
    ⟨17, true, s, r, rest, rfl, H, hs, by omega, .inr ⟨ha', by have : (2 : Nat) ^ 17 = 131072 := rfl; omega, hR⟩⟩, ?_⟩
  clear H
  rintro n h u x ⟨first, s', r', rest', hx, H, hm, hbn, hc⟩
  injection hx with hx
  injection hx with hx
  subst hx
  refine ⟨fun vs h' => h' = h ∧ s'.a < 0x8000 ∧ 0x8000 ≤ s'.a * 2 ^ n ∧ renewM n s' = R, ?_, ?_⟩
  · refine bcase_of (fun h1 => ?_) fun h1 => ?_
    · rcases hc with ⟨h2, _⟩ | h2
      · rw [h1] at h2; cases h2
      · exact ⟨rfl, h2⟩
    · have hcell0 := H.cell 0 rfl (i := 4) (v := .int .i64 (s'.a : Nat)) rfl
      rcases hc with ⟨_, h2, h5⟩ | h2
      · have h4 : ¬ ((s'.a : Nat) : Int) < 32768 := by
          have : (32768 : Int) ≤ ((s'.a : Nat) : Int) := by exact_mod_cast h2
          exact Int.not_lt.2 this
        refine ldI_of (x := ((s'.a : Nat) : Int)) hcell0 ?_
        simp only [decide_eq_false h4]
        exact hk r' rest' _ (h5 ▸ H)
      · have h4 : ((s'.a : Nat) : Int) < 32768 := by exact_mod_cast h2.1
        refine ldI_of (x := ((s'.a : Nat) : Int)) hcell0 ?_
        simp only [decide_eq_true h4]
        exact ⟨by first | rfl | trivial, h2⟩
  · rintro h2 u ⟨rfl, hlt, hge, he⟩
    obtain ⟨n, rfl⟩ : ∃ m, n = m + 1 := by
      cases n with
      | zero => simp at hge; omega
      | succ m => exact ⟨m, rfl⟩
    have ht1 := hm.t1
    have ht2 := hm.t12
    have hca := hm.ca
    have hcp := pow_le ht1
    obtain ⟨g1, g2, g3, g4, g5, g6⟩ := shiftM_mid hm hlt
    have hnext : 0x8000 ≤ (shiftM s').a * 2 ^ n := by
      rw [g2]
      rw [Nat.pow_succ] at hge
      have : s'.a * (2 ^ n * 2) = 2 * s'.a * 2 ^ n := by rw [Nat.mul_comm (2 ^ n) 2, ← Nat.mul_assoc, Nat.mul_comm s'.a 2]
      omega
    rw [renewM_succ] at he
    have fin : ∀ (r2 : Nat) (rest2 : List Value) (h : Heap), Hp h0 F h (refL A r2 (shiftM s') rest2) → ∃ m, m < n + 1 ∧ ∃ (first : Bool) (s' : Cod) (r' : Nat) (rest' : List Value), [Value.bool false] = [.bool first] ∧ Hp h0 F h (refL A r' s' rest') ∧ Mid s' ∧ s'.bs.length + m < 1000000000 ∧
      ((first = false ∧ 0x8000 ≤ s'.a ∧ s' = R) ∨ (s'.a < 0x8000 ∧ 0x8000 ≤ s'.a * 2 ^ m ∧ renewM m s' = R)) := fun r2 rest2 h H => by
      refine ⟨n, Nat.lt_succ_self n, false, shiftM s', r2, rest2, rfl, H, g1, by omega, ?_⟩
      by_cases h3 : 0x8000 ≤ (shiftM s').a
      · rw [if_pos h3] at he; exact .inl ⟨rfl, h3, he⟩
      · rw [if_neg h3] at he; exact .inr ⟨by omega, hnext, he⟩
    try simp only [ptr_some_eq, add_mk, Nat.zero_add, Nat.add_zero]
    refine ldI_of (H.cell 0 rfl rfl) ?_
    refine bindI_of (((2 * s'.a : Nat) : Int)) (by exact i64_at _ _ (by omega) (by omega) (by omega)) ?_
    refine stV_hp H 0 rfl (by first | exact Nat.le_of_ble_eq_true rfl | simp) rfl fun h hsz H => ?_
    refine ldI_of (H.cell 0 rfl rfl) ?_
    refine bindI_of (((2 * s'.c : Nat) : Int)) (by exact i64_at _ _ (by omega) (by omega) (by omega)) ?_
    refine bindI_of _ (mask32 (by omega)) ?_
    refine stV_hp H 0 rfl (by first | exact Nat.le_of_ble_eq_true rfl | simp) rfl fun h hsz H => ?_
    refine ldI_of (H.cell 0 rfl rfl) ?_
    refine bindI_of (((s'.t - 1 : Nat) : Int)) (by exact i64_at _ _ (by omega) (by omega) (by omega)) ?_
    refine stV_hp H 0 rfl (by first | exact Nat.le_of_ble_eq_true rfl | simp) rfl fun h hsz H => ?_
    refine ldI_of (H.cell 0 rfl rfl) ?_
    have H2 : Hp h0 F h (refL A r' { s' with a := 2 * s'.a, c := 2 * s'.c, t := s'.t - 1 } rest') := H
    refine bcase_of (fun h1 => ?_) fun h1 => ?_
    · have h1 : s'.t - 1 = 0 := by simp at h1; omega
      rw [shiftM_eq, if_pos h1] at fin
      refine rout_ok H2 hm.l (by show 2 * s'.c < _; omega) (by show s'.bs.length < _; omega) fun r2 rest2 h2 H => ?_
      exact fin r2 rest2 _ H
    · have h1 : ¬ s'.t - 1 = 0 := by simp at h1; omega
      rw [shiftM_eq, if_neg h1] at fin
      exact fin r' rest' _ H2

set_option maxRecDepth 100000 in
theorem rput_ok {h : Heap} {A : RP} {r : Nat} {s : Cod} {rest : List Value} {F : List Nat} {h0 : Heap} (H : Hp h0 F h (refL A r s rest)) (hs : Wf s) (hd : s.done = false) (hn : s.n < 16777216) (hl : 1 ≤ s.st.length) (hl2 : s.st.length ≤ 131072)
    {ctx : Int} {bit : Nat} (hbit : bit ≤ 1) {K : Value → Heap → Prop} {Kp : List PanicEntry → Heap → Prop} (hk : ∀ r' rest' h', Hp h0 F h' (refL A r' (putM s (idx ctx s.st.length) bit) rest') → K (.int .i64 0) h') :
    CP F_burinref4_Coder_Put #[.pointer (at0 A.p), .int .i64 ctx, .int .i64 (bit : Nat)] h K Kp := by
  refine call_burinref4_Coder_Put ?_
  unfold burinref4_Coder_Put
  try simp only [ptr_some_eq, add_mk, Nat.zero_add, Nat.add_zero]
  refine ldB_of (H.cell 0 rfl (i := 8) (congrArg (fun b => some (Value.bool b)) hd)) ?_
  refine bcase_false (by rfl) ?_
  refine ⟨fun vs h' => h' = h, ?_, ?_⟩
  · refine bcase_of (fun h1 => ?_) fun h1 => rfl
    refine bcase_of (fun h2 => ?_) fun h2 => rfl
    simp at h1 h2; omega
  · rintro h' u rfl
    refine ldI_of (H.cell 0 rfl rfl) ?_
    refine bcase_false (by simp; omega) ?_
    refine ldI_of (H.cell 0 rfl rfl) ?_
    refine bindI_of (((s.n + 1 : Nat) : Int)) (by exact i64_at _ _ (by omega) (by omega) (by omega)) ?_
    refine stV_hp H 0 rfl (by first | exact Nat.le_of_ble_eq_true rfl | simp) rfl fun h hsz H => ?_
    have H2 : Hp h0 F h (refL A r { s with n := s.n + 1 } rest) := H
    refine index_ok (m := s.st.length) (n := s.n + 1) H2 0 rfl hl hl2 ?_
    refine ⟨_, rfl, ?_⟩
    have hil := idx_lt ctx hl
    obtain ⟨x, hx⟩ : ∃ x, s.st[idx ctx s.st.length]? = some x := ⟨_, List.getElem?_eq_getElem hil⟩
    have hx94 : x < 94 := hs.st x (List.mem_of_getElem? hx)
    rw [putM_at s _ bit x hx] at hk
    have hM := set_lt hs.st (k := idx ctx s.st.length) (upM_lt hx94)
    have hL := set_lt hs.st (k := idx ctx s.st.length) (upL_lt hx94)
    generalize idx ctx s.st.length = k at hk hM hL hx hil ⊢
    have hr : x / 2 < 47 := by omega
    have hq1 := qOf_pos hr
    have hq2 := qOf_le hr
    have hlo := hs.lo
    have hhi := hs.hi
    have hca := hs.ca
    have hcp := pow_le hs.t1
    have hlen := hs.len
    have H := H2
    clear H2
    refine ldS_of (H.cell 0 rfl rfl) ?_
    refine ldS_of (H.cell 0 rfl rfl) ?_
    refine needs_of (by first | omega | (refine ⟨by omega, ?_⟩; show ((k : Nat) : Int) < ((s.st.length : Nat) : Int); omega)) ?_
    try simp only [ptr_some_eq, add_mk, Nat.zero_add, Int.toNat_natCast, Nat.mul_one]
    refine ldI_of (H.cell 2 rfl (i64s_get (half_get hx))) ?_
    refine needs_of (by first | omega | (refine ⟨by omega, ?_⟩; show ((k : Nat) : Int) < ((s.st.length : Nat) : Int); omega)) ?_
    try simp only [ptr_some_eq, add_mk, Nat.zero_add, Int.toNat_natCast, Nat.mul_one]
    refine ldI_of (H.cell 1 rfl (g_get hr (j := 0) rfl)) ?_
    refine ldI_of (H.cell 0 rfl rfl) ?_
    refine bindI_of (((s.a - qOf (x / 2) : Nat) : Int)) (by exact i64_at _ _ (by show (s.a : Int) - ((qOf (x / 2) : Nat) : Int) = _; omega) (by omega) (by omega)) ?_
    refine stV_hp H 0 rfl (by first | exact Nat.le_of_ble_eq_true rfl | simp) rfl fun h hsz H => ?_
    refine ldS_of (H.cell 0 rfl rfl) ?_
    refine needs_of (by first | omega | (refine ⟨by omega, ?_⟩; show ((k : Nat) : Int) < ((s.st.length : Nat) : Int); omega)) ?_
    try simp only [ptr_some_eq, add_mk, Nat.zero_add, Int.toNat_natCast, Nat.mul_one]
    refine ldI_of (H.cell 3 rfl (i64s_get (low_get hx))) ?_
    have H2 : Hp h0 F h (refL A r { s with n := s.n + 1, a := s.a - qOf (x / 2) } rest) := H
    have H := H2
    clear H2
    refine bcase_of (fun h1 => ?_) fun h1 => ?_
    · have h1 : bit = x % 2 := by simp at h1; omega
      rw [if_pos h1] at hk
      refine ldI_of (H.cell 0 rfl rfl) ?_
      refine bcase_of (fun h2 => ?_) fun h2 => ?_
      · have h2 : 0x8000 ≤ s.a - qOf (x / 2) := by simp at h2; omega
        rw [if_pos h2] at hk
        refine ldI_of (H.cell 0 rfl rfl) ?_
        refine bindI_of (((s.c + qOf (x / 2) : Nat) : Int)) (by exact i64_at _ _ (by show (s.c : Int) + ((qOf (x / 2) : Nat) : Int) = _; omega) (by omega) (by omega)) ?_
        refine stV_hp H 0 rfl (by first | exact Nat.le_of_ble_eq_true rfl | simp) rfl fun h hsz H => ?_
        exact hk r rest _ H
      · have h2 : ¬ 0x8000 ≤ s.a - qOf (x / 2) := by simp at h2; omega
        rw [if_neg h2] at hk
        refine ldI_of (H.cell 0 rfl rfl) ?_
        refine bcase_of (fun h3 => ?_) fun h3 => ?_
        · have h3 : s.a - qOf (x / 2) < qOf (x / 2) := by simp at h3; omega
          rw [if_pos h3] at hk
          refine stV_hp H 0 rfl (by first | exact Nat.le_of_ble_eq_true rfl | simp) rfl fun h hsz H => ?_
          have H2 : Hp h0 F h (refL A r { s with n := s.n + 1, a := qOf (x / 2) } rest) := H
          refine slk_ok H2 hx hx94 fun h H => ?_
          exact rrenew_ok (r := r) (rest := rest) (s := { s with a := qOf (x / 2), n := s.n + 1, st := s.st.set k (upM x) }) (H.as (by simp [refL, sideL, sideV, rrest])) ⟨hs.t1, hs.t12, by show s.c + qOf _ < 2 ^ (28 - s.t); omega, hs.l, hs.bs, hM⟩ hq1 (by show qOf _ < _; omega) (by show s.bs.length < _; omega) hk
        · have h3 : ¬ s.a - qOf (x / 2) < qOf (x / 2) := by simp at h3; omega
          rw [if_neg h3] at hk
          refine ldI_of (H.cell 0 rfl rfl) ?_
          refine bindI_of (((s.c + qOf (x / 2) : Nat) : Int)) (by exact i64_at _ _ (by show (s.c : Int) + ((qOf (x / 2) : Nat) : Int) = _; omega) (by omega) (by omega)) ?_
          refine stV_hp H 0 rfl (by first | exact Nat.le_of_ble_eq_true rfl | simp) rfl fun h hsz H => ?_
          have H2 : Hp h0 F h (refL A r { s with n := s.n + 1, a := s.a - qOf (x / 2), c := s.c + qOf (x / 2) } rest) := H
          refine slk_ok H2 hx hx94 fun h H => ?_
          exact rrenew_ok (r := r) (rest := rest) (s := { s with a := s.a - qOf (x / 2), c := s.c + qOf (x / 2), n := s.n + 1, st := s.st.set k (upM x) }) (H.as (by simp [refL, sideL, sideV, rrest])) ⟨hs.t1, hs.t12, by show s.c + qOf _ + (s.a - qOf _) < 2 ^ (28 - s.t); omega, hs.l, hs.bs, hM⟩ (by show 1 ≤ s.a - qOf _; omega) (by show s.a - qOf _ < _; omega) (by show s.bs.length < _; omega) hk
    · have h1 : ¬ bit = x % 2 := by simp at h1; omega
      rw [if_neg h1] at hk
      refine ldI_of (H.cell 0 rfl rfl) ?_
      refine bcase_of (fun h3 => ?_) fun h3 => ?_
      · have h3 : s.a - qOf (x / 2) < qOf (x / 2) := by simp at h3; omega
        rw [if_pos h3] at hk
        refine ldI_of (H.cell 0 rfl rfl) ?_
        refine bindI_of (((s.c + qOf (x / 2) : Nat) : Int)) (by exact i64_at _ _ (by show (s.c : Int) + ((qOf (x / 2) : Nat) : Int) = _; omega) (by omega) (by omega)) ?_
        refine stV_hp H 0 rfl (by first | exact Nat.le_of_ble_eq_true rfl | simp) rfl fun h hsz H => ?_
        have H2 : Hp h0 F h (refL A r { s with n := s.n + 1, a := s.a - qOf (x / 2), c := s.c + qOf (x / 2) } rest) := H
        refine sother_ok H2 hx hx94 fun h H => ?_
        exact rrenew_ok (r := r) (rest := rest) (s := { s with a := s.a - qOf (x / 2), c := s.c + qOf (x / 2), n := s.n + 1, st := s.st.set k (upL x) }) (H.as (by simp [refL, sideL, sideV, rrest])) ⟨hs.t1, hs.t12, by show s.c + qOf _ + (s.a - qOf _) < 2 ^ (28 - s.t); omega, hs.l, hs.bs, hL⟩ (by show 1 ≤ s.a - qOf _; omega) (by show s.a - qOf _ < _; omega) (by show s.bs.length < _; omega) hk
      · have h3 : ¬ s.a - qOf (x / 2) < qOf (x / 2) := by simp at h3; omega
        rw [if_neg h3] at hk
        refine stV_hp H 0 rfl (by first | exact Nat.le_of_ble_eq_true rfl | simp) rfl fun h hsz H => ?_
        have H2 : Hp h0 F h (refL A r { s with n := s.n + 1, a := qOf (x / 2) } rest) := H
        refine sother_ok H2 hx hx94 fun h H => ?_
        exact rrenew_ok (r := r) (rest := rest) (s := { s with a := qOf (x / 2), n := s.n + 1, st := s.st.set k (upL x) }) (H.as (by simp [refL, sideL, sideV, rrest])) ⟨hs.t1, hs.t12, by show s.c + qOf _ < 2 ^ (28 - s.t); omega, hs.l, hs.bs, hL⟩ hq1 (by show qOf _ < _; omega) (by show s.bs.length < _; omega) hk

end Go.Ar
