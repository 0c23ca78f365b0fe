/- ArT: the document's own coder in memory: other, New, out, renew, Put, States. -/
import Derived.Test.YtlmopdohgipbeaaArS
set_option linter.unusedVariables false
set_option linter.unusedSimpArgs false
namespace Go.Ar
open Go Go.Den Go.Den.Ytlmopdohgipbeaa

def sideL (p : Nat) (t : TypeId) (T : List Value) (g gc sq bq n : Nat) (st : List Nat) (grest : List Value) (e5 : Ent) : List Ent :=
  [⟨p, true, t, sideV g gc sq bq st.length n ++ T⟩, ⟨g, true, T_burinref4_Row, growsN 47 ++ grest⟩, ⟨sq, true, T_int, i64s (half st)⟩, ⟨bq, true, T_int, i64s (low st)⟩, e5]

theorem slk_ok {h : Heap} {p g gc sq bq n k x : Nat} {st : List Nat} {grest : List Value} {F : List Nat} {h0 : Heap} {t : TypeId} {T : List Value} {e5 : Ent} (H : Hp h0 F h (sideL p t T g gc sq bq n st grest e5)) (hx : st[k]? = some x) (hx94 : x < 94)
    {K : Value → Heap → Prop} {Kp : List PanicEntry → Heap → Prop} (hk : ∀ h', Hp h0 F h' (sideL p t T g gc sq bq n (st.set k (upM x)) grest e5) → K (.tuple #[]) h') :
    CP F_burinref4_side_likely #[.pointer (at0 p), .int .i64 (k : Nat)] h K Kp :=
  slikely_ok H 0 1 2 rfl rfl rfl hx hx94 fun h' H' => hk _ (H'.as (by
    have e : low (st.set k (upM x)) = low st := by
      rw [low_set]
      have e2 : upM x % 2 = x % 2 := by unfold upM; omega
      rw [e2]
      exact set_same (low_get hx)
    simp [sideL, e]))

set_option maxRecDepth 100000 in
theorem sother_ok {h : Heap} {p g gc sq bq n k x : Nat} {st : List Nat} {grest : List Value} {F : List Nat} {h0 : Heap} {t : TypeId} {T : List Value} {e5 : Ent} (H : Hp h0 F h (sideL p t T g gc sq bq n st grest e5)) (hx : st[k]? = some x) (hx94 : x < 94)
    {K : Value → Heap → Prop} {Kp : List PanicEntry → Heap → Prop} (hk : ∀ h', Hp h0 F h' (sideL p t T g gc sq bq n (st.set k (upL x)) grest e5) → K (.tuple #[]) h') :
    CP F_burinref4_side_other #[.pointer (at0 p), .int .i64 (k : Nat)] h K Kp := by
  refine call_burinref4_side_other ?_
  unfold burinref4_side_other
  have hkl : k < st.length := (List.getElem?_eq_some_iff.1 hx).1
  have hr : x / 2 < 47 := by omega
  have hc1 := cOf_le hr
  have eh : half (st.set k (upL x)) = (half st).set k (lOf (x / 2)) := by
    rw [half_set]; congr 1; unfold upL; omega
  have el : low (st.set k (upL x)) = (low st).set k ((x % 2 + cOf (x / 2)) % 2) := by
    rw [low_set]; congr 1; unfold upL; omega
  try simp only [ptr_some_eq, add_mk, Nat.zero_add, Nat.add_zero]
  refine ldS_of (H.cell 0 rfl rfl) ?_
  refine ldS_of (H.cell 0 rfl rfl) ?_
  refine needs_of (by omega) ?_
  try simp only [ptr_some_eq, add_mk, Nat.zero_add, Int.toNat_natCast, Nat.mul_one]
  refine ldI_of (H.cell 2 rfl (i64s_get (half_get hx))) ?_
  refine needs_of (by omega) ?_
  try simp only [ptr_some_eq, add_mk, Nat.zero_add, Int.toNat_natCast, Nat.mul_one]
  refine ldI_of (H.cell 1 rfl (g_get hr (j := 0) rfl)) ?_
  refine ldI_of (H.cell 1 rfl (g_get hr (j := 1) rfl)) ?_
  refine ldI_of (H.cell 1 rfl (g_get hr (j := 2) rfl)) ?_
  refine ldB_of (H.cell 1 rfl (g_get hr (j := 3) rfl)) ?_
  refine newC_hp H fun w h H => ?_
  try simp only [ptr_some_eq, add_mk, Nat.zero_add, Nat.add_zero]
  refine stV_hp H 5 rfl (by first | exact Nat.le_of_ble_eq_true rfl | simp) rfl fun h hsz H => ?_
  refine stV_hp H 5 rfl (by first | exact Nat.le_of_ble_eq_true rfl | simp) rfl fun h hsz H => ?_
  refine stV_hp H 5 rfl (by first | exact Nat.le_of_ble_eq_true rfl | simp) rfl fun h hsz H => ?_
  refine stV_hp H 5 rfl (by first | exact Nat.le_of_ble_eq_true rfl | simp) rfl fun h hsz H => ?_
  refine ldB_of (H.cell 5 rfl rfl) ?_
  refine bcase_of (fun h1 => ?_) fun h1 => ?_
  · have h1 : cOf (x / 2) = 1 := by simpa using h1
    refine ldS_of (H.cell 0 rfl rfl) ?_
    refine ldS_of (H.cell 0 rfl rfl) ?_
    refine needs_of (by omega) ?_
    try simp only [ptr_some_eq, add_mk, Nat.zero_add, Int.toNat_natCast, Nat.mul_one]
    refine ldI_of (H.cell 3 rfl (i64s_get (low_get hx))) ?_
    refine bindI_of (((1 - x % 2 : Nat) : Int)) (by exact i64_at _ _ (by omega) (by omega) (by omega)) ?_
    refine needs_of (by omega) ?_
    try simp only [ptr_some_eq, add_mk, Nat.zero_add, Int.toNat_natCast, Nat.mul_one]
    refine stV_hp H 3 rfl (by rw [i64s_length]; simpa [low] using hkl) rfl fun h hsz H => ?_
    refine ldS_of (H.cell 0 rfl rfl) ?_
    refine ldI_of (H.cell 5 rfl rfl) ?_
    refine needs_of (by omega) ?_
    try simp only [ptr_some_eq, add_mk, Nat.zero_add, Int.toNat_natCast, Nat.mul_one]
    refine stV_hp H 2 rfl (by rw [i64s_length]; simpa [half] using hkl) rfl fun h hsz H => ?_
    refine hk _ ((H.take 5).as ?_)
    have e3 : (x % 2 + cOf (x / 2)) % 2 = 1 - x % 2 := by rw [h1]; omega
    rw [e3] at el
    simp [sideL, eh, el, i64s_set]
  · have h1 : cOf (x / 2) = 0 := by
      have : cOf (x / 2) ≠ 1 := by simpa using h1
      omega
    refine ldS_of (H.cell 0 rfl rfl) ?_
    refine ldI_of (H.cell 5 rfl rfl) ?_
    refine needs_of (by omega) ?_
    try simp only [ptr_some_eq, add_mk, Nat.zero_add, Int.toNat_natCast, Nat.mul_one]
    refine stV_hp H 2 rfl (by rw [i64s_length]; simpa [half] using hkl) rfl fun h hsz H => ?_
    refine hk _ ((H.take 5).as ?_)
    have e3 : (x % 2 + cOf (x / 2)) % 2 = x % 2 := by rw [h1]; omega
    rw [e3] at el
    have el2 : low (st.set k (upL x)) = low st := el.trans (set_same (low_get hx))
    simp [sideL, eh, el2, i64s_set]

/-! ### the coder -/
def rrest (s : Cod) (r : Nat) (rest : List Value) : List Value :=
  [.int .i64 (s.a : Nat), .int .i64 (s.c : Nat), .int .i64 (s.t : Nat), .slice (at0 r) (s.bs.length + 1) (s.bs.length + 1 + rest.length), .bool s.done]
structure RP where
  p : Nat
  g : Nat
  gc : Nat
  sq : Nat
  bq : Nat
  grest : List Value
def refL (A : RP) (r : Nat) (s : Cod) (rest : List Value) : List Ent :=
  sideL A.p T_burinref4_Coder (rrest s r rest) A.g A.gc A.sq A.bq s.n s.st A.grest ⟨r, true, T_uint8, u8s (s.bs ++ [s.l]) ++ rest⟩

theorem rnew_ok {h : Heap} {n : Nat} (hn : n ≤ 131072) {K : Value → Heap → Prop} {Kp : List PanicEntry → Heap → Prop} (hk : ∀ A r h', Hp h [] h' (refL A r (newC n) []) → K (.pointer (at0 A.p)) h') : CP F_burinref4_New #[.int .i64 (n : Nat)] h K Kp := by
  refine call_burinref4_New ?_
  unfold burinref4_New
  refine begun_ok hn fun g grest gc sq bq sp h' hsp H => ?_
  refine ⟨_, _, _, _, _, _, _, _, _, _, rfl, ?_⟩
  refine newC_hp H fun r h H => ?_
  refine newC_hp H fun p h H => ?_
  refine hk ⟨p, g, gc, sq, bq, grest⟩ r _ ?_
  exact H.pick [5, 0, 1, 2, 4] (by decide) (by simp [refL, sideL, sideV, rrest, newC, half, low, u8s])

set_option maxRecDepth 100000 in
theorem rout_ok {h : Heap} {A : RP} {r : Nat} {s : Cod} {rest : List Value} {F : List Nat} {h0 : Heap} (H : Hp h0 F h (refL A r s rest)) (hl : s.l < 256) (hc : s.c < 4294967296) (hb : s.bs.length < 1000000000)
    {K : Value → Heap → Prop} {Kp : List PanicEntry → Heap → Prop} (hk : ∀ r' rest' h', Hp h0 F h' (refL A r' (outM s) rest') → K (.tuple #[]) h') :
    CP F_burinref4_Coder_out #[.pointer (at0 A.p)] h K Kp := by
  refine call_burinref4_Coder_out ?_
  unfold burinref4_Coder_out
  try simp only [ptr_some_eq, add_mk, Nat.zero_add, Nat.add_zero]
  refine ldS_of (H.cell 0 rfl rfl) ?_
  refine bindI_of (((s.bs.length : Nat) : Int)) (by exact i64_at _ _ (by omega) (by omega) (by omega)) ?_
  refine ldS_of (H.cell 0 rfl rfl) ?_
  refine needs_of (by constructor <;> omega) ?_
  try simp only [ptr_some_eq, add_mk, Nat.zero_add, Nat.add_zero]
  simp only [Int.toNat_natCast, Nat.mul_one]
  refine ldI_of (H.cell 4 rfl (last_get _ _ _)) ?_
  refine ⟨fun vs h' => vs = [.bool ((if s.l ≠ 255 ∧ 134217728 ≤ s.c then s.l + 1 else s.l) == 255)] ∧ Hp h0 F h' (refL A r (if s.l ≠ 255 ∧ 134217728 ≤ s.c then { s with l := s.l + 1, c := s.c % 134217728 } else s) rest), ?_, ?_⟩
  · refine ⟨fun vs h' => vs = [.bool (decide (s.l ≠ 255 ∧ 134217728 ≤ s.c))] ∧ h' = h, ?_, ?_⟩
    · refine bcase_of (fun h1 => ?_) fun h1 => ?_
      · refine ldI_of (H.cell 0 rfl rfl) ?_
        refine ⟨?_, rfl⟩
        have h1 : s.l ≠ 255 := by simp at h1; omega
        congr 2
        simp [h1]
        omega
      · refine ⟨?_, rfl⟩
        have h1 : s.l = 255 := by simp at h1; omega
        simp [h1]
    · rintro h' u x ⟨hx, rfl⟩
      injection hx with hx
      injection hx with hx
      subst hx
      refine bcase_of (fun h1 => ?_) fun h1 => ?_
      · have h1 : s.l ≠ 255 ∧ 134217728 ≤ s.c := of_decide_eq_true h1
        refine ldS_of (H.cell 0 rfl rfl) ?_
        refine needs_of (by constructor <;> omega) ?_
        try simp only [ptr_some_eq, add_mk, Nat.zero_add, Int.toNat_natCast, Nat.mul_one]
        refine ldI_of (H.cell 4 rfl (last_get _ _ _)) ?_
        refine bindI_of (((s.l + 1 : Nat) : Int)) (by rw [← u8_in (s.l + 1) (by omega)]; rfl) ?_
        refine needs_of (by constructor <;> omega) ?_
        try simp only [ptr_some_eq, add_mk, Nat.zero_add, Int.toNat_natCast, Nat.mul_one]
        refine stV_hp H 4 rfl (by simp [u8s_length]; omega) rfl fun h hsz H => ?_
        rw [last_set] at H
        refine ldI_of (H.cell 0 rfl rfl) ?_
        refine bindI_of (((s.c % 134217728 : Nat) : Int)) (by exact (and63 _ 134217727 (by omega) (by omega)).trans (by congr 1; exact Nat.and_two_pow_sub_one_eq_mod s.c 27)) ?_
        refine stV_hp H 0 rfl (by first | exact Nat.le_of_ble_eq_true rfl | simp) rfl fun h hsz H => ?_
        refine ldS_of (H.cell 0 rfl rfl) ?_
        refine needs_of (by constructor <;> omega) ?_
        try simp only [ptr_some_eq, add_mk, Nat.zero_add, Int.toNat_natCast, Nat.mul_one]
        refine ldI_of (H.cell 4 rfl (last_get _ _ _)) ?_
        rw [if_pos h1, if_pos h1]
        refine ⟨?_, H⟩
        congr 2
        rw [Bool.eq_iff_iff]
        simp
        omega
      · have h1 : ¬ (s.l ≠ 255 ∧ 134217728 ≤ s.c) := of_decide_eq_false h1
        rw [if_neg h1, if_neg h1]
        refine ⟨?_, H⟩
        congr 2
        rw [Bool.eq_iff_iff]
        simp
        omega
  · rintro h' u y ⟨hy, H'⟩
    injection hy with hy
    injection hy with hy
    have e : outM s = outTail (if s.l ≠ 255 ∧ 134217728 ≤ s.c then { s with l := s.l + 1, c := s.c % 134217728 } else s) (if s.l ≠ 255 ∧ 134217728 ≤ s.c then { s with l := s.l + 1, c := s.c % 134217728 } else s).l (if s.l ≠ 255 ∧ 134217728 ≤ s.c then { s with l := s.l + 1, c := s.c % 134217728 } else s).c := by
      unfold outM; split <;> rfl
    have hs' : (if s.l ≠ 255 ∧ 134217728 ≤ s.c then { s with l := s.l + 1, c := s.c % 134217728 } else s).l < 256 ∧ (if s.l ≠ 255 ∧ 134217728 ≤ s.c then { s with l := s.l + 1, c := s.c % 134217728 } else s).c < 4294967296 ∧ (if s.l ≠ 255 ∧ 134217728 ≤ s.c then { s with l := s.l + 1, c := s.c % 134217728 } else s).bs = s.bs ∧
        (if s.l ≠ 255 ∧ 134217728 ≤ s.c then { s with l := s.l + 1, c := s.c % 134217728 } else s).l = (if s.l ≠ 255 ∧ 134217728 ≤ s.c then s.l + 1 else s.l) := by
      split
      · exact ⟨by show s.l + 1 < 256; omega, by show s.c % 134217728 < _; omega, rfl, rfl⟩
      · exact ⟨hl, hc, rfl, rfl⟩
    generalize (if s.l ≠ 255 ∧ 134217728 ≤ s.c then { s with l := s.l + 1, c := s.c % 134217728 } else s) = s' at e hs' H'
    clear H
    obtain ⟨hl', hc', hb', hll⟩ := hs'
    rw [← hll] at hy
    subst hy
    rw [e] at hk
    rw [← hb'] at hb
    have H := H'
    clear H'
    refine bcase_of (fun h1 => ?_) fun h1 => ?_
    · have h1 : s'.l = 255 := by simpa using h1
      refine ldS_of (H.cell 0 rfl rfl) ?_
      refine ldI_of (H.cell 0 rfl rfl) ?_
      refine bindI_of (((s'.c / 1048576 : Nat) : Int)) (by exact shr_of (i := 20) (by decide)) ?_
      refine bindI_of (((s'.c / 1048576 % 256 : Nat) : Int)) (by rw [IntKind.wrap_u8]; omega) ?_
      refine newC_hp H fun b h H => ?_
      refine appC_own H 4 rfl (xs := u8s (s'.bs ++ [s'.l])) (by rw [u8s_length]; simp) (by rw [List.length_append, u8s_length]; simp) (rdO_hp (o := 0) (n := 1 * 1) H 5 rfl (Nat.le_refl _)) rfl (fun v hv => by rw [List.mem_singleton.1 hv]; rfl) (by omega) fun r' rest' h H => ?_
      refine stV_hp H 0 rfl (by first | exact Nat.le_of_ble_eq_true rfl | simp) rfl fun h hsz H => ?_
      refine ldI_of (H.cell 0 rfl rfl) ?_
      refine bindI_of (((s'.c % 1048576 : Nat) : Int)) (by exact (and63 _ 1048575 (by omega) (by omega)).trans (by congr 1; exact Nat.and_two_pow_sub_one_eq_mod s'.c 20)) ?_
      refine stV_hp H 0 rfl (by first | exact Nat.le_of_ble_eq_true rfl | simp) rfl fun h hsz H => ?_
      refine stV_hp H 0 rfl (by first | exact Nat.le_of_ble_eq_true rfl | simp) rfl fun h hsz H => ?_
      refine hk r' rest' _ ((H.take 5).as ?_)
      unfold outTail
      rw [if_pos h1]
      simp [refL, sideL, sideV, rrest, u8s]
      omega
    · have h1 : s'.l ≠ 255 := by simpa using h1
      refine ldS_of (H.cell 0 rfl rfl) ?_
      refine ldI_of (H.cell 0 rfl rfl) ?_
      refine bindI_of (((s'.c / 524288 : Nat) : Int)) (by exact shr_of (i := 19) (by decide)) ?_
      refine bindI_of (((s'.c / 524288 % 256 : Nat) : Int)) (by rw [IntKind.wrap_u8]; omega) ?_
      refine newC_hp H fun b h H => ?_
      refine appC_own H 4 rfl (xs := u8s (s'.bs ++ [s'.l])) (by rw [u8s_length]; simp) (by rw [List.length_append, u8s_length]; simp) (rdO_hp (o := 0) (n := 1 * 1) H 5 rfl (Nat.le_refl _)) rfl (fun v hv => by rw [List.mem_singleton.1 hv]; rfl) (by omega) fun r' rest' h H => ?_
      refine stV_hp H 0 rfl (by first | exact Nat.le_of_ble_eq_true rfl | simp) rfl fun h hsz H => ?_
      refine ldI_of (H.cell 0 rfl rfl) ?_
      refine bindI_of (((s'.c % 524288 : Nat) : Int)) (by exact (and63 _ 524287 (by omega) (by omega)).trans (by congr 1; exact Nat.and_two_pow_sub_one_eq_mod s'.c 19)) ?_
      refine stV_hp H 0 rfl (by first | exact Nat.le_of_ble_eq_true rfl | simp) rfl fun h hsz H => ?_
      refine stV_hp H 0 rfl (by first | exact Nat.le_of_ble_eq_true rfl | simp) rfl fun h hsz H => ?_
      refine hk r' rest' _ ((H.take 5).as ?_)
      unfold outTail
      rw [if_neg h1]
      simp [refL, sideL, sideV, rrest, u8s]
      omega

end Go.Ar
