/- ArH: the law ArithApart, said of memory. -/
import Derived.Test.YtlmopdohgipbeaaArG
import Derived.Test.YtlmopdohgipbeaaBlaw4ArithApart
set_option linter.unusedVariables false
set_option linter.unusedSimpArgs false
namespace Go.Ar
open Go Go.Den Go.Den.Ytlmopdohgipbeaa

theorem SV.fn {h : Heap} {q : Option Addr} {len : Nat} (hv : SV h q len) : ∃ C B : Nat → Int, ∀ i, i < len → ∃ a, q = some a ∧ hcell h (a.add (i * 2)) = some (.int .i64 (C i)) ∧ hcell h (a.add (i * 2 + 1)) = some (.int .i64 (B i)) := by
  have h1 : ∀ i, ∃ cb : Int × Int, i < len → ∃ a, q = some a ∧ hcell h (a.add (i * 2)) = some (.int .i64 cb.1) ∧ hcell h (a.add (i * 2 + 1)) = some (.int .i64 cb.2) := fun i => by
    by_cases hi : i < len
    · obtain ⟨a, c, b, e1, e2, e3⟩ := hv i hi
      exact ⟨(c, b), fun _ => ⟨a, e1, e2, e3⟩⟩
    · exact ⟨(0, 0), fun h => absurd h hi⟩
  exact ⟨fun i => (Classical.choose (h1 i)).1, fun i => (Classical.choose (h1 i)).2, fun i hi => Classical.choose_spec (h1 i) hi⟩

theorem contexts_ok {h : Heap} {p q n : Nat} {F : List Nat} {h0 : Heap} {L : List Ent} (H : Hp h0 F h L) (kp : Nat) {w : Bool} {t : TypeId} {T : List Value} (hp : L[kp]? = some ⟨p, w, t, rowsV ++ (.slice (some ⟨q, 0, none⟩) n n :: T)⟩)
    {K : Value → Heap → Prop} {Kp : List PanicEntry → Heap → Prop} (hk : K (.int .i64 (n : Nat)) h) : CP F_arith_table_Contexts #[.pointer (at0 p)] h K Kp := by
  refine call_arith_table_Contexts ?_
  unfold arith_table_Contexts
  try simp only [ptr_some_eq, add_mk, Nat.zero_add, Nat.add_zero]
  refine ldS_of (H.cell kp hp (app_get hR 0 rfl)) ?_
  exact hk

set_option maxRecDepth 100000 in
theorem apart_law {hB : Heap} {n0 : Int} {sq : Option Addr} {slen scap : Nat} (hv0 : SV hB sq slen) {K : Value → Heap → Prop} {Kp : List PanicEntry → Heap → Prop} (hk : ∀ h', hext hB h' → K (.bool true) h') :
    CP F_burinlaw4_ArithApart #[.agg #[.int .i64 n0, .slice sq slen scap]] hB K Kp := by
  refine call_burinlaw4_ArithApart ?_
  unfold burinlaw4_ArithApart
  obtain ⟨C, B, hv⟩ := hv0.fn
  have H := Hp.nil hB []
  refine newC_hp H fun e h H => ?_
  try simp only [ptr_some_eq, add_mk, Nat.zero_add, Nat.add_zero]
  refine ldI_of (H.cell 0 rfl rfl) ?_
  refine within_ok (n := 20) (by decide) (by decide) ?_
  refine ⟨_, rfl, ?_⟩
  have hi20 := idx_lt n0 (n := 20) (by decide)
  generalize hm : 1 + idx n0 20 = m
  have hm1 : 1 ≤ m := by omega
  have hm2 : m ≤ 100000 := by omega
  refine bindI_of (((m : Nat) : Int)) (by exact i64_at _ _ (by omega) (by omega) (by omega)) ?_
  refine new_ok hm1 (by omega) fun p q r h' H' => ?_
  replace H := H.join H' rfl
  clear H'
  refine ⟨_, _, rfl, ?_⟩
  refine bindI_of (((m + 3 : Nat) : Int)) (by exact i64_at _ _ (by omega) (by omega) (by omega)) ?_
  refine new_ok (n := m + 3) (by omega) (by omega) fun p2 q2 r2 h' H' => ?_
  replace H := H.join H' rfl
  clear H'
  refine ⟨_, _, rfl, ?_⟩
  refine new_ok hm1 (by omega) fun p3 q3 r3 h' H' => ?_
  replace H := H.join H' rfl
  clear H'
  refine ⟨_, _, rfl, ?_⟩
  refine bcase_false (by rfl) ?_
  refine bcase_false (by rfl) ?_
  refine bcase_false (by rfl) ?_
  refine bcase_false (by rfl) ?_
  refine bcase_false (by rfl) ?_
  refine bcase_false (by rfl) ?_
  generalize hS : codN (fun i => idx (C i) m) (fun i => bit1 (B i)) m = S
  have hSok : ∀ i, i ≤ 2000 → CodOk m i (S i) := fun i hi => by rw [← hS]; exact codN_ok _ _ m i (by omega)
  have hSs : ∀ i, S (i + 1) = putM (S i) (idx (C i) m) (bit1 (B i)) := fun i => by rw [← hS]; rfl
  have hS0 : S 0 = newC m := by rw [← hS]; rfl
  refine ⟨fun vs h' => ∃ (i : Nat) (s2 : Cod) (r' r2' : Nat) (rest' rest2' : List Value), (i = slen ∨ i = 2000) ∧ i ≤ slen ∧ i ≤ 2000 ∧ CodOk (m + 3) i s2 ∧ Hp hB [] h' ([⟨e, true, T_burinlaw4_Script, [.int .i64 n0, .slice sq slen scap]⟩] ++ codL p q r' (S i) rest' ++ codL p2 q2 r2' s2 rest2' ++ codL p3 q3 r3 (S 0) []), ?_, ?_⟩
  · refine ⟨fun n vs h' => ∃ (i : Nat) (s2 : Cod) (r' r2' : Nat) (rest' rest2' : List Value), i + n = 2000 ∧ i ≤ slen ∧ vs = [.int .i64 (i : Int)] ∧ CodOk (m + 3) i s2 ∧ Hp hB [] h' ([⟨e, true, T_burinlaw4_Script, [.int .i64 n0, .slice sq slen scap]⟩] ++ codL p q r' (S i) rest' ++ codL p2 q2 r2' s2 rest2' ++ codL p3 q3 r3 (S 0) []),
      ⟨2000, 0, newC (m + 3), r, r2, [], [], rfl, by omega, rfl, newC_ok _, by rw [hS0]; exact H⟩, ?_⟩
    clear H
    rintro n h u x ⟨i, s2, r', r2', rest', rest2', hin, hil, hx, hok2, H⟩
    injection hx with hx
    injection hx with _ hx
    subst hx
    have hok := hSok i (by omega)
    refine ldS_of (H.cell 0 rfl rfl) ?_
    refine bcase_of (fun h1 => ?_) fun h1 => ⟨i, s2, r', r2', rest', rest2', .inl (by simp at h1; omega), hil, by omega, hok2, H⟩
    refine bcase_of (fun h2 => ?_) fun h2 => ⟨i, s2, r', r2', rest', rest2', .inr (by simp at h2; omega), hil, by omega, hok2, H⟩
    have h1 : i < slen := by simp at h1; omega
    have h2 : i < 2000 := by simp at h2; omega
    obtain ⟨a, rfl, hc, hb⟩ := hv i h1
    refine ldS_of (H.cell 0 rfl rfl) ?_
    refine needs_of (by omega) ?_
    simp only [ptr_some_eq, Int.toNat_natCast, add_zero']
    refine ldI_of (H.fr.cell (by simp) hc) ?_
    refine within_ok hm1 (by omega) ?_
    refine ⟨_, rfl, ?_⟩
    have hil2 := idx_lt (C i) hm1
    refine ldS_of (H.cell 0 rfl rfl) ?_
    refine needs_of (by omega) ?_
    simp only [ptr_some_eq, Int.toNat_natCast, add_add']
    refine ldI_of (H.fr.cell (by simp) hb) ?_
    refine bindI_of _ (bit1_of (B i)) ?_
    have hb1 := bit1_le (B i)
    refine put_ok (H.give [1, 2, 3] (by decide) rfl) hok.wf hok.done (by rw [hok.n]; omega) (by rw [hok.len]; omega) (by rw [hok.len]; omega) hb1 fun r4 rest4 h' H' => ?_
    rw [hok.len, idx_nat hil2, ← hSs] at H'
    replace H := H.back [1,2,3] (by decide) rfl rfl H' (by first | rfl | simp_all [decL, decE, codL, codE, BOk]) (Nat.le_of_ble_eq_true rfl)
    clear H'
    refine ⟨_, rfl, ?_⟩
    refine bcase_false (by rfl) ?_
    refine bindI_of (((1 - bit1 (B i) : Nat) : Int)) (by exact i64_at _ _ (by omega) (by omega) (by omega)) ?_
    refine put_ok (H.give [4, 5, 6] (by decide) rfl) hok2.wf hok2.done (by rw [hok2.n]; omega) (by rw [hok2.len]; omega) (by rw [hok2.len]; omega) (by omega) fun r5 rest5 h' H' => ?_
    replace H := H.back [4,5,6] (by decide) rfl rfl H' (by first | rfl | simp_all [decL, decE, codL, codE, BOk]) (Nat.le_of_ble_eq_true rfl)
    clear H'
    refine ⟨_, rfl, ?_⟩
    refine bcase_false (by rfl) ?_
    have hok' := hSok (i + 1) (by omega)
    have hok2' := putM_ok hok2 (idx ((idx (C i) m : Nat) : Int) s2.st.length) (1 - bit1 (B i)) (by omega)
    have H : Hp hB [] h' ([⟨e, true, T_burinlaw4_Script, [.int .i64 n0, .slice (some a) slen scap]⟩] ++ codL p q r4 (S (i + 1)) rest4 ++ codL p2 q2 r5 (putM s2 (idx ((idx (C i) m : Nat) : Int) s2.st.length) (1 - bit1 (B i))) rest5 ++ codL p3 q3 r3 (S 0) []) := H
    refine states_ok (st := (S (i + 1)).st) H 1 2 rfl rfl (by rw [hok'.len]; omega) (by rw [hok'.len]; omega) fun o1 or1 h H => ?_
    refine ⟨_, _, _, rfl, ?_⟩
    refine bcase_false (by rw [hok'.len]; simp) ?_
    refine states_ok (st := (putM s2 (idx ((idx (C i) m : Nat) : Int) s2.st.length) (1 - bit1 (B i))).st) H 4 5 rfl rfl (by rw [hok2'.len]; omega) (by rw [hok2'.len]; omega) fun o2 or2 h H => ?_
    refine ⟨_, _, _, rfl, ?_⟩
    refine bindI_of (((m + 3 : Nat) : Int)) (by exact i64_at _ _ (by omega) (by omega) (by omega)) ?_
    refine bcase_false (by rw [hok2'.len]; simp) ?_
    refine bindI_of (((i + 1 : Nat) : Int)) (by exact i64_at _ _ (by omega) (by omega) (by omega)) ?_
    exact ⟨n - 1, by omega, i + 1, _, r4, r5, rest4, rest5, by omega, by omega, rfl, hok2', H.take 10⟩
  · clear H
    rintro h u ⟨i1, s2, r', r2', rest', rest2', hi1, hi1l, hi1m, hok2, H⟩
    refine ⟨fun vs h' => ∃ (r3' : Nat) (rest3' : List Value), Hp hB [] h' ([⟨e, true, T_burinlaw4_Script, [.int .i64 n0, .slice sq slen scap]⟩] ++ codL p q r' (S i1) rest' ++ codL p2 q2 r2' s2 rest2' ++ codL p3 q3 r3' (S i1) rest3'), ?_, ?_⟩
    · refine ⟨fun n vs h' => ∃ (i : Nat) (r3' : Nat) (rest3' : List Value), i + n = 2000 ∧ i ≤ slen ∧ vs = [.int .i64 (i : Int)] ∧ Hp hB [] h' ([⟨e, true, T_burinlaw4_Script, [.int .i64 n0, .slice sq slen scap]⟩] ++ codL p q r' (S i1) rest' ++ codL p2 q2 r2' s2 rest2' ++ codL p3 q3 r3' (S i) rest3'),
        ⟨2000, 0, r3, [], rfl, by omega, rfl, H⟩, ?_⟩
      clear H
      rintro n h u x ⟨i, r3', rest3', hin, hil, hx, H⟩
      injection hx with hx
      injection hx with _ hx
      subst hx
      have hok := hSok i (by omega)
      refine ldS_of (H.cell 0 rfl rfl) ?_
      refine bcase_of (fun h1 => ?_) fun h1 => ⟨r3', rest3', by
        have h1 : ¬ i < slen := by simp at h1; omega
        have e1 : i1 = i := by omega
        rw [e1] at H ⊢
        exact H⟩
      refine bcase_of (fun h2 => ?_) fun h2 => ⟨r3', rest3', by
        have h2 : ¬ i < 2000 := by simp at h2; omega
        have h1 : i < slen := by simp at h1; omega
        have e1 : i1 = i := by omega
        rw [e1] at H ⊢
        exact H⟩
      have h1 : i < slen := by simp at h1; omega
      have h2 : i < 2000 := by simp at h2; omega
      obtain ⟨a, rfl, hc, hb⟩ := hv i h1
      refine ldS_of (H.cell 0 rfl rfl) ?_
      refine needs_of (by omega) ?_
      simp only [ptr_some_eq, Int.toNat_natCast, add_zero']
      refine ldI_of (H.fr.cell (by simp) hc) ?_
      refine ldS_of (H.cell 0 rfl rfl) ?_
      refine needs_of (by omega) ?_
      simp only [ptr_some_eq, Int.toNat_natCast, add_add']
      refine ldI_of (H.fr.cell (by simp) hb) ?_
      refine bindI_of _ (bit1_of (B i)) ?_
      refine within_ok hm1 (by omega) ?_
      refine ⟨_, rfl, hext.refl _, ?_⟩
      have hil2 := idx_lt (C i) hm1
      have hb1 := bit1_le (B i)
      refine put_ok (H.give [7, 8, 9] (by decide) rfl) hok.wf hok.done (by rw [hok.n]; omega) (by rw [hok.len]; omega) (by rw [hok.len]; omega) hb1 fun r4 rest4 h' H' => ?_
      rw [hok.len, idx_nat hil2, ← hSs] at H'
      replace H := H.back [7,8,9] (by decide) rfl rfl H' (by first | rfl | simp_all [decL, decE, codL, codE, BOk]) (Nat.le_of_ble_eq_true rfl)
      clear H'
      refine ⟨_, rfl, ?_⟩
      refine bindI_of (((i + 1 : Nat) : Int)) (by exact i64_at _ _ (by omega) (by omega) (by omega)) ?_
      exact ⟨n - 1, by omega, i + 1, r4, rest4, by omega, by omega, rfl, H⟩
    · clear H
      rintro h u ⟨r3', rest3', H⟩
      have hok := hSok i1 hi1m
      refine flush_ok (H.give [1, 2, 3] (by decide) rfl) hok.wf hok.done fun r4 rest4 o orest h' H' => ?_
      replace H := H.back [1,2,3] (by decide) rfl rfl H' (by first | rfl | simp_all [decL, decE, codL, codE, BOk]) (Nat.le_of_ble_eq_true rfl)
      clear H'
      refine ⟨_, _, _, _, rfl, ?_⟩
      refine flush_ok (H.give [7, 8, 9] (by decide) rfl) hok.wf hok.done fun r5 rest5 o2 orest2 h' H' => ?_
      replace H := H.back [7,8,9] (by decide) rfl rfl H' (by first | rfl | simp_all [decL, decE, codL, codE, BOk]) (Nat.le_of_ble_eq_true rfl)
      clear H'
      refine ⟨_, _, _, _, rfl, ?_⟩
      refine bcase_true (by rfl) ?_
      refine bcase_true (by rfl) ?_
      refine eq_ok (row_rdO H 10 rfl) (row_rdO H 11 rfl) (fl_len hok (by omega)) ?_
      refine ⟨_, rfl, ?_⟩
      refine bcase_true (by exact decide_eq_true rfl) ?_
      try simp only [ptr_some_eq, add_mk, Nat.zero_add, Nat.add_zero]
      refine contexts_ok (n := s2.st.length) H 4 rfl ?_
      refine ⟨_, rfl, ?_⟩
      refine bindI_of (((m + 3 : Nat) : Int)) (by exact i64_at _ _ (by omega) (by omega) (by omega)) ?_
      refine bcase_true (by rw [hok2.len]; simp) ?_
      refine wakes_ok fun h' e => ?_
      exact ⟨_, rfl, hk _ (H.hext.trans e)⟩

end Go.Ar
