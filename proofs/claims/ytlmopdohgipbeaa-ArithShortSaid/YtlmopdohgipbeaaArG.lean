/- ArG: the laws' script in memory; the law ArithReduced, said of memory. -/
import Derived.Test.YtlmopdohgipbeaaArF
import Derived.Test.YtlmopdohgipbeaaBlaw4ArithReduced
set_option linter.unusedVariables false
set_option linter.unusedSimpArgs false
namespace Go.Ar
open Go Go.Den Go.Den.Ytlmopdohgipbeaa

/-- A script's decisions can be read. -/
def SV (h : Heap) (q : Option Addr) (len : Nat) : Prop := ∀ i, i < len → ∃ a c b, q = some a ∧ hcell h (a.add (i * 2)) = some (.int .i64 c) ∧ hcell h (a.add (i * 2 + 1)) = some (.int .i64 b)

theorem add_zero' (a : Addr) : a.add 0 = a := by unfold Addr.add; rw [if_pos rfl]
theorem add_add' (a : Addr) (m n : Nat) : (a.add m).add n = a.add (m + n) := by
  unfold Addr.add
  by_cases h1 : m = 0
  · subst h1; simp
  · by_cases h2 : n = 0
    · subst h2; simp
    · rw [if_neg h1, if_neg h2, if_neg (by omega)]
      simp [Nat.add_assoc]
def bit1 (b : Int) : Nat := (b % 2).toNat
theorem bit1_le (b : Int) : bit1 b ≤ 1 := by unfold bit1; omega
theorem bit1_of (b : Int) : bitI .and .i64 b 1 = ((bit1 b : Nat) : Int) := by rw [and63_1]; unfold bit1; omega

theorem fl_len' {m n : Nat} {s : Cod} (h : CodOk m n s) (hn : n ≤ 1000000) : (bytesM (flushM s)).length < 1000000000000 := by
  have h2 := flushM_len s
  have h3 := h.wf.len
  have h4 := h.n
  omega

theorem fl_len {m n : Nat} {s : Cod} (h : CodOk m n s) (hn : n ≤ 1000000) : (bytesM (flushM s)).length < 140737488351300 := by
  have h2 := flushM_len s
  have h3 := h.wf.len
  have h4 := h.n
  omega

theorem idx_shift (r m : Nat) (k : Int) (hr : r < m) : idx ((r : Int) + (m : Int) * k) m = r := by
  unfold idx
  rw [Int.add_mul_emod_self_left]
  have : ((r : Int) % (m : Int)) = ((r % m : Nat) : Int) := by simp
  rw [this, Nat.mod_eq_of_lt hr]
  rfl

set_option maxRecDepth 100000 in
theorem reduced_law {hB : Heap} {n0 : Int} {sq : Option Addr} {slen scap : Nat} (hv : SV hB sq slen) {K : Value → Heap → Prop} {Kp : List PanicEntry → Heap → Prop} (hk : ∀ h', hext hB h' → K (.bool true) h') :
    CP F_burinlaw4_ArithReduced #[.agg #[.int .i64 n0, .slice sq slen scap]] hB K Kp := by
  refine call_burinlaw4_ArithReduced ?_
  unfold burinlaw4_ArithReduced
  have H := Hp.nil hB []
  refine newC_hp H fun e h H => ?_
  try simp only [ptr_some_eq, add_mk, Nat.zero_add, Nat.add_zero]
  refine ldI_of (H.cell 0 rfl rfl) ?_
  refine within_ok (n := 40) (by decide) (by decide) ?_
  refine ⟨_, rfl, ?_⟩
  have hi40 := idx_lt n0 (n := 40) (by decide)
  generalize hm : 1 + idx n0 40 = m
  have hm1 : 1 ≤ m := by omega
  have hm2 : m ≤ 131072 := by omega
  refine bindI_of (((m : Nat) : Int)) (by exact i64_at _ _ (by omega) (by omega) (by omega)) ?_
  refine new_ok hm1 hm2 fun p q r h' H' => ?_
  replace H := H.join H' rfl
  clear H'
  refine ⟨_, _, rfl, ?_⟩
  refine new_ok hm1 hm2 fun p2 q2 r2 h' H' => ?_
  replace H := H.join H' rfl
  clear H'
  refine ⟨_, _, rfl, ?_⟩
  refine bcase_false (by rfl) ?_
  refine bcase_false (by rfl) ?_
  refine bcase_false (by rfl) ?_
  refine bcase_false (by rfl) ?_
  refine ⟨fun vs h' => ∃ (i : Nat) (s : Cod) (r' r2' : Nat) (rest' rest2' : List Value), i ≤ 2000 ∧ CodOk m i s ∧ Hp hB [] h' ([⟨e, true, T_burinlaw4_Script, [.int .i64 n0, .slice sq slen scap]⟩] ++ codL p q r' s rest' ++ codL p2 q2 r2' s rest2'), ?_, ?_⟩
  · refine ⟨fun n vs h' => ∃ (i : Nat) (s : Cod) (r' r2' : Nat) (rest' rest2' : List Value), i + n = 2000 ∧ vs = [.int .i64 (i : Int)] ∧ CodOk m i s ∧ Hp hB [] h' ([⟨e, true, T_burinlaw4_Script, [.int .i64 n0, .slice sq slen scap]⟩] ++ codL p q r' s rest' ++ codL p2 q2 r2' s rest2'),
      ⟨2000, 0, newC m, r, r2, [], [], rfl, rfl, newC_ok m, H⟩, ?_⟩
    clear H
    rintro n h u x ⟨i, s, r', r2', rest', rest2', hin, hx, hok, H⟩
    injection hx with hx
    injection hx with _ hx
    subst hx
    have done : ∃ (i : Nat) (s : Cod) (r' r2' : Nat) (rest' rest2' : List Value), i ≤ 2000 ∧ CodOk m i s ∧ Hp hB [] h ([⟨e, true, T_burinlaw4_Script, [.int .i64 n0, .slice sq slen scap]⟩] ++ codL p q r' s rest' ++ codL p2 q2 r2' s rest2') := ⟨i, s, r', r2', rest', rest2', by omega, hok, H⟩
    refine ldS_of (H.cell 0 rfl rfl) ?_
    refine bcase_of (fun h1 => ?_) fun h1 => done
    refine bcase_of (fun h2 => ?_) fun h2 => done
    clear done
    have h1 : i < slen := by simp at h1; omega
    have h2 : i < 2000 := by simp at h2; omega
    obtain ⟨a, c, b, rfl, hc, hb⟩ := hv i h1
    refine ldS_of (H.cell 0 rfl rfl) ?_
    refine needs_of (by omega) ?_
    simp only [ptr_some_eq, Int.toNat_natCast, add_zero']
    refine ldI_of (H.fr.cell (by simp) hc) ?_
    refine within_ok hm1 (by omega) ?_
    refine ⟨_, rfl, ?_⟩
    have hil := idx_lt c hm1
    refine bindI_of (((i % 7 : Nat) : Int)) (by exact tmod_nat i 7) ?_
    refine bindI_of ((((i % 7 : Nat) : Int) - 3)) (by exact i64_in _ (by omega) (by omega)) ?_
    have hk7 : -3 ≤ ((i % 7 : Nat) : Int) - 3 ∧ ((i % 7 : Nat) : Int) - 3 ≤ 3 := by omega
    have hsh := idx_shift (idx c m) m (((i % 7 : Nat) : Int) - 3) hil
    generalize hkk : ((i % 7 : Nat) : Int) - 3 = kk at hk7 hsh
    have hb1 : (m : Int) * kk ≤ 131072 * 3 := by
      have h1 : (m : Int) * kk ≤ m * 3 := Int.mul_le_mul_of_nonneg_left hk7.2 (by omega)
      omega
    have hb2 : -(131072 * 3) ≤ (m : Int) * kk := by
      have h1 : (m : Int) * (-3) ≤ m * kk := Int.mul_le_mul_of_nonneg_left hk7.1 (by omega)
      omega
    refine bindI_of (((m : Int) * kk)) (by exact i64_in _ (by omega) (by omega)) ?_
    refine bindI_of ((((idx c m : Nat) : Int) + (m : Int) * kk)) (by exact i64_in _ (by omega) (by omega)) ?_
    refine ldS_of (H.cell 0 rfl rfl) ?_
    refine needs_of (by omega) ?_
    simp only [ptr_some_eq, Int.toNat_natCast, add_add']
    refine ldI_of (H.fr.cell (by simp) hb) ?_
    refine bindI_of _ (bit1_of b) ?_
    refine put_ok (H.give [1, 2, 3] (by decide) rfl) hok.wf hok.done (by rw [hok.n]; omega) (by rw [hok.len]; omega) (by rw [hok.len]; omega) (bit1_le b) fun r3 rest3 h' H' => ?_
    rw [hok.len, idx_nat hil] at H'
    replace H := H.back [1,2,3] (by decide) rfl rfl H' (by first | rfl | simp_all [decL, decE, codL, codE, BOk]) (Nat.le_of_ble_eq_true rfl)
    clear H'
    refine ⟨_, rfl, ?_⟩
    refine bcase_false (by rfl) ?_
    refine ldS_of (H.cell 0 rfl rfl) ?_
    refine needs_of (by omega) ?_
    simp only [ptr_some_eq, Int.toNat_natCast, add_add']
    refine ldI_of (H.fr.cell (by simp) hb) ?_
    refine bindI_of _ (bit1_of b) ?_
    refine put_ok (H.give [4, 5, 6] (by decide) rfl) hok.wf hok.done (by rw [hok.n]; omega) (by rw [hok.len]; omega) (by rw [hok.len]; omega) (bit1_le b) fun r4 rest4 h' H' => ?_
    rw [hok.len, hsh] at H'
    replace H := H.back [4,5,6] (by decide) rfl rfl H' (by first | rfl | simp_all [decL, decE, codL, codE, BOk]) (Nat.le_of_ble_eq_true rfl)
    clear H'
    refine ⟨_, rfl, ?_⟩
    refine bcase_false (by rfl) ?_
    refine bindI_of (((i + 1 : Nat) : Int)) (by exact i64_at _ _ (by omega) (by omega) (by omega)) ?_
    exact ⟨n - 1, by omega, i + 1, _, r3, r4, rest3, rest4, by omega, rfl, putM_ok hok _ _ (by omega), H⟩
  · clear H
    rintro h u ⟨i, s, r', r2', rest', rest2', hi, hok, H⟩
    refine flush_ok (H.give [1, 2, 3] (by decide) rfl) hok.wf hok.done fun r3 rest3 o orest h' H' => ?_
    replace H := H.back [1,2,3] (by decide) rfl rfl H' (by first | rfl | simp_all [decL, decE, codL, codE, BOk]) (Nat.le_of_ble_eq_true rfl)
    clear H'
    refine ⟨_, _, _, _, rfl, ?_⟩
    refine flush_ok (H.give [4, 5, 6] (by decide) rfl) hok.wf hok.done fun r4 rest4 o2 orest2 h' H' => ?_
    replace H := H.back [4,5,6] (by decide) rfl rfl H' (by first | rfl | simp_all [decL, decE, codL, codE, BOk]) (Nat.le_of_ble_eq_true rfl)
    clear H'
    refine ⟨_, _, _, _, rfl, ?_⟩
    refine bcase_true (by rfl) ?_
    refine bcase_true (by rfl) ?_
    refine eq_ok (row_rdO H 7 rfl) (row_rdO H 8 rfl) (fl_len hok (by omega)) ?_
    refine ⟨_, rfl, ?_⟩
    refine bcase_true (by exact decide_eq_true rfl) ?_
    try simp only [ptr_some_eq, add_mk, Nat.zero_add, Nat.add_zero]
    have hst := (flushM_keep s).1
    have hsl : (flushM s).st.length = m := by rw [hst]; exact hok.len
    refine states_ok (st := (flushM s).st) H 1 2 rfl rfl (by omega) (by omega) fun o3 or3 h H => ?_
    refine ⟨_, _, _, rfl, ?_⟩
    refine states_ok (st := (flushM s).st) H 4 5 rfl rfl (by omega) (by omega) fun o4 or4 h H => ?_
    refine ⟨_, _, _, rfl, ?_⟩
    refine eq_ok (row_rdO H 9 rfl) (row_rdO H 10 rfl) (by omega) ?_
    refine ⟨_, rfl, ?_⟩
    refine bcase_true (by exact decide_eq_true rfl) ?_
    refine wakes_ok fun h' e => ?_
    exact ⟨_, rfl, hk _ (H.hext.trans e)⟩

end Go.Ar
