/- ArZ: the law ArithCodes, said of memory. -/
import Derived.Test.YtlmopdohgipbeaaArY
set_option linter.unusedVariables false
set_option linter.unusedSimpArgs false
namespace Go.Ar
open Go Go.Den Go.Den.Ytlmopdohgipbeaa

set_option maxRecDepth 100000 in
set_option maxHeartbeats 1000000 in
theorem codes_law {hB : Heap} {n0 : Int} {sq : Option Addr} {slen scap : Nat} (hv0 : SV hB sq slen) {K : Value → Heap → Prop} {Kp : List PanicEntry → Heap → Prop} (hk : ∀ h', hext hB h' → K (.bool true) h') :
    CP F_burinlaw4_ArithCodes #[.agg #[.int .i64 n0, .slice sq slen scap]] hB K Kp := by
  refine call_burinlaw4_ArithCodes ?_
  unfold burinlaw4_ArithCodes
  obtain ⟨C, B, hv⟩ := hv0.fn
  have H := Hp.nil hB []
  refine newC_hp H fun e h H => ?_
  try simp only [ptr_some_eq, add_mk, Nat.zero_add, Nat.add_zero]
  refine ldI_of (H.cell 0 rfl rfl) ?_
  by_cases hbad : n0 < 1 ∨ 131072 < n0
  · refine new_bad hbad fun h' e' => ?_
    have H := H.ext e'
    refine ⟨_, _, rfl, ?_⟩
    refine ldI_of (H.cell 0 rfl rfl) ?_
    rcases Int.lt_or_le n0 1 with h1 | h1
    · simp only [decide_eq_true h1]
      refine bcase_true rfl ?_
      refine bcase_true (by rfl) ?_
      refine bcase_true (by rfl) ?_
      exact wakes_ok fun h' e => ⟨_, rfl, hk _ (H.hext.trans e)⟩
    · simp only [decide_eq_false (show ¬ n0 < 1 by omega)]
      refine bcase_false rfl ?_
      refine ldI_of (H.cell 0 rfl rfl) ?_
      simp only [decide_eq_true (show n0 > 131072 by omega)]
      refine bcase_true rfl ?_
      refine bcase_true (by rfl) ?_
      refine bcase_true (by rfl) ?_
      exact wakes_ok fun h' e => ⟨_, rfl, hk _ (H.hext.trans e)⟩
  · obtain ⟨m, rfl⟩ : ∃ m : Nat, n0 = (m : Nat) := ⟨n0.toNat, by omega⟩
    have hm1 : 1 ≤ m := by omega
    have hm2 : m ≤ 131072 := by omega
    refine new_ok hm1 hm2 fun p q r h' H' => ?_
    replace H := H.join H' rfl
    clear H'
    refine ⟨_, _, rfl, ?_⟩
    refine ldI_of (H.cell 0 rfl rfl) ?_
    simp only [decide_eq_false (show ¬ ((m : Nat) : Int) < 1 by omega)]
    refine bcase_false rfl ?_
    refine ldI_of (H.cell 0 rfl rfl) ?_
    simp only [decide_eq_false (show ¬ ((m : Nat) : Int) > 131072 by omega)]
    refine bcase_false rfl ?_
    refine ⟨fun b => b < hB.size ∨ b = e, ?_⟩
    refine bcase_false (by rfl) ?_
    refine bcase_false (by rfl) ?_
    try simp only [ptr_some_eq, add_mk, Nat.zero_add, Nat.add_zero]
    refine ldI_of (H.cell 0 rfl rfl) ?_
    refine ⟨by first | exact .inr rfl | exact .inr trivial, ?_⟩
    refine contexts_ok (n := (newC m).st.length) H 1 rfl ?_
    have hnl : (newC m).st.length = m := by simp [newC]
    rw [hnl]
    refine ⟨_, rfl, hkeep.refl _ _, ?_⟩
    refine bcase_false (by simp) ?_
    refine ldI_of (H.cell 0 rfl rfl) ?_
    by_cases h5 : m > 5000
    · simp only [decide_eq_true (show ((m : Nat) : Int) > 5000 by omega)]
      refine bcase_true rfl ?_
      exact wakes_ok fun h' e => ⟨_, rfl, hk _ (H.hext.trans e)⟩
    · simp only [decide_eq_false (show ¬ ((m : Nat) : Int) > 5000 by omega)]
      refine bcase_false rfl ?_
      refine ldI_of (H.cell 0 rfl rfl) ?_
      refine rnew_ok hm2 fun A r2 h' H' => ?_
      replace H := H.join H' rfl
      clear H'
      refine ⟨_, rfl, ?_⟩
      refine ⟨fun vs h' => ∃ (s : Cod) (n' r' r2' : Nat) (rest' rest2' : List Value), n' ≤ 6000 ∧ CodOk m n' s ∧ Hp hB [] h' ([⟨e, true, T_burinlaw4_Script, [.int .i64 (m : Nat), .slice sq slen scap]⟩] ++ codL p q r' s rest' ++ refL A r2' s rest2'), ?_, ?_⟩
      · refine ⟨fun n vs h' => ∃ (i : Nat) (s : Cod) (n' r' r2' : Nat) (rest' rest2' : List Value), i + n = 6000 ∧ vs = [.int .i64 (i : Int)] ∧ n' ≤ i ∧ CodOk m n' s ∧ Hp hB [] h' ([⟨e, true, T_burinlaw4_Script, [.int .i64 (m : Nat), .slice sq slen scap]⟩] ++ codL p q r' s rest' ++ refL A r2' s rest2'),
          ⟨6000, 0, newC m, 0, r, r2, [], [], rfl, rfl, Nat.le_refl _, newC_ok m, H⟩, ?_⟩
        clear H
        rintro n h u x ⟨i, s, n', r', r2', rest', rest2', hin, hx, hni, hok, H⟩
        injection hx with hx
        injection hx with _ hx
        subst hx
        refine ldS_of (H.cell 0 rfl rfl) ?_
        rcases Nat.lt_or_ge i slen with h1 | h1
        · simp only [decide_eq_true (show ((i : Nat) : Int) < ((slen : Nat) : Int) by omega)]
          refine bcase_true rfl ?_
          rcases Nat.lt_or_ge i 6000 with h2 | h2
          · simp only [decide_eq_true (show ((i : Nat) : Int) < 6000 by omega)]
            refine bcase_true rfl ?_
            obtain ⟨a, rfl, hc, hb⟩ := hv i h1
            have hla := cell_lt hc
            rw [add_block] at hla
            have re : (fun b => b < hB.size ∨ b = e) e := .inr rfl
            have ra : ∀ k, (fun b => b < hB.size ∨ b = e) (a.add k).block := fun k => .inl (by rw [add_block]; exact hla)
            have hil := idx_lt (C i) hm1
            refine ⟨fun b => b < hB.size ∨ b = e, ?_⟩
            simp only [add_zero', add_add', Int.toNat_natCast, ptr_some_eq]
            refine ldS_of (H.cell 0 rfl rfl) ⟨by first | exact re | exact .inr trivial, ?_⟩
            refine needs_of (by omega) (ldI_of (H.fr.cell (by simp) hc) ⟨ra _, ?_⟩)
            refine ldS_of (H.cell 0 rfl rfl) ⟨by first | exact re | exact .inr trivial, ?_⟩
            refine needs_of (by omega) (ldI_of (H.fr.cell (by simp) hb) ⟨ra _, ?_⟩)
            refine ldS_of (H.cell 0 rfl rfl) ⟨by first | exact re | exact .inr trivial, ?_⟩
            refine needs_of (by omega) (ldI_of (H.fr.cell (by simp) hc) ⟨ra _, ?_⟩)
            refine ldS_of (H.cell 0 rfl rfl) ⟨by first | exact re | exact .inr trivial, ?_⟩
            refine needs_of (by omega) (ldI_of (H.fr.cell (by simp) hb) ⟨ra _, ?_⟩)
            refine putI_ok (H.give [1, 2, 3] (by decide) rfl) hok (by omega) hm1 hm2 fun r3 rest3 h' H' => ?_
            have hkp := keeps_of H [1, 2, 3] rfl rfl 0 rfl (by decide) H'
            replace H := H.back [1,2,3] (by decide) rfl rfl H' (by first | rfl | simp_all [decL, decE, codL, codE, BOk]) (Nat.le_of_ble_eq_true rfl)
            clear H'
            refine ⟨_, rfl, hkp, ?_⟩
            refine rputI_ok (H.give [4, 5, 6, 7, 8] (by decide) rfl) hok (by omega) hm1 hm2 fun r4 rest4 h' H' => ?_
            replace H := H.back [4,5,6,7,8] (by decide) rfl rfl H' (by first | rfl | simp_all [decL, decE, codL, codE, BOk]) (Nat.le_of_ble_eq_true rfl)
            clear H'
            refine ⟨_, rfl, ?_⟩
            refine bcase_false (by simp) ?_
            obtain ⟨n2, hn2, hok2⟩ := putB_ok hok (idx (C i) m) (B i) (by omega)
            generalize putB s (idx (C i) m) (B i) = S at H hok2
            have H : Hp hB [] h' ([⟨e, true, T_burinlaw4_Script, [.int .i64 (m : Nat), .slice (some a) slen scap]⟩] ++ codL p q r3 S rest3 ++ refL A r4 S rest4) := H
            refine bindI_of (((i % 97 : Nat) : Int)) (by exact tmod_nat i 97) ?_
            refine bcase_of (fun h3 => ?_) fun h3 => ?_
            · try simp only [ptr_some_eq, add_mk, Nat.zero_add]
              refine states_ok (st := S.st) H 1 2 rfl rfl (by rw [hok2.len]; omega) (by rw [hok2.len]; omega) fun o1 or1 h H => ?_
              refine ⟨_, _, _, rfl, ?_⟩
              try simp only [ptr_some_eq, add_mk, Nat.zero_add]
              refine rstates_ok (st := S.st) (H.give [4, 5, 6, 7, 8] (by decide) rfl) hok2.wf.st (by rw [hok2.len]; omega) (by rw [hok2.len]; omega) fun o2 or2 h' H' => ?_
              replace H := H.back [4,5,6,7,8] (by decide) rfl rfl H' (by first | rfl | simp_all [decL, decE, codL, codE, BOk]) (Nat.le_of_ble_eq_true rfl)
              clear H'
              refine ⟨_, _, _, rfl, ?_⟩
              refine eq_ok (xs := S.st) (ys := S.st) (row_rdO H 9 rfl) (row_rdO H 10 rfl) (by rw [hok2.len]; omega) ?_
              refine ⟨_, rfl, ?_⟩
              refine bcase_false (by simp) ?_
              refine over_ok (H.give [9] (by decide) rfl) (by rw [hok2.len]; omega) rfl fun e9 h' hw H' => ?_
              replace H := H.back [9] (by decide) rfl rfl H' (by simp [hw]) (Nat.le_of_ble_eq_true rfl)
              refine bindI_of (((i + 1 : Nat) : Int)) (by exact i64_at _ _ (by omega) (by omega) (by omega)) ?_
              exact ⟨n - 1, by omega, i + 1, S, n2, r3, r4, rest3, rest4, by omega, rfl, by omega, hok2, H.take 9⟩
            · refine bindI_of (((i + 1 : Nat) : Int)) (by exact i64_at _ _ (by omega) (by omega) (by omega)) ?_
              exact ⟨n - 1, by omega, i + 1, S, n2, r3, r4, rest3, rest4, by omega, rfl, by omega, hok2, H⟩
          · simp only [decide_eq_false (show ¬ ((i : Nat) : Int) < 6000 by omega)]
            exact ⟨s, n', r', r2', rest', rest2', by omega, hok, H⟩
        · simp only [decide_eq_false (show ¬ ((i : Nat) : Int) < ((slen : Nat) : Int) by omega)]
          exact ⟨s, n', r', r2', rest', rest2', by omega, hok, H⟩
      · clear H
        rintro h u ⟨s, n', r', r2', rest', rest2', hni, hok, H⟩
        refine flush_ok (H.give [1, 2, 3] (by decide) rfl) hok.wf hok.done fun r3 rest3 o orest h' H' => ?_
        replace H := H.back [1,2,3] (by decide) rfl rfl H' (by first | rfl | simp_all [decL, decE, codL, codE, BOk]) (Nat.le_of_ble_eq_true rfl)
        clear H'
        refine ⟨_, _, _, _, rfl, ?_⟩
        refine rflush_ok (H.give [4, 5, 6, 7, 8] (by decide) rfl) hok.wf hok.done fun r4 rest4 o2 orest2 h' H' => ?_
        replace H := H.back [4,5,6,7,8] (by decide) rfl rfl H' (by first | rfl | simp_all [decL, decE, codL, codE, BOk]) (Nat.le_of_ble_eq_true rfl)
        clear H'
        refine ⟨_, _, _, _, rfl, ?_⟩
        refine bcase_false (by rfl) ?_
        have hst := (flushM_keep s).1
        have hsl : (flushM s).st.length = m := by rw [hst]; exact hok.len
        have hfl := fl_len hok (by omega)
        have hw94 : ∀ x ∈ (flushM s).st, x < 94 := by rw [hst]; exact hok.wf.st
        have hdone : (flushM s).done = true := by
          have h1 : (flushS { s with c := flushC s, done := true }).done = true := (outM_same _).2.2.2.1
          exact (outM_same _).2.2.2.1.trans h1
        clear hst
        generalize flushM s = S at H hsl hfl hw94 hdone ⊢
        have H : Hp hB [] h' ([⟨e, true, T_burinlaw4_Script, [.int .i64 (m : Nat), .slice sq slen scap]⟩] ++ codL p q r3 S rest3 ++ refL A r4 S rest4 ++ [⟨o, true, T_uint8, u8s (bytesM S) ++ orest⟩, ⟨o2, true, T_uint8, u8s (bytesM S) ++ orest2⟩]) := H
        generalize hbs : bytesM S = bs at H hfl ⊢
        refine eq_ok (xs := bs) (ys := bs) (row_rdO H 9 rfl) (row_rdO H 10 rfl) hfl ?_
        refine ⟨_, rfl, ?_⟩
        refine bcase_false (by simp) ?_
        try simp only [ptr_some_eq, add_mk, Nat.zero_add]
        refine states_ok (st := S.st) H 1 2 rfl rfl (by omega) (by omega) fun o3 or3 h H => ?_
        refine ⟨_, _, _, rfl, ?_⟩
        try simp only [ptr_some_eq, add_mk, Nat.zero_add]
        refine rstates_ok (st := S.st) (H.give [4, 5, 6, 7, 8] (by decide) rfl) hw94 (by omega) (by omega) fun o4 or4 h' H' => ?_
        replace H := H.back [4,5,6,7,8] (by decide) rfl rfl H' (by first | rfl | simp_all [decL, decE, codL, codE, BOk]) (Nat.le_of_ble_eq_true rfl)
        clear H'
        refine ⟨_, _, _, rfl, ?_⟩
        refine eq_ok (xs := S.st) (ys := S.st) (row_rdO H 11 rfl) (row_rdO H 12 rfl) (by omega) ?_
        refine ⟨_, rfl, ?_⟩
        refine bcase_false (by simp) ?_
        refine over_ok (H.give [9] (by decide) rfl) hfl rfl fun e9 h' hw H' => ?_
        replace H := H.back [9] (by decide) rfl rfl H' (by simp [hw]) (Nat.le_of_ble_eq_true rfl)
        have H2 := H.pick (L' := codL p q r3 S rest3) [1, 2, 3] (by decide) rfl
        refine flush_done H2 hdone ?_
        refine ⟨_, _, _, _, rfl, ?_⟩
        refine bcase_true (by rfl) ?_
        refine bcase_true (by rfl) ?_
        refine put_done H2 hdone ?_
        refine ⟨_, rfl, ?_⟩
        refine bcase_true (by rfl) ?_
        exact wakes_ok fun h' e => ⟨_, rfl, hk _ (H2.hext.trans e)⟩

end Go.Ar
