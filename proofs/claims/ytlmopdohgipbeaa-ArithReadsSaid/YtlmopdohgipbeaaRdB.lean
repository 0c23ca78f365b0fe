/- RdB: the law ArithReads, said of memory. -/
import Derived.Test.YtlmopdohgipbeaaRdA
import Derived.Test.YtlmopdohgipbeaaBlaw4ArithReads
set_option linter.unusedVariables false
set_option linter.unusedSimpArgs false
namespace Go.Ar
open Go Go.Den Go.Den.Ytlmopdohgipbeaa

set_option maxRecDepth 100000 in
set_option maxHeartbeats 1000000 in
theorem reads_law {hB : Heap} {bq : Option Addr} {bs : List Nat} {bcap : Nat} {n0 : Int} {sq : Option Addr} {slen scap : Nat} (hb8 : ∀ x ∈ bs, x < 256) (hbl : bs.length < 140737488351300) (hr : rdO hB bq (bs.length * 1) (u8s bs))
    (hv0 : ∃ C : Nat → Int, ∀ i, i < slen → ∃ a, sq = some a ∧ hcell hB (a.add (i * 1)) = some (.int .i64 (C i)))
    {K : Value → Heap → Prop} {Kp : List PanicEntry → Heap → Prop} (hk : ∀ h', hext hB h' → K (.bool true) h') :
    CP F_burinlaw4_ArithReads #[.agg #[.slice bq bs.length bcap, .int .i64 n0, .slice sq slen scap]] hB K Kp := by
  refine call_burinlaw4_ArithReads ?_
  unfold burinlaw4_ArithReads
  obtain ⟨C, hv⟩ := hv0
  have H := Hp.nil hB []
  refine newC_hp H fun e h H => ?_
  try simp only [ptr_some_eq, add_mk, Nat.zero_add, Nat.add_zero]
  refine ldS_of (H.cell 0 rfl rfl) ?_
  refine lend_ok (H.rdO hr) hbl fun o rest c h' hc H' => ?_
  replace H := H.join H' rfl
  clear H'
  refine ⟨_, _, _, rfl, ?_⟩
  refine ldI_of (H.cell 0 rfl rfl) ?_
  by_cases hbad : n0 < 1 ∨ 131072 < n0
  · refine newDecoder_bad hbad fun h' e' => ?_
    have H := H.ext e'
    refine ⟨_, _, rfl, ?_⟩
    refine ldS_of (H.cell 0 rfl rfl) ?_
    refine back_ok (H.give [1] (by decide) rfl) (H.rdO hr) hbl hc fun cs h' H' => ?_
    replace H := H.put [1] (by decide) rfl rfl H' rfl rfl
    refine ⟨_, rfl, ?_⟩
    refine bcase_false (by rfl) ?_
    refine ldI_of (H.cell 0 rfl rfl) ?_
    rcases Int.lt_or_le n0 1 with h1 | h1
    · simp only [decide_eq_true h1]
      refine bcase_true rfl ?_
      refine bcase_true (by rfl) ?_
      refine bcase_true (by rfl) ?_
      exact wakes_ok fun h' e => ⟨_, rfl, hk _ (H.hext.trans e)⟩
    · simp only [decide_eq_false (show ¬ n0 < 1 by omega)]
      refine bcase_false rfl ?_
      refine ldI_of (H.cell 0 rfl rfl) ?_
      simp only [decide_eq_true (show n0 > 131072 by omega)]
      refine bcase_true rfl ?_
      refine bcase_true (by rfl) ?_
      refine bcase_true (by rfl) ?_
      exact wakes_ok fun h' e => ⟨_, rfl, hk _ (H.hext.trans e)⟩
  · obtain ⟨m, rfl⟩ : ∃ m : Nat, n0 = (m : Nat) := ⟨n0.toNat, by omega⟩
    have hm1 : 1 ≤ m := by omega
    have hm2 : m ≤ 131072 := by omega
    refine newDecoder_ok hm1 hm2 hb8 hbl (row_rdO H 1 rfl) fun p q eb bp bc h' hbo H' => ?_
    replace H := H.join H' (by simp [decL, decE, hbo.1])
    clear H'
    refine ⟨_, _, rfl, ?_⟩
    refine ldS_of (H.cell 0 rfl rfl) ?_
    refine back_ok (H.give [1] (by decide) rfl) (H.rdO hr) hbl hc fun cs h' H' => ?_
    replace H := H.put [1] (by decide) rfl rfl H' rfl rfl
    clear H'
    have H : Hp hB [] h' ([⟨e, true, T_burinlaw4_Reading, [.slice bq bs.length bcap, .int .i64 (m : Nat), .slice sq slen scap]⟩, ⟨o, true, T_uint8, cs⟩] ++ decL p q eb bp bc (newD bs m)) := H
    refine ⟨_, rfl, ?_⟩
    refine bcase_false (by rfl) ?_
    refine ldI_of (H.cell 0 rfl rfl) ?_
    simp only [decide_eq_false (show ¬ ((m : Nat) : Int) < 1 by omega)]
    refine bcase_false rfl ?_
    refine ldI_of (H.cell 0 rfl rfl) ?_
    simp only [decide_eq_false (show ¬ ((m : Nat) : Int) > 131072 by omega)]
    refine bcase_false rfl ?_
    refine bcase_false (by rfl) ?_
    refine bcase_false (by rfl) ?_
    try simp only [ptr_some_eq, add_mk, Nat.zero_add, Nat.add_zero]
    refine ldI_of (H.cell 0 rfl rfl) ?_
    have hok := newD_ok hb8 m
    refine contexts_ok (n := (newD bs m).st.length) H 2 rfl ?_
    rw [hok.len]
    refine ⟨_, rfl, hext.refl _, ?_⟩
    refine bcase_false (by simp) ?_
    refine ldI_of (H.cell 0 rfl rfl) ?_
    by_cases h5 : m > 5000
    · simp only [decide_eq_true (show ((m : Nat) : Int) > 5000 by omega)]
      refine bcase_true rfl ?_
      exact wakes_ok fun h' e => ⟨_, rfl, hk _ (H.hext.trans e)⟩
    · simp only [decide_eq_false (show ¬ ((m : Nat) : Int) > 5000 by omega)]
      refine bcase_false rfl ?_
      refine ldS_of (H.cell 0 rfl rfl) ?_
      refine ldI_of (H.cell 0 rfl rfl) ?_
      refine rnewD_ok hm2 hb8 hbl (H.rdO hr) fun A eb2 bp2 bc2 h' hbo2 H' => ?_
      replace H := H.join H' (by simp [refD, sideL, hbo2.1])
      clear H'
      generalize newD bs m = S at H hok
      have H : Hp hB [] h' ([⟨e, true, T_burinlaw4_Reading, [.slice bq bs.length bcap, .int .i64 (m : Nat), .slice sq slen scap]⟩, ⟨o, true, T_uint8, cs⟩] ++ decL p q eb bp bc S ++ refD A eb2 bp2 bc2 S) := H
      refine ⟨_, rfl, ?_⟩
      refine ⟨fun vs h' => ∃ (s : Dec) (n' : Nat), n' ≤ 6000 ∧ DecOk bs m n' s ∧ Hp hB [] h' ([⟨e, true, T_burinlaw4_Reading, [.slice bq bs.length bcap, .int .i64 (m : Nat), .slice sq slen scap]⟩, ⟨o, true, T_uint8, cs⟩] ++ decL p q eb bp bc s ++ refD A eb2 bp2 bc2 s), ?_, ?_⟩
      · refine ⟨fun n vs h' => ∃ (i : Nat) (s : Dec), i + n = 6000 ∧ vs = [.int .i64 (i : Int)] ∧ DecOk bs m i s ∧ Hp hB [] h' ([⟨e, true, T_burinlaw4_Reading, [.slice bq bs.length bcap, .int .i64 (m : Nat), .slice sq slen scap]⟩, ⟨o, true, T_uint8, cs⟩] ++ decL p q eb bp bc s ++ refD A eb2 bp2 bc2 s),
          ⟨6000, 0, S, rfl, rfl, hok, H⟩, ?_⟩
        clear H hok
        rintro n h u x ⟨i, s, hin, hx, hok, H⟩
        injection hx with hx
        injection hx with _ hx
        subst hx
        refine ldS_of (H.cell 0 rfl rfl) ?_
        rcases Nat.lt_or_ge i slen with h1 | h1
        · simp only [decide_eq_true (show ((i : Nat) : Int) < ((slen : Nat) : Int) by omega)]
          refine bcase_true rfl ?_
          rcases Nat.lt_or_ge i 6000 with h2 | h2
          · simp only [decide_eq_true (show ((i : Nat) : Int) < 6000 by omega)]
            refine bcase_true rfl ?_
            obtain ⟨a, rfl, hc1⟩ := hv i h1
            simp only [add_zero', add_add', Int.toNat_natCast, ptr_some_eq]
            refine ldS_of (H.cell 0 rfl rfl) ?_
            refine needs_of (by omega) (ldI_of (H.fr.cell (by simp) hc1) ?_)
            refine get_ok (H.give [2, 3, 4] (by decide) rfl) (by rw [hok.b]; exact hbo) hok.wf (by rw [hok.b]; exact hbl) (by rw [hok.n]; omega) (by rw [hok.len]; omega) (by rw [hok.len]; omega) fun h' H' => ?_
            replace H := H.put [2, 3, 4] (by decide) rfl (by simp [decL, decE, hbo.1]) H' (by simp [decL, decE, hbo.1]) rfl
            clear H'
            rw [hok.len] at H ⊢
            have H : Hp hB [] h' ([⟨e, true, T_burinlaw4_Reading, [.slice bq bs.length bcap, .int .i64 (m : Nat), .slice (some a) slen scap]⟩, ⟨o, true, T_uint8, cs⟩] ++ decL p q eb bp bc (getD s (idx (C i) m)).1 ++ refD A eb2 bp2 bc2 s) := H
            refine ⟨_, _, rfl, ?_⟩
            refine ldS_of (H.cell 0 rfl rfl) ?_
            refine needs_of (by omega) (ldI_of (H.fr.cell (by simp) hc1) ?_)
            refine rget_ok (H.give [5, 6, 7, 8, 9] (by decide) rfl) (by rw [hok.b]; exact hbo2) hok.wf (by rw [hok.b]; exact hbl) (by rw [hok.n]; omega) (by rw [hok.len]; omega) (by rw [hok.len]; omega) fun h' H' => ?_
            replace H := H.put [5, 6, 7, 8, 9] (by decide) rfl (by simp [refD, sideL, hbo2.1]) H' (by simp [refD, sideL, hbo2.1]) rfl
            clear H'
            have hok2 := getD_ok hok (idx (C i) m) (by omega)
            rw [hok.len] at H ⊢
            generalize getD s (idx (C i) m) = S2 at H hok2 ⊢
            obtain ⟨s2, bit⟩ := S2
            have H : Hp hB [] h' ([⟨e, true, T_burinlaw4_Reading, [.slice bq bs.length bcap, .int .i64 (m : Nat), .slice (some a) slen scap]⟩, ⟨o, true, T_uint8, cs⟩] ++ decL p q eb bp bc s2 ++ refD A eb2 bp2 bc2 s2) := H
            have hok2 : DecOk bs m (i + 1) s2 := hok2
            refine ⟨_, _, rfl, ?_⟩
            refine bcase_false (by simp) ?_
            refine bcase_false (by rfl) ?_
            refine bindI_of (((i % 97 : Nat) : Int)) (by exact tmod_nat i 97) ?_
            refine bcase_of (fun h3 => ?_) fun h3 => ?_
            · try simp only [ptr_some_eq, add_mk, Nat.zero_add]
              refine states_ok (st := s2.st) H 2 3 rfl rfl (by rw [hok2.len]; omega) (by rw [hok2.len]; omega) fun o1 or1 h H => ?_
              refine ⟨_, _, _, rfl, ?_⟩
              try simp only [ptr_some_eq, add_mk, Nat.zero_add]
              refine rstates_ok (st := s2.st) (H.give [5, 6, 7, 8, 9] (by decide) rfl) hok2.wf.st (by rw [hok2.len]; omega) (by rw [hok2.len]; omega) fun o2 or2 h' H' => ?_
              replace H := H.back [5, 6, 7, 8, 9] (by decide) rfl (by simp [sideL, hbo2.1]) H' (by simp [sideL, hbo2.1]) (Nat.le_of_ble_eq_true rfl)
              clear H'
              refine ⟨_, _, _, rfl, ?_⟩
              refine eq_ok (xs := s2.st) (ys := s2.st) (row_rdO H 10 rfl) (row_rdO H 11 rfl) (by rw [hok2.len]; omega) ?_
              refine ⟨_, rfl, ?_⟩
              refine bcase_false (by simp) ?_
              refine bindI_of (((i + 1 : Nat) : Int)) (by exact i64_at _ _ (by omega) (by omega) (by omega)) ?_
              exact ⟨n - 1, by omega, i + 1, s2, by omega, rfl, hok2, H.take 10⟩
            · refine bindI_of (((i + 1 : Nat) : Int)) (by exact i64_at _ _ (by omega) (by omega) (by omega)) ?_
              exact ⟨n - 1, by omega, i + 1, s2, by omega, rfl, hok2, H⟩
          · simp only [decide_eq_false (show ¬ ((i : Nat) : Int) < 6000 by omega)]
            exact ⟨s, i, by omega, hok, H⟩
        · simp only [decide_eq_false (show ¬ ((i : Nat) : Int) < ((slen : Nat) : Int) by omega)]
          exact ⟨s, i, by omega, hok, H⟩
      · clear H hok
        rintro h u ⟨s2, n', hni, hok2, H⟩
        try simp only [ptr_some_eq, add_mk, Nat.zero_add]
        refine states_ok (st := s2.st) H 2 3 rfl rfl (by rw [hok2.len]; omega) (by rw [hok2.len]; omega) fun o1 or1 h H => ?_
        refine ⟨_, _, _, rfl, ?_⟩
        try simp only [ptr_some_eq, add_mk, Nat.zero_add]
        refine rstates_ok (st := s2.st) (H.give [5, 6, 7, 8, 9] (by decide) rfl) hok2.wf.st (by rw [hok2.len]; omega) (by rw [hok2.len]; omega) fun o2 or2 h' H' => ?_
        replace H := H.back [5, 6, 7, 8, 9] (by decide) rfl (by simp [sideL, hbo2.1]) H' (by simp [sideL, hbo2.1]) (Nat.le_of_ble_eq_true rfl)
        clear H'
        refine ⟨_, _, _, rfl, ?_⟩
        refine eq_ok (xs := s2.st) (ys := s2.st) (row_rdO H 10 rfl) (row_rdO H 11 rfl) (by rw [hok2.len]; omega) ?_
        refine ⟨_, rfl, ?_⟩
        refine bcase_true (by simp) ?_
        exact wakes_ok fun h' e => ⟨_, rfl, hk _ (H.hext.trans e)⟩

end Go.Ar
