/- ShC: the law ArithShort, said of memory. -/
import Derived.Test.YtlmopdohgipbeaaShB
import Derived.Test.YtlmopdohgipbeaaArH
import Derived.Test.YtlmopdohgipbeaaDen
import Derived.Test.YtlmopdohgipbeaaBlaw4ArithShort
set_option linter.unusedVariables false
set_option linter.unusedSimpArgs false
namespace Go.Ar
open Go Go.Den Go.Den.Ytlmopdohgipbeaa

set_option maxRecDepth 100000 in
theorem short_law {hB : Heap} {n0 : Int} {sq : Option Addr} {slen scap : Nat} (hv0 : SV hB sq slen) {K : Value → Heap → Prop} {Kp : List PanicEntry → Heap → Prop} (hk : ∀ h', hext hB h' → K (.bool true) h') :
    CP F_burinlaw4_ArithShort #[.agg #[.int .i64 n0, .slice sq slen scap]] hB K Kp := by
  refine call_burinlaw4_ArithShort ?_
  unfold burinlaw4_ArithShort
  obtain ⟨C, B, hv⟩ := hv0.fn
  have H := Hp.nil hB []
  refine newC_hp H fun e h H => ?_
  try simp only [ptr_some_eq, add_mk, Nat.zero_add, Nat.add_zero]
  refine ldI_of (H.cell 0 rfl rfl) ?_
  refine within_ok (n := 12) (by decide) (by decide) ?_
  refine ⟨_, rfl, ?_⟩
  have hi40 := idx_lt n0 (n := 12) (by decide)
  generalize hm : 1 + idx n0 12 = m
  have hm1 : 1 ≤ m := by omega
  have hm3 : m ≤ 12 := by omega
  refine bindI_of (((m : Nat) : Int)) (by exact i64_at _ _ (by omega) (by omega) (by omega)) ?_
  refine new_ok hm1 (by omega) fun p q r h' H' => ?_
  replace H := H.join H' rfl
  clear H'
  refine ⟨_, _, rfl, ?_⟩
  refine bcase_false (by rfl) ?_
  refine bcase_false (by rfl) ?_
  obtain ⟨bb, hbb⟩ : ∃ bb : Nat → Nat, bb = fun k => if k < slen then bit1 (B k) else 0 := ⟨_, rfl⟩
  have hb1 : ∀ k, bb k ≤ 1 := fun k => by rw [hbb]; simp only []; split; exact bit1_le _; omega
  have hsb := short_bs m bb hm1 hm3 fun k _ => hb1 k
  refine ⟨fun n vs h' => ∃ (i r' : Nat) (rest' : List Value), i + n = 20000 ∧ vs = [.int .i64 (i : Int)] ∧ Hp hB [] h' ([⟨e, true, T_burinlaw4_Script, [.int .i64 n0, .slice sq slen scap]⟩] ++ codL p q r' (alN m bb i) rest'), ⟨20000, 0, r, [], rfl, rfl, H⟩, ?_⟩
  clear H
  rintro n h u x ⟨i, r', rest', hin, hx, H⟩
  injection hx with hx
  injection hx with _ hx
  subst hx
  have hok := codN_ok (alk m) (alb m bb) m i (by omega)
  refine bcase_of (fun h1 => ?_) fun h1 => ?_
  · have h1 : i < 20000 := by simp at h1; omega
    have hmi := Nat.mod_lt i (show m > 0 by omega)
    refine needs_of (by first | exact ⟨rfl, by omega⟩ | exact ⟨trivial, by omega⟩) ?_
    refine bindI_of (((i % m : Nat) : Int)) (by exact tmod_nat i m) ?_
    try simp only [ptr_some_eq, add_mk, Nat.zero_add, Nat.add_zero]
    have put : ∀ {b : Int}, b = ((bb (i % m) : Nat) : Int) → CP F_arith_Coder_Put #[.pointer (at0 p), .int .i64 ((i % m : Nat) : Int), .int .i64 b] h (fun v_26 h_27 =>
        ∃ (r_28 : Int), v_26 = .int .i64 r_28 ∧ (
        bcase (r_28 != (0 : Int)) (
        K (.bool false) h_27) <|
        bindI (IntKind.i64.wrap (((i : Nat) : Int) + (1 : Int))) fun z_29 =>
        ∃ m_15, m_15 < n ∧ ∃ (i r' : Nat) (rest' : List Value), i + m_15 = 20000 ∧ [Value.int .i64 z_29] = [.int .i64 (i : Int)] ∧ Hp hB [] h_27 ([⟨e, true, T_burinlaw4_Script, [.int .i64 n0, .slice sq slen scap]⟩] ++ codL p q r' (alN m bb i) rest'))) Kp := by
      intro b hb
      subst hb
      refine put_ok (H.give [1, 2, 3] (by decide) rfl) hok.wf hok.done (by rw [hok.n]; omega) (by rw [hok.len]; omega) (by rw [hok.len]; omega) (hb1 _) fun r2 rest2 h' H' => ?_
      rw [hok.len, idx_nat hmi, show putM (codN (alk m) (alb m bb) m i) (i % m) (bb (i % m)) = alN m bb (i + 1) from rfl] at H'
      replace H := H.put [1,2,3] (by decide) rfl (by first | rfl | simp_all [decL, decE, codL, codE, BOk]) H' (by first | rfl | simp_all [decL, decE, codL, codE, BOk]) rfl
      clear H'
      refine ⟨_, rfl, ?_⟩
      refine bcase_false (by rfl) ?_
      refine bindI_of (((i + 1 : Nat) : Int)) (by exact i64_at _ _ (by omega) (by omega) (by omega)) ?_
      exact ⟨n - 1, by omega, i + 1, r2, rest2, by omega, rfl, H⟩
    refine ldS_of (H.cell 0 rfl rfl) ?_
    rcases Nat.lt_or_ge (i % m) slen with h2 | h2
    · simp only [decide_eq_true (show ((i % m : Nat) : Int) < ((slen : Nat) : Int) by omega)]
      refine bcase_true rfl ?_
      refine ldS_of (H.cell 0 rfl rfl) ?_
      refine needs_of (by omega) ?_
      obtain ⟨a, rfl, hc, hb⟩ := hv (i % m) h2
      simp only [add_zero', add_add', Int.toNat_natCast, ptr_some_eq]
      refine ldI_of (H.fr.cell (by simp) hb) ?_
      refine bindI_of (((bit1 (B (i % m)) : Nat) : Int)) (by exact bit1_of (B (i % m))) ?_
      refine put ?_
      rw [hbb]
      simp only [if_pos h2]
    · simp only [decide_eq_false (show ¬ ((i % m : Nat) : Int) < ((slen : Nat) : Int) by omega)]
      refine bcase_false rfl ?_
      refine put ?_
      rw [hbb]
      simp only [if_neg (show ¬ i % m < slen by omega)]
      rfl
  · have h1 : i = 20000 := by simp at h1; omega
    subst h1
    have hfb := flush_bs hok.wf
    have hsb : (codN (alk m) (alb m bb) m 20000).bs.length ≤ 6 + 3 * m := hsb
    refine flush_ok (H.give [1, 2, 3] (by decide) rfl) hok.wf hok.done fun r2 rest2 o orest h' H' => ?_
    replace H := H.back [1,2,3] (by decide) rfl rfl H' (by first | rfl | simp_all [decL, decE, codL, codE, BOk]) (Nat.le_of_ble_eq_true rfl)
    clear H'
    refine ⟨_, _, _, _, rfl, ?_⟩
    refine bcase_true (by rfl) ?_
    refine bindI_of (((3 * m : Nat) : Int)) (by exact i64_at _ _ (by omega) (by omega) (by omega)) ?_
    refine bindI_of (((8 + 3 * m : Nat) : Int)) (by exact i64_at _ _ (by omega) (by omega) (by omega)) ?_
    simp only [decide_eq_true (show (((bytesM (flushM (codN (alk m) (alb m bb) m 20000))).length : Nat) : Int) ≤ ((8 + 3 * m : Nat) : Int) by omega)]
    refine bcase_true rfl ?_
    refine wakes_ok fun h' e => ?_
    exact ⟨_, rfl, hk _ (H.hext.trans e)⟩

theorem list2 {α : Type} {l : List α} (h : l.length = 2) : ∃ a b, l = [a, b] := by
  match l, h with
  | [a, b], _ => exact ⟨a, b, rfl⟩
/-- A script as it comes in. -/
theorem script_arg {h : Heap} {cs : Array Value} (hsz : cs.size = Go.Proofs.Try.prog.cellsOf T_burinlaw4_Script) (hw : WDx Go.Proofs.Try.prog h T_burinlaw4_Script cs.toList) : ∃ n q len cap, cs = #[.int .i64 n, .slice q len cap] ∧ SV h q len := by
  have k : Go.Proofs.Try.prog.cellsOf T_burinlaw4_Script = 2 := by kernel_rfl
  rw [k] at hsz
  obtain ⟨c0, c1, rfl⟩ := Go.Joins.array2 hsz
  obtain ⟨_, hf⟩ := wd_struct Go.Proofs.Try.underlying59 hw
  have k1 : Go.Proofs.Try.prog.cellsOf T_int = 1 := by kernel_rfl
  have k2 : Go.Proofs.Try.prog.cellsOf T_s_burinlaw4_Decision = 1 := by kernel_rfl
  have k3 : Go.Proofs.Try.prog.cellsOf T_burinlaw4_Decision = 2 := by kernel_rfl
  have f0 : WDx _ h T_int (([c0, c1].drop 0).take (Go.Proofs.Try.prog.cellsOf T_int)) := hf 0 _ rfl
  have f1 : WDx _ h T_s_burinlaw4_Decision (([c0, c1].drop 1).take (Go.Proofs.Try.prog.cellsOf T_s_burinlaw4_Decision)) := hf 1 _ rfl
  rw [k1] at f0
  rw [k2] at f1
  obtain ⟨n, e0, _⟩ := wd_int Go.Proofs.Try.underlying3 f0
  obtain ⟨q, len, cap, e1, _, _, _, h4⟩ := wd_slice Go.Proofs.Try.underlying57 f1
  simp only [List.drop_zero, List.drop_succ_cons, List.take_succ_cons, List.take_zero, List.cons.injEq, and_true] at e0 e1
  subst e0 e1
  refine ⟨n, q, len, cap, rfl, fun i hi => ?_⟩
  obtain ⟨a, cs', ha, hr, hd⟩ := h4 i hi
  obtain ⟨hl, hf⟩ := wd_struct Go.Proofs.Try.underlying64 hd
  rw [k3] at hl hr
  obtain ⟨d0, d1, rfl⟩ := list2 hl
  have g0 : WDx _ h T_int (([d0, d1].drop 0).take (Go.Proofs.Try.prog.cellsOf T_int)) := hf 0 _ rfl
  have g1 : WDx _ h T_int (([d0, d1].drop 1).take (Go.Proofs.Try.prog.cellsOf T_int)) := hf 1 _ rfl
  rw [k1] at g0 g1
  obtain ⟨c, e0, _⟩ := wd_int Go.Proofs.Try.underlying3 g0
  obtain ⟨b, e1, _⟩ := wd_int Go.Proofs.Try.underlying3 g1
  simp only [List.drop_zero, List.drop_succ_cons, List.take_succ_cons, List.take_zero, List.cons.injEq, and_true] at e0 e1
  subst e0 e1
  refine ⟨a, c, b, ha, ?_, ?_⟩
  · have := hr.2 0 _ rfl
    rw [add_zero'] at this
    exact this
  · have := hr.2 1 _ rfl
    rw [add_add'] at this
    exact this
theorem short_arg {h : Heap} {cs : Array Value} (hsz : cs.size = Go.Proofs.Try.prog.cellsOf T_burinlaw4_Script) (hw : WDx Go.Proofs.Try.prog h T_burinlaw4_Script cs.toList) {K : Value → Heap → Prop} {Kp : List PanicEntry → Heap → Prop} (hk : ∀ h', hext h h' → K (.bool true) h') :
    CP F_burinlaw4_ArithShort #[.agg cs] h K Kp := by
  obtain ⟨n, q, len, cap, rfl, hv⟩ := script_arg hsz hw
  exact short_law hv hk

end Go.Ar
