/- The given statement RefineRowSaid is proved of the given program; there are no further conditions. W6: put together by wip/tools/bundle.py: RfZZ RfARow ArLink2 RfRow. -/
import Derived.Test.YtcicfilkdhhnmaaW1
import Derived.Test.YtcicfilkdhhnmaaW2
import Derived.Test.YtcicfilkdhhnmaaW3
import Derived.Test.YtcicfilkdhhnmaaW4
import Derived.Test.YtcicfilkdhhnmaaW5
import Derived.Test.YtcicfilkdhhnmaaProg
import Derived.WalkKit
import Derived.ProofKit
import Derived.OpenShut
import Derived.Carry
import Derived.Deep.SlicePairs
import Derived.Lib.SmallJoins
import Derived.Test.YtcicfilkdhhnmaaRows

/- RfZZ: the law RefineRow, said of memory. -/
set_option linter.unusedVariables false
set_option linter.unusedSimpArgs false
namespace Go.Bm
open Go Go.Den Go.Den.Ytcicfilkdhhnmaa
open Go.Ar (Dec Cod CodOk newC newC_ok codL decL refL RP codN decN newD newD_ok u8s BOk bytesM flushM)

set_option maxRecDepth 100000 in
set_option maxHeartbeats 8000000 in
theorem refRow_law {hB : Heap} {sq : Option Addr} {slen scap : Nat} {base0 : Int} (hv : AsksV hB sq slen) {K : Value → Heap → Prop} {Kp : List PanicEntry → Heap → Prop} (hk : ∀ h', hext hB h' → K (.bool true) h') :
    CP F_burinlaw8_RefineRow #[.agg #[.slice sq slen scap, .int .i64 base0]] hB K Kp := by
  refine call_burinlaw8_RefineRow ?_
  unfold burinlaw8_RefineRow
  obtain ⟨T, hT⟩ := asks_fn hv
  clear hv
  have fr : ∀ {h : Heap} {L : List Ent} {c : Addr} {v : Value}, Hp hB [] h L → hcell hB c = some v → hcell h c = some v := fun H hc => H.fr.cell (by simp) hc
  have H := Hp.nil hB []
  refine newC_hp H fun r3 h H => ?_
  refine ⟨fun vs h' => ∃ i : Nat, (i = slen ∨ i = 5) ∧ i ≤ slen ∧ i ≤ 5 ∧ (∀ j, j < i → (T j).ok) ∧ vs = [.int .i64 (offN T i : Nat)] ∧ Hp hB [] h' [⟨r3, true, T_burinlaw8_Row, [.slice sq slen scap, .int .i64 base0]⟩], ?_, ?_⟩
  · refine ⟨fun n vs h' => ∃ i : Nat, i + n = 6 ∧ i ≤ slen ∧ i ≤ 5 ∧ (∀ j, j < i → (T j).ok) ∧ vs = [.int .i64 (offN T i : Nat), .int .i64 (i : Nat)] ∧ Hp hB [] h' [⟨r3, true, T_burinlaw8_Row, [.slice sq slen scap, .int .i64 base0]⟩],
      ⟨6, 0, rfl, by omega, by omega, fun j hj => absurd hj (Nat.not_lt_zero _), rfl, H⟩, ?_⟩
    clear H
    rintro n h u x y ⟨i, hin, hi1, hi2, hgood, hxx, H⟩
    injection hxx with hx1 hxx
    injection hxx with hx2 hxx
    injection hx1 with _ hx1
    injection hx2 with _ hx2
    subst hx1 hx2
    repeat first | with_reducible refine ldI_of (by with_unfolding_all first | exact hpA H 0 rfl rfl | exact Hp.cell H 0 rfl rfl | exact hpB H 0 rfl rfl | exact hpC H 0 rfl rfl) ?_ | with_reducible refine ldS_of (by with_unfolding_all first | exact hpA H 0 rfl rfl | exact Hp.cell H 0 rfl rfl | exact hpB H 0 rfl rfl | exact hpC H 0 rfl rfl) ?_ | with_reducible refine ldP_of (by with_unfolding_all first | exact hpA H 0 rfl rfl | exact Hp.cell H 0 rfl rfl | exact hpB H 0 rfl rfl | exact hpC H 0 rfl rfl) ?_ | with_reducible refine ldB_of (by with_unfolding_all first | exact hpA H 0 rfl rfl | exact Hp.cell H 0 rfl rfl | exact hpB H 0 rfl rfl | exact hpC H 0 rfl rfl) ?_ | with_reducible refine ldT_of (by with_unfolding_all first | exact hpA H 0 rfl rfl | exact Hp.cell H 0 rfl rfl | exact hpB H 0 rfl rfl | exact hpC H 0 rfl rfl) ?_
    refine bcase_dec (fun h1 => ?_) fun h1 => ⟨i, by omega, hi1, hi2, hgood, rfl, H⟩
    refine bcase_dec (fun h2 => ?_) fun h2 => ⟨i, by omega, hi1, hi2, hgood, rfl, H⟩
    repeat first | with_reducible refine ldI_of (by with_unfolding_all first | exact hpA H 0 rfl rfl | exact Hp.cell H 0 rfl rfl | exact hpB H 0 rfl rfl | exact hpC H 0 rfl rfl) ?_ | with_reducible refine ldS_of (by with_unfolding_all first | exact hpA H 0 rfl rfl | exact Hp.cell H 0 rfl rfl | exact hpB H 0 rfl rfl | exact hpC H 0 rfl rfl) ?_ | with_reducible refine ldP_of (by with_unfolding_all first | exact hpA H 0 rfl rfl | exact Hp.cell H 0 rfl rfl | exact hpB H 0 rfl rfl | exact hpC H 0 rfl rfl) ?_ | with_reducible refine ldB_of (by with_unfolding_all first | exact hpA H 0 rfl rfl | exact Hp.cell H 0 rfl rfl | exact hpB H 0 rfl rfl | exact hpC H 0 rfl rfl) ?_ | with_reducible refine ldT_of (by with_unfolding_all first | exact hpA H 0 rfl rfl | exact Hp.cell H 0 rfl rfl | exact hpB H 0 rfl rfl | exact hpC H 0 rfl rfl) ?_
    obtain ⟨a, q1, c1, q2, c2, hsq, hC⟩ := hT i (by omega)
    refine needs_of (by omega) (ptr_eq hsq ?_)
    rw [Int.toNat_natCast]
    refine ldI_of (fr H hC.k0) (ldI_of (fr H hC.k1) (ldS_of (fr H hC.k2) (ldI_of (fr H hC.k3) (ldI_of (fr H hC.k4) (ldS_of (fr H hC.k5) (ldI_of (fr H hC.k6) (ldI_of (fr H hC.k7) ?_)))))))
    refine newC_hp H fun r26 h H => ?_
    repeat first | with_reducible refine ldI_of (by with_unfolding_all first | exact hpA H 0 rfl rfl | exact hpA H 1 rfl rfl | exact Hp.cell H 0 rfl rfl | exact Hp.cell H 1 rfl rfl | exact hpB H 0 rfl rfl | exact hpB H 1 rfl rfl | exact hpC H 0 rfl rfl | exact hpC H 1 rfl rfl) ?_ | with_reducible refine ldS_of (by with_unfolding_all first | exact hpA H 0 rfl rfl | exact hpA H 1 rfl rfl | exact Hp.cell H 0 rfl rfl | exact Hp.cell H 1 rfl rfl | exact hpB H 0 rfl rfl | exact hpB H 1 rfl rfl | exact hpC H 0 rfl rfl | exact hpC H 1 rfl rfl) ?_ | with_reducible refine ldP_of (by with_unfolding_all first | exact hpA H 0 rfl rfl | exact hpA H 1 rfl rfl | exact Hp.cell H 0 rfl rfl | exact Hp.cell H 1 rfl rfl | exact hpB H 0 rfl rfl | exact hpB H 1 rfl rfl | exact hpC H 0 rfl rfl | exact hpC H 1 rfl rfl) ?_ | with_reducible refine ldB_of (by with_unfolding_all first | exact hpA H 0 rfl rfl | exact hpA H 1 rfl rfl | exact Hp.cell H 0 rfl rfl | exact Hp.cell H 1 rfl rfl | exact hpB H 0 rfl rfl | exact hpB H 1 rfl rfl | exact hpC H 0 rfl rfl | exact hpC H 1 rfl rfl) ?_ | with_reducible refine ldT_of (by with_unfolding_all first | exact hpA H 0 rfl rfl | exact hpA H 1 rfl rfl | exact Hp.cell H 0 rfl rfl | exact Hp.cell H 1 rfl rfl | exact hpB H 0 rfl rfl | exact hpB H 1 rfl rfl | exact hpC H 0 rfl rfl | exact hpC H 1 rfl rfl) ?_ | with_reducible refine stA H 0 (by with_unfolding_all exact rfl) (by with_unfolding_all exact rfl) (by with_unfolding_all exact rfl) fun h H => ?_ | with_reducible refine stA H 1 (by with_unfolding_all exact rfl) (by with_unfolding_all exact rfl) (by with_unfolding_all exact rfl) fun h H => ?_ | with_reducible refine st0 H 0 (by with_unfolding_all exact rfl) (by with_unfolding_all exact rfl) (by with_unfolding_all exact rfl) fun h H => ?_ | with_reducible refine st0 H 1 (by with_unfolding_all exact rfl) (by with_unfolding_all exact rfl) (by with_unfolding_all exact rfl) fun h H => ?_ | with_reducible refine stB H 0 (by with_unfolding_all exact rfl) (by with_unfolding_all exact rfl) (by with_unfolding_all exact rfl) fun h H => ?_ | with_reducible refine stB H 1 (by with_unfolding_all exact rfl) (by with_unfolding_all exact rfl) (by with_unfolding_all exact rfl) fun h H => ?_
    refine may_ok (H.rdO hC.r1) hC.w1 hC.l1 fun bm h1 hbm e1 => ?_
    have H := H.ext e1
    clear e1
    refine ⟨_, rfl, ?_⟩
    refine bcase_not (fun h2 => wakes8_ok fun h' e => ⟨_, rfl, hk _ (H.hext.trans e)⟩) fun g1 => ?_
    repeat first | with_reducible refine ldI_of (by with_unfolding_all first | exact hpA H 0 rfl rfl | exact hpA H 1 rfl rfl | exact Hp.cell H 0 rfl rfl | exact Hp.cell H 1 rfl rfl | exact hpB H 0 rfl rfl | exact hpB H 1 rfl rfl | exact hpC H 0 rfl rfl | exact hpC H 1 rfl rfl) ?_ | with_reducible refine ldS_of (by with_unfolding_all first | exact hpA H 0 rfl rfl | exact hpA H 1 rfl rfl | exact Hp.cell H 0 rfl rfl | exact Hp.cell H 1 rfl rfl | exact hpB H 0 rfl rfl | exact hpB H 1 rfl rfl | exact hpC H 0 rfl rfl | exact hpC H 1 rfl rfl) ?_ | with_reducible refine ldP_of (by with_unfolding_all first | exact hpA H 0 rfl rfl | exact hpA H 1 rfl rfl | exact Hp.cell H 0 rfl rfl | exact Hp.cell H 1 rfl rfl | exact hpB H 0 rfl rfl | exact hpB H 1 rfl rfl | exact hpC H 0 rfl rfl | exact hpC H 1 rfl rfl) ?_ | with_reducible refine ldB_of (by with_unfolding_all first | exact hpA H 0 rfl rfl | exact hpA H 1 rfl rfl | exact Hp.cell H 0 rfl rfl | exact Hp.cell H 1 rfl rfl | exact hpB H 0 rfl rfl | exact hpB H 1 rfl rfl | exact hpC H 0 rfl rfl | exact hpC H 1 rfl rfl) ?_ | with_reducible refine ldT_of (by with_unfolding_all first | exact hpA H 0 rfl rfl | exact hpA H 1 rfl rfl | exact Hp.cell H 0 rfl rfl | exact Hp.cell H 1 rfl rfl | exact hpB H 0 rfl rfl | exact hpB H 1 rfl rfl | exact hpC H 0 rfl rfl | exact hpC H 1 rfl rfl) ?_
    refine may_ok (H.rdO hC.r2) hC.w2 hC.l2 fun bm2 h1 hbm2 e1 => ?_
    have H := H.ext e1
    clear e1
    refine ⟨_, rfl, ?_⟩
    refine bcase_not (fun h2 => wakes8_ok fun h' e => ⟨_, rfl, hk _ (H.hext.trans e)⟩) fun g2 => ?_
    repeat first | with_reducible refine ldI_of (by with_unfolding_all first | exact hpA H 0 rfl rfl | exact hpA H 1 rfl rfl | exact Hp.cell H 0 rfl rfl | exact Hp.cell H 1 rfl rfl | exact hpB H 0 rfl rfl | exact hpB H 1 rfl rfl | exact hpC H 0 rfl rfl | exact hpC H 1 rfl rfl) ?_ | with_reducible refine ldS_of (by with_unfolding_all first | exact hpA H 0 rfl rfl | exact hpA H 1 rfl rfl | exact Hp.cell H 0 rfl rfl | exact Hp.cell H 1 rfl rfl | exact hpB H 0 rfl rfl | exact hpB H 1 rfl rfl | exact hpC H 0 rfl rfl | exact hpC H 1 rfl rfl) ?_ | with_reducible refine ldP_of (by with_unfolding_all first | exact hpA H 0 rfl rfl | exact hpA H 1 rfl rfl | exact Hp.cell H 0 rfl rfl | exact Hp.cell H 1 rfl rfl | exact hpB H 0 rfl rfl | exact hpB H 1 rfl rfl | exact hpC H 0 rfl rfl | exact hpC H 1 rfl rfl) ?_ | with_reducible refine ldB_of (by with_unfolding_all first | exact hpA H 0 rfl rfl | exact hpA H 1 rfl rfl | exact Hp.cell H 0 rfl rfl | exact Hp.cell H 1 rfl rfl | exact hpB H 0 rfl rfl | exact hpB H 1 rfl rfl | exact hpC H 0 rfl rfl | exact hpC H 1 rfl rfl) ?_ | with_reducible refine ldT_of (by with_unfolding_all first | exact hpA H 0 rfl rfl | exact hpA H 1 rfl rfl | exact Hp.cell H 0 rfl rfl | exact Hp.cell H 1 rfl rfl | exact hpB H 0 rfl rfl | exact hpB H 1 rfl rfl | exact hpC H 0 rfl rfl | exact hpC H 1 rfl rfl) ?_
    refine light_ok (H.rdO hC.r1) hC.w1 hC.l1 fun bm3 h1 hbm3 e1 => ?_
    have H := H.ext e1
    clear e1
    refine ⟨_, rfl, ?_⟩
    refine bcase_not (fun h2 => wakes8_ok fun h' e => ⟨_, rfl, hk _ (H.hext.trans e)⟩) fun g3 => ?_
    repeat first | with_reducible refine ldI_of (by with_unfolding_all first | exact hpA H 0 rfl rfl | exact hpA H 1 rfl rfl | exact Hp.cell H 0 rfl rfl | exact Hp.cell H 1 rfl rfl | exact hpB H 0 rfl rfl | exact hpB H 1 rfl rfl | exact hpC H 0 rfl rfl | exact hpC H 1 rfl rfl) ?_ | with_reducible refine ldS_of (by with_unfolding_all first | exact hpA H 0 rfl rfl | exact hpA H 1 rfl rfl | exact Hp.cell H 0 rfl rfl | exact Hp.cell H 1 rfl rfl | exact hpB H 0 rfl rfl | exact hpB H 1 rfl rfl | exact hpC H 0 rfl rfl | exact hpC H 1 rfl rfl) ?_ | with_reducible refine ldP_of (by with_unfolding_all first | exact hpA H 0 rfl rfl | exact hpA H 1 rfl rfl | exact Hp.cell H 0 rfl rfl | exact Hp.cell H 1 rfl rfl | exact hpB H 0 rfl rfl | exact hpB H 1 rfl rfl | exact hpC H 0 rfl rfl | exact hpC H 1 rfl rfl) ?_ | with_reducible refine ldB_of (by with_unfolding_all first | exact hpA H 0 rfl rfl | exact hpA H 1 rfl rfl | exact Hp.cell H 0 rfl rfl | exact Hp.cell H 1 rfl rfl | exact hpB H 0 rfl rfl | exact hpB H 1 rfl rfl | exact hpC H 0 rfl rfl | exact hpC H 1 rfl rfl) ?_ | with_reducible refine ldT_of (by with_unfolding_all first | exact hpA H 0 rfl rfl | exact hpA H 1 rfl rfl | exact Hp.cell H 0 rfl rfl | exact Hp.cell H 1 rfl rfl | exact hpB H 0 rfl rfl | exact hpB H 1 rfl rfl | exact hpC H 0 rfl rfl | exact hpC H 1 rfl rfl) ?_
    refine light_ok (H.rdO hC.r2) hC.w2 hC.l2 fun bm4 h1 hbm4 e1 => ?_
    have H := H.ext e1
    clear e1
    refine ⟨_, rfl, ?_⟩
    refine bcase_not (fun h2 => wakes8_ok fun h' e => ⟨_, rfl, hk _ (H.hext.trans e)⟩) fun g4 => ?_
    repeat first | with_reducible refine ldI_of (by with_unfolding_all first | exact hpA H 0 rfl rfl | exact hpA H 1 rfl rfl | exact Hp.cell H 0 rfl rfl | exact Hp.cell H 1 rfl rfl | exact hpB H 0 rfl rfl | exact hpB H 1 rfl rfl | exact hpC H 0 rfl rfl | exact hpC H 1 rfl rfl) ?_ | with_reducible refine ldS_of (by with_unfolding_all first | exact hpA H 0 rfl rfl | exact hpA H 1 rfl rfl | exact Hp.cell H 0 rfl rfl | exact Hp.cell H 1 rfl rfl | exact hpB H 0 rfl rfl | exact hpB H 1 rfl rfl | exact hpC H 0 rfl rfl | exact hpC H 1 rfl rfl) ?_ | with_reducible refine ldP_of (by with_unfolding_all first | exact hpA H 0 rfl rfl | exact hpA H 1 rfl rfl | exact Hp.cell H 0 rfl rfl | exact Hp.cell H 1 rfl rfl | exact hpB H 0 rfl rfl | exact hpB H 1 rfl rfl | exact hpC H 0 rfl rfl | exact hpC H 1 rfl rfl) ?_ | with_reducible refine ldB_of (by with_unfolding_all first | exact hpA H 0 rfl rfl | exact hpA H 1 rfl rfl | exact Hp.cell H 0 rfl rfl | exact Hp.cell H 1 rfl rfl | exact hpB H 0 rfl rfl | exact hpB H 1 rfl rfl | exact hpC H 0 rfl rfl | exact hpC H 1 rfl rfl) ?_ | with_reducible refine ldT_of (by with_unfolding_all first | exact hpA H 0 rfl rfl | exact hpA H 1 rfl rfl | exact Hp.cell H 0 rfl rfl | exact Hp.cell H 1 rfl rfl | exact hpB H 0 rfl rfl | exact hpB H 1 rfl rfl | exact hpC H 0 rfl rfl | exact hpC H 1 rfl rfl) ?_
    refine may8_ok fun bt hbt => ?_
    refine ⟨_, rfl, ?_⟩
    refine bcase_not (fun h2 => wakes8_ok fun h' e => ⟨_, rfl, hk _ (H.hext.trans e)⟩) fun g5 => ?_
    repeat first | with_reducible refine ldI_of (by with_unfolding_all first | exact hpA H 0 rfl rfl | exact hpA H 1 rfl rfl | exact Hp.cell H 0 rfl rfl | exact Hp.cell H 1 rfl rfl | exact hpB H 0 rfl rfl | exact hpB H 1 rfl rfl | exact hpC H 0 rfl rfl | exact hpC H 1 rfl rfl) ?_ | with_reducible refine ldS_of (by with_unfolding_all first | exact hpA H 0 rfl rfl | exact hpA H 1 rfl rfl | exact Hp.cell H 0 rfl rfl | exact Hp.cell H 1 rfl rfl | exact hpB H 0 rfl rfl | exact hpB H 1 rfl rfl | exact hpC H 0 rfl rfl | exact hpC H 1 rfl rfl) ?_ | with_reducible refine ldP_of (by with_unfolding_all first | exact hpA H 0 rfl rfl | exact hpA H 1 rfl rfl | exact Hp.cell H 0 rfl rfl | exact Hp.cell H 1 rfl rfl | exact hpB H 0 rfl rfl | exact hpB H 1 rfl rfl | exact hpC H 0 rfl rfl | exact hpC H 1 rfl rfl) ?_ | with_reducible refine ldB_of (by with_unfolding_all first | exact hpA H 0 rfl rfl | exact hpA H 1 rfl rfl | exact Hp.cell H 0 rfl rfl | exact Hp.cell H 1 rfl rfl | exact hpB H 0 rfl rfl | exact hpB H 1 rfl rfl | exact hpC H 0 rfl rfl | exact hpC H 1 rfl rfl) ?_ | with_reducible refine ldT_of (by with_unfolding_all first | exact hpA H 0 rfl rfl | exact hpA H 1 rfl rfl | exact Hp.cell H 0 rfl rfl | exact Hp.cell H 1 rfl rfl | exact hpB H 0 rfl rfl | exact hpB H 1 rfl rfl | exact hpC H 0 rfl rfl | exact hpC H 1 rfl rfl) ?_
    have hm1 := hbm.1 g1
    obtain ⟨hok, hpr⟩ := It.ok_of hm1 (hbm2.1 g2) (hbt.1 g5) ((hbm3 g3).2 hm1)
    have har := hok.ar
    have hle := offN_le hgood
    have hof : offN T (i + 1) = offN T i + (T i).area := rfl
    refine bindI_of ((((T i).area : Nat) : Int)) (by exact i64_at _ _ hpr (by omega) (by omega)) ?_
    refine bindI_of (((offN T (i + 1) : Nat) : Int)) (by exact i64_at _ _ (by omega) (by omega) (by omega)) ?_
    refine bindI_of (((i + 1 : Nat) : Int)) (by exact i64_at _ _ (by omega) (by omega) (by omega)) ?_
    refine ⟨n - 1, by omega, i + 1, by omega, by omega, by omega, fun j hj => ?_, rfl, H.take 1⟩
    rcases Nat.lt_or_ge j i with h3 | h3
    · exact hgood j h3
    · obtain rfl : j = i := by omega
      exact hok
  · clear H
    rintro h u x ⟨N, hN, hNs, hN5, hgood, hxx, H⟩
    injection hxx with hxx
    injection hxx with _ hxx
    subst hxx
    refine bcase_dec (fun h1 => wakes8_ok fun h' e => ⟨_, rfl, hk _ (H.hext.trans e)⟩) fun h1 => ?_
    have htot : offN T N ≤ 4000 := by omega
    clear h1
    repeat first | with_reducible refine ldI_of (by with_unfolding_all first | exact hpA H 0 rfl rfl | exact Hp.cell H 0 rfl rfl | exact hpB H 0 rfl rfl | exact hpC H 0 rfl rfl) ?_ | with_reducible refine ldS_of (by with_unfolding_all first | exact hpA H 0 rfl rfl | exact Hp.cell H 0 rfl rfl | exact hpB H 0 rfl rfl | exact hpC H 0 rfl rfl) ?_ | with_reducible refine ldP_of (by with_unfolding_all first | exact hpA H 0 rfl rfl | exact Hp.cell H 0 rfl rfl | exact hpB H 0 rfl rfl | exact hpC H 0 rfl rfl) ?_ | with_reducible refine ldB_of (by with_unfolding_all first | exact hpA H 0 rfl rfl | exact Hp.cell H 0 rfl rfl | exact hpB H 0 rfl rfl | exact hpC H 0 rfl rfl) ?_ | with_reducible refine ldT_of (by with_unfolding_all first | exact hpA H 0 rfl rfl | exact Hp.cell H 0 rfl rfl | exact hpB H 0 rfl rfl | exact hpC H 0 rfl rfl) ?_
    refine Go.Ar.within_ok (n := 500) (by decide) (by decide) ?_
    have hB5 := Go.Ar.idx_lt base0 (n := 500) (by decide)
    generalize Go.Ar.idx base0 500 = B at hB5 ⊢
    obtain ⟨m, hm⟩ : ∃ m : Nat, m = B + 8192 := ⟨_, rfl⟩
    refine ⟨_, rfl, ?_⟩
    refine bindI_of (((m : Nat) : Int)) (by exact i64_at _ _ (by omega) (by omega) (by omega)) ?_
    refine Go.Ar.new_ok (n := m) (by omega) (by omega) fun p q r1 h H' => ?_
    replace H := H.join H' rfl
    clear H'
    refine ⟨_, _, rfl, ?_⟩
    refine bcase_false (by rfl) ?_
    refine bcase_false (by rfl) ?_
    refine bindI_of (((m : Nat) : Int)) (by exact i64_at _ _ (by omega) (by omega) (by omega)) ?_
    refine Go.Ar.rnew_ok (n := m) (by omega) fun A r2 h H' => ?_
    replace H := H.join H' rfl
    clear H'
    refine ⟨_, rfl, ?_⟩
    have H : Hp hB [] h ([⟨r3, true, T_burinlaw8_Row, [.slice sq slen scap, .int .i64 base0]⟩] ++ codL p q r1 (newC m) [] ++ refL A r2 (newC m) []) := H
    refine ⟨fun _ h' => ∃ k b r1 rest1 r2 rest2, Hist T B m N k b ∧ Hp hB [] h' ([⟨r3, true, T_burinlaw8_Row, [.slice sq slen scap, .int .i64 base0]⟩] ++ codL p q r1 (codN k b m (offN T N)) rest1 ++ refL A r2 (codN k b m (offN T N)) rest2), ?_, ?_⟩
    · refine ⟨fun n vs h' => ∃ (i : Nat) (k b : Nat → Nat) (r1 : Nat) (rest1 : List Value) (r2 : Nat) (rest2 : List Value), i + n = 6 ∧ i ≤ N ∧ vs = [.int .i64 (i : Nat)] ∧ Hist T B m i k b ∧ Hp hB [] h' ([⟨r3, true, T_burinlaw8_Row, [.slice sq slen scap, .int .i64 base0]⟩] ++ codL p q r1 (codN k b m (offN T i)) rest1 ++ refL A r2 (codN k b m (offN T i)) rest2),
        ⟨6, 0, fun _ => 0, fun _ => 0, r1, [], r2, [], rfl, by omega, rfl, Hist.zero _ _ _ _ _, H⟩, ?_⟩
      clear H
      rintro n h u x ⟨i, k0, b0, r1, rest1, r2, rest2, hin, hiN, hxx, hist, H⟩
      injection hxx with hxx
      injection hxx with _ hxx
      subst hxx
      have fin : ¬ i < N → ∃ k b r1 rest1 r2 rest2, Hist T B m N k b ∧ Hp hB [] h ([⟨r3, true, T_burinlaw8_Row, [.slice sq slen scap, .int .i64 base0]⟩] ++ codL p q r1 (codN k b m (offN T N)) rest1 ++ refL A r2 (codN k b m (offN T N)) rest2) := fun hn => by
        obtain rfl : i = N := by omega
        exact ⟨k0, b0, r1, rest1, r2, rest2, hist, H⟩
      repeat first | with_reducible refine ldI_of (by with_unfolding_all first | exact hpA H 0 rfl rfl | exact Hp.cell H 0 rfl rfl | exact hpB H 0 rfl rfl | exact hpC H 0 rfl rfl) ?_ | with_reducible refine ldS_of (by with_unfolding_all first | exact hpA H 0 rfl rfl | exact Hp.cell H 0 rfl rfl | exact hpB H 0 rfl rfl | exact hpC H 0 rfl rfl) ?_ | with_reducible refine ldP_of (by with_unfolding_all first | exact hpA H 0 rfl rfl | exact Hp.cell H 0 rfl rfl | exact hpB H 0 rfl rfl | exact hpC H 0 rfl rfl) ?_ | with_reducible refine ldB_of (by with_unfolding_all first | exact hpA H 0 rfl rfl | exact Hp.cell H 0 rfl rfl | exact hpB H 0 rfl rfl | exact hpC H 0 rfl rfl) ?_ | with_reducible refine ldT_of (by with_unfolding_all first | exact hpA H 0 rfl rfl | exact Hp.cell H 0 rfl rfl | exact hpB H 0 rfl rfl | exact hpC H 0 rfl rfl) ?_
      refine bcase_dec (fun h1 => ?_) fun h1 => fin (by omega)
      refine bcase_dec (fun h2 => ?_) fun h2 => fin (by omega)
      clear fin
      have hi : i < N := by omega
      repeat first | with_reducible refine ldI_of (by with_unfolding_all first | exact hpA H 0 rfl rfl | exact Hp.cell H 0 rfl rfl | exact hpB H 0 rfl rfl | exact hpC H 0 rfl rfl) ?_ | with_reducible refine ldS_of (by with_unfolding_all first | exact hpA H 0 rfl rfl | exact Hp.cell H 0 rfl rfl | exact hpB H 0 rfl rfl | exact hpC H 0 rfl rfl) ?_ | with_reducible refine ldP_of (by with_unfolding_all first | exact hpA H 0 rfl rfl | exact Hp.cell H 0 rfl rfl | exact hpB H 0 rfl rfl | exact hpC H 0 rfl rfl) ?_ | with_reducible refine ldB_of (by with_unfolding_all first | exact hpA H 0 rfl rfl | exact Hp.cell H 0 rfl rfl | exact hpB H 0 rfl rfl | exact hpC H 0 rfl rfl) ?_ | with_reducible refine ldT_of (by with_unfolding_all first | exact hpA H 0 rfl rfl | exact Hp.cell H 0 rfl rfl | exact hpB H 0 rfl rfl | exact hpC H 0 rfl rfl) ?_
      obtain ⟨a, q1, c1, q2, c2, hsq, hC⟩ := hT i (by omega)
      obtain ⟨k0', k1', k2', k3', k4', k5', k6', k7', gr1, gr2, gw1, gw2, gl1, gl2⟩ := hC
      have hok := hgood i hi
      have hle := offN_mono T (show i + 1 ≤ N by omega)
      have hof : offN T (i + 1) = offN T i + (T i).area := rfl
      have har : (T i).area = (T i).X * (T i).W := rfl
      rw [hok.hw] at k0'
      rw [hok.hb] at k1'
      rw [hok.hw2] at k3'
      rw [hok.hb2] at k4'
      obtain ⟨k, b, hist', hcod⟩ := hist.step
      rw [← hcod] at H
      have hco := codN_ok (k := k) (b := b) (m := m) (offN T i) (by omega)
      have henc := enc_from (T i).G (T i).R (T i).W m (T i).x (T i).y B (hist'.key i (by omega)) (hist'.bit i (by omega)) (T i).area (Nat.le_refl _)
      rw [← hof] at henc
      clear hist hcod k0 b0
      refine needs_of (by omega) (ptr_eq hsq ?_)
      rw [Int.toNat_natCast]
      refine ldI_of (fr H k0') (ldI_of (fr H k1') (ldS_of (fr H k2') (ldI_of (fr H k3') (ldI_of (fr H k4') (ldS_of (fr H k5') (ldI_of (fr H k6') (ldI_of (fr H k7') ?_)))))))
      refine newC_hp H fun r122 h H => ?_
      repeat first | with_reducible refine stA H 9 (by with_unfolding_all exact rfl) (by with_unfolding_all exact rfl) (by with_unfolding_all exact rfl) fun h H => ?_ | with_reducible refine st0 H 9 (by with_unfolding_all exact rfl) (by with_unfolding_all exact rfl) (by with_unfolding_all exact rfl) fun h H => ?_ | with_reducible refine stB H 9 (by with_unfolding_all exact rfl) (by with_unfolding_all exact rfl) (by with_unfolding_all exact rfl) fun h H => ?_
      have H : Hp hB [] h (([⟨r3, true, T_burinlaw8_Row, [.slice sq slen scap, .int .i64 base0]⟩] ++ codL p q r1 (codN k b m (offN T i)) rest1 ++ refL A r2 (codN k b m (offN T i)) rest2) ++ [⟨r122, true, T_burinlaw8_Ask, [.int .i64 ((T i).W : Nat), .int .i64 ((T i).X : Nat), .slice q1 (T i).ws.length c1, .int .i64 ((T i).W2 : Nat), .int .i64 ((T i).X2 : Nat), .slice q2 (T i).ws2.length c2, .int .i64 (T i).x, .int .i64 (T i).y]⟩]) := H
      repeat first | with_reducible refine ldI_of (by with_unfolding_all first | exact hpA H 9 rfl rfl | exact Hp.cell H 9 rfl rfl | exact hpB H 9 rfl rfl | exact hpC H 9 rfl rfl) ?_ | with_reducible refine ldS_of (by with_unfolding_all first | exact hpA H 9 rfl rfl | exact Hp.cell H 9 rfl rfl | exact hpB H 9 rfl rfl | exact hpC H 9 rfl rfl) ?_ | with_reducible refine ldP_of (by with_unfolding_all first | exact hpA H 9 rfl rfl | exact Hp.cell H 9 rfl rfl | exact hpB H 9 rfl rfl | exact hpC H 9 rfl rfl) ?_ | with_reducible refine ldB_of (by with_unfolding_all first | exact hpA H 9 rfl rfl | exact Hp.cell H 9 rfl rfl | exact hpB H 9 rfl rfl | exact hpC H 9 rfl rfl) ?_ | with_reducible refine ldT_of (by with_unfolding_all first | exact hpA H 9 rfl rfl | exact Hp.cell H 9 rfl rfl | exact hpB H 9 rfl rfl | exact hpC H 9 rfl rfl) ?_
      refine rfPut_ok (m := m) (n0 := offN T i) (base := (B : Nat)) (ws := (T i).ws) (ws2 := (T i).ws2) (H.give [1, 2, 3] (by decide) rfl) hco (by omega) (by omega) (by omega) (H.rdO gr1) gw1 gl1 (fun h' e => rdO_ext e (H.rdO gr2)) gw2 gl2 (fun _ => by simp only [Int.toNat_natCast]; omega)
        (fun h' hn H' => absurd ⟨hok.m1, hok.m2⟩ hn) (fun h' hmm hn H' => absurd hok.sh hn) (fun h' hmm hs hn H' => absurd ⟨by omega, by omega⟩ hn) fun s1 r1' rest1' G' h' hmm hs hbb hrun hok1 H' => ?_
      unfold rfRun at hrun
      simp only [Int.toNat_natCast] at hrun
      rw [← har] at hrun
      have hrun' := hrun
      rw [show getP (T i).ws2 (T i).W2 (T i).X2 = (T i).R from rfl, show getP (T i).ws (T i).W (T i).X = (T i).G from rfl, henc] at hrun'
      injection hrun' with hrun'
      injection hrun' with hG hs1
      subst hs1
      clear hrun
      replace H := H.put [1, 2, 3] (by decide) rfl rfl H' rfl rfl
      clear H'
      refine ⟨_, rfl, ?_⟩
      refine bcase_false (by rfl) ?_
      have H : Hp hB [] h' (([⟨r3, true, T_burinlaw8_Row, [.slice sq slen scap, .int .i64 base0]⟩] ++ codL p q r1' (codN k b m (offN T (i + 1))) rest1' ++ refL A r2 (codN k b m (offN T i)) rest2) ++ [⟨r122, true, T_burinlaw8_Ask, [.int .i64 ((T i).W : Nat), .int .i64 ((T i).X : Nat), .slice q1 (T i).ws.length c1, .int .i64 ((T i).W2 : Nat), .int .i64 ((T i).X2 : Nat), .slice q2 (T i).ws2.length c2, .int .i64 (T i).x, .int .i64 (T i).y]⟩]) := H
      repeat first | with_reducible refine ldI_of (by with_unfolding_all first | exact hpA H 9 rfl rfl | exact Hp.cell H 9 rfl rfl | exact hpB H 9 rfl rfl | exact hpC H 9 rfl rfl) ?_ | with_reducible refine ldS_of (by with_unfolding_all first | exact hpA H 9 rfl rfl | exact Hp.cell H 9 rfl rfl | exact hpB H 9 rfl rfl | exact hpC H 9 rfl rfl) ?_ | with_reducible refine ldP_of (by with_unfolding_all first | exact hpA H 9 rfl rfl | exact Hp.cell H 9 rfl rfl | exact hpB H 9 rfl rfl | exact hpC H 9 rfl rfl) ?_ | with_reducible refine ldB_of (by with_unfolding_all first | exact hpA H 9 rfl rfl | exact Hp.cell H 9 rfl rfl | exact hpB H 9 rfl rfl | exact hpC H 9 rfl rfl) ?_ | with_reducible refine ldT_of (by with_unfolding_all first | exact hpA H 9 rfl rfl | exact Hp.cell H 9 rfl rfl | exact hpB H 9 rfl rfl | exact hpC H 9 rfl rfl) ?_
      have H : Hp hB [] h' (refL A r2 (codN k b m (offN T i)) rest2 ++ ([⟨r122, true, T_burinlaw8_Ask, [.int .i64 ((T i).W : Nat), .int .i64 ((T i).X : Nat), .slice q1 (T i).ws.length c1, .int .i64 ((T i).W2 : Nat), .int .i64 ((T i).X2 : Nat), .slice q2 (T i).ws2.length c2, .int .i64 (T i).x, .int .i64 (T i).y]⟩] ++ ([⟨r3, true, T_burinlaw8_Row, [.slice sq slen scap, .int .i64 base0]⟩] ++ codL p q r1' (codN k b m (offN T (i + 1))) rest1'))) := (H.asc.rot).asc
      refine rrPut_ok (base := (B : Nat)) (W := (T i).W) (X := (T i).X) (W2 := (T i).W2) (X2 := (T i).X2) H hco (by omega) (by omega) (by omega) gr1 gw1 gr2 gw2 hok.m1 hok.m2 hok.sh (by omega) fun s2 r2' rest2' h' hrun2 hok2 H => ?_
      rw [← har, show getP (T i).ws2 (T i).W2 (T i).X2 = (T i).R from rfl, show getP (T i).ws (T i).W (T i).X = (T i).G from rfl, henc] at hrun2
      injection hrun2 with hrun2
      injection hrun2 with _ hs2
      subst hs2
      refine ⟨_, rfl, ?_⟩
      refine bcase_false (by rfl) ?_
      refine bindI_of (((i + 1 : Nat) : Int)) (by exact i64_at _ _ (by omega) (by omega) (by omega)) ?_
      refine ⟨n - 1, by omega, i + 1, k, b, r1', rest1', r2', rest2', by omega, by omega, rfl, hist', ?_⟩
      exact Hp.rot (X := refL A r2' (codN k b m (offN T (i + 1))) rest2') (H.sub (List.Sublist.append (List.Sublist.refl _) (List.sublist_append_right _ _)))
    · clear H
      rintro h u ⟨k, b, r1, rest1, r2, rest2, hist, H⟩
      have hco := codN_ok (k := k) (b := b) (m := m) (offN T N) (by omega)
      obtain ⟨S, hS⟩ : ∃ S, S = codN k b m (offN T N) := ⟨_, rfl⟩
      rw [← hS] at H hco
      refine Go.Ar.flush_ok (H.give [1, 2, 3] (by decide) rfl) hco.wf hco.done fun r3' rest3 o1 orest1 h' H' => ?_
      have H := Go.Bm.Hp.backD H [1, 2, 3] (by decide) rfl rfl H' rfl rfl rfl
      clear H'
      refine ⟨_, _, _, _, rfl, ?_⟩
      have H : Hp hB [] h' ([⟨r3, true, T_burinlaw8_Row, [.slice sq slen scap, .int .i64 base0]⟩] ++ codL p q r3' (flushM S) rest3 ++ refL A r2 S rest2 ++ [⟨o1, true, T_uint8, u8s (bytesM (flushM S)) ++ orest1⟩]) := H
      refine Go.Ar.rflush_ok (H.give [4, 5, 6, 7, 8] (by decide) rfl) hco.wf hco.done fun r4' rest4 o2 orest2 h' H' => ?_
      have H := Go.Bm.Hp.backD H [4, 5, 6, 7, 8] (by decide) rfl rfl H' rfl rfl rfl
      clear H'
      refine ⟨_, _, _, _, rfl, ?_⟩
      have H : Hp hB [] h' ([⟨r3, true, T_burinlaw8_Row, [.slice sq slen scap, .int .i64 base0]⟩] ++ codL p q r3' (flushM S) rest3 ++ refL A r4' (flushM S) rest4 ++ [⟨o1, true, T_uint8, u8s (bytesM (flushM S)) ++ orest1⟩] ++ [⟨o2, true, T_uint8, u8s (bytesM (flushM S)) ++ orest2⟩]) := H
      have hlt := Go.Ar.flushM_lt hco.wf
      have hfl := Go.Ar.fl_len hco (by omega)
      have hst := (Go.Ar.flushM_keep S).1
      obtain ⟨bs, hbs⟩ : ∃ bs, bs = bytesM (flushM S) := ⟨_, rfl⟩
      rw [← hbs] at H hlt hfl ⊢
      refine bindI_of (((m : Nat) : Int)) (by exact i64_at _ _ (by omega) (by omega) (by omega)) ?_
      refine Go.Ar.newDecoder_ok (n := m) (b := bs) (by omega) (by omega) hlt hfl (Go.Ar.row_rdO H 9 rfl) fun p2 q2 e0 bp bc h' hbok H' => ?_
      have hew := hbok.1
      replace H := H.join H' (by simp [decL, Go.Ar.decE, hbok.1])
      clear H'
      refine ⟨_, _, rfl, ?_⟩
      refine bcase_false (by rfl) ?_
      refine bcase_false (by rfl) ?_
      refine bcase_false (by rfl) ?_
      refine Go.Ar.eq_ok (xs := bs) (ys := bs) (Go.Ar.row_rdO H 9 rfl) (Go.Ar.row_rdO H 10 rfl) hfl ?_
      refine ⟨_, rfl, ?_⟩
      refine bcase_false (by simp) ?_
      refine ptr_of (a := ⟨p, 0, none⟩) (ptr_of (a := ⟨A.p, 0, none⟩) ?_)
      have hl1 : 1 ≤ (flushM S).st.length := by rw [hst, hco.len]; omega
      have hl2 : (flushM S).st.length ≤ 131072 := by rw [hst, hco.len]; omega
      refine Go.Ar.states_ok (st := (flushM S).st) H 1 2 rfl rfl hl1 hl2 fun o3 or3 h H => ?_
      refine ⟨_, _, _, rfl, ?_⟩
      refine Go.Ar.rstates_ok (st := (flushM S).st) (H.give [4, 5, 6, 7, 8] (by decide) rfl) (by rw [hst]; exact hco.wf.st) hl1 hl2 fun o4 or4 h' H' => ?_
      have H := Go.Bm.Hp.backD H [4, 5, 6, 7, 8] (by decide) rfl rfl H' rfl rfl rfl
      clear H'
      refine ⟨_, _, _, rfl, ?_⟩
      refine Go.Ar.eq_ok (xs := (flushM S).st) (ys := (flushM S).st) (Go.Ar.row_rdO H 14 rfl) (Go.Ar.row_rdO H 15 rfl) (by omega) ?_
      refine ⟨_, rfl, ?_⟩
      refine bcase_false (by simp) ?_
      have H : Hp hB [] h' ([⟨r3, true, T_burinlaw8_Row, [.slice sq slen scap, .int .i64 base0]⟩] ++ codL p q r3' (flushM S) rest3 ++ decL p2 q2 e0 bp bc (decN k bs m 0)) := H.pick [0, 1, 2, 3, 11, 12, 13] (by decide) rfl
      have hbt : bs = bytesM (flushM (codN k b m (offN T N))) := by rw [hbs, hS]
      refine ⟨fun _ h' => Hp hB [] h' ([⟨r3, true, T_burinlaw8_Row, [.slice sq slen scap, .int .i64 base0]⟩] ++ codL p q r3' (flushM S) rest3 ++ decL p2 q2 e0 bp bc (decN k bs m (offN T N))), ?_, ?_⟩
      · refine ⟨fun n vs h' => ∃ (i : Nat), i + n = 6 ∧ i ≤ N ∧ vs = [.int .i64 (i : Nat)] ∧ Hp hB [] h' ([⟨r3, true, T_burinlaw8_Row, [.slice sq slen scap, .int .i64 base0]⟩] ++ codL p q r3' (flushM S) rest3 ++ decL p2 q2 e0 bp bc (decN k bs m (offN T i))),
          ⟨6, 0, rfl, by omega, rfl, H⟩, ?_⟩
        clear H
        rintro n h u x ⟨i, hin, hiN, hxx, H⟩
        injection hxx with hxx
        injection hxx with _ hxx
        subst hxx
        have fin : ¬ i < N → Hp hB [] h ([⟨r3, true, T_burinlaw8_Row, [.slice sq slen scap, .int .i64 base0]⟩] ++ codL p q r3' (flushM S) rest3 ++ decL p2 q2 e0 bp bc (decN k bs m (offN T N))) := fun hn => by
          obtain rfl : i = N := by omega
          exact H
        repeat first | with_reducible refine ldI_of (by with_unfolding_all first | exact hpA H 0 rfl rfl | exact Hp.cell H 0 rfl rfl | exact hpB H 0 rfl rfl | exact hpC H 0 rfl rfl) ?_ | with_reducible refine ldS_of (by with_unfolding_all first | exact hpA H 0 rfl rfl | exact Hp.cell H 0 rfl rfl | exact hpB H 0 rfl rfl | exact hpC H 0 rfl rfl) ?_ | with_reducible refine ldP_of (by with_unfolding_all first | exact hpA H 0 rfl rfl | exact Hp.cell H 0 rfl rfl | exact hpB H 0 rfl rfl | exact hpC H 0 rfl rfl) ?_ | with_reducible refine ldB_of (by with_unfolding_all first | exact hpA H 0 rfl rfl | exact Hp.cell H 0 rfl rfl | exact hpB H 0 rfl rfl | exact hpC H 0 rfl rfl) ?_ | with_reducible refine ldT_of (by with_unfolding_all first | exact hpA H 0 rfl rfl | exact Hp.cell H 0 rfl rfl | exact hpB H 0 rfl rfl | exact hpC H 0 rfl rfl) ?_
        refine bcase_dec (fun h1 => ?_) fun h1 => fin (by omega)
        refine bcase_dec (fun h2 => ?_) fun h2 => fin (by omega)
        clear fin
        have hi : i < N := by omega
        repeat first | with_reducible refine ldI_of (by with_unfolding_all first | exact hpA H 0 rfl rfl | exact Hp.cell H 0 rfl rfl | exact hpB H 0 rfl rfl | exact hpC H 0 rfl rfl) ?_ | with_reducible refine ldS_of (by with_unfolding_all first | exact hpA H 0 rfl rfl | exact Hp.cell H 0 rfl rfl | exact hpB H 0 rfl rfl | exact hpC H 0 rfl rfl) ?_ | with_reducible refine ldP_of (by with_unfolding_all first | exact hpA H 0 rfl rfl | exact Hp.cell H 0 rfl rfl | exact hpB H 0 rfl rfl | exact hpC H 0 rfl rfl) ?_ | with_reducible refine ldB_of (by with_unfolding_all first | exact hpA H 0 rfl rfl | exact Hp.cell H 0 rfl rfl | exact hpB H 0 rfl rfl | exact hpC H 0 rfl rfl) ?_ | with_reducible refine ldT_of (by with_unfolding_all first | exact hpA H 0 rfl rfl | exact Hp.cell H 0 rfl rfl | exact hpB H 0 rfl rfl | exact hpC H 0 rfl rfl) ?_
        obtain ⟨a, q1, c1, q2', c2, hsq, hC⟩ := hT i (by omega)
        obtain ⟨k0', k1', k2', k3', k4', k5', k6', k7', gr1, gr2, gw1, gw2, gl1, gl2⟩ := hC
        have hok := hgood i hi
        have hle := offN_mono T (show i + 1 ≤ N by omega)
        have hof : offN T (i + 1) = offN T i + (T i).area := rfl
        have har : (T i).area = (T i).X * (T i).W := rfl
        rw [hok.hw] at k0'
        rw [hok.hb] at k1'
        rw [hok.hw2] at k3'
        rw [hok.hb2] at k4'
        have hdo := decN_ok (k := k) (m := m) hlt (offN T i) (by omega)
        obtain ⟨W', X', e1, e2, hW1, hW2, hX1, hX2, hWX⟩ := size_nat hok.m1.1
        obtain rfl : (T i).W = W' := by omega
        obtain rfl : (T i).X = X' := by omega
        have hdec := dec_from (T i).G (T i).R (T i).W m (T i).x (T i).y B (getP_out _ _ _) hW1 (tot := offN T N) (by omega) hist.one (by rw [← hbt]; exact hlt) (by rw [← hof]; exact hle) (hist.key i hi) (hist.bit i hi) (T i).area (Nat.le_refl _)
        rw [← hof, ← hbt] at hdec
        refine needs_of (by omega) (ptr_eq hsq ?_)
        rw [Int.toNat_natCast]
        refine ldI_of (fr H k0') (ldI_of (fr H k1') (ldS_of (fr H k2') (ldI_of (fr H k3') (ldI_of (fr H k4') (ldS_of (fr H k5') (ldI_of (fr H k6') (ldI_of (fr H k7') ?_)))))))
        refine newC_hp H fun r202 h H => ?_
        repeat first | with_reducible refine stA H 7 (by with_unfolding_all exact rfl) (by with_unfolding_all exact rfl) (by with_unfolding_all exact rfl) fun h H => ?_ | with_reducible refine st0 H 7 (by with_unfolding_all exact rfl) (by with_unfolding_all exact rfl) (by with_unfolding_all exact rfl) fun h H => ?_ | with_reducible refine stB H 7 (by with_unfolding_all exact rfl) (by with_unfolding_all exact rfl) (by with_unfolding_all exact rfl) fun h H => ?_
        have H : Hp hB [] h (([⟨r3, true, T_burinlaw8_Row, [.slice sq slen scap, .int .i64 base0]⟩] ++ codL p q r3' (flushM S) rest3 ++ decL p2 q2 e0 bp bc (decN k bs m (offN T i))) ++ [⟨r202, true, T_burinlaw8_Ask, [.int .i64 ((T i).W : Nat), .int .i64 ((T i).X : Nat), .slice q1 (T i).ws.length c1, .int .i64 ((T i).W2 : Nat), .int .i64 ((T i).X2 : Nat), .slice q2' (T i).ws2.length c2, .int .i64 (T i).x, .int .i64 (T i).y]⟩]) := H
        repeat first | with_reducible refine ldI_of (by with_unfolding_all first | exact hpA H 7 rfl rfl | exact Hp.cell H 7 rfl rfl | exact hpB H 7 rfl rfl | exact hpC H 7 rfl rfl) ?_ | with_reducible refine ldS_of (by with_unfolding_all first | exact hpA H 7 rfl rfl | exact Hp.cell H 7 rfl rfl | exact hpB H 7 rfl rfl | exact hpC H 7 rfl rfl) ?_ | with_reducible refine ldP_of (by with_unfolding_all first | exact hpA H 7 rfl rfl | exact Hp.cell H 7 rfl rfl | exact hpB H 7 rfl rfl | exact hpC H 7 rfl rfl) ?_ | with_reducible refine ldB_of (by with_unfolding_all first | exact hpA H 7 rfl rfl | exact Hp.cell H 7 rfl rfl | exact hpB H 7 rfl rfl | exact hpC H 7 rfl rfl) ?_ | with_reducible refine ldT_of (by with_unfolding_all first | exact hpA H 7 rfl rfl | exact Hp.cell H 7 rfl rfl | exact hpB H 7 rfl rfl | exact hpC H 7 rfl rfl) ?_
        refine rfGet_ok (bytes := bs) (m := m) (n0 := offN T i) (base := (B : Nat)) (ws2 := (T i).ws2) (H.give [4, 5, 6] (by decide) rfl) (by rw [hdo.b]; exact hbok) hfl hdo (by omega) (by omega) (H.rdO gr2) gw2 gl2 (fun _ => by simp only [Int.toNat_natCast]; omega) fun e w' b' ys s' D qo c h' hg hsl H' => ?_
        have H := Go.Bm.Hp.backD H [4, 5, 6] (by decide) rfl (by simp [decL, Go.Ar.decE, hew]) H' (by simp [decL, Go.Ar.decE, hew]) hsl.w rfl
        clear H'
        have hylen := hg.len
        have hres : e = 0 ∧ w' = ((T i).W : Int) ∧ b' = ((T i).X : Int) ∧ ys = (T i).ws ∧ s' = decN k bs m (offN T (i + 1)) := by
          rcases hg with ⟨a, _⟩ | ⟨_, a, _⟩ | ⟨_, _, a, _⟩ | ⟨_, _, _, a, _⟩ | ⟨_, _, _, _, rfl, rfl, rfl, hrun2, hlen, hww, hz, _⟩
          · exact absurd hok.m2 a
          · exact absurd hok.m1.1 a
          · exact absurd hok.sh a
          · exact absurd ⟨by omega, by omega⟩ a
          simp only [Int.toNat_natCast] at hrun2 hlen hz
          rw [← har, show getP (T i).ws2 (T i).W2 (T i).X2 = (T i).R from rfl, hdec, har, show (T i).G = getP (T i).ws (T i).W (T i).X from rfl, part_all] at hrun2
          injection hrun2 with hrun2
          injection hrun2 with hrun2 hss
          exact ⟨rfl, rfl, rfl, getP_ext hlen (may_len hok.m1) hww gw1 hz (fun y hy x h1 h2 => pix_of_may hok.m1 hy h1 h2) hrun2.symm, hss.symm⟩
        obtain ⟨rfl, rfl, rfl, hys, rfl⟩ := hres
        refine ⟨_, _, _, _, _, _, rfl, ?_⟩
        refine newC_hp H fun r225 h H => ?_
        have H := H.rot
        repeat first | with_reducible refine stA H 0 (by with_unfolding_all exact rfl) (by with_unfolding_all exact rfl) (by with_unfolding_all exact rfl) fun h H => ?_ | with_reducible refine st0 H 0 (by with_unfolding_all exact rfl) (by with_unfolding_all exact rfl) (by with_unfolding_all exact rfl) fun h H => ?_ | with_reducible refine stB H 0 (by with_unfolding_all exact rfl) (by with_unfolding_all exact rfl) (by with_unfolding_all exact rfl) fun h H => ?_
        refine bcase_false (by rfl) ?_
        have H : Hp hB [] h ([⟨r225, true, T_api_Bitmap, [.int .i64 ((T i).W : Nat), .int .i64 ((T i).X : Nat), .slice qo ys.length c]⟩] ++ (([⟨r3, true, T_burinlaw8_Row, [.slice sq slen scap, .int .i64 base0]⟩] ++ codL p q r3' (flushM S) rest3 ++ decL p2 q2 e0 bp bc (decN k bs m (offN T (i + 1))) ++ [⟨r202, true, T_burinlaw8_Ask, [.int .i64 ((T i).W : Nat), .int .i64 ((T i).X : Nat), .slice q1 (T i).ws.length c1, .int .i64 ((T i).W2 : Nat), .int .i64 ((T i).X2 : Nat), .slice q2' (T i).ws2.length c2, .int .i64 (T i).x, .int .i64 (T i).y]⟩]) ++ D)) := H
        repeat first | with_reducible refine ldI_of (by with_unfolding_all first | exact hpA H 0 rfl rfl | exact hpA H 8 rfl rfl | exact Hp.cell H 0 rfl rfl | exact Hp.cell H 8 rfl rfl | exact hpB H 0 rfl rfl | exact hpB H 8 rfl rfl | exact hpC H 0 rfl rfl | exact hpC H 8 rfl rfl) ?_ | with_reducible refine ldS_of (by with_unfolding_all first | exact hpA H 0 rfl rfl | exact hpA H 8 rfl rfl | exact Hp.cell H 0 rfl rfl | exact Hp.cell H 8 rfl rfl | exact hpB H 0 rfl rfl | exact hpB H 8 rfl rfl | exact hpC H 0 rfl rfl | exact hpC H 8 rfl rfl) ?_ | with_reducible refine ldP_of (by with_unfolding_all first | exact hpA H 0 rfl rfl | exact hpA H 8 rfl rfl | exact Hp.cell H 0 rfl rfl | exact Hp.cell H 8 rfl rfl | exact hpB H 0 rfl rfl | exact hpB H 8 rfl rfl | exact hpC H 0 rfl rfl | exact hpC H 8 rfl rfl) ?_ | with_reducible refine ldB_of (by with_unfolding_all first | exact hpA H 0 rfl rfl | exact hpA H 8 rfl rfl | exact Hp.cell H 0 rfl rfl | exact Hp.cell H 8 rfl rfl | exact hpB H 0 rfl rfl | exact hpB H 8 rfl rfl | exact hpC H 0 rfl rfl | exact hpC H 8 rfl rfl) ?_ | with_reducible refine ldT_of (by with_unfolding_all first | exact hpA H 0 rfl rfl | exact hpA H 8 rfl rfl | exact Hp.cell H 0 rfl rfl | exact Hp.cell H 8 rfl rfl | exact hpB H 0 rfl rfl | exact hpB H 8 rfl rfl | exact hpC H 0 rfl rfl | exact hpC H 8 rfl rfl) ?_
        refine eqB_ok (xs := ys) (ys := (T i).ws) (Slot.rdO' hsl H fun e he => List.mem_append_right _ (List.mem_append_right _ he)) (H.rdO gr1) hylen fun h' e => ?_
        have H := H.ext e
        refine ⟨_, rfl, ?_⟩
        refine bcase_false (by rw [hys]; simp) ?_
        refine bindI_of (((i + 1 : Nat) : Int)) (by exact i64_at _ _ (by omega) (by omega) (by omega)) ?_
        refine ⟨n - 1, by omega, i + 1, by omega, by omega, rfl, ?_⟩
        exact H.pick [1, 2, 3, 4, 5, 6, 7] (by decide) rfl
      · clear H
        intro h u H
        refine ptr_of (a := ⟨p, 0, none⟩) (ptr_of (a := ⟨p2, 0, none⟩) ?_)
        have hdo := decN_ok (k := k) (m := m) hlt (offN T N) (by omega)
        have hsy := (Go.Ar.back_run k b m (offN T N) hist.one (by omega) (by rw [← hbt]; exact hlt) (offN T N) (Nat.le_refl _)).st
        rw [← hbt, ← hS] at hsy
        refine Go.Ar.states_ok (st := (flushM S).st) H 1 2 rfl rfl hl1 hl2 fun o5 or5 h H => ?_
        refine ⟨_, _, _, rfl, ?_⟩
        refine Go.Ar.states_ok (st := (decN k bs m (offN T N)).st) H 4 5 rfl rfl (by rw [hdo.len]; omega) (by rw [hdo.len]; omega) fun o6 or6 h H => ?_
        refine ⟨_, _, _, rfl, ?_⟩
        refine Go.Ar.eq_ok (xs := (flushM S).st) (ys := (decN k bs m (offN T N)).st) (Go.Ar.row_rdO H 7 rfl) (Go.Ar.row_rdO H 8 rfl) (by omega) ?_
        refine ⟨_, rfl, ?_⟩
        refine bcase_true (by rw [hst, hsy]; simp) ?_
        exact wakes8_ok fun h' e => ⟨_, rfl, hk _ (H.hext.trans e)⟩
end Go.Bm

/- RfARow: a row of asks as it comes in as an argument: the law RefineRow over it. -/
set_option linter.unusedVariables false
set_option linter.unusedSimpArgs false
namespace Go.Bm
open Go Go.Den Go.Den.Ytcicfilkdhhnmaa
theorem list2 {α : Type} {l : List α} (h : l.length = 2) : ∃ a b, l = [a, b] := by
  match l, h with
  | [a, b], _ => exact ⟨a, b, rfl⟩
theorem refRow_arg {h : Heap} {cs : Array Value} (hsz : cs.size = TP.cellsOf T_burinlaw8_Row) (hw : WDx TP h T_burinlaw8_Row cs.toList) {K : Value → Heap → Prop} {Kp : List PanicEntry → Heap → Prop} (hk : ∀ h', hext h h' → K (.bool true) h') :
    CP F_burinlaw8_RefineRow #[.agg cs] h K Kp := by
  obtain ⟨hl, hf⟩ := wd_struct Go.Proofs.Try.underlying71 hw
  have k : TP.cellsOf T_burinlaw8_Row = 2 := by kernel_rfl
  rw [k] at hl
  obtain ⟨v0, v1, hcs⟩ := list2 hl
  rw [hcs] at hf
  have k1 : TP.cellsOf T_s_burinlaw8_Ask = 1 := by kernel_rfl
  obtain ⟨q, len, cap, e0, ha⟩ := asks_of (one_of k1 (hf 0 _ rfl) (v := v0) rfl)
  obtain ⟨b, e1, _⟩ := wd_int Go.Proofs.Try.underlying3 (one_of k_int (hf 1 _ rfl) (v := v1) rfl)
  simp only [List.cons.injEq, and_true] at e0 e1
  subst e0 e1
  obtain rfl : cs = #[.slice q len cap, .int .i64 b] := by
    apply Array.toList_inj.1
    rw [hcs]
  exact refRow_law ha hk
end Go.Bm

/- ArLink2: what a law's walk hands on. -/
namespace Go.Proofs.Ytcicfilkdhhnmaa
open Go.ChangeShapes Go.WideShapes Go.ChangeAt Go.RowKit
set_option linter.unusedVariables false

theorem own : ownKnob Try.prog.godebug = none := by kernel_rfl
theorem laidOut : laidOutB Try.prog = true := by kernel_rfl

/-- What a call that keeps all old rows leaves, as a row's statement asks it. -/
theorem below_of {W W' : World} (hk : Go.Den.keeps W W') (h : Go.Den.hext W.heap W'.heap) : Below W.heap.size W W' :=
  ⟨hk.1, hk.2.1, hk.2.2, h.1, fun k hlt => h.2 k hlt⟩

theorem walk_of {f : FuncId} {args : Array Value} {W : World}
    (h : Calls Try.prog f args W fun e w' => Go.Den.keeps W w' ∧ match e with
      | .returned v => v = .bool true ∧ Go.Den.hext W.heap w'.heap
      | .panicked c => False
      | .outgrown => False) : Calls Try.prog f args W fun e W' => e = .returned (.bool true) ∧ Below W.heap.size W W' := by
  refine h.mono fun e W' he => ?_
  obtain ⟨hk, he⟩ := he
  cases e with
  | returned v => exact ⟨by rw [he.1], below_of hk he.2⟩
  | panicked c => exact he.elim
  | outgrown => exact he.elim

end Go.Proofs.Ytcicfilkdhhnmaa

/- RfRow: the given statement RefineRowSaid. -/
namespace Go.Proofs.Ytcicfilkdhhnmaa
open Go.ChangeShapes Go.WideShapes Go.ChangeAt Go.RowKit
set_option linter.unusedVariables false

theorem refineRow_walk (W : World) {cs : Array Value} (hsz : cs.size = Try.prog.cellsOf 71) (hw : Go.Den.WDx Try.prog W.heap 71 cs.toList) : Calls Try.prog 12 #[.agg cs] W fun e W' => e = .returned (.bool true) ∧ Below W.heap.size W W' :=
  walk_of ((Go.Bm.refRow_arg (h := W.heap) (K := fun v h' => v = .bool true ∧ Go.Den.hext W.heap h') (Kp := fun _ _ => False) hsz hw fun h' e => ⟨rfl, e⟩).2 W rfl)

set_option maxRecDepth 100000 in
theorem refineRow_lifted (os : Os) (started : os.Started) (H : Type) (enc : TypeId × Value → H) :
    ReturnsInHanded {} Try.checked os 12 .any (Rows.refineRowSpec.pre6 enc Try.prog Try.f12 Rows.refineRowRow.domain false) (Rows.refineRowSpec.post enc Try.prog Try.f12 false true false false) := by
  refine returnsInHanded_of_change_sized (C := Try.checked) own started (by kernel_rfl) Try.func12
    (ChangeSpec.witness6 (enc := enc) (C := Try.checked) false ⟨#[], #[.agg #[.slice none 0 0, .int .i64 0]], []⟩ 8 (by kernel_rfl) (by kernel_rfl) (by kernel_rfl) (by kernel_rfl)) ?_
  intro W base args ds gs before hval0 hW hcnd hz _
  have hval : ∀ (j : Nat) t v, Try.f12.params[j]? = some t → args[j]? = some v → Value.okWide Try.prog W .any base t v := hval0
  have hz : ∀ n ∈ DataW.weightsEach Try.prog (Try.f12.params.toList ++ Rows.refineRowSpec.plain.varTypes Try.prog) (ds ++ gs), n ≤ reachBytes := fun n hn => by simpa using List.all_eq_true.1 hz n hn
  have hW' := hW
  obtain ⟨p, q, hA0, hV, rfl, hfz, hnd⟩ := hW
  have hA : DataW.TrodAll enc Try.prog W 0 (fun _ => true) true Try.f12.params.toList args.toList ds p := hA0
  rw [Try.params12] at hA hval hz
  obtain ⟨v0, vs0, d0, ds0, p0, q0, hargs, rfl, rfl, h0, r0⟩ := trodAll_cons hA
  obtain ⟨rfl, rfl, rfl⟩ := trodAll_nil r0
  obtain rfl : args = #[v0] := by cases args; simp_all
  obtain ⟨rfl, rfl⟩ := trodVars_none hV
  obtain ⟨cs, rfl, hsz⟩ := okWide_struct Try.underlying71 (hval 0 71 v0 rfl rfl)
  have hwd : Go.Den.WDx Try.prog W.heap 71 cs.toList := by
    obtain ⟨f, hf⟩ := h0
    exact ⟨f, Go.Den.wd_of hf fun n hn => hz n (DataW.weights_mem_each (j := 0) rfl rfl n hn)⟩
  clear hA0 hval0
  simp only [List.append_nil] at hW'
  refine (refineRow_walk W hsz hwd).mono fun e W' ⟨he, hb⟩ => ?_
  subst he
  refine ⟨_, rfl, [d0], [], _, [], p0, [], hW', ?_, ?_, ?_, hb.frame _, fun h => Bool.noConfusion h⟩
  · exact trodAll_cons_mk (shut_bool Go.Proofs.Try.underlying4 _) trodAll_mk0
  · exact ⟨p0, [], Below.trod laidOut (by kernel_rfl) (of_decide_eq_true (by kernel_rfl)) h0 hb (fun x hx => by simpa using hW'.lt x hx), rfl, (List.append_nil p0).symm⟩
  · rfl

theorem refineRow_over : Rows.refineRowRow.holds Try.pinned (OpenSpec.ofChange Rows.refineRowSpec) :=
  OpenClaim.holds_of_wide 12 Try.f12 rfl rfl rfl rfl rfl rfl rfl ⟨rfl, rfl, rfl, rfl, rfl⟩ rfl rfl rfl rfl rfl (by kernel_rfl) Try.func12 (by kernel_rfl)
    (of_decide_eq_true (by kernel_rfl)) (by unfold Func.isWrapper; first | (rw [if_pos (by decide +kernel)]; kernel_rfl) | (rw [if_neg (by decide +kernel)]; exact ⟨rfl, rfl⟩))
    (fun os started H enc _ => refineRow_lifted os started H enc)

theorem refineRow_proved : Rows.RefineRowSaid := refineRow_over

#print axioms refineRow_proved
end Go.Proofs.Ytcicfilkdhhnmaa
