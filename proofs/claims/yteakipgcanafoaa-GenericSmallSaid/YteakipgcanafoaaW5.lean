/- The given statement GenericSmallSaid is proved of the given program; there are no further conditions. W5: put together by wip/tools/bundle.py: GnW ArLink2 GnSmall. -/
import Derived.Test.YteakipgcanafoaaW1
import Derived.Test.YteakipgcanafoaaW2
import Derived.Test.YteakipgcanafoaaW3
import Derived.Test.YteakipgcanafoaaW4
import Derived.Test.YteakipgcanafoaaProg
import Derived.WalkKit
import Derived.ProofKit
import Derived.OpenShut
import Derived.Carry
import Derived.Deep.SlicePairs
import Derived.Lib.SmallJoins
import Derived.Test.YteakipgcanafoaaRows

/- GnW: the law GenericSmall, said of memory. -/
set_option linter.unusedVariables false
set_option linter.unusedSimpArgs false
namespace Go.Bm
open Go Go.Den Go.Den.Yteakipgcanafoaa
-- (nothing of Go.Ar opened)

set_option maxRecDepth 100000 in
set_option maxHeartbeats 4000000 in
theorem gSmall_law {hB : Heap} {w0 h0 b0 : Int} {K : Value → Heap → Prop} {Kp : List PanicEntry → Heap → Prop} (hk : ∀ h', hext hB h' → K (.bool true) h') :
    CP F_burinlaw7_GenericSmall #[.agg #[.int .i64 w0, .int .i64 h0, .int .i64 b0]] hB K Kp := by
  refine call_burinlaw7_GenericSmall ?_
  unfold burinlaw7_GenericSmall
  have H := Hp.nil hB []
  refine newC_hp H fun r4 h H => ?_
  repeat first | with_reducible refine ldI_of (by with_unfolding_all first | exact hpA H 0 rfl rfl | exact Hp.cell H 0 rfl rfl | exact hpB H 0 rfl rfl | exact hpC H 0 rfl rfl) ?_ | with_reducible refine ldS_of (by with_unfolding_all first | exact hpA H 0 rfl rfl | exact Hp.cell H 0 rfl rfl | exact hpB H 0 rfl rfl | exact hpC H 0 rfl rfl) ?_ | with_reducible refine ldP_of (by with_unfolding_all first | exact hpA H 0 rfl rfl | exact Hp.cell H 0 rfl rfl | exact hpB H 0 rfl rfl | exact hpC H 0 rfl rfl) ?_ | with_reducible refine ldB_of (by with_unfolding_all first | exact hpA H 0 rfl rfl | exact Hp.cell H 0 rfl rfl | exact hpB H 0 rfl rfl | exact hpC H 0 rfl rfl) ?_ | with_reducible refine ldT_of (by with_unfolding_all first | exact hpA H 0 rfl rfl | exact Hp.cell H 0 rfl rfl | exact hpB H 0 rfl rfl | exact hpC H 0 rfl rfl) ?_
  refine Go.Ar.within_ok (n := 3000) (by decide) (by decide) ?_
  have hw3 := Go.Ar.idx_lt w0 (n := 3000) (by decide)
  generalize Go.Ar.idx w0 3000 = w1 at hw3 ⊢
  refine ⟨_, rfl, ?_⟩
  obtain ⟨W, hW⟩ : ∃ W, W = w1 + 1 := ⟨_, rfl⟩
  refine bindI_of (((W : Nat) : Int)) (by exact i64_at _ _ (by omega) (by omega) (by omega)) ?_
  have hW1 : 1 ≤ W := by omega
  refine needs_of ⟨rfl, by omega⟩ ?_
  obtain ⟨N, hN⟩ : ∃ N, N = 40000 / W := ⟨_, rfl⟩
  have hN1 : 1 ≤ N := by rw [hN]; exact (Nat.le_div_iff_mul_le (by omega)).2 (by omega)
  have hN2 : N ≤ 40000 := by rw [hN]; exact Nat.div_le_self _ _
  have hNW : N * W ≤ 40000 := by rw [hN]; exact Nat.div_mul_le_self _ _
  refine bindI_of (((N : Nat) : Int)) (by exact i64_at _ _ (by rw [hN]; exact (Int.ofNat_tdiv 40000 W).symm) (by omega) (by omega)) ?_
  repeat first | with_reducible refine ldI_of (by with_unfolding_all first | exact hpA H 0 rfl rfl | exact Hp.cell H 0 rfl rfl | exact hpB H 0 rfl rfl | exact hpC H 0 rfl rfl) ?_ | with_reducible refine ldS_of (by with_unfolding_all first | exact hpA H 0 rfl rfl | exact Hp.cell H 0 rfl rfl | exact hpB H 0 rfl rfl | exact hpC H 0 rfl rfl) ?_ | with_reducible refine ldP_of (by with_unfolding_all first | exact hpA H 0 rfl rfl | exact Hp.cell H 0 rfl rfl | exact hpB H 0 rfl rfl | exact hpC H 0 rfl rfl) ?_ | with_reducible refine ldB_of (by with_unfolding_all first | exact hpA H 0 rfl rfl | exact Hp.cell H 0 rfl rfl | exact hpB H 0 rfl rfl | exact hpC H 0 rfl rfl) ?_ | with_reducible refine ldT_of (by with_unfolding_all first | exact hpA H 0 rfl rfl | exact Hp.cell H 0 rfl rfl | exact hpB H 0 rfl rfl | exact hpC H 0 rfl rfl) ?_
  refine Go.Ar.within_ok (n := N) hN1 (by omega) ?_
  have hh3 := Go.Ar.idx_lt h0 (n := N) hN1
  generalize Go.Ar.idx h0 N = h1 at hh3 ⊢
  refine ⟨_, rfl, ?_⟩
  obtain ⟨X, hX⟩ : ∃ X, X = h1 + 1 := ⟨_, rfl⟩
  refine bindI_of (((X : Nat) : Int)) (by exact i64_at _ _ (by omega) (by omega) (by omega)) ?_
  have hX1 : 1 ≤ X := by omega
  have hWX : W * X ≤ 40000 := by
    have : W * X ≤ W * N := Nat.mul_le_mul_left _ (by omega)
    rw [Nat.mul_comm W N] at this
    omega
  have hWb : W ≤ 3000 := by omega
  have hXb : X ≤ 40000 := by omega
  clear hN hW hX hNW
  have hs : SizeP (W : Int) (X : Int) := by
    unfold SizeP
    have : (W : Int) * (X : Int) = ((W * X : Nat) : Int) := by simp
    rw [this]
    omega
  refine white_ok' (X := X) hs fun Z q h hZl hZw hZp H' => ?_
  replace H := (H.join H' rfl).rot
  clear H'
  refine ⟨_, _, _, _, _, rfl, ?_⟩
  refine newC_hp H fun r22 h H => ?_
  have H := H.rot
  repeat first | with_reducible refine stA H 0 (by with_unfolding_all exact rfl) (by with_unfolding_all exact rfl) (by with_unfolding_all exact rfl) fun h H => ?_ | with_reducible refine st0 H 0 (by with_unfolding_all exact rfl) (by with_unfolding_all exact rfl) (by with_unfolding_all exact rfl) fun h H => ?_ | with_reducible refine stB H 0 (by with_unfolding_all exact rfl) (by with_unfolding_all exact rfl) (by with_unfolding_all exact rfl) fun h H => ?_
  obtain ⟨M, hM⟩ : ∃ M, M = Z.length := ⟨_, rfl⟩
  rw [← hM] at H
  have H : Hp hB [] h [⟨r22, true, T_api_Bitmap, [.int .i64 (W : Nat), .int .i64 (X : Nat), .slice (at0 q) M M]⟩, ⟨q, true, T_uint64, u64s Z ++ []⟩, ⟨r4, true, T_burinlaw7_Plain, [.int .i64 w0, .int .i64 h0, .int .i64 b0]⟩] := H
  have hMl : M = X * wds W := hM.trans hZl
  refine ⟨fun vs h' => ∃ (bit : Bool) (R : List Nat), R.length = M ∧ W64 R ∧ (∀ y, y < X → ∀ x, x < 64 * wds W → pix R (wds W) x y = (bit && decide (x < W))) ∧
    Hp hB [] h' [⟨r22, true, T_api_Bitmap, [.int .i64 (W : Nat), .int .i64 (X : Nat), .slice (at0 q) M M]⟩, ⟨q, true, T_uint64, u64s R ++ []⟩, ⟨r4, true, T_burinlaw7_Plain, [.int .i64 w0, .int .i64 h0, .int .i64 b0]⟩], ?_, ?_⟩
  · repeat first | with_reducible refine ldI_of (by with_unfolding_all first | exact hpA H 0 rfl rfl | exact hpA H 1 rfl rfl | exact hpA H 2 rfl rfl | exact Hp.cell H 0 rfl rfl | exact Hp.cell H 1 rfl rfl | exact Hp.cell H 2 rfl rfl | exact hpB H 0 rfl rfl | exact hpB H 1 rfl rfl | exact hpB H 2 rfl rfl | exact hpC H 0 rfl rfl | exact hpC H 1 rfl rfl | exact hpC H 2 rfl rfl) ?_ | with_reducible refine ldS_of (by with_unfolding_all first | exact hpA H 0 rfl rfl | exact hpA H 1 rfl rfl | exact hpA H 2 rfl rfl | exact Hp.cell H 0 rfl rfl | exact Hp.cell H 1 rfl rfl | exact Hp.cell H 2 rfl rfl | exact hpB H 0 rfl rfl | exact hpB H 1 rfl rfl | exact hpB H 2 rfl rfl | exact hpC H 0 rfl rfl | exact hpC H 1 rfl rfl | exact hpC H 2 rfl rfl) ?_ | with_reducible refine ldP_of (by with_unfolding_all first | exact hpA H 0 rfl rfl | exact hpA H 1 rfl rfl | exact hpA H 2 rfl rfl | exact Hp.cell H 0 rfl rfl | exact Hp.cell H 1 rfl rfl | exact Hp.cell H 2 rfl rfl | exact hpB H 0 rfl rfl | exact hpB H 1 rfl rfl | exact hpB H 2 rfl rfl | exact hpC H 0 rfl rfl | exact hpC H 1 rfl rfl | exact hpC H 2 rfl rfl) ?_ | with_reducible refine ldB_of (by with_unfolding_all first | exact hpA H 0 rfl rfl | exact hpA H 1 rfl rfl | exact hpA H 2 rfl rfl | exact Hp.cell H 0 rfl rfl | exact Hp.cell H 1 rfl rfl | exact Hp.cell H 2 rfl rfl | exact hpB H 0 rfl rfl | exact hpB H 1 rfl rfl | exact hpB H 2 rfl rfl | exact hpC H 0 rfl rfl | exact hpC H 1 rfl rfl | exact hpC H 2 rfl rfl) ?_ | with_reducible refine ldT_of (by with_unfolding_all first | exact hpA H 0 rfl rfl | exact hpA H 1 rfl rfl | exact hpA H 2 rfl rfl | exact Hp.cell H 0 rfl rfl | exact Hp.cell H 1 rfl rfl | exact Hp.cell H 2 rfl rfl | exact hpB H 0 rfl rfl | exact hpB H 1 rfl rfl | exact hpB H 2 rfl rfl | exact hpC H 0 rfl rfl | exact hpC H 1 rfl rfl | exact hpC H 2 rfl rfl) ?_
    refine bindI_gen fun z hz => ?_
    refine bcase_eq (fun h5 => ?_) fun h5 => ⟨false, Z, hM.symm, hZw, fun y hy x hx => hZp _ _, H⟩
    refine ⟨fun n vs h' => ∃ (y : Nat) (R : List Nat), y + n = X ∧ vs = [.int .i64 (y : Nat)] ∧ R.length = M ∧ W64 R ∧ (∀ y', y' < X → ∀ x, x < 64 * wds W → pix R (wds W) x y' = decide (y' < y ∧ x < W)) ∧
      Hp hB [] h' [⟨r22, true, T_api_Bitmap, [.int .i64 (W : Nat), .int .i64 (X : Nat), .slice (at0 q) M M]⟩, ⟨q, true, T_uint64, u64s R ++ []⟩, ⟨r4, true, T_burinlaw7_Plain, [.int .i64 w0, .int .i64 h0, .int .i64 b0]⟩],
      ⟨X, 0, Z, by omega, rfl, hM.symm, hZw, fun y' hy' x hx => by rw [hZp]; exact (decide_eq_false (by omega)).symm, H⟩, ?_⟩
    clear H
    rintro n h u xx ⟨y, R, hyn, hxx, hRl, hRw, hRp, H⟩
    injection hxx with hxx
    injection hxx with _ hxx
    subst hxx
    refine bcase_dec (fun h6 => ?_) fun h6 => ?_
    · refine ⟨fun n2 vs h' => ∃ (x : Nat) (R : List Nat), x + n2 = W ∧ vs = [.int .i64 (x : Nat)] ∧ R.length = M ∧ W64 R ∧ (∀ y', y' < X → ∀ x', x' < 64 * wds W → pix R (wds W) x' y' = decide (y' < y ∧ x' < W ∨ y' = y ∧ x' < x)) ∧
        Hp hB [] h' [⟨r22, true, T_api_Bitmap, [.int .i64 (W : Nat), .int .i64 (X : Nat), .slice (at0 q) M M]⟩, ⟨q, true, T_uint64, u64s R ++ []⟩, ⟨r4, true, T_burinlaw7_Plain, [.int .i64 w0, .int .i64 h0, .int .i64 b0]⟩],
        ⟨W, 0, R, by omega, rfl, hRl, hRw, fun y' hy' x' hx' => by rw [hRp y' hy' x' hx', decide_eq_decide]; omega, H⟩, ?_⟩
      clear H hRl hRw hRp
      rintro n2 h u xx ⟨x, R, hxn, hxx, hRl, hRw, hRp, H⟩
      injection hxx with hxx
      injection hxx with _ hxx
      subst hxx
      refine bcase_dec (fun h7 => ?_) fun h7 => ?_
      · repeat first | with_reducible refine ldI_of (by with_unfolding_all first | exact hpA H 0 rfl rfl | exact Hp.cell H 0 rfl rfl | exact hpB H 0 rfl rfl | exact hpC H 0 rfl rfl) ?_ | with_reducible refine ldS_of (by with_unfolding_all first | exact hpA H 0 rfl rfl | exact Hp.cell H 0 rfl rfl | exact hpB H 0 rfl rfl | exact hpC H 0 rfl rfl) ?_ | with_reducible refine ldP_of (by with_unfolding_all first | exact hpA H 0 rfl rfl | exact Hp.cell H 0 rfl rfl | exact hpB H 0 rfl rfl | exact hpC H 0 rfl rfl) ?_ | with_reducible refine ldB_of (by with_unfolding_all first | exact hpA H 0 rfl rfl | exact Hp.cell H 0 rfl rfl | exact hpB H 0 rfl rfl | exact hpC H 0 rfl rfl) ?_ | with_reducible refine ldT_of (by with_unfolding_all first | exact hpA H 0 rfl rfl | exact Hp.cell H 0 rfl rfl | exact hpB H 0 rfl rfl | exact hpC H 0 rfl rfl) ?_
        have putR : ∀ (K1 : Value → Heap → Prop) (Kp1 : List PanicEntry → Heap → Prop), (∀ R' h', R'.length = R.length → W64 R' → (∀ y', y' < X → ∀ x', x' < 64 * wds W → pix R' (wds W) x' y' = if y' = y ∧ x' = x then true else pix R (wds W) x' y') →
            Hp hB [] h' [⟨r22, true, T_api_Bitmap, [.int .i64 (W : Nat), .int .i64 (X : Nat), .slice (at0 q) M M]⟩, ⟨q, true, T_uint64, u64s R' ++ []⟩, ⟨r4, true, T_burinlaw7_Plain, [.int .i64 w0, .int .i64 h0, .int .i64 b0]⟩] → K1 (.tuple #[]) h') →
            CP F_burinref0_Put #[.agg #[.int .i64 (W : Nat), .int .i64 (X : Nat), .slice (at0 q) M M], .int .i64 (x : Nat), .int .i64 (y : Nat), .int .i64 1] h K1 Kp1 := fun K1 Kp1 hk1 => by
          have h8 := put_ok (Kp := Kp1) (W := W) (X := X) (c := M) (ws := R) (rest := []) (a := x) (b := y) (bit := true) H 1 rfl hRw hs (hRl.trans hMl) (by omega) (by omega) hk1
          rw [hRl] at h8
          exact h8
        refine putR _ _ fun R' h' j1 j2 j3 H => ?_
        refine bindI_of (((x + 1 : Nat) : Int)) (by exact i64_at _ _ (by omega) (by omega) (by omega)) ?_
        refine ⟨n2 - 1, by omega, x + 1, R', by omega, rfl, j1.trans hRl, j2, fun y' hy' x' hx' => ?_, H⟩
        rw [j3 y' hy' x' hx']
        by_cases h9 : y' = y ∧ x' = x
        · rw [if_pos h9]
          exact (decide_eq_true (by omega)).symm
        · rw [if_neg h9, hRp y' hy' x' hx', decide_eq_decide]
          omega
      · refine bindI_of (((y + 1 : Nat) : Int)) (by exact i64_at _ _ (by omega) (by omega) (by omega)) ?_
        refine ⟨n - 1, by omega, y + 1, R, by omega, rfl, hRl, hRw, fun y' hy' x' hx' => ?_, H⟩
        rw [hRp y' hy' x' hx', decide_eq_decide]
        omega
    · refine ⟨true, R, hRl, hRw, fun y' hy' x' hx' => ?_, H⟩
      rw [hRp y' hy' x' hx', Bool.true_and, decide_eq_decide]
      omega
  clear H hZl hZw hZp hM
  rintro h u ⟨bit, R, hRl, hRw, hRp, H⟩
  have hmB : MayP (W : Int) (X : Int) R := may_of_pix hs (hRl.trans hMl) hRw fun y hy x h1 h2 => by
    rw [hRp y hy x h2, decide_eq_false (by omega), Bool.and_false]
  have hG : ∀ x y : Int, getP R W X x y = (bit && decide (0 ≤ x ∧ x < (W : Int) ∧ 0 ≤ y ∧ y < (X : Int))) := fun x y => by
    unfold getP
    by_cases hx : 0 ≤ x ∧ 0 ≤ y ∧ x < (W : Int) ∧ y < (X : Int)
    · have hx64 : x.toNat < 64 * wds W := by unfold wds; omega
      rw [decide_eq_true hx, hRp y.toNat (by omega) x.toNat hx64, Bool.true_and, decide_eq_true (by omega), decide_eq_true (by omega)]
    · rw [decide_eq_false hx, decide_eq_false (by omega), Bool.false_and, Bool.and_false]
  have hRl9 : R.length < 140737488351300 := by rw [hRl, hMl]; exact Nat.lt_of_le_of_lt (hw_le hW1 (by omega : W * X ≤ 1048576)) (by decide)
  refine ⟨fun n vs h' => ∃ t : Nat, t + n = 4 ∧ vs = [.int .i64 (t : Nat)] ∧ Hp hB [] h' [⟨r22, true, T_api_Bitmap, [.int .i64 (W : Nat), .int .i64 (X : Nat), .slice (at0 q) R.length R.length]⟩, ⟨q, true, T_uint64, u64s R ++ []⟩], ⟨4, 0, rfl, rfl, by rw [hRl]; exact H.take 2⟩, ?_⟩
  clear H
  rintro n h u xx ⟨t, htn, hxx, H⟩
  injection hxx with hxx
  injection hxx with _ hxx
  subst hxx
  refine bcase_dec (fun h6 => ?_) fun h6 => wakes7_ok fun h' e => ⟨_, rfl, hk _ (H.hext.trans e)⟩
  refine ⟨fun n vs h' => ∃ k : Nat, k + n = 2 ∧ vs = [.int .i64 (k : Nat)] ∧ Hp hB [] h' [⟨r22, true, T_api_Bitmap, [.int .i64 (W : Nat), .int .i64 (X : Nat), .slice (at0 q) R.length R.length]⟩, ⟨q, true, T_uint64, u64s R ++ []⟩], ⟨2, 0, rfl, rfl, H⟩, ?_⟩
  clear H
  rintro n2 h u xx ⟨k, hkn, hxx, H⟩
  injection hxx with hxx
  injection hxx with _ hxx
  subst hxx
  refine bcase_dec (fun h7 => ?_) fun h7 => ?_
  · repeat first | with_reducible refine ldI_of (by with_unfolding_all first | exact hpA H 0 rfl rfl | exact Hp.cell H 0 rfl rfl | exact hpB H 0 rfl rfl | exact hpC H 0 rfl rfl) ?_ | with_reducible refine ldS_of (by with_unfolding_all first | exact hpA H 0 rfl rfl | exact Hp.cell H 0 rfl rfl | exact hpB H 0 rfl rfl | exact hpC H 0 rfl rfl) ?_ | with_reducible refine ldP_of (by with_unfolding_all first | exact hpA H 0 rfl rfl | exact Hp.cell H 0 rfl rfl | exact hpB H 0 rfl rfl | exact hpC H 0 rfl rfl) ?_ | with_reducible refine ldB_of (by with_unfolding_all first | exact hpA H 0 rfl rfl | exact Hp.cell H 0 rfl rfl | exact hpB H 0 rfl rfl | exact hpC H 0 rfl rfl) ?_ | with_reducible refine ldT_of (by with_unfolding_all first | exact hpA H 0 rfl rfl | exact Hp.cell H 0 rfl rfl | exact hpB H 0 rfl rfl | exact hpC H 0 rfl rfl) ?_
    refine gEnc_ok (ws := R) (row_rdO H 1 rfl) hRw hRl9 fun e bs D qo c h' henc hsl H' => ?_
    replace H := H.join H' hsl.w
    clear H'
    refine ⟨_, _, _, _, rfl, ?_⟩
    obtain ⟨rfl, hlen⟩ := g_small (by omega) hmB hWX hG henc
    refine bcase_false (by rfl) ?_
    refine bindI_of (((W * X : Nat) : Int)) (by exact i64_at _ _ (by simp) (by omega) (by omega)) ?_
    refine bindI_of (((W * X / 32 : Nat) : Int)) (by exact i64_at _ _ (by rw [Int.ofNat_tdiv (W * X) 32]; rfl) (by omega) (by omega)) ?_
    refine bindI_of (((160 + W * X / 32 : Nat) : Int)) (by exact i64_at _ _ (by omega) (by omega) (by omega)) ?_
    refine bcase_dec (fun h8 => absurd h8 (by omega)) fun _ => ?_
    refine bindI_of (((k + 1 : Nat) : Int)) (by exact i64_at _ _ (by omega) (by omega) (by omega)) ?_
    exact ⟨n2 - 1, by omega, k + 1, by omega, rfl, H.take 2⟩
  · refine bindI_of (((t + 1 : Nat) : Int)) (by exact i64_at _ _ (by omega) (by omega) (by omega)) ?_
    exact ⟨n - 1, by omega, t + 1, by omega, rfl, H⟩
theorem gSmall_arg {h : Heap} {cs : Array Value} (hsz : cs.size = TP.cellsOf T_burinlaw7_Plain) (hw : WDx TP h T_burinlaw7_Plain cs.toList) {K : Value → Heap → Prop} {Kp : List PanicEntry → Heap → Prop} (hk : ∀ h', hext h h' → K (.bool true) h') :
    CP F_burinlaw7_GenericSmall #[.agg cs] h K Kp := by
  obtain ⟨hl, hf⟩ := wd_struct Go.Proofs.Try.underlying107 hw
  have k : TP.cellsOf T_burinlaw7_Plain = 3 := by kernel_rfl
  rw [k] at hl
  obtain ⟨v0, v1, v2, hcs⟩ := list3 hl
  rw [hcs] at hf
  obtain ⟨x0, e0, _⟩ := wd_int Go.Proofs.Try.underlying3 (one_of k_int (hf 0 _ rfl) (v := v0) rfl)
  obtain ⟨x1, e1, _⟩ := wd_int Go.Proofs.Try.underlying3 (one_of k_int (hf 1 _ rfl) (v := v1) rfl)
  obtain ⟨x2, e2, _⟩ := wd_int Go.Proofs.Try.underlying3 (one_of k_int (hf 2 _ rfl) (v := v2) rfl)
  simp only [List.cons.injEq, and_true] at e0 e1 e2
  subst e0 e1 e2
  obtain rfl : cs = #[.int .i64 x0, .int .i64 x1, .int .i64 x2] := by
    apply Array.toList_inj.1
    rw [hcs]
  exact gSmall_law hk
end Go.Bm

/- ArLink2: what a law's walk hands on. -/
namespace Go.Proofs.Yteakipgcanafoaa
open Go.ChangeShapes Go.WideShapes Go.ChangeAt Go.RowKit
set_option linter.unusedVariables false

theorem own : ownKnob Try.prog.godebug = none := by kernel_rfl
theorem laidOut : laidOutB Try.prog = true := by kernel_rfl

/-- What a call that keeps all old rows leaves, as a row's statement asks it. -/
theorem below_of {W W' : World} (hk : Go.Den.keeps W W') (h : Go.Den.hext W.heap W'.heap) : Below W.heap.size W W' :=
  ⟨hk.1, hk.2.1, hk.2.2, h.1, fun k hlt => h.2 k hlt⟩

theorem walk_of {f : FuncId} {args : Array Value} {W : World}
    (h : Calls Try.prog f args W fun e w' => Go.Den.keeps W w' ∧ match e with
      | .returned v => v = .bool true ∧ Go.Den.hext W.heap w'.heap
      | .panicked c => False
      | .outgrown => False) : Calls Try.prog f args W fun e W' => e = .returned (.bool true) ∧ Below W.heap.size W W' := by
  refine h.mono fun e W' he => ?_
  obtain ⟨hk, he⟩ := he
  cases e with
  | returned v => exact ⟨by rw [he.1], below_of hk he.2⟩
  | panicked c => exact he.elim
  | outgrown => exact he.elim

end Go.Proofs.Yteakipgcanafoaa

/- GnSmall: the given statement GenericSmallSaid. -/
namespace Go.Proofs.Yteakipgcanafoaa
open Go.ChangeShapes Go.WideShapes Go.ChangeAt Go.RowKit
set_option linter.unusedVariables false

theorem genericSmall_walk (W : World) {cs : Array Value} (hsz : cs.size = Try.prog.cellsOf 107) (hw : Go.Den.WDx Try.prog W.heap 107 cs.toList) : Calls Try.prog 15 #[.agg cs] W fun e W' => e = .returned (.bool true) ∧ Below W.heap.size W W' :=
  walk_of ((Go.Bm.gSmall_arg (h := W.heap) (K := fun v h' => v = .bool true ∧ Go.Den.hext W.heap h') (Kp := fun _ _ => False) hsz hw fun h' e => ⟨rfl, e⟩).2 W rfl)

set_option maxRecDepth 100000 in
theorem genericSmall_lifted (os : Os) (started : os.Started) (H : Type) (enc : TypeId × Value → H) :
    ReturnsInHanded {} Try.checked os 15 .any (Rows.genericSmallSpec.pre6 enc Try.prog Try.f15 Rows.genericSmallRow.domain false) (Rows.genericSmallSpec.post enc Try.prog Try.f15 false true false false) := by
  refine returnsInHanded_of_change_sized (C := Try.checked) own started (by kernel_rfl) Try.func15
    (ChangeSpec.witness6 (enc := enc) (C := Try.checked) false ⟨#[], #[.agg #[.int .i64 0, .int .i64 0, .int .i64 0]], []⟩ 8 (by kernel_rfl) (by kernel_rfl) (by kernel_rfl) (by kernel_rfl)) ?_
  intro W base args ds gs before hval0 hW hcnd hz _
  have hval : ∀ (j : Nat) t v, Try.f15.params[j]? = some t → args[j]? = some v → Value.okWide Try.prog W .any base t v := hval0
  have hz : ∀ n ∈ DataW.weightsEach Try.prog (Try.f15.params.toList ++ Rows.genericSmallSpec.plain.varTypes Try.prog) (ds ++ gs), n ≤ reachBytes := fun n hn => by simpa using List.all_eq_true.1 hz n hn
  have hW' := hW
  obtain ⟨p, q, hA0, hV, rfl, hfz, hnd⟩ := hW
  have hA : DataW.TrodAll enc Try.prog W 0 (fun _ => true) true Try.f15.params.toList args.toList ds p := hA0
  rw [Try.params15] at hA hval hz
  obtain ⟨v0, vs0, d0, ds0, p0, q0, hargs, rfl, rfl, h0, r0⟩ := trodAll_cons hA
  obtain ⟨rfl, rfl, rfl⟩ := trodAll_nil r0
  obtain rfl : args = #[v0] := by cases args; simp_all
  obtain ⟨rfl, rfl⟩ := trodVars_none hV
  obtain ⟨cs, rfl, hsz⟩ := okWide_struct Try.underlying107 (hval 0 107 v0 rfl rfl)
  have hwd : Go.Den.WDx Try.prog W.heap 107 cs.toList := by
    obtain ⟨f, hf⟩ := h0
    exact ⟨f, Go.Den.wd_of hf fun n hn => hz n (DataW.weights_mem_each (j := 0) rfl rfl n hn)⟩
  clear hA0 hval0
  simp only [List.append_nil] at hW'
  refine (genericSmall_walk W hsz hwd).mono fun e W' ⟨he, hb⟩ => ?_
  subst he
  refine ⟨_, rfl, [d0], [], _, [], p0, [], hW', ?_, ?_, ?_, hb.frame _, fun h => Bool.noConfusion h⟩
  · exact trodAll_cons_mk (shut_bool Go.Proofs.Try.underlying4 _) trodAll_mk0
  · exact ⟨p0, [], Below.trod laidOut (by kernel_rfl) (of_decide_eq_true (by kernel_rfl)) h0 hb (fun x hx => by simpa using hW'.lt x hx), rfl, (List.append_nil p0).symm⟩
  · rfl

theorem genericSmall_over : Rows.genericSmallRow.holds Try.pinned (OpenSpec.ofChange Rows.genericSmallSpec) :=
  OpenClaim.holds_of_wide 15 Try.f15 rfl rfl rfl rfl rfl rfl rfl ⟨rfl, rfl, rfl, rfl, rfl⟩ rfl rfl rfl rfl rfl (by kernel_rfl) Try.func15 (by kernel_rfl)
    (of_decide_eq_true (by kernel_rfl)) (by unfold Func.isWrapper; first | (rw [if_pos (by decide +kernel)]; kernel_rfl) | (rw [if_neg (by decide +kernel)]; exact ⟨rfl, rfl⟩))
    (fun os started H enc _ => genericSmall_lifted os started H enc)

theorem genericSmall_proved : Rows.GenericSmallSaid := genericSmall_over

#print axioms genericSmall_proved
end Go.Proofs.Yteakipgcanafoaa
