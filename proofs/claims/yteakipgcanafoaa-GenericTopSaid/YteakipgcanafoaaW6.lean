/- The given statement GenericTopSaid is proved of the given program; there are no further conditions. W6: put together by wip/tools/bundle.py: GnG RfR RfS GnH GnI GnJ Mlaw7x Blaw7x GnK RdB RdC Mlaw7GenericEncodes Blaw7GenericEncodes GnL Mlaw7GenericTop Blaw7GenericTop GnO ArLink2 GnTop. -/
import Derived.Test.YteakipgcanafoaaW1
import Derived.Test.YteakipgcanafoaaW2
import Derived.Test.YteakipgcanafoaaW3
import Derived.Test.YteakipgcanafoaaW4
import Derived.Test.YteakipgcanafoaaW5
import Derived.Test.YteakipgcanafoaaProg
import Derived.WalkKit
import Derived.ProofKit
import Derived.OpenShut
import Derived.Carry
import Derived.Deep.SlicePairs
import Derived.Lib.SmallJoins
import Derived.Test.YteakipgcanafoaaRows

/- GnG: generic.Decode; the document's side of generic coding. -/
set_option linter.unusedVariables false
set_option linter.unusedSimpArgs false
namespace Go.Bm
open Go Go.Den Go.Den.Yteakipgcanafoaa
open Go.Ar (Cod CodOk Dec codL decL BOk idx putM_ok getD_ok getD_bit newC newC_ok newD newD_ok flushM bytesM u8s refL refD RP)

section
variable {hB : Heap} {w b template : Int} {skip : Bool} {K : Value → Heap → Prop} {Kp : List PanicEntry → Heap → Prop}
set_option maxRecDepth 100000 in
set_option maxHeartbeats 1000000 in
theorem gDec_ok {src : Option Addr} {bc0 : Nat} {bytes : List Nat} (hbb : ∀ x ∈ bytes, x < 256) (hbl : bytes.length < 140737488351300) (hr : rdO hB src (bytes.length * 1) (u8s bytes))
    (hk : ∀ e w' b' bs s' D qo c h', GGetR bytes (gsize template.toNat + 1) 0 0 w b template skip (newD bytes (gsize template.toNat + 1)) e w' b' bs s' → Slot T_uint64 1 D qo bs.length c (u64s bs) → Hp hB [] h' D → K (.tuple #[.agg #[.int .i64 w', .int .i64 b', .slice qo bs.length c], .int .i64 e]) h') :
    CP F_generic_Decode #[.slice src bytes.length bc0, .int .i64 w, .int .i64 b, .int .i64 template, .bool skip] hB K Kp := by
  refine call_generic_Decode ?_
  unfold generic_Decode
  have H := Hp.nil hB []
  refine newC_hp H fun r1 h H => ?_
  refine csize_ok (fun t ht et h2 e2 => ?_) fun hn h2 e2 => ?_
  · have H := H.ext e2
    clear e2
    subst et
    have htt : 0 ≤ ((t : Nat) : Int) ∧ ((t : Nat) : Int) < 4 := by omega
    have hgs := gsize_le ht
    simp only [Int.toNat_natCast] at hk
    refine ⟨_, _, rfl, ?_⟩
    refine bcase_false (by rfl) ?_
    refine bindI_of (((gsize t + 1 : Nat) : Int)) (by exact i64_at _ _ (by omega) (by omega) (by omega)) ?_
    refine Go.Ar.newDecoder_ok (n := gsize t + 1) (by omega) (by omega) hbb hbl (H.rdO hr) fun p q e0 bp bc h3 hbok H' => ?_
    have hew := hbok.1
    replace H := H.join H' (by simp [decL, Go.Ar.decE, hbok.1])
    clear H'
    refine ⟨_, _, rfl, ?_⟩
    refine bcase_false (by rfl) ?_
    have hd := newD_ok hbb (gsize t + 1)
    refine gget_ok (bytes := bytes) (base := 0) (n0 := 0) (H.give [1, 2, 3] (by decide) rfl) (by rw [hd.b]; exact hbok) hbl hd (by omega) (by omega) size_px1 fun e w' b' bs s' D qo c h' hg hsl H' => ?_
    have H := Go.Bm.Hp.backD H [1, 2, 3] (by decide) rfl (by simp [decL, Go.Ar.decE, hew]) H' (by simp [decL, Go.Ar.decE, hew]) hsl.w rfl
    clear H'
    refine ⟨_, _, _, _, _, _, rfl, ?_⟩
    repeat first | with_reducible refine stA H 0 (by with_unfolding_all exact rfl) (by with_unfolding_all exact rfl) (by with_unfolding_all exact rfl) fun h H => ?_ | with_reducible refine st0 H 0 (by with_unfolding_all exact rfl) (by with_unfolding_all exact rfl) (by with_unfolding_all exact rfl) fun h H => ?_ | with_reducible refine stB H 0 (by with_unfolding_all exact rfl) (by with_unfolding_all exact rfl) (by with_unfolding_all exact rfl) fun h H => ?_
    have H : Hp hB [] h (([⟨r1, true, T_api_Bitmap, [.int .i64 w', .int .i64 b', .slice qo bs.length c]⟩] ++ decL p q e0 bp bc s') ++ D) := H
    repeat first | with_reducible refine ldI_of (by with_unfolding_all first | exact hpA H 0 rfl rfl | exact Hp.cell H 0 rfl rfl | exact hpB H 0 rfl rfl | exact hpC H 0 rfl rfl) ?_ | with_reducible refine ldS_of (by with_unfolding_all first | exact hpA H 0 rfl rfl | exact Hp.cell H 0 rfl rfl | exact hpB H 0 rfl rfl | exact hpC H 0 rfl rfl) ?_ | with_reducible refine ldP_of (by with_unfolding_all first | exact hpA H 0 rfl rfl | exact Hp.cell H 0 rfl rfl | exact hpB H 0 rfl rfl | exact hpC H 0 rfl rfl) ?_ | with_reducible refine ldB_of (by with_unfolding_all first | exact hpA H 0 rfl rfl | exact Hp.cell H 0 rfl rfl | exact hpB H 0 rfl rfl | exact hpC H 0 rfl rfl) ?_ | with_reducible refine ldT_of (by with_unfolding_all first | exact hpA H 0 rfl rfl | exact Hp.cell H 0 rfl rfl | exact hpB H 0 rfl rfl | exact hpC H 0 rfl rfl) ?_
    exact hk e w' b' bs s' D qo c h hg hsl (Hp.suf H)
  · have H := H.ext e2
    refine ⟨_, _, rfl, ?_⟩
    refine bcase_true (by rfl) ?_
    repeat first | with_reducible refine ldI_of (by with_unfolding_all first | exact hpA H 0 rfl rfl | exact Hp.cell H 0 rfl rfl | exact hpB H 0 rfl rfl | exact hpC H 0 rfl rfl) ?_ | with_reducible refine ldS_of (by with_unfolding_all first | exact hpA H 0 rfl rfl | exact Hp.cell H 0 rfl rfl | exact hpB H 0 rfl rfl | exact hpC H 0 rfl rfl) ?_ | with_reducible refine ldP_of (by with_unfolding_all first | exact hpA H 0 rfl rfl | exact Hp.cell H 0 rfl rfl | exact hpB H 0 rfl rfl | exact hpC H 0 rfl rfl) ?_ | with_reducible refine ldB_of (by with_unfolding_all first | exact hpA H 0 rfl rfl | exact Hp.cell H 0 rfl rfl | exact hpB H 0 rfl rfl | exact hpC H 0 rfl rfl) ?_ | with_reducible refine ldT_of (by with_unfolding_all first | exact hpA H 0 rfl rfl | exact Hp.cell H 0 rfl rfl | exact hpB H 0 rfl rfl | exact hpC H 0 rfl rfl) ?_ | with_reducible refine stA H 0 (by with_unfolding_all exact rfl) (by with_unfolding_all exact rfl) (by with_unfolding_all exact rfl) fun h H => ?_ | with_reducible refine st0 H 0 (by with_unfolding_all exact rfl) (by with_unfolding_all exact rfl) (by with_unfolding_all exact rfl) fun h H => ?_ | with_reducible refine stB H 0 (by with_unfolding_all exact rfl) (by with_unfolding_all exact rfl) (by with_unfolding_all exact rfl) fun h H => ?_
    exact hk 60 0 0 [] _ [] none 0 _ (.inl ⟨hn, rfl, rfl, rfl, rfl, rfl⟩) (Slot.nil _ _) (H.take 0)

/-! ### the document's -/
theorem need7_ok {t : Nat} (ht : t < 4) (hk : ∀ h', hext hB h' → K (.int .i64 (gsize t + 1 : Nat)) h') : CP F_burinref7_Need #[.int .i64 (t : Nat)] hB K Kp := by
  refine call_burinref7_Need ?_
  unfold burinref7_Need
  have hgs := gsize_le ht
  refine rsize6_ok ht fun h' e => ?_
  refine ⟨_, rfl, ?_⟩
  refine bindI_of (((gsize t + 1 : Nat) : Int)) (by exact i64_at _ _ (by omega) (by omega) (by omega)) ?_
  exact hk _ e
theorem same7_ok {W X y : Nat} {q : Option Addr} {c : Nat} {ws : List Nat} (hr : rdO hB q (ws.length * 1) (u64s ws)) (hw : W64 ws) (hs : SizeP (W : Int) (X : Int)) (hl : ws.length = X * wds W) (hy : y < X)
    (hk : ∀ h', hext hB h' → K (.int .i64 ((sameB (getP ws W X) W y).toNat : Nat)) h') : CP F_burinref7_same #[.agg #[.int .i64 (W : Nat), .int .i64 (X : Nat), .slice q ws.length c], .int .i64 (y : Nat)] hB K Kp := by
  refine call_burinref7_same ?_
  unfold burinref7_same
  obtain ⟨W', X', e1, e2, hW1, hW2, hX1, hX2, hWX⟩ := size_nat hs
  obtain rfl : W = W' := by omega
  obtain rfl : X = X' := by omega
  clear e1 e2
  have H := Hp.nil hB []
  refine newC_hp H fun r4 h H => ?_
  refine ⟨fun n vs h' => ∃ x : Nat, x + n = W ∧ vs = [.int .i64 (x : Nat)] ∧ (∀ j, j < x → getP ws W X (j : Int) (y : Int) = getP ws W X (j : Int) ((y : Int) - 1)) ∧ Hp hB [] h' [⟨r4, true, T_api_Bitmap, [.int .i64 (W : Nat), .int .i64 (X : Nat), .slice q ws.length c]⟩], ⟨W, 0, by omega, rfl, fun j hj => absurd hj (Nat.not_lt_zero _), H⟩, ?_⟩
  clear H
  rintro n h u xx ⟨x, hxn, hxx, hall, H⟩
  injection hxx with hxx
  injection hxx with _ hxx
  subst hxx
  repeat first | with_reducible refine ldI_of (by with_unfolding_all first | exact hpA H 0 rfl rfl | exact Hp.cell H 0 rfl rfl | exact hpB H 0 rfl rfl | exact hpC H 0 rfl rfl) ?_ | with_reducible refine ldS_of (by with_unfolding_all first | exact hpA H 0 rfl rfl | exact Hp.cell H 0 rfl rfl | exact hpB H 0 rfl rfl | exact hpC H 0 rfl rfl) ?_ | with_reducible refine ldP_of (by with_unfolding_all first | exact hpA H 0 rfl rfl | exact Hp.cell H 0 rfl rfl | exact hpB H 0 rfl rfl | exact hpC H 0 rfl rfl) ?_ | with_reducible refine ldB_of (by with_unfolding_all first | exact hpA H 0 rfl rfl | exact Hp.cell H 0 rfl rfl | exact hpB H 0 rfl rfl | exact hpC H 0 rfl rfl) ?_ | with_reducible refine ldT_of (by with_unfolding_all first | exact hpA H 0 rfl rfl | exact Hp.cell H 0 rfl rfl | exact hpB H 0 rfl rfl | exact hpC H 0 rfl rfl) ?_
  refine bcase_dec (fun h4 => ?_) fun h4 => ?_
  · refine bindI_of (((y : Int) - 1)) (by exact i64_in _ (by omega) (by omega)) ?_
    repeat first | with_reducible refine ldI_of (by with_unfolding_all first | exact hpA H 0 rfl rfl | exact Hp.cell H 0 rfl rfl | exact hpB H 0 rfl rfl | exact hpC H 0 rfl rfl) ?_ | with_reducible refine ldS_of (by with_unfolding_all first | exact hpA H 0 rfl rfl | exact Hp.cell H 0 rfl rfl | exact hpB H 0 rfl rfl | exact hpC H 0 rfl rfl) ?_ | with_reducible refine ldP_of (by with_unfolding_all first | exact hpA H 0 rfl rfl | exact Hp.cell H 0 rfl rfl | exact hpB H 0 rfl rfl | exact hpC H 0 rfl rfl) ?_ | with_reducible refine ldB_of (by with_unfolding_all first | exact hpA H 0 rfl rfl | exact Hp.cell H 0 rfl rfl | exact hpB H 0 rfl rfl | exact hpC H 0 rfl rfl) ?_ | with_reducible refine ldT_of (by with_unfolding_all first | exact hpA H 0 rfl rfl | exact Hp.cell H 0 rfl rfl | exact hpB H 0 rfl rfl | exact hpC H 0 rfl rfl) ?_
    refine get_ok (H.rdO hr) hw hs hl fun h' e => ?_
    have H := H.ext e
    refine ⟨_, rfl, e, ?_⟩
    refine get_ok (H.rdO hr) hw hs hl fun h' e => ?_
    have H := H.ext e
    refine ⟨_, rfl, ?_⟩
    refine bcase_ne (fun h5 => ?_) fun h5 => ?_
    · have hne : getP ws W X (x : Int) (y : Int) ≠ getP ws W X (x : Int) ((y : Int) - 1) := fun e => h5 (by rw [e])
      have : sameB (getP ws W X) W y = false := by
        unfold sameB
        rw [← Bool.not_eq_true, List.all_eq_true]
        intro hh
        have := hh x (List.mem_range.2 (by omega))
        exact hne (by simpa using this)
      rw [this] at hk
      exact hk _ H.hext
    · have heq : getP ws W X (x : Int) (y : Int) = getP ws W X (x : Int) ((y : Int) - 1) := by
        generalize getP ws W X (x : Int) (y : Int) = a at h5
        generalize getP ws W X (x : Int) ((y : Int) - 1) = b at h5
        cases a <;> cases b <;> first | rfl | (exact absurd h5 (by decide))
      refine bindI_of (((x + 1 : Nat) : Int)) (by exact i64_at _ _ (by omega) (by omega) (by omega)) ?_
      refine ⟨n - 1, by omega, x + 1, by omega, rfl, fun j hj => ?_, H⟩
      rcases Nat.lt_or_ge j x with h6 | h6
      · exact hall j h6
      · obtain rfl : j = x := by omega
        exact heq
  · obtain rfl : W = x := by omega
    have : sameB (getP ws W X) W y = true := by
      unfold sameB
      rw [List.all_eq_true]
      intro j hj
      rw [hall j (List.mem_range.1 hj)]
      simp
    rw [this] at hk
    exact hk _ H.hext
end
theorem runG_next {σ : Type} {step : σ → Nat → Bool → (Bool × σ) ⊕ (Int × σ)} {W t y : Nat} {skip : Bool} {g : (Int → Int → Bool) × σ} {G : Int → Int → Bool} {s : σ} (h : runG W t skip step y g = .inl (G, s)) : runG W t skip step (y + 1) g = match skip with
    | false => rowG t step y W (G, s)
    | true => match step s (gsize t) (sameB G W y) with
      | .inr e => .inr e
      | .inl (true, s') => .inl (copyRow G y, s')
      | .inl (false, s') => rowG t step y W (G, s') := by
  rw [runG, h]
  cases skip <;> rfl
theorem copy_same {G : Int → Int → Bool} {W y : Nat} (hG : ∀ a b : Int, ¬ (0 ≤ a ∧ a < W) → G a b = false) (h : sameB G W y = true) : copyRow G y = G := by
  funext a b
  unfold copyRow
  by_cases hc : b = (y : Int) ∧ y ≠ 0
  · rw [if_pos hc]
    by_cases hin : 0 ≤ a ∧ a < W
    · unfold sameB at h
      rw [List.all_eq_true] at h
      have := h a.toNat (List.mem_range.2 (by omega))
      have ea : ((a.toNat : Nat) : Int) = a := by omega
      rw [ea] at this
      rw [hc.1]
      exact (by simpa using this : G a (y : Int) = G a ((y : Int) - 1)).symm
    · rw [hG _ _ hin, hG _ _ hin]
  · rw [if_neg hc]
theorem getP_side (ws : List Nat) (W X : Nat) (a b : Int) (h : ¬ (0 ≤ a ∧ a < W)) : getP ws W X a b = false := by
  unfold getP
  rw [decide_eq_false (by omega), Bool.false_and]

set_option maxRecDepth 100000 in
set_option maxHeartbeats 2000000 in
theorem rPut7_ok {h0 h : Heap} {A : RP} {r m n0 : Nat} {s0 : Cod} {rest : List Value} {Y : List Ent} (H : Hp h0 [] h (refL A r s0 rest ++ Y)) (hc : CodOk m n0 s0) (hm1 : 1 ≤ m) (hm2 : m ≤ 131072) {base : Int} (hbase : 0 ≤ base ∧ base ≤ 131072)
    {W X t : Nat} {q1 : Option Addr} {c1 : Nat} {ws : List Nat} {skip : Bool} (ht : t < 4) (hr1 : rdO h0 q1 (ws.length * 1) (u64s ws)) (hw : W64 ws) (hma : MayP (W : Int) (X : Int) ws) (hN : n0 + X * (W + 1) ≤ 16777216) {K : Value → Heap → Prop} {Kp : List PanicEntry → Heap → Prop}
    (hk : ∀ s' k r' rest' h', runG W t skip (stepP m base) X (getP ws W X, s0) = .inl (getP ws W X, s') → k ≤ X * (W + 1) → CodOk m (n0 + k) s' → Hp h0 [] h' (refL A r' s' rest' ++ Y) → K (.int .i64 0) h') :
    CP F_burinref7_Put #[.pointer (at0 A.p), .int .i64 base, .agg #[.int .i64 (W : Nat), .int .i64 (X : Nat), .slice q1 ws.length c1], .int .i64 (t : Nat), .bool skip] h K Kp := by
  refine call_burinref7_Put ?_
  unfold burinref7_Put
  obtain ⟨W', X', e1, e2, hW1, hW2, hX1, hX2, hWX⟩ := size_nat hma.1
  obtain rfl : W = W' := by omega
  obtain rfl : X = X' := by omega
  clear e1 e2
  have hgs := gsize_le ht
  refine newC_hp H fun r4 h H => ?_
  have H := H.rot
  refine places_ok ht fun rp h' H' => ?_
  replace H := (H.join H' rfl).rot
  clear H'
  refine ⟨_, _, _, rfl, ?_⟩
  have H : Hp h0 [] h' ([⟨rp, true, T_int, plcI (plcs (spanL t))⟩, ⟨r4, true, T_api_Bitmap, [.int .i64 (W : Nat), .int .i64 (X : Nat), .slice q1 ws.length c1]⟩] ++ (refL A r s0 rest ++ Y)) := H
  have hplr : ∀ {h : Heap} {s : Cod} {r : Nat} {rest : List Value}, Hp h0 [] h ([⟨rp, true, T_int, plcI (plcs (spanL t))⟩, ⟨r4, true, T_api_Bitmap, [.int .i64 (W : Nat), .int .i64 (X : Nat), .slice q1 ws.length c1]⟩] ++ (refL A r s rest ++ Y)) → rdO h (at0 rp) (2 * (plcs (spanL t)).length * 1) (plcI (plcs (spanL t))) := fun H => by
    have hpl : (plcI (plcs (spanL t))).length = 2 * (plcs (spanL t)).length * 1 := by
      generalize plcs (spanL t) = P
      induction P with
      | nil => rfl
      | cons p P ih =>
        show (_ :: _ :: plcI P).length = _
        simp only [List.length_cons, ih]
        omega
    have := rdO_hp H 0 (b := rp) (o := 0) (n := 2 * (plcs (spanL t)).length * 1) (w := true) (t := T_int) (cs := plcI (plcs (spanL t))) rfl (by omega)
    rw [List.drop_zero, List.take_of_length_le (by omega)] at this
    exact this
  obtain ⟨G, hG⟩ : ∃ G, G = getP ws W X := ⟨_, rfl⟩
  refine ⟨fun n vs h' => ∃ (y : Nat) (s : Cod) (k r' : Nat) (rest' : List Value), y + n = X ∧ vs = [.int .i64 (y : Nat)] ∧ runG W t skip (stepP m base) y (G, s0) = .inl (G, s) ∧ k ≤ y * (W + 1) ∧ CodOk m (n0 + k) s ∧
    Hp h0 [] h' ([⟨rp, true, T_int, plcI (plcs (spanL t))⟩, ⟨r4, true, T_api_Bitmap, [.int .i64 (W : Nat), .int .i64 (X : Nat), .slice q1 ws.length c1]⟩] ++ (refL A r' s rest' ++ Y)), ⟨X, 0, s0, 0, r, rest, by omega, rfl, rfl, by omega, hc, H⟩, ?_⟩
  clear H
  rintro n h u xx ⟨y, s, k, r', rest', hyn, hxx, hrun, hky, hok, H⟩
  injection hxx with hxx
  injection hxx with _ hxx
  subst hxx
  repeat first | with_reducible refine ldI_of (by with_unfolding_all first | exact hpA H 1 rfl rfl | exact Hp.cell H 1 rfl rfl | exact hpB H 1 rfl rfl | exact hpC H 1 rfl rfl) ?_ | with_reducible refine ldS_of (by with_unfolding_all first | exact hpA H 1 rfl rfl | exact Hp.cell H 1 rfl rfl | exact hpB H 1 rfl rfl | exact hpC H 1 rfl rfl) ?_ | with_reducible refine ldP_of (by with_unfolding_all first | exact hpA H 1 rfl rfl | exact Hp.cell H 1 rfl rfl | exact hpB H 1 rfl rfl | exact hpC H 1 rfl rfl) ?_ | with_reducible refine ldB_of (by with_unfolding_all first | exact hpA H 1 rfl rfl | exact Hp.cell H 1 rfl rfl | exact hpB H 1 rfl rfl | exact hpC H 1 rfl rfl) ?_ | with_reducible refine ldT_of (by with_unfolding_all first | exact hpA H 1 rfl rfl | exact Hp.cell H 1 rfl rfl | exact hpB H 1 rfl rfl | exact hpC H 1 rfl rfl) ?_
  refine bcase_dec (fun h1 => ?_) fun h1 => ?_
  · have hy : y < X := by omega
    have hkX : (y + 1) * (W + 1) ≤ X * (W + 1) := Nat.mul_le_mul_right _ (by omega)
    rw [Nat.add_mul, Nat.one_mul] at hkX
    have hnext := runG_next hrun
    refine ⟨fun _ h' => ∃ s1 k1 r1 rest1, runG W t skip (stepP m base) (y + 1) (G, s0) = rowG t (stepP m base) y W (G, s1) ∧ k1 ≤ y * (W + 1) + 1 ∧ CodOk m (n0 + k1) s1 ∧
      Hp h0 [] h' ([⟨rp, true, T_int, plcI (plcs (spanL t))⟩, ⟨r4, true, T_api_Bitmap, [.int .i64 (W : Nat), .int .i64 (X : Nat), .slice q1 ws.length c1]⟩] ++ (refL A r1 s1 rest1 ++ Y)), ?_, ?_⟩
    · cases skip with
      | false =>
        refine bcase_false rfl ?_
        exact ⟨s, k, r', rest', hnext, by omega, hok, H⟩
      | true =>
        refine bcase_true rfl ?_
        repeat first | with_reducible refine ldI_of (by with_unfolding_all first | exact hpA H 1 rfl rfl | exact Hp.cell H 1 rfl rfl | exact hpB H 1 rfl rfl | exact hpC H 1 rfl rfl) ?_ | with_reducible refine ldS_of (by with_unfolding_all first | exact hpA H 1 rfl rfl | exact Hp.cell H 1 rfl rfl | exact hpB H 1 rfl rfl | exact hpC H 1 rfl rfl) ?_ | with_reducible refine ldP_of (by with_unfolding_all first | exact hpA H 1 rfl rfl | exact Hp.cell H 1 rfl rfl | exact hpB H 1 rfl rfl | exact hpC H 1 rfl rfl) ?_ | with_reducible refine ldB_of (by with_unfolding_all first | exact hpA H 1 rfl rfl | exact Hp.cell H 1 rfl rfl | exact hpB H 1 rfl rfl | exact hpC H 1 rfl rfl) ?_ | with_reducible refine ldT_of (by with_unfolding_all first | exact hpA H 1 rfl rfl | exact Hp.cell H 1 rfl rfl | exact hpB H 1 rfl rfl | exact hpC H 1 rfl rfl) ?_
        refine same7_ok (H.rdO hr1) hw hma.1 (may_len hma) hy fun h' e => ?_
        have H := H.ext e
        clear e
        refine ⟨_, rfl, ?_⟩
        refine need7_ok ht fun h' e => ?_
        have H := H.ext e
        clear e
        refine ⟨_, rfl, ?_⟩
        refine bindI_of ((base + ((gsize t + 1 : Nat) : Int))) (by exact i64_in _ (by omega) (by omega)) ?_
        refine bindI_of ((base + ((gsize t : Nat) : Int))) (by exact i64_at _ _ (by omega) (by omega) (by omega)) ?_
        rw [← hG]
        refine Go.Ar.rput_ok (bit := (sameB G W y).toNat) (H.give [2, 3, 4, 5, 6] (by decide) rfl) hok.wf hok.done (by rw [hok.n]; omega) (by rw [hok.len]; exact hm1) (by rw [hok.len]; exact hm2) (toNat_le _) fun r3 rest3 h5 H' => ?_
        replace H := H.put [2, 3, 4, 5, 6] (by decide) rfl rfl H' rfl rfl
        clear H'
        rw [hok.len] at H
        have hok2 := putM_ok hok (idx (base + ((gsize t : Nat) : Int)) m) (sameB G W y).toNat (by omega)
        refine ⟨_, rfl, ?_⟩
        refine bcase_false (by rfl) ?_
        simp only [stepP] at hnext
        cases hsm : sameB G W y with
        | true =>
          rw [hsm] at hnext H hok2
          simp only at hnext
          rw [copy_same (fun a b h => by rw [hG]; exact getP_side ws W X a b h) hsm] at hnext
          refine bcase_eq (fun _ => ?_) fun h5 => absurd rfl h5
          refine bindI_of (((y + 1 : Nat) : Int)) (by exact i64_at _ _ (by omega) (by omega) (by omega)) ?_
          exact ⟨n - 1, by omega, y + 1, _, k + 1, r3, rest3, by omega, rfl, hnext, by rw [Nat.add_mul, Nat.one_mul]; omega, hok2, H⟩
        | false =>
          rw [hsm] at hnext H hok2
          simp only at hnext
          refine bcase_eq (fun h5 => absurd h5 (by decide)) fun h5 => ?_
          exact ⟨_, k + 1, r3, rest3, hnext, by omega, hok2, H⟩
    · clear H hok hnext
      rintro h u ⟨s1, k1, r1, rest1, hnext, hk1, hok1, H⟩
      refine ⟨fun n vs h' => ∃ (x : Nat) (s : Cod) (r' : Nat) (rest' : List Value), x + n = W ∧ vs = [.int .i64 (x : Nat)] ∧ rowG t (stepP m base) y x (G, s1) = .inl (G, s) ∧ CodOk m (n0 + k1 + x) s ∧
        Hp h0 [] h' ([⟨rp, true, T_int, plcI (plcs (spanL t))⟩, ⟨r4, true, T_api_Bitmap, [.int .i64 (W : Nat), .int .i64 (X : Nat), .slice q1 ws.length c1]⟩] ++ (refL A r' s rest' ++ Y)), ⟨W, 0, s1, r1, rest1, by omega, rfl, rfl, hok1, H⟩, ?_⟩
      clear H hok1
      rintro n2 h u xx ⟨x, s2, r2, rest2, hxn, hxx, hrow, hok, H⟩
      injection hxx with hxx
      injection hxx with _ hxx
      subst hxx
      repeat first | with_reducible refine ldI_of (by with_unfolding_all first | exact hpA H 1 rfl rfl | exact Hp.cell H 1 rfl rfl | exact hpB H 1 rfl rfl | exact hpC H 1 rfl rfl) ?_ | with_reducible refine ldS_of (by with_unfolding_all first | exact hpA H 1 rfl rfl | exact Hp.cell H 1 rfl rfl | exact hpB H 1 rfl rfl | exact hpC H 1 rfl rfl) ?_ | with_reducible refine ldP_of (by with_unfolding_all first | exact hpA H 1 rfl rfl | exact Hp.cell H 1 rfl rfl | exact hpB H 1 rfl rfl | exact hpC H 1 rfl rfl) ?_ | with_reducible refine ldB_of (by with_unfolding_all first | exact hpA H 1 rfl rfl | exact Hp.cell H 1 rfl rfl | exact hpB H 1 rfl rfl | exact hpC H 1 rfl rfl) ?_ | with_reducible refine ldT_of (by with_unfolding_all first | exact hpA H 1 rfl rfl | exact Hp.cell H 1 rfl rfl | exact hpB H 1 rfl rfl | exact hpC H 1 rfl rfl) ?_
      refine bcase_dec (fun h2 => ?_) fun h2 => ?_
      · have hx : x < W := by omega
        repeat first | with_reducible refine ldI_of (by with_unfolding_all first | exact hpA H 1 rfl rfl | exact Hp.cell H 1 rfl rfl | exact hpB H 1 rfl rfl | exact hpC H 1 rfl rfl) ?_ | with_reducible refine ldS_of (by with_unfolding_all first | exact hpA H 1 rfl rfl | exact Hp.cell H 1 rfl rfl | exact hpB H 1 rfl rfl | exact hpC H 1 rfl rfl) ?_ | with_reducible refine ldP_of (by with_unfolding_all first | exact hpA H 1 rfl rfl | exact Hp.cell H 1 rfl rfl | exact hpB H 1 rfl rfl | exact hpC H 1 rfl rfl) ?_ | with_reducible refine ldB_of (by with_unfolding_all first | exact hpA H 1 rfl rfl | exact Hp.cell H 1 rfl rfl | exact hpB H 1 rfl rfl | exact hpC H 1 rfl rfl) ?_ | with_reducible refine ldT_of (by with_unfolding_all first | exact hpA H 1 rfl rfl | exact Hp.cell H 1 rfl rfl | exact hpB H 1 rfl rfl | exact hpC H 1 rfl rfl) ?_
        refine at6_ok ht (H.rdO hr1) hw hma.1 (may_len hma) (hplr H) hx hy fun h' e => ?_
        have H := H.ext e
        refine ⟨_, rfl, e, ?_⟩
        clear e
        rw [← hG]
        have hcl := gctx_lt t G (x : Nat) (y : Nat)
        have hstep : rowG t (stepP m base) y (x + 1) (G, s1) = .inl (G, Go.Ar.putM s2 (idx (base + ((gctx t G (x : Nat) (y : Nat) : Nat) : Int)) m) (G (x : Int) (y : Int)).toNat) := by
          rw [rowG, hrow]
          simp only [stepP, upd_self]
        generalize gctx t G (x : Nat) (y : Nat) = cx at hcl hstep ⊢
        refine bindI_of ((base + (cx : Int))) (by exact i64_in _ (by omega) (by omega)) ?_
        refine get_ok (H.rdO hr1) hw hma.1 (may_len hma) fun h4 e4 => ?_
        have H := H.ext e4
        clear e4
        refine ⟨_, rfl, ?_⟩
        rw [← hG]
        refine Go.Ar.rput_ok (bit := (G (x : Int) (y : Int)).toNat) (H.give [2, 3, 4, 5, 6] (by decide) rfl) hok.wf hok.done (by rw [hok.n]; omega) (by rw [hok.len]; exact hm1) (by rw [hok.len]; exact hm2) (toNat_le _) fun r3 rest3 h5 H' => ?_
        replace H := H.put [2, 3, 4, 5, 6] (by decide) rfl rfl H' rfl rfl
        clear H'
        rw [hok.len] at H
        refine ⟨_, rfl, ?_⟩
        refine bcase_false (by rfl) ?_
        refine bindI_of (((x + 1 : Nat) : Int)) (by exact i64_at _ _ (by omega) (by omega) (by omega)) ?_
        exact ⟨n2 - 1, by omega, x + 1, _, r3, rest3, by omega, rfl, hstep, putM_ok hok _ _ (by omega), H⟩
      · obtain rfl : W = x := by omega
        rw [hrow] at hnext
        refine bindI_of (((y + 1 : Nat) : Int)) (by exact i64_at _ _ (by omega) (by omega) (by omega)) ?_
        exact ⟨n - 1, by omega, y + 1, s2, k1 + W, r2, rest2, by omega, rfl, hnext, by rw [Nat.add_mul, Nat.one_mul]; omega, by rw [← Nat.add_assoc]; exact hok, H⟩
  · obtain rfl : X = y := by omega
    rw [hG] at hrun
    exact hk s k r' rest' h hrun hky hok (Hp.suf (X := [_, _]) H)
end Go.Bm

/- RfR: refinement, plain laws: what is read is one; a reference that is seen alike; a few rows; many bitmaps one behind the other. -/
set_option linter.unusedVariables false
set_option linter.unusedSimpArgs false
namespace Go.Bm
open Go Go.Den Go.Den.Yteakipgcanafoaa
open Go.Ar (Cod Dec codN decN newC newD idx bytesM flushM)

theorem GetR.det {bytes : List Nat} {m n0 : Nat} {base w b w2 b2 : Int} {ws2 : List Nat} {dx dy : Int} {s : Dec} {e1 a1 c1 e2 a2 c2 : Int} {bs1 bs2 : List Nat} {s1 s2 : Dec}
    (h1 : GetR bytes m n0 base w b w2 b2 ws2 dx dy s e1 a1 c1 bs1 s1) (h2 : GetR bytes m n0 base w b w2 b2 ws2 dx dy s e2 a2 c2 bs2 s2) : e1 = e2 ∧ a1 = a2 ∧ c1 = c2 ∧ bs1 = bs2 ∧ s1 = s2 := by
  rcases h1 with ⟨p, q1, q2, q3, q4, q5⟩ | ⟨p, p2, q1, q2, q3, q4, q5⟩ | ⟨p, p2, p3, q1, q2, q3, q4, q5⟩ | ⟨p, p2, p3, p4, q1, q2, q3, q4, q5⟩ | ⟨p, p2, p3, p4, q1, q2, q3, q4, lx, wx, zx, dx'⟩ <;>
  rcases h2 with ⟨p', r1, r2, r3, r4, r5⟩ | ⟨p', p2', r1, r2, r3, r4, r5⟩ | ⟨p', p2', p3', r1, r2, r3, r4, r5⟩ | ⟨p', p2', p3', p4', r1, r2, r3, r4, r5⟩ | ⟨p', p2', p3', p4', r1, r2, r3, r4, ly, wy, zy, dy'⟩ <;>
  first
    | contradiction
    | exact ⟨q1.trans r1.symm, q2.trans r2.symm, q3.trans r3.symm, q4.trans r4.symm, q5.trans r5.symm⟩
    | skip
  rw [q4] at r4
  injection r4 with r4
  injection r4 with r4 r5
  obtain ⟨W, X, rfl, rfl, _⟩ := size_nat p2
  simp only [Int.toNat_natCast] at r4 lx ly zx zy
  exact ⟨q1.trans r1.symm, q2.trans r2.symm, q3.trans r3.symm, getP_ext lx ly wx wy zx zy r4, r5⟩

theorem ctx_ref {G R1 R2 : Int → Int → Bool} {dx1 dy1 dx2 dy2 x y : Int} (h : ∀ a b, x - 1 ≤ a → a ≤ x + 1 → R1 (a - dx1) (b - dy1) = R2 (a - dx2) (b - dy2)) : ctxN G R1 dx1 dy1 x y = ctxN G R2 dx2 dy2 x y := by
  have rows : ∀ d, rowsN R1 dx1 dy1 x y d = rowsN R2 dx2 dy2 x y d := by
    intro d
    induction d with
    | zero => rfl
    | succ d ih =>
      unfold rowsN rowB3
      rw [ih, h (x - 1) _ (by omega) (by omega), h x _ (by omega) (by omega), h (x + 1) _ (by omega) (by omega)]
  unfold ctxN
  rw [rows 3]
theorem runN_ref {σ : Type} {step : σ → Nat → Bool → (Bool × σ) ⊕ (Int × σ)} {W : Nat} {R1 R2 : Int → Int → Bool} {dx1 dy1 dx2 dy2 : Int} (hW : 1 ≤ W) (h : ∀ a b : Int, -1 ≤ a → a ≤ W → R1 (a - dx1) (b - dy1) = R2 (a - dx2) (b - dy2)) (g : (Int → Int → Bool) × σ) :
    ∀ k, runN W R1 dx1 dy1 step k g = runN W R2 dx2 dy2 step k g
  | 0 => rfl
  | k + 1 => by
    unfold runN
    rw [runN_ref hW h g k]
    have hx := Nat.mod_lt k hW
    cases runN W R2 dx2 dy2 step k g with
    | inr e => rfl
    | inl g =>
      obtain ⟨G, s⟩ := g
      have e : ctxN G R1 dx1 dy1 ((k % W : Nat) : Int) ((k / W : Nat) : Int) = ctxN G R2 dx2 dy2 ((k % W : Nat) : Int) ((k / W : Nat) : Int) := ctx_ref fun a b h1 h2 => h a b (by omega) (by omega)
      simp only [e]
theorem EncR.ref {W X : Nat} {w2 b2 w3 b3 : Int} {ws ws2 ws3 : List Nat} {dx dy dx2 dy2 e e' : Int} {bs bs' : List Nat} (hm : MayP (W : Int) (X : Int) ws) (hm2 : MayP w2 b2 ws2) (hm3 : MayP w3 b3 ws3) (hs : ShiftP dx dy) (hs2 : ShiftP dx2 dy2)
    (h : ∀ a b : Int, -1 ≤ a → a ≤ W → getP ws2 w2.toNat b2.toNat (a - dx) (b - dy) = getP ws3 w3.toNat b3.toNat (a - dx2) (b - dy2))
    (h1 : EncR (W : Int) (X : Int) w2 b2 ws ws2 dx dy e bs) (h2 : EncR (W : Int) (X : Int) w3 b3 ws ws3 dx2 dy2 e' bs') : bs = bs' := by
  obtain ⟨W', X', e1, e2, hW1, _⟩ := size_nat hm.1
  obtain rfl : W = W' := by omega
  rcases h1 with ⟨a, _⟩ | ⟨_, a, _⟩ | ⟨_, _, _, G1, s1, r1, _, c1⟩
  · exact absurd ⟨hm, hm2⟩ a
  · exact absurd hs a
  rcases h2 with ⟨a, _⟩ | ⟨_, a, _⟩ | ⟨_, _, _, G2, s2, r2, _, c2⟩
  · exact absurd ⟨hm, hm3⟩ a
  · exact absurd hs2 a
  simp only [Int.toNat_natCast] at r1 r2
  rw [runN_ref hW1 h, r2] at r1
  injection r1 with r1
  injection r1 with _ r1
  rw [c1, c2, r1]
theorem EncR.ok {w b w2 b2 : Int} {ws ws2 : List Nat} {dx dy e : Int} {bs : List Nat} (hm : MayP w b ws) (hm2 : MayP w2 b2 ws2) (hs : ShiftP dx dy) (h : EncR w b w2 b2 ws ws2 dx dy e bs) : e = 0 := by
  rcases h with ⟨a, _⟩ | ⟨_, a, _⟩ | ⟨_, _, e, _⟩
  · exact absurd ⟨hm, hm2⟩ a
  · exact absurd hs a
  · exact e

theorem part_rows (ws : List Nat) (W X n : Nat) : partG (getP ws W X) W (n * W) = fun (x y : Int) => decide (y < n) && getP ws W X x y := by
  funext x y
  unfold partG
  by_cases h : 0 ≤ x ∧ 0 ≤ y ∧ x < W ∧ y < X
  · congr 1
    rw [decide_eq_decide]
    constructor
    · rintro ⟨_, _, _, h4⟩
      rcases Nat.lt_or_ge y.toNat n with h5 | h5
      · omega
      · have : n * W ≤ y.toNat * W := Nat.mul_le_mul_right _ h5
        omega
    · intro h4
      have : (y.toNat + 1) * W ≤ n * W := Nat.mul_le_mul_right _ (by omega)
      rw [Nat.add_mul, Nat.one_mul] at this
      exact ⟨h.1, h.2.2.1, h.2.1, by omega⟩
  · unfold getP
    rw [decide_eq_false h, Bool.false_and, Bool.and_false, Bool.and_false]

section
variable (G R : Int → Int → Bool) (W m : Nat) (dx dy base : Int) {k b : Nat → Nat} {n0 cnt : Nat}
theorem enc_from (hk : ∀ j, j < cnt → k (n0 + j) = kf G R W m dx dy base j) (hb : ∀ j, j < cnt → b (n0 + j) = bf G W j) : ∀ i, i ≤ cnt →
    runN W R dx dy (stepP m base) i (G, codN k b m n0) = .inl (G, codN k b m (n0 + i))
  | 0, _ => rfl
  | i + 1, hi => by
    unfold runN
    rw [enc_from hk hb i (by omega)]
    simp only [stepP, upd_self]
    have e : codN k b m (n0 + (i + 1)) = Go.Ar.putM (codN k b m (n0 + i)) (k (n0 + i)) (b (n0 + i)) := rfl
    rw [e, hk i (by omega), hb i (by omega)]
    rfl
theorem dec_from (hG : ∀ x y : Int, ¬ (0 ≤ x ∧ x < W ∧ 0 ≤ y) → G x y = false) (hW : 1 ≤ W) {tot : Nat} (ht : tot ≤ 16777216) (hb1 : ∀ i, i < tot → b i ≤ 1) (hlt : ∀ x ∈ bytesM (flushM (codN k b m tot)), x < 256) (hct : n0 + cnt ≤ tot)
    (hk : ∀ j, j < cnt → k (n0 + j) = kf G R W m dx dy base j) (hb : ∀ j, j < cnt → b (n0 + j) = bf G W j) : ∀ i, i ≤ cnt →
    runN W R dx dy (stepG m base) i (fun _ _ => false, decN k (bytesM (flushM (codN k b m tot))) m n0) = .inl (partG G W i, decN k (bytesM (flushM (codN k b m tot))) m (n0 + i))
  | 0, _ => by
    have : partG G W 0 = fun _ _ => false := by
      funext x y
      unfold partG
      rw [decide_eq_false (by omega), Bool.false_and]
    rw [this]
    rfl
  | i + 1, hi => by
    have hbit0 := Go.Ar.back_bit k b m tot hb1 ht hlt (i := n0 + i) (by omega)
    have hx : i % W < W := Nat.mod_lt _ (by omega)
    have hi2 : i / W * W + i % W = i := by rw [Nat.mul_comm]; exact Nat.div_add_mod i W
    have h1 := part_ctx G R W dx dy hG (x := i % W) (y := i / W) hx
    have h2 := partG_next G W hG (x := i % W) (y := i / W) hx
    rw [hi2] at h1 h2
    unfold runN
    rw [dec_from hG hW ht hb1 hlt hct hk hb i (by omega)]
    simp only [stepG]
    rw [h1]
    have hk1 : idx (base + ((ctxN G R dx dy ((i % W : Nat) : Int) ((i / W : Nat) : Int) : Nat) : Int)) m = k (n0 + i) := (hk i (by omega)).symm
    rw [hk1, hbit0, hb i (by omega)]
    have hbit : decide (bf G W i = 1) = G ((i % W : Nat) : Int) ((i / W : Nat) : Int) := by
      unfold bf
      cases G ((i % W : Nat) : Int) ((i / W : Nat) : Int) <;> rfl
    rw [hbit, h2]
    rfl
end
/-- Fewer rows than were coded. -/
theorem rf_top {W X n : Nat} {w2 b2 : Int} {ws ws2 : List Nat} {dx dy e e' w' b' : Int} {bs bs' : List Nat} {s' : Dec} (hn : n ≤ X) (hn1 : 1 ≤ n) (hm : MayP (W : Int) (X : Int) ws) (hm2 : MayP w2 b2 ws2) (hsh : ShiftP dx dy)
    (henc : EncR (W : Int) (X : Int) w2 b2 ws ws2 dx dy e bs) (hget : GetR bs 8192 0 0 (W : Int) (n : Int) w2 b2 ws2 dx dy (newD bs 8192) e' w' b' bs' s') :
    e' = 0 ∧ w' = (W : Int) ∧ b' = (n : Int) ∧ bs'.length = n * wds W ∧ W64 bs' ∧ PadZ W n bs' ∧ getP bs' W n = fun (x y : Int) => decide (y < n) && getP ws W X x y := by
  have hpx := may_px hm
  simp only [Int.toNat_natCast, Nat.zero_add] at hpx
  obtain ⟨W', X', e1, e2, hW1, hW2, hX1, hX2, hWX⟩ := size_nat hm.1
  obtain rfl : W = W' := by omega
  obtain rfl : X = X' := by omega
  have hWn : W * n ≤ W * X := Nat.mul_le_mul_left _ hn
  have hsz : SizeP (W : Int) (n : Int) := by
    refine ⟨by omega, by omega, by omega, by omega, ?_⟩
    rw [mul_cast]
    omega
  rcases henc with ⟨a, _⟩ | ⟨_, a, _⟩ | ⟨_, _, rfl, Gz, sz, hrun, hok, rfl⟩
  · exact absurd ⟨hm, hm2⟩ a
  · exact absurd hsh a
  rcases hget with ⟨a, _⟩ | ⟨_, a, _⟩ | ⟨_, _, a, _⟩ | ⟨_, _, _, a, _⟩ | ⟨_, _, _, _, rfl, rfl, rfl, hrun2, hlen, hww, hz, _⟩
  · exact absurd hm2 a
  · exact absurd hsz a
  · exact absurd hsh a
  · exact absurd ⟨by omega, by omega⟩ a
  simp only [Int.toNat_natCast] at hrun hrun2 hlen hz
  refine ⟨rfl, rfl, rfl, hlen, hww, hz, ?_⟩
  rw [enc_run] at hrun
  injection hrun with hrun
  injection hrun with _ hrun
  subst hrun
  have hlt := Go.Ar.flushM_lt hok.wf
  rw [dec_run (getP ws W X) (getP ws2 w2.toNat b2.toNat) W 8192 dx dy 0 (getP_out ws W X) hW1 hpx hlt _ (Nat.mul_le_mul_right _ hn), part_rows] at hrun2
  injection hrun2 with hrun2
  injection hrun2 with hrun2 _
  exact hrun2.symm
end Go.Bm

/- RfS: burinref8.Get and burinref8.Decode. -/
set_option linter.unusedVariables false
set_option linter.unusedSimpArgs false
namespace Go.Bm
open Go Go.Den Go.Den.Yteakipgcanafoaa
open Go.Ar (Dec refD RP idx BOk getD_ok newD newD_ok u8s)

end Go.Bm

/- GnH: burinref7.Get, Encode, Decode. -/
set_option linter.unusedVariables false
set_option linter.unusedSimpArgs false
namespace Go.Bm
open Go Go.Den Go.Den.Yteakipgcanafoaa
open Go.Ar (Cod CodOk Dec codL decL BOk idx putM_ok getD_ok getD_bit newC newC_ok newD newD_ok flushM bytesM u8s refL refD RP)

theorem getD_nat (s : Dec) (k : Nat) : (Go.Ar.getD s k).2 = (decide ((Go.Ar.getD s k).2 = 1)).toNat := by
  have hbit := getD_bit (s := s) k
  by_cases h1 : (Go.Ar.getD s k).2 = 1
  · rw [decide_eq_true h1, h1]; rfl
  · rw [decide_eq_false h1]; show _ = 0; omega

set_option maxRecDepth 100000 in
set_option maxHeartbeats 4000000 in
theorem rGet7_ok {h0 h : Heap} {A : RP} {e0 : Ent} {bp : Option Addr} {bc m n0 : Nat} {s0 : Dec} {bytes : List Nat} {Y : List Ent} (H : Hp h0 [] h (refD A e0 bp bc s0 ++ Y)) (hb : BOk e0 bp bytes) (hbl : bytes.length < 140737488351300) (hc : Go.Ar.DecOk bytes m n0 s0) (hm1 : 1 ≤ m) (hm2 : m ≤ 131072)
    {base : Int} (hbase : 0 ≤ base ∧ base ≤ 131072) {W X t : Nat} {skip : Bool} (ht : t < 4) (hs : SizeP (W : Int) (X : Int)) (hN : n0 + X * (W + 1) ≤ 16777216) {K : Value → Heap → Prop} {Kp : List PanicEntry → Heap → Prop}
    (hk : ∀ bs s' k q h', runG W t skip (stepG m base) X (fun _ _ => false, s0) = .inl (getP bs W X, s') → bs.length = X * wds W → W64 bs → PadZ W X bs → k ≤ X * (W + 1) → Go.Ar.DecOk bytes m (n0 + k) s' →
      Hp h0 [] h' (refD A e0 bp bc s' ++ Y ++ [⟨q, true, T_uint64, u64s bs ++ []⟩]) → K (.tuple #[.agg #[.int .i64 (W : Nat), .int .i64 (X : Nat), .slice (at0 q) bs.length bs.length], .int .i64 0]) h') :
    CP F_burinref7_Get #[.pointer (at0 A.p), .int .i64 base, .int .i64 (W : Nat), .int .i64 (X : Nat), .int .i64 (t : Nat), .bool skip] h K Kp := by
  refine call_burinref7_Get ?_
  unfold burinref7_Get
  obtain ⟨W', X', e1, e2, hW1, hW2, hX1, hX2, hWX⟩ := size_nat hs
  obtain rfl : W = W' := by omega
  obtain rfl : X = X' := by omega
  clear e1 e2
  have hgs := gsize_le ht
  have hb' := hb.1
  refine newC_hp H fun r1 h H => ?_
  have H := H.rot
  refine places_ok ht fun rp h' H' => ?_
  replace H := (H.join H' rfl).rot
  clear H'
  refine ⟨_, _, _, rfl, ?_⟩
  refine white_ok hs fun q h' H' => ?_
  replace H := (H.join H' rfl).rot
  clear H'
  refine ⟨_, _, _, _, _, rfl, ?_⟩
  refine newC_hp H fun r11 h H => ?_
  have H := H.rot
  repeat first | with_reducible refine stA H 0 (by with_unfolding_all exact rfl) (by with_unfolding_all exact rfl) (by with_unfolding_all exact rfl) fun h H => ?_ | with_reducible refine st0 H 0 (by with_unfolding_all exact rfl) (by with_unfolding_all exact rfl) (by with_unfolding_all exact rfl) fun h H => ?_ | with_reducible refine stB H 0 (by with_unfolding_all exact rfl) (by with_unfolding_all exact rfl) (by with_unfolding_all exact rfl) fun h H => ?_
  obtain ⟨N, hNd⟩ : ∃ N, N = X * wds W := ⟨_, rfl⟩
  rw [← hNd] at H
  obtain ⟨P, hP⟩ : ∃ P : List Nat → Dec → List Ent, P = fun ws s => [⟨r11, true, T_api_Bitmap, [.int .i64 (W : Nat), .int .i64 (X : Nat), .slice (at0 q) N N]⟩, ⟨q, true, T_uint64, u64s ws ++ []⟩, ⟨rp, true, T_int, plcI (plcs (spanL t))⟩, ⟨r1, true, T_api_Bitmap, [.int .i64 0, .int .i64 0, .slice none 0 0]⟩] ++ (refD A e0 bp bc s ++ Y) := ⟨_, rfl⟩
  have hPd : ∀ ws s, P ws s = [⟨r11, true, T_api_Bitmap, [.int .i64 (W : Nat), .int .i64 (X : Nat), .slice (at0 q) N N]⟩, ⟨q, true, T_uint64, u64s ws ++ []⟩, ⟨rp, true, T_int, plcI (plcs (spanL t))⟩, ⟨r1, true, T_api_Bitmap, [.int .i64 0, .int .i64 0, .slice none 0 0]⟩] ++ (refD A e0 bp bc s ++ Y) := fun ws s => by rw [hP]
  have H : Hp h0 [] h (P (List.replicate N 0) s0) := by rw [hPd]; exact H.as (by simp)
  have hplr : ∀ {h : Heap} {ws : List Nat} {s : Dec}, Hp h0 [] h (P ws s) → rdO h (at0 rp) (2 * (plcs (spanL t)).length * 1) (plcI (plcs (spanL t))) := fun H => by
    rw [hPd] at H
    have hpl : (plcI (plcs (spanL t))).length = 2 * (plcs (spanL t)).length * 1 := by
      generalize plcs (spanL t) = P
      induction P with
      | nil => rfl
      | cons p P ih =>
        show (_ :: _ :: plcI P).length = _
        simp only [List.length_cons, ih]
        omega
    have := rdO_hp H 2 (b := rp) (o := 0) (n := 2 * (plcs (spanL t)).length * 1) (w := true) (t := T_int) (cs := plcI (plcs (spanL t))) rfl (by omega)
    rw [List.drop_zero, List.take_of_length_le (by omega)] at this
    exact this
  -- one bit out of the decoder
  have gbit : ∀ {h : Heap} {ws : List Nat} {s : Dec} {n : Nat} {ctx : Int} {K1 : Value → Heap → Prop} {Kp1 : List PanicEntry → Heap → Prop}, Hp h0 [] h (P ws s) → Go.Ar.DecOk bytes m n s → n < 16777216 →
      (∀ h', Go.Ar.DecOk bytes m (n + 1) (Go.Ar.getD s (idx ctx m)).1 → Hp h0 [] h' (P ws (Go.Ar.getD s (idx ctx m)).1) → K1 (.tuple #[.int .i64 ((decide ((Go.Ar.getD s (idx ctx m)).2 = 1)).toNat : Nat), .int .i64 0]) h') →
      CP F_burinref4_Decoder_Get #[.pointer (at0 A.p), .int .i64 ctx] h K1 Kp1 := fun {h ws s n ctx K1 Kp1} H hok hn hk1 => by
    rw [hPd] at H
    refine Go.Ar.rget_ok (H.give [4, 5, 6, 7, 8] (by decide) rfl) (by rw [hok.b]; exact hb) hok.wf (by rw [hok.b]; exact hbl) (by rw [hok.n]; exact hn) (by rw [hok.len]; exact hm1) (by rw [hok.len]; exact hm2) fun h' H' => ?_
    replace H := H.put [4, 5, 6, 7, 8] (by decide) rfl (by simp [refD, Go.Ar.sideL, hb']) H' (by simp [refD, Go.Ar.sideL, hb']) rfl
    rw [hok.len] at H ⊢
    rw [getD_nat]
    exact hk1 h' (getD_ok hok _ hn) (by rw [hPd]; exact H)
  -- a pixel into the bitmap
  have gput : ∀ {h : Heap} {ws : List Nat} {s : Dec} {a b : Nat} {bit : Bool} {K1 : Value → Heap → Prop} {Kp1 : List PanicEntry → Heap → Prop}, Hp h0 [] h (P ws s) → ws.length = N → W64 ws → PadZ W X ws → a < W → b < X →
      (∀ R h', R.length = N → W64 R → PadZ W X R → getP R W X = upd (getP ws W X) (a : Int) (b : Int) bit → Hp h0 [] h' (P R s) → K1 (.tuple #[]) h') →
      CP F_burinref0_Put #[.agg #[.int .i64 (W : Nat), .int .i64 (X : Nat), .slice (at0 q) N N], .int .i64 (a : Nat), .int .i64 (b : Nat), .int .i64 (bit.toNat : Nat)] h K1 Kp1 := fun {h ws s a b bit K1 Kp1} H hl hw hz ha hb hk1 => by
    rw [hPd] at H
    rw [← hl]
    refine put_ok (ws := ws) H 1 rfl hw hs (by rw [hl, hNd]) ha hb fun R h' k1 k2 k3 H' => ?_
    exact hk1 R h' (by rw [k1, hl]) k2 (hz.set ha k3) (getP_set ha hb k3) (by rw [hPd]; exact H')
  have gload : ∀ {h : Heap} {ws : List Nat} {s : Dec}, Hp h0 [] h (P ws s) → Hp h0 [] h ([⟨r11, true, T_api_Bitmap, [.int .i64 (W : Nat), .int .i64 (X : Nat), .slice (at0 q) N N]⟩, ⟨q, true, T_uint64, u64s ws ++ []⟩, ⟨rp, true, T_int, plcI (plcs (spanL t))⟩, ⟨r1, true, T_api_Bitmap, [.int .i64 0, .int .i64 0, .slice none 0 0]⟩] ++ (refD A e0 bp bc s ++ Y)) := fun H => by rw [hPd] at H; exact H
  refine ⟨fun n vs h' => ∃ (y : Nat) (ws : List Nat) (s : Dec) (k : Nat), y + n = X ∧ vs = [.int .i64 (y : Nat)] ∧ runG W t skip (stepG m base) y (fun _ _ => false, s0) = .inl (getP ws W X, s) ∧ ws.length = N ∧ W64 ws ∧ PadZ W X ws ∧ (∀ a b : Int, (y : Int) ≤ b → getP ws W X a b = false) ∧ k ≤ y * (W + 1) ∧ Go.Ar.DecOk bytes m (n0 + k) s ∧ Hp h0 [] h' (P ws s),
    ⟨X, 0, List.replicate N 0, s0, 0, by omega, rfl, by rw [getP_zero]; rfl, by simp, W64.zero _, fun y hy x h1 h2 => pix_zero _ _ _ _, fun a b _ => by rw [getP_zero], by omega, hc, H⟩, ?_⟩
  clear H
  rintro n h u xx ⟨y, ws, s, k, hyn, hxx, hrun, hwl, hww, hwz, hzr, hky, hok, H⟩
  injection hxx with hxx
  injection hxx with _ hxx
  subst hxx
  refine bcase_dec (fun h1 => ?_) fun h1 => ?_
  · have hy : y < X := by omega
    have hkX : (y + 1) * (W + 1) ≤ X * (W + 1) := Nat.mul_le_mul_right _ (by omega)
    rw [Nat.add_mul, Nat.one_mul] at hkX
    have hnext := runG_next hrun
    refine ⟨fun _ h' => ∃ s1 k1, runG W t skip (stepG m base) (y + 1) (fun _ _ => false, s0) = rowG t (stepG m base) y W (getP ws W X, s1) ∧ k1 ≤ y * (W + 1) + 1 ∧ Go.Ar.DecOk bytes m (n0 + k1) s1 ∧ Hp h0 [] h' (P ws s1), ?_, ?_⟩
    · cases skip with
      | false =>
        refine bcase_false rfl ?_
        exact ⟨s, k, hnext, by omega, hok, H⟩
      | true =>
        refine bcase_true rfl ?_
        refine need7_ok ht fun h' e => ?_
        have H := H.ext e
        clear e
        refine ⟨_, rfl, ?_⟩
        refine bindI_of ((base + ((gsize t + 1 : Nat) : Int))) (by exact i64_in _ (by omega) (by omega)) ?_
        refine bindI_of ((base + ((gsize t : Nat) : Int))) (by exact i64_at _ _ (by omega) (by omega) (by omega)) ?_
        refine gbit H hok (by omega) fun h' hok2 H => ?_
        refine ⟨_, _, rfl, ?_⟩
        refine bcase_false (by rfl) ?_
        simp only [stepG] at hnext
        generalize (Go.Ar.getD s (idx (base + ((gsize t : Nat) : Int)) m)).1 = s1 at hnext hok2 H
        generalize decide ((Go.Ar.getD s (idx (base + ((gsize t : Nat) : Int)) m)).2 = 1) = bit at hnext ⊢
        cases bit with
        | true =>
          simp only at hnext
          refine bcase_eq (fun _ => ?_) fun h5 => absurd rfl h5
          obtain ⟨G0, hG0⟩ : ∃ G0, G0 = getP ws W X := ⟨_, rfl⟩
          refine ⟨fun n vs h' => ∃ (x : Nat) (R : List Nat), x + n = W ∧ vs = [.int .i64 (x : Nat)] ∧ R.length = N ∧ W64 R ∧ PadZ W X R ∧ (getP R W X = fun a b => if b = (y : Int) ∧ 0 ≤ a ∧ a < (x : Int) then G0 a ((y : Int) - 1) else G0 a b) ∧ Hp h0 [] h' (P R s1),
            ⟨W, 0, ws, by omega, rfl, hwl, hww, hwz, by funext a b; rw [if_neg (by omega), hG0], H⟩, ?_⟩
          clear H
          rintro n2 h u xx ⟨x, R, hxn, hxx, hRl, hRw, hRz, hRG, H⟩
          injection hxx with hxx
          injection hxx with _ hxx
          subst hxx
          refine bcase_dec (fun h2 => ?_) fun h2 => ?_
          · have hx : x < W := by omega
            refine bindI_of (((y : Int) - 1)) (by exact i64_in _ (by omega) (by omega)) ?_
            have H0 := gload H
            refine ldI_of (hpA H0 0 rfl rfl) (ldI_of (hpA H0 0 rfl rfl) (ldS_of (hpA H0 0 rfl rfl) (ldI_of (hpA H0 0 rfl rfl) (ldI_of (hpA H0 0 rfl rfl) (ldS_of (hpA H0 0 rfl rfl) ?_)))))
            have hRN : N = R.length := hRl.symm
            have getR : ∀ {K1 : Value → Heap → Prop} {Kp1 : List PanicEntry → Heap → Prop}, (∀ h', hext h h' → K1 (.int .i64 ((getP R W X (x : Nat) ((y : Int) - 1)).toNat : Nat)) h') → CP F_burinref0_Get #[.agg #[.int .i64 (W : Nat), .int .i64 (X : Nat), .slice (at0 q) N N], .int .i64 (x : Nat), .int .i64 ((y : Int) - 1)] h K1 Kp1 := fun hk1 => by
              rw [hRN]
              exact get_ok (row_rdO H0 1 rfl) hRw hs (by rw [hRl, hNd]) hk1
            refine getR fun h' e => ?_
            have H := H.ext e
            refine ⟨_, rfl, e, ?_⟩
            refine gput H hRl hRw hRz hx hy fun R2 h' k1 k2 k3 k4 H => ?_
            refine bindI_of (((x + 1 : Nat) : Int)) (by exact i64_at _ _ (by omega) (by omega) (by omega)) ?_
            refine ⟨n2 - 1, by omega, x + 1, R2, by omega, rfl, k1, k2, k3, ?_, H⟩
            rw [k4]
            funext a b
            unfold upd
            by_cases hc : a = (x : Int) ∧ b = (y : Int)
            · rw [if_pos hc, if_pos (by omega), hRG]
              simp only
              rw [if_neg (by omega), hc.1]
            · rw [if_neg hc, hRG]
              simp only
              by_cases hd : b = (y : Int) ∧ 0 ≤ a ∧ a < (x : Int)
              · rw [if_pos hd, if_pos (by omega)]
              · rw [if_neg hd, if_neg (by omega)]
          · obtain rfl : W = x := by omega
            have hcopy : getP R W X = copyRow (getP ws W X) y := by
              rw [hRG, ← hG0]
              funext a b
              unfold copyRow
              by_cases hin : 0 ≤ a ∧ a < (W : Int)
              · by_cases hb : b = (y : Int)
                · rw [if_pos ⟨hb, hin⟩]
                  by_cases hy0 : y = 0
                  · rw [if_neg (fun hh => hh.2 hy0), hG0, hzr a b (by omega)]
                    unfold getP
                    rw [decide_eq_false (by omega), Bool.false_and]
                  · rw [if_pos ⟨hb, hy0⟩]
                · rw [if_neg (fun hh => hb hh.1), if_neg (fun hh => hb hh.1)]
              · have e : ∀ b, G0 a b = false := fun b => by rw [hG0]; exact getP_side ws W X a b hin
                rw [e, e]
                simp
            rw [← hcopy] at hnext
            refine bindI_of (((y + 1 : Nat) : Int)) (by exact i64_at _ _ (by omega) (by omega) (by omega)) ?_
            refine ⟨n - 1, by omega, y + 1, R, s1, k + 1, by omega, rfl, hnext, hRl, hRw, hRz, fun a b hb => ?_, by rw [Nat.add_mul, Nat.one_mul]; omega, hok2, H⟩
            rw [hRG]
            simp only
            rw [if_neg (by omega), hG0, hzr a b (by omega)]
        | false =>
          simp only at hnext
          refine bcase_eq (fun h5 => absurd h5 (by decide)) fun h5 => ?_
          exact ⟨s1, k + 1, hnext, by omega, hok2, H⟩
    · clear H hok hnext
      rintro h u ⟨s1, k1, hnext, hk1, hok1, H⟩
      refine ⟨fun n vs h' => ∃ (x : Nat) (R : List Nat) (s : Dec), x + n = W ∧ vs = [.int .i64 (x : Nat)] ∧ rowG t (stepG m base) y x (getP ws W X, s1) = .inl (getP R W X, s) ∧ R.length = N ∧ W64 R ∧ PadZ W X R ∧ (∀ a b : Int, (y + 1 : Nat) ≤ b → getP R W X a b = false) ∧ Go.Ar.DecOk bytes m (n0 + k1 + x) s ∧ Hp h0 [] h' (P R s),
        ⟨W, 0, ws, s1, by omega, rfl, rfl, hwl, hww, hwz, fun a b hb => hzr a b (by omega), hok1, H⟩, ?_⟩
      clear H hok1
      rintro n2 h u xx ⟨x, R, s2, hxn, hxx, hrow, hRl, hRw, hRz, hRr, hok, H⟩
      injection hxx with hxx
      injection hxx with _ hxx
      subst hxx
      refine bcase_dec (fun h2 => ?_) fun h2 => ?_
      · have hx : x < W := by omega
        have H0 := gload H
        refine ldI_of (hpA H0 0 rfl rfl) (ldI_of (hpA H0 0 rfl rfl) (ldS_of (hpA H0 0 rfl rfl) ?_))
        have hRN : N = R.length := hRl.symm
        have atR : ∀ {K1 : Value → Heap → Prop} {Kp1 : List PanicEntry → Heap → Prop}, (∀ h', hext h h' → K1 (.int .i64 (gctx t (getP R W X) x y : Nat)) h') → CP F_burinref6_At #[.agg #[.int .i64 (W : Nat), .int .i64 (X : Nat), .slice (at0 q) N N], .slice (at0 rp) (2 * (plcs (spanL t)).length) (2 * (plcs (spanL t)).length), .int .i64 (x : Nat), .int .i64 (y : Nat)] h K1 Kp1 := fun hk1 => by
          rw [hRN]
          exact at6_ok ht (row_rdO H0 1 rfl) hRw hs (by rw [hRl, hNd]) (hplr H) hx hy hk1
        refine atR fun h' e => ?_
        have H := H.ext e
        clear e
        refine ⟨_, rfl, ?_⟩
        have hcl := gctx_lt t (getP R W X) (x : Nat) (y : Nat)
        have hstep : rowG t (stepG m base) y (x + 1) (getP ws W X, s1) = .inl (upd (getP R W X) (x : Int) (y : Int) (decide ((Go.Ar.getD s2 (idx (base + ((gctx t (getP R W X) (x : Nat) (y : Nat) : Nat) : Int)) m)).2 = 1)), (Go.Ar.getD s2 (idx (base + ((gctx t (getP R W X) (x : Nat) (y : Nat) : Nat) : Int)) m)).1) := by
          rw [rowG, hrow]
          simp only [stepG]
        generalize gctx t (getP R W X) (x : Nat) (y : Nat) = cx at hcl hstep ⊢
        refine bindI_of ((base + (cx : Int))) (by exact i64_in _ (by omega) (by omega)) ?_
        refine gbit H hok (by omega) fun h' hok2 H => ?_
        refine ⟨_, _, rfl, ?_⟩
        refine bcase_false (by rfl) ?_
        have H0 := gload H
        refine ldI_of (hpA H0 0 rfl rfl) (ldI_of (hpA H0 0 rfl rfl) (ldS_of (hpA H0 0 rfl rfl) ?_))
        refine gput H hRl hRw hRz hx hy fun R2 h' k1 k2 k3 k4 H => ?_
        refine bindI_of (((x + 1 : Nat) : Int)) (by exact i64_at _ _ (by omega) (by omega) (by omega)) ?_
        refine ⟨n2 - 1, by omega, x + 1, R2, _, by omega, rfl, by rw [k4]; exact hstep, k1, k2, k3, fun a b hb => ?_, hok2, H⟩
        rw [k4]
        unfold upd
        rw [if_neg (by omega)]
        exact hRr a b hb
      · obtain rfl : W = x := by omega
        rw [hrow] at hnext
        refine bindI_of (((y + 1 : Nat) : Int)) (by exact i64_at _ _ (by omega) (by omega) (by omega)) ?_
        exact ⟨n - 1, by omega, y + 1, R, s2, k1 + W, by omega, rfl, hnext, hRl, hRw, hRz, hRr, by rw [Nat.add_mul, Nat.one_mul]; omega, by rw [← Nat.add_assoc]; exact hok, H⟩
  · obtain rfl : X = y := by omega
    have H := gload H
    repeat first | with_reducible refine ldI_of (by with_unfolding_all first | exact hpA H 0 rfl rfl | exact Hp.cell H 0 rfl rfl | exact hpB H 0 rfl rfl | exact hpC H 0 rfl rfl) ?_ | with_reducible refine ldS_of (by with_unfolding_all first | exact hpA H 0 rfl rfl | exact Hp.cell H 0 rfl rfl | exact hpB H 0 rfl rfl | exact hpC H 0 rfl rfl) ?_ | with_reducible refine ldP_of (by with_unfolding_all first | exact hpA H 0 rfl rfl | exact Hp.cell H 0 rfl rfl | exact hpB H 0 rfl rfl | exact hpC H 0 rfl rfl) ?_ | with_reducible refine ldB_of (by with_unfolding_all first | exact hpA H 0 rfl rfl | exact Hp.cell H 0 rfl rfl | exact hpB H 0 rfl rfl | exact hpC H 0 rfl rfl) ?_ | with_reducible refine ldT_of (by with_unfolding_all first | exact hpA H 0 rfl rfl | exact Hp.cell H 0 rfl rfl | exact hpB H 0 rfl rfl | exact hpC H 0 rfl rfl) ?_
    repeat first | with_reducible refine stA H 3 (by with_unfolding_all exact rfl) (by with_unfolding_all exact rfl) (by with_unfolding_all exact rfl) fun h H => ?_ | with_reducible refine st0 H 3 (by with_unfolding_all exact rfl) (by with_unfolding_all exact rfl) (by with_unfolding_all exact rfl) fun h H => ?_ | with_reducible refine stB H 3 (by with_unfolding_all exact rfl) (by with_unfolding_all exact rfl) (by with_unfolding_all exact rfl) fun h H => ?_
    repeat first | with_reducible refine ldI_of (by with_unfolding_all first | exact hpA H 3 rfl rfl | exact Hp.cell H 3 rfl rfl | exact hpB H 3 rfl rfl | exact hpC H 3 rfl rfl) ?_ | with_reducible refine ldS_of (by with_unfolding_all first | exact hpA H 3 rfl rfl | exact Hp.cell H 3 rfl rfl | exact hpB H 3 rfl rfl | exact hpC H 3 rfl rfl) ?_ | with_reducible refine ldP_of (by with_unfolding_all first | exact hpA H 3 rfl rfl | exact Hp.cell H 3 rfl rfl | exact hpB H 3 rfl rfl | exact hpC H 3 rfl rfl) ?_ | with_reducible refine ldB_of (by with_unfolding_all first | exact hpA H 3 rfl rfl | exact Hp.cell H 3 rfl rfl | exact hpB H 3 rfl rfl | exact hpC H 3 rfl rfl) ?_ | with_reducible refine ldT_of (by with_unfolding_all first | exact hpA H 3 rfl rfl | exact Hp.cell H 3 rfl rfl | exact hpB H 3 rfl rfl | exact hpC H 3 rfl rfl) ?_
    have hRN : N = ws.length := hwl.symm
    have H : Hp h0 [] h (([⟨r11, true, T_api_Bitmap, [.int .i64 (W : Nat), .int .i64 (X : Nat), .slice (at0 q) N N]⟩, ⟨q, true, T_uint64, u64s ws ++ []⟩, ⟨rp, true, T_int, plcI (plcs (spanL t))⟩, ⟨r1, true, T_api_Bitmap, [.int .i64 (W : Nat), .int .i64 (X : Nat), .slice (at0 q) N N]⟩] ++ (refD A e0 bp bc s ++ Y))) := H
    rw [hRN]
    refine hk ws s k q h hrun (by rw [hwl, hNd]) hww hwz hky hok ?_
    have H1 : Hp h0 [] h ([⟨q, true, T_uint64, u64s ws ++ []⟩] ++ (refD A e0 bp bc s ++ Y)) := H.sub (List.Sublist.append (by simp) (List.Sublist.refl _))
    exact H1.rot
end Go.Bm

/- GnI: burinref7.Encode and Decode; the answers are one. -/
set_option linter.unusedVariables false
set_option linter.unusedSimpArgs false
namespace Go.Bm
open Go Go.Den Go.Den.Yteakipgcanafoaa
open Go.Ar (Cod CodOk Dec codL decL BOk idx putM_ok getD_ok getD_bit newC newC_ok newD newD_ok flushM bytesM u8s refL refD RP)

section
variable {hB : Heap} {w b template : Int} {skip : Bool} {K : Value → Heap → Prop} {Kp : List PanicEntry → Heap → Prop}
set_option maxRecDepth 100000 in
set_option maxHeartbeats 2000000 in
theorem rEnc7_ok {q1 : Option Addr} {c1 : Nat} {ws : List Nat} (hr1 : rdO hB q1 (ws.length * 1) (u64s ws)) (hw1 : W64 ws) (hl1 : ws.length < 140737488351300)
    (hk : ∀ e bs D qo c h', GEncR w b ws template skip e bs → Slot T_uint8 1 D qo bs.length c (u8s bs) → Hp hB [] h' D → K (.tuple #[.slice qo bs.length c, .int .i64 e]) h') :
    CP F_burinref7_Encode #[.agg #[.int .i64 w, .int .i64 b, .slice q1 ws.length c1], .int .i64 template, .bool skip] hB K Kp := by
  refine call_burinref7_Encode ?_
  unfold burinref7_Encode
  have H := Hp.nil hB []
  refine newC_hp H fun r4 h H => ?_
  refine may6_ok fun bt hbt => ?_
  refine ⟨_, rfl, ?_⟩
  refine bcase_not (fun h2 => ?_) fun h2 => ?_
  · exact hk 60 [] [] none 0 _ (.inl ⟨(fun hh => by rw [hbt.2 hh] at h2; cases h2), rfl, rfl⟩) (Slot.nil _ _) (H.take 0)
  have htt := hbt.1 h2
  obtain ⟨t, rfl⟩ : ∃ t : Nat, template = (t : Int) := ⟨template.toNat, by omega⟩
  have ht : t < 4 := by omega
  have hgs := gsize_le ht
  repeat first | with_reducible refine ldI_of (by with_unfolding_all first | exact hpA H 0 rfl rfl | exact Hp.cell H 0 rfl rfl | exact hpB H 0 rfl rfl | exact hpC H 0 rfl rfl) ?_ | with_reducible refine ldS_of (by with_unfolding_all first | exact hpA H 0 rfl rfl | exact Hp.cell H 0 rfl rfl | exact hpB H 0 rfl rfl | exact hpC H 0 rfl rfl) ?_ | with_reducible refine ldP_of (by with_unfolding_all first | exact hpA H 0 rfl rfl | exact Hp.cell H 0 rfl rfl | exact hpB H 0 rfl rfl | exact hpC H 0 rfl rfl) ?_ | with_reducible refine ldB_of (by with_unfolding_all first | exact hpA H 0 rfl rfl | exact Hp.cell H 0 rfl rfl | exact hpB H 0 rfl rfl | exact hpC H 0 rfl rfl) ?_ | with_reducible refine ldT_of (by with_unfolding_all first | exact hpA H 0 rfl rfl | exact Hp.cell H 0 rfl rfl | exact hpB H 0 rfl rfl | exact hpC H 0 rfl rfl) ?_
  refine may_ok (H.rdO hr1) hw1 hl1 fun bm h1 hbm e1 => ?_
  have H := H.ext e1
  refine ⟨_, rfl, ?_⟩
  refine bcase_not (fun h2 => ?_) fun h2 => ?_
  · exact hk 62 [] [] none 0 _ (.inr (.inl ⟨htt, (fun hh => by rw [hbm.2 hh] at h2; cases h2), rfl, rfl⟩)) (Slot.nil _ _) (H.take 0)
  have hma := hbm.1 h2
  refine need7_ok ht fun h' e => ?_
  have H := H.ext e
  clear e
  refine ⟨_, rfl, ?_⟩
  refine Go.Ar.rnew_ok (n := gsize t + 1) (by omega) fun A r h H' => ?_
  replace H := H.join H' rfl
  clear H'
  refine ⟨_, rfl, ?_⟩
  have hpx := size_px1 hma.1
  obtain ⟨W, X, rfl, rfl, hW1, hW2, hX1, hX2, hWX⟩ := size_nat hma.1
  repeat first | with_reducible refine ldI_of (by with_unfolding_all first | exact hpA H 0 rfl rfl | exact Hp.cell H 0 rfl rfl | exact hpB H 0 rfl rfl | exact hpC H 0 rfl rfl) ?_ | with_reducible refine ldS_of (by with_unfolding_all first | exact hpA H 0 rfl rfl | exact Hp.cell H 0 rfl rfl | exact hpB H 0 rfl rfl | exact hpC H 0 rfl rfl) ?_ | with_reducible refine ldP_of (by with_unfolding_all first | exact hpA H 0 rfl rfl | exact Hp.cell H 0 rfl rfl | exact hpB H 0 rfl rfl | exact hpC H 0 rfl rfl) ?_ | with_reducible refine ldB_of (by with_unfolding_all first | exact hpA H 0 rfl rfl | exact Hp.cell H 0 rfl rfl | exact hpB H 0 rfl rfl | exact hpC H 0 rfl rfl) ?_ | with_reducible refine ldT_of (by with_unfolding_all first | exact hpA H 0 rfl rfl | exact Hp.cell H 0 rfl rfl | exact hpB H 0 rfl rfl | exact hpC H 0 rfl rfl) ?_
  simp only [Int.toNat_natCast] at hpx
  refine rPut7_ok (base := 0) (n0 := 0) (m := gsize t + 1) (Hp.rot H) (newC_ok _) (by omega) (by omega) (by decide) ht hr1 hw1 hma hpx fun s' k r' rest' h' hrun hkk hok H => ?_
  rw [Nat.zero_add] at hok
  refine ⟨_, rfl, ?_⟩
  refine bcase_false (by rfl) ?_
  refine Go.Ar.rflush_ok (H.give [0, 1, 2, 3, 4] (by decide) rfl) hok.wf hok.done fun r3 rest3 o orest h' H' => ?_
  have H := Go.Bm.Hp.backD H [0, 1, 2, 3, 4] (by decide) rfl rfl H' rfl rfl rfl
  clear H'
  refine ⟨_, _, _, _, rfl, ?_⟩
  refine hk 0 _ [⟨o, true, T_uint8, u8s (bytesM (flushM s')) ++ orest⟩] _ _ h' (.inr (.inr ⟨htt, hma, rfl, _, s', k, by simpa using hrun, by simpa using hkk, by simpa using hok, rfl⟩)) (Slot.one (by rw [Go.Ar.u8s_length, Nat.mul_one]) (by rw [List.length_append, Go.Ar.u8s_length, Nat.mul_one])) (Hp.suf H)

set_option maxRecDepth 100000 in
set_option maxHeartbeats 2000000 in
theorem rDec7_ok {src : Option Addr} {bc0 : Nat} {bytes : List Nat} (hbb : ∀ x ∈ bytes, x < 256) (hbl : bytes.length < 140737488351300) (hr : rdO hB src (bytes.length * 1) (u8s bytes))
    (hk : ∀ e w' b' bs s' D qo c h', GGetR bytes (gsize template.toNat + 1) 0 0 w b template skip (newD bytes (gsize template.toNat + 1)) e w' b' bs s' → Slot T_uint64 1 D qo bs.length c (u64s bs) → Hp hB [] h' D → K (.tuple #[.agg #[.int .i64 w', .int .i64 b', .slice qo bs.length c], .int .i64 e]) h') :
    CP F_burinref7_Decode #[.slice src bytes.length bc0, .int .i64 w, .int .i64 b, .int .i64 template, .bool skip] hB K Kp := by
  refine call_burinref7_Decode ?_
  unfold burinref7_Decode
  have H := Hp.nil hB []
  refine newC_hp H fun r1 h H => ?_
  refine may6_ok fun bt hbt => ?_
  refine ⟨_, rfl, ?_⟩
  refine bcase_not (fun h2 => ?_) fun h2 => ?_
  · repeat first | with_reducible refine ldI_of (by with_unfolding_all first | exact hpA H 0 rfl rfl | exact Hp.cell H 0 rfl rfl | exact hpB H 0 rfl rfl | exact hpC H 0 rfl rfl) ?_ | with_reducible refine ldS_of (by with_unfolding_all first | exact hpA H 0 rfl rfl | exact Hp.cell H 0 rfl rfl | exact hpB H 0 rfl rfl | exact hpC H 0 rfl rfl) ?_ | with_reducible refine ldP_of (by with_unfolding_all first | exact hpA H 0 rfl rfl | exact Hp.cell H 0 rfl rfl | exact hpB H 0 rfl rfl | exact hpC H 0 rfl rfl) ?_ | with_reducible refine ldB_of (by with_unfolding_all first | exact hpA H 0 rfl rfl | exact Hp.cell H 0 rfl rfl | exact hpB H 0 rfl rfl | exact hpC H 0 rfl rfl) ?_ | with_reducible refine ldT_of (by with_unfolding_all first | exact hpA H 0 rfl rfl | exact Hp.cell H 0 rfl rfl | exact hpB H 0 rfl rfl | exact hpC H 0 rfl rfl) ?_ | with_reducible refine stA H 0 (by with_unfolding_all exact rfl) (by with_unfolding_all exact rfl) (by with_unfolding_all exact rfl) fun h H => ?_ | with_reducible refine st0 H 0 (by with_unfolding_all exact rfl) (by with_unfolding_all exact rfl) (by with_unfolding_all exact rfl) fun h H => ?_ | with_reducible refine stB H 0 (by with_unfolding_all exact rfl) (by with_unfolding_all exact rfl) (by with_unfolding_all exact rfl) fun h H => ?_
    exact hk 60 0 0 [] _ [] none 0 _ (.inl ⟨(fun hh => by rw [hbt.2 hh] at h2; cases h2), rfl, rfl, rfl, rfl, rfl⟩) (Slot.nil _ _) (H.take 0)
  have htt := hbt.1 h2
  obtain ⟨t, rfl⟩ : ∃ t : Nat, template = (t : Int) := ⟨template.toNat, by omega⟩
  have ht : t < 4 := by omega
  have hgs := gsize_le ht
  simp only [Int.toNat_natCast] at hk
  refine rsize_ok fun bs hbs => ?_
  refine ⟨_, rfl, ?_⟩
  refine bcase_not (fun h3 => ?_) fun h3 => ?_
  · repeat first | with_reducible refine ldI_of (by with_unfolding_all first | exact hpA H 0 rfl rfl | exact Hp.cell H 0 rfl rfl | exact hpB H 0 rfl rfl | exact hpC H 0 rfl rfl) ?_ | with_reducible refine ldS_of (by with_unfolding_all first | exact hpA H 0 rfl rfl | exact Hp.cell H 0 rfl rfl | exact hpB H 0 rfl rfl | exact hpC H 0 rfl rfl) ?_ | with_reducible refine ldP_of (by with_unfolding_all first | exact hpA H 0 rfl rfl | exact Hp.cell H 0 rfl rfl | exact hpB H 0 rfl rfl | exact hpC H 0 rfl rfl) ?_ | with_reducible refine ldB_of (by with_unfolding_all first | exact hpA H 0 rfl rfl | exact Hp.cell H 0 rfl rfl | exact hpB H 0 rfl rfl | exact hpC H 0 rfl rfl) ?_ | with_reducible refine ldT_of (by with_unfolding_all first | exact hpA H 0 rfl rfl | exact Hp.cell H 0 rfl rfl | exact hpB H 0 rfl rfl | exact hpC H 0 rfl rfl) ?_ | with_reducible refine stA H 0 (by with_unfolding_all exact rfl) (by with_unfolding_all exact rfl) (by with_unfolding_all exact rfl) fun h H => ?_ | with_reducible refine st0 H 0 (by with_unfolding_all exact rfl) (by with_unfolding_all exact rfl) (by with_unfolding_all exact rfl) fun h H => ?_ | with_reducible refine stB H 0 (by with_unfolding_all exact rfl) (by with_unfolding_all exact rfl) (by with_unfolding_all exact rfl) fun h H => ?_
    exact hk 63 0 0 [] _ [] none 0 _ (.inr (.inl ⟨htt, (fun hh => by rw [hbs.2 hh] at h3; cases h3), rfl, rfl, rfl, rfl, rfl⟩)) (Slot.nil _ _) (H.take 0)
  have hs := hbs.1 h3
  have hpx := size_px1 hs
  obtain ⟨W, X, rfl, rfl, hW1, hW2, hX1, hX2, hWX⟩ := size_nat hs
  simp only [Int.toNat_natCast] at hpx
  refine need7_ok ht fun h' e => ?_
  have H := H.ext e
  clear e
  refine ⟨_, rfl, ?_⟩
  refine Go.Ar.rnewD_ok (n := gsize t + 1) (by omega) hbb hbl (H.rdO hr) fun A eb bp bc h' hbo H' => ?_
  have hw5 := hbo.1
  replace H := H.join H' (by simp [refD, Go.Ar.sideL, hbo.1])
  clear H'
  refine ⟨_, rfl, ?_⟩
  refine rGet7_ok (base := 0) (n0 := 0) (m := gsize t + 1) H.rot hbo hbl (newD_ok hbb _) (by omega) (by omega) (by decide) ht hs hpx fun bs s' k q h' hrun hlen hww hwz hkk hok H => ?_
  refine ⟨_, _, _, _, _, _, rfl, ?_⟩
  have H : Hp hB [] h' ([] ++ refD A eb bp bc s' ++ ([⟨r1, true, T_api_Bitmap, [.int .i64 0, .int .i64 0, .slice none 0 0]⟩, ⟨q, true, T_uint64, u64s bs ++ []⟩])) := H.as (by simp)
  have H := Hp.suf H
  repeat first | with_reducible refine ldI_of (by with_unfolding_all first | exact hpA H 0 rfl rfl | exact hpA H 1 rfl rfl | exact Hp.cell H 0 rfl rfl | exact Hp.cell H 1 rfl rfl | exact hpB H 0 rfl rfl | exact hpB H 1 rfl rfl | exact hpC H 0 rfl rfl | exact hpC H 1 rfl rfl) ?_ | with_reducible refine ldS_of (by with_unfolding_all first | exact hpA H 0 rfl rfl | exact hpA H 1 rfl rfl | exact Hp.cell H 0 rfl rfl | exact Hp.cell H 1 rfl rfl | exact hpB H 0 rfl rfl | exact hpB H 1 rfl rfl | exact hpC H 0 rfl rfl | exact hpC H 1 rfl rfl) ?_ | with_reducible refine ldP_of (by with_unfolding_all first | exact hpA H 0 rfl rfl | exact hpA H 1 rfl rfl | exact Hp.cell H 0 rfl rfl | exact Hp.cell H 1 rfl rfl | exact hpB H 0 rfl rfl | exact hpB H 1 rfl rfl | exact hpC H 0 rfl rfl | exact hpC H 1 rfl rfl) ?_ | with_reducible refine ldB_of (by with_unfolding_all first | exact hpA H 0 rfl rfl | exact hpA H 1 rfl rfl | exact Hp.cell H 0 rfl rfl | exact Hp.cell H 1 rfl rfl | exact hpB H 0 rfl rfl | exact hpB H 1 rfl rfl | exact hpC H 0 rfl rfl | exact hpC H 1 rfl rfl) ?_ | with_reducible refine ldT_of (by with_unfolding_all first | exact hpA H 0 rfl rfl | exact hpA H 1 rfl rfl | exact Hp.cell H 0 rfl rfl | exact Hp.cell H 1 rfl rfl | exact hpB H 0 rfl rfl | exact hpB H 1 rfl rfl | exact hpC H 0 rfl rfl | exact hpC H 1 rfl rfl) ?_ | with_reducible refine stA H 0 (by with_unfolding_all exact rfl) (by with_unfolding_all exact rfl) (by with_unfolding_all exact rfl) fun h H => ?_ | with_reducible refine stA H 1 (by with_unfolding_all exact rfl) (by with_unfolding_all exact rfl) (by with_unfolding_all exact rfl) fun h H => ?_ | with_reducible refine st0 H 0 (by with_unfolding_all exact rfl) (by with_unfolding_all exact rfl) (by with_unfolding_all exact rfl) fun h H => ?_ | with_reducible refine st0 H 1 (by with_unfolding_all exact rfl) (by with_unfolding_all exact rfl) (by with_unfolding_all exact rfl) fun h H => ?_ | with_reducible refine stB H 0 (by with_unfolding_all exact rfl) (by with_unfolding_all exact rfl) (by with_unfolding_all exact rfl) fun h H => ?_ | with_reducible refine stB H 1 (by with_unfolding_all exact rfl) (by with_unfolding_all exact rfl) (by with_unfolding_all exact rfl) fun h H => ?_
  have H : Hp hB [] h ([⟨r1, true, T_api_Bitmap, [.int .i64 (W : Nat), .int .i64 (X : Nat), .slice (at0 q) bs.length bs.length]⟩] ++ [⟨q, true, T_uint64, u64s bs ++ []⟩]) := H
  refine hk 0 _ _ bs s' [⟨q, true, T_uint64, u64s bs ++ []⟩] _ _ h (.inr (.inr (.inr ⟨htt, hs, ⟨by omega, by simp only [Int.toNat_natCast]; omega⟩, rfl, rfl, rfl, by simpa using hrun, by simpa using hlen, hww, by simpa using hwz, k, by simpa using hkk, by simpa using hok⟩))) (Slot.one (by rw [u64s_length, Nat.mul_one]) (by rw [List.length_append, u64s_length, Nat.mul_one]; simp)) (Hp.suf H)
end
theorem GEncR.det {w b template : Int} {skip : Bool} {ws : List Nat} {e1 e2 : Int} {bs1 bs2 : List Nat} (h1 : GEncR w b ws template skip e1 bs1) (h2 : GEncR w b ws template skip e2 bs2) : e1 = e2 ∧ bs1 = bs2 := by
  rcases h1 with ⟨a, b, c⟩ | ⟨a, s, b, c⟩ | ⟨a, s, b, G, s1, k, r, _, _, c⟩ <;> rcases h2 with ⟨a', b', c'⟩ | ⟨a', s', b', c'⟩ | ⟨a', s', b', G', s1', k', r', _, _, c'⟩
  · exact ⟨b.trans b'.symm, c.trans c'.symm⟩
  · exact absurd a' a
  · exact absurd a' a
  · exact absurd a a'
  · exact ⟨b.trans b'.symm, c.trans c'.symm⟩
  · exact absurd s' s
  · exact absurd a a'
  · exact absurd s s'
  · refine ⟨b.trans b'.symm, ?_⟩
    rw [r] at r'
    injection r' with r'
    injection r' with _ r'
    rw [c, c', r']
theorem GGetR.det {bytes : List Nat} {m n0 : Nat} {base w b template : Int} {skip : Bool} {s : Dec} {e1 a1 c1 e2 a2 c2 : Int} {bs1 bs2 : List Nat} {s1 s2 : Dec}
    (h1 : GGetR bytes m n0 base w b template skip s e1 a1 c1 bs1 s1) (h2 : GGetR bytes m n0 base w b template skip s e2 a2 c2 bs2 s2) : e1 = e2 ∧ a1 = a2 ∧ c1 = c2 ∧ bs1 = bs2 ∧ s1 = s2 := by
  rcases h1 with ⟨p, q1, q2, q3, q4, q5⟩ | ⟨p, p2, q1, q2, q3, q4, q5⟩ | ⟨p, p2, p3, q1, q2, q3, q4, q5⟩ | ⟨p, p2, p3, q1, q2, q3, q4, lx, wx, zx, dx'⟩ <;>
  rcases h2 with ⟨p', r1, r2, r3, r4, r5⟩ | ⟨p', p2', r1, r2, r3, r4, r5⟩ | ⟨p', p2', p3', r1, r2, r3, r4, r5⟩ | ⟨p', p2', p3', r1, r2, r3, r4, ly, wy, zy, dy'⟩ <;>
  first
    | contradiction
    | exact ⟨q1.trans r1.symm, q2.trans r2.symm, q3.trans r3.symm, q4.trans r4.symm, q5.trans r5.symm⟩
    | skip
  rw [q4] at r4
  injection r4 with r4
  injection r4 with r4 r5
  obtain ⟨W, X, rfl, rfl, _⟩ := size_nat p2
  simp only [Int.toNat_natCast] at r4 lx ly zx zy
  exact ⟨q1.trans r1.symm, q2.trans r2.symm, q3.trans r3.symm, getP_ext lx ly wx wy zx zy r4, r5⟩
end Go.Bm

/- GnJ: generic coding, plain law: what is coded is decoded as the same bitmap, row by row. -/
set_option linter.unusedVariables false
set_option linter.unusedSimpArgs false
namespace Go.Bm
open Go Go.Den Go.Den.Yteakipgcanafoaa
open Go.Ar (Cod Dec CodOk codN decN newC newC_ok newD idx bytesM flushM putM getD)

/-! ### decisions as a list -/
def kOf (L : List (Nat × Nat)) (i : Nat) : Nat := (L[i]?.getD (0, 0)).1
def bOf (L : List (Nat × Nat)) (i : Nat) : Nat := (L[i]?.getD (0, 0)).2
def cdL (m : Nat) (L : List (Nat × Nat)) : Cod := codN (kOf L) (bOf L) m L.length
theorem codN_cong {k b k' b' : Nat → Nat} {m : Nat} : ∀ {n : Nat}, (∀ j, j < n → k j = k' j ∧ b j = b' j) → codN k b m n = codN k' b' m n
  | 0, _ => rfl
  | n + 1, h => by
    have := codN_cong (m := m) (n := n) fun j hj => h j (by omega)
    unfold codN
    rw [this, (h n (by omega)).1, (h n (by omega)).2]
theorem cdL_snoc (m : Nat) (L : List (Nat × Nat)) (d : Nat × Nat) : cdL m (L ++ [d]) = putM (cdL m L) d.1 d.2 := by
  have e : codN (kOf (L ++ [d])) (bOf (L ++ [d])) m L.length = cdL m L := codN_cong fun j hj => by
    unfold kOf bOf
    rw [List.getElem?_append_left hj]
    exact ⟨rfl, rfl⟩
  unfold cdL at e ⊢
  rw [List.length_append, List.length_singleton, codN, e]
  unfold kOf bOf
  rw [List.getElem?_append_right (Nat.le_refl _), Nat.sub_self]
  rfl
theorem cdL_ok {m : Nat} {L : List (Nat × Nat)} (h : L.length ≤ 16777216) : CodOk m L.length (cdL m L) := by
  have key : ∀ i, i ≤ 16777216 → CodOk m i (codN (kOf L) (bOf L) m i) := by
    intro i
    induction i with
    | zero => exact fun _ => newC_ok m
    | succ i ih => exact fun hi => Go.Ar.putM_ok (ih (by omega)) _ _ (by omega)
  exact key _ h
theorem bOf_le {L : List (Nat × Nat)} (h : ∀ d ∈ L, d.2 ≤ 1) : ∀ i, i < L.length → bOf L i ≤ 1 := fun i hi => by
  unfold bOf
  rw [List.getElem?_eq_getElem hi]
  exact h _ (List.getElem_mem hi)
theorem kOf_at {L A B : List (Nat × Nat)} {d : Nat × Nat} (h : L = A ++ d :: B) : kOf L A.length = d.1 ∧ bOf L A.length = d.2 := by
  subst h
  unfold kOf bOf
  rw [List.getElem?_append_right (Nat.le_refl _), Nat.sub_self]
  exact ⟨rfl, rfl⟩
/-- The decoder's walk over the decisions. -/
structure Walk (L : List (Nat × Nat)) (D : Nat → Dec) : Prop where
  step : ∀ i, i < L.length → getD (D i) (kOf L i) = (D (i + 1), bOf L i)
theorem Walk.at {L A B : List (Nat × Nat)} {D : Nat → Dec} {d : Nat × Nat} (h : Walk L D) (e : L = A ++ d :: B) : getD (D A.length) d.1 = (D (A.length + 1), d.2) := by
  obtain ⟨h1, h2⟩ := kOf_at e
  have := h.step A.length (by rw [e]; simp)
  rw [h1, h2] at this
  exact this
theorem walk_of {m : Nat} {L : List (Nat × Nat)} (h1 : ∀ d ∈ L, d.2 ≤ 1) (hc : L.length ≤ 16777216) : Walk L (decN (kOf L) (bytesM (flushM (cdL m L))) m) := by
  refine ⟨fun i hi => Prod.ext rfl ?_⟩
  have hlt : ∀ x ∈ bytesM (flushM (cdL m L)), x < 256 := Go.Ar.flushM_lt (cdL_ok hc).wf
  exact Go.Ar.back_bit (kOf L) (bOf L) m L.length (bOf_le h1) hc hlt hi

/-! ### the decisions of a bitmap -/
section
variable (G : Int → Int → Bool) (W m t : Nat) (skip : Bool) (base : Int)
def dsRow (y k : Nat) : List (Nat × Nat) := (List.range k).map fun (x : Nat) => (idx (base + ((gctx t G (x : Int) (y : Int) : Nat) : Int)) m, (G (x : Int) (y : Int)).toNat)
def dsLine (y : Nat) : List (Nat × Nat) := match skip with
  | false => dsRow G m t base y W
  | true => (idx (base + ((gsize t : Nat) : Int)) m, (sameB G W y).toNat) :: (match sameB G W y with
    | true => []
    | false => dsRow G m t base y W)
def dsG : Nat → List (Nat × Nat)
  | 0 => []
  | y + 1 => dsG y ++ dsLine G W m t skip base y
theorem dsRow_succ (y k : Nat) : dsRow G m t base y (k + 1) = dsRow G m t base y k ++ [(idx (base + ((gctx t G (k : Int) (y : Int) : Nat) : Int)) m, (G (k : Int) (y : Int)).toNat)] := by
  unfold dsRow
  rw [List.range_succ, List.map_append]
  rfl
theorem dsRow_len (y k : Nat) : (dsRow G m t base y k).length = k := by simp [dsRow]
theorem dsLine_len (y : Nat) : (dsLine G W m t skip base y).length ≤ W + 1 := by
  unfold dsLine
  cases skip with
  | false =>
    simp only [dsRow_len]
    omega
  | true =>
    cases sameB G W y <;> simp [dsRow_len]
theorem dsG_len : ∀ y, (dsG G W m t skip base y).length ≤ y * (W + 1)
  | 0 => by simp [dsG]
  | y + 1 => by
    have h1 := dsG_len y
    have h2 := dsLine_len G W m t skip base y
    unfold dsG
    rw [List.length_append, Nat.add_mul, Nat.one_mul]
    omega
theorem dsRow_bit (y k : Nat) : ∀ d ∈ dsRow G m t base y k, d.2 ≤ 1 := fun d hd => by
  unfold dsRow at hd
  obtain ⟨x, _, rfl⟩ := List.mem_map.1 hd
  exact toNat_le _
theorem dsLine_bit (y : Nat) : ∀ d ∈ dsLine G W m t skip base y, d.2 ≤ 1 := fun d hd => by
  unfold dsLine at hd
  cases skip with
  | false => exact dsRow_bit G m t base y W d hd
  | true =>
    rcases List.mem_cons.1 hd with rfl | hd
    · exact toNat_le _
    · cases hs : sameB G W y with
      | true => rw [hs] at hd; cases hd
      | false => rw [hs] at hd; exact dsRow_bit G m t base y W d hd
theorem dsG_bit : ∀ y, ∀ d ∈ dsG G W m t skip base y, d.2 ≤ 1
  | 0 => fun d hd => by cases hd
  | y + 1 => fun d hd => by
    unfold dsG at hd
    rcases List.mem_append.1 hd with hd | hd
    · exact dsG_bit y d hd
    · exact dsLine_bit G W m t skip base y d hd
theorem dsG_split {y : Nat} : ∀ {X : Nat}, y < X → ∃ C, dsG G W m t skip base X = dsG G W m t skip base y ++ (dsLine G W m t skip base y ++ C)
  | X + 1, h => by
    rcases Nat.lt_or_ge y X with h1 | h1
    · obtain ⟨C, hC⟩ := dsG_split h1
      refine ⟨C ++ dsLine G W m t skip base X, ?_⟩
      rw [dsG, hC]
      simp
    · obtain rfl : y = X := by omega
      exact ⟨[], by simp [dsG]⟩

/-! ### coding -/
theorem enc_row (L : List (Nat × Nat)) (y : Nat) : ∀ k, rowG t (stepP m base) y k (G, cdL m L) = .inl (G, cdL m (L ++ dsRow G m t base y k))
  | 0 => by simp [rowG, dsRow]
  | k + 1 => by
    unfold rowG
    rw [enc_row L y k]
    simp only [stepP, upd_self]
    rw [dsRow_succ, ← List.append_assoc, cdL_snoc]
variable (hG : ∀ x y : Int, ¬ (0 ≤ x ∧ x < W ∧ 0 ≤ y) → G x y = false)
include hG
theorem enc_g (L : List (Nat × Nat)) : ∀ y, runG W t skip (stepP m base) y (G, cdL m L) = .inl (G, cdL m (L ++ dsG G W m t skip base y))
  | 0 => by simp [runG, dsG]
  | y + 1 => by
    unfold runG
    rw [enc_g L y]
    cases skip with
    | false =>
      simp only []
      rw [enc_row, dsG, dsLine, List.append_assoc]
    | true =>
      simp only [stepP]
      rw [← cdL_snoc m _ (idx (base + ((gsize t : Nat) : Int)) m, (sameB G W y).toNat)]
      cases hs : sameB G W y with
      | true =>
        simp only []
        rw [copy_same (fun a b h => hG a b fun hh => h ⟨hh.1, hh.2.1⟩) hs, dsG]
        simp only [dsLine, hs]
        simp
      | false =>
        simp only []
        rw [enc_row, dsG]
        simp only [dsLine, hs]
        simp

/-! ### decoding -/
theorem part_gctx {x y : Nat} (ht : t < 4) (hx : x < W) : gctx t (partG G W (y * W + x)) x y = gctx t G x y := by
  unfold gctx pb
  congr 1
  refine List.map_congr_left fun p hp => ?_
  unfold plcs at hp
  obtain ⟨s, hs, hp⟩ := List.mem_flatMap.1 hp
  have hok := spanL_ok ht s hs
  have d1 := hok.d
  have d2 := hok.f
  have d3 := hok.t
  have d4 := hok.z
  unfold spl at hp
  obtain ⟨j, hj, rfl⟩ := List.mem_map.1 hp
  have hj := List.mem_range.1 hj
  unfold spanW at hj
  dsimp only
  refine partG_eq G W hG fun h1 h2 h3 => ?_
  by_cases h : s.1 = 0
  · have e : ((y : Int) + s.1).toNat = y := by omega
    rw [e]
    omega
  · have e : (((y : Int) + s.1).toNat + 1) * W ≤ y * W := Nat.mul_le_mul_right _ (by omega)
    rw [Nat.add_mul, Nat.one_mul] at e
    omega
theorem part_zero : partG G W 0 = fun _ _ => false := by
  have _ := hG
  funext x y
  unfold partG
  rw [decide_eq_false (by omega), Bool.false_and]
theorem part_same {y : Nat} (hs : sameB G W y = true) : copyRow (partG G W (y * W)) y = partG G W ((y + 1) * W) := by
  have hs := fun (x : Nat) (hx : x < W) => by
    unfold sameB at hs
    have := List.all_eq_true.1 hs x (List.mem_range.2 hx)
    exact of_decide_eq_true (p := G (x : Int) (y : Int) = G (x : Int) ((y : Int) - 1)) (by simpa using this)
  funext a b
  unfold copyRow
  by_cases hin : 0 ≤ a ∧ a < (W : Int) ∧ 0 ≤ b
  · by_cases hb : b = (y : Int)
    · subst hb
      have e2 : partG G W ((y + 1) * W) a y = G a y := partG_eq G W hG fun h1 h2 h3 => by
        rw [Int.toNat_natCast, Nat.add_mul, Nat.one_mul]
        omega
      have e3 := hs a.toNat (by omega)
      rw [show ((a.toNat : Nat) : Int) = a by omega] at e3
      rw [e2]
      by_cases hy : y = 0
      · rw [if_neg (fun hh => hh.2 hy)]
        subst hy
        rw [e3, hG a _ (by omega)]
        unfold partG
        rw [decide_eq_false (by omega), Bool.false_and]
      · rw [if_pos ⟨rfl, hy⟩, e3]
        refine partG_eq G W hG fun h1 h2 h3 => ?_
        have e4 : (((y : Int) - 1).toNat + 1) * W ≤ y * W := Nat.mul_le_mul_right _ (by omega)
        rw [Nat.add_mul, Nat.one_mul] at e4
        omega
    · rw [if_neg (fun hh => hb hh.1)]
      unfold partG
      congr 1
      rw [decide_eq_decide]
      constructor
      · rintro ⟨h2, h3, h4, h5⟩
        refine ⟨h2, h3, h4, ?_⟩
        rw [Nat.add_mul, Nat.one_mul]
        omega
      · rintro ⟨h2, h3, h4, h5⟩
        refine ⟨h2, h3, h4, ?_⟩
        rcases Nat.lt_or_ge b.toNat y with h6 | h6
        · have e4 : (b.toNat + 1) * W ≤ y * W := Nat.mul_le_mul_right _ (by omega)
          rw [Nat.add_mul, Nat.one_mul] at e4
          omega
        · exfalso
          have e4 : (y + 1) * W ≤ b.toNat * W := Nat.mul_le_mul_right _ (by omega)
          omega
  · have e : ∀ i a b, ¬ (0 ≤ a ∧ a < (W : Int) ∧ 0 ≤ b) → partG G W i a b = false := fun i a b h => by
      unfold partG
      rw [hG a b h, Bool.and_false]
    rw [e _ a b hin]
    by_cases hb : b = (y : Int) ∧ y ≠ 0
    · rw [if_pos hb, e _ a _ (by omega), e _ a b hin]
    · rw [if_neg hb, e _ a b hin]
variable {L : List (Nat × Nat)} {D : Nat → Dec} (hW : Walk L D)
include hW
theorem dec_row {A : List (Nat × Nat)} {y : Nat} (ht : t < 4) : ∀ k, k ≤ W → ∀ C, L = A ++ (dsRow G m t base y k ++ C) → rowG t (stepG m base) y k (partG G W (y * W), D A.length) = .inl (partG G W (y * W + k), D (A ++ dsRow G m t base y k).length)
  | 0, _, C, _ => by simp [rowG, dsRow]
  | k + 1, hk, C, hL => by
    have hL2 : L = (A ++ dsRow G m t base y k) ++ (idx (base + ((gctx t G (k : Int) (y : Int) : Nat) : Int)) m, (G (k : Int) (y : Int)).toNat) :: C := by
      rw [hL, dsRow_succ]
      simp
    have hs := hW.at hL2
    unfold rowG
    rw [dec_row ht k (by omega) ((idx (base + ((gctx t G (k : Int) (y : Int) : Nat) : Int)) m, (G (k : Int) (y : Int)).toNat) :: C) (hL2.trans (List.append_assoc _ _ _))]
    simp only [stepG]
    rw [part_gctx G W t hG ht (by omega), hs]
    dsimp only
    have hbit : decide ((G (k : Int) (y : Int)).toNat = 1) = G (k : Int) (y : Int) := by cases G (k : Int) (y : Int) <;> rfl
    rw [hbit, partG_next G W hG (by omega), dsRow_succ]
    simp [Nat.add_assoc]
theorem dec_g {A C : List (Nat × Nat)} {X : Nat} (ht : t < 4) (hL : L = A ++ (dsG G W m t skip base X ++ C)) : ∀ y, y ≤ X → runG W t skip (stepG m base) y (fun _ _ => false, D A.length) = .inl (partG G W (y * W), D (A ++ dsG G W m t skip base y).length)
  | 0, _ => by
    rw [Nat.zero_mul, part_zero G W hG]
    simp [runG, dsG]
  | y + 1, hy => by
    obtain ⟨C2, hC2⟩ := dsG_split G W m t skip base (y := y) (X := X) (by omega)
    unfold runG
    rw [dec_g ht hL y (by omega)]
    rw [hC2] at hL
    have hrow : (y + 1) * W = y * W + W := by rw [Nat.add_mul, Nat.one_mul]
    cases skip with
    | false =>
      simp only []
      rw [dec_row G W m t base hG hW (A := A ++ dsG G W m t false base y) ht W (Nat.le_refl _) (C2 ++ C) (hL.trans (by simp [dsLine])), dsG, dsLine, hrow, List.append_assoc]
    | true =>
      simp only [stepG]
      cases hs : sameB G W y with
      | true =>
        have h1 := hW.at (A := A ++ dsG G W m t true base y) (B := C2 ++ C) (d := (idx (base + ((gsize t : Nat) : Int)) m, 1)) (hL.trans (by simp [dsLine, hs]))
        rw [h1]
        simp only [decide_true]
        rw [part_same G W hG hs, dsG]
        simp [dsLine, hs, Nat.add_assoc]
      | false =>
        have h1 := hW.at (A := A ++ dsG G W m t true base y) (B := dsRow G m t base y W ++ (C2 ++ C)) (d := (idx (base + ((gsize t : Nat) : Int)) m, 0)) (hL.trans (by simp [dsLine, hs]))
        rw [h1]
        simp only [show decide ((0 : Nat) = 1) = false from rfl]
        have h2 := dec_row G W m t base hG hW (A := (A ++ dsG G W m t true base y) ++ [(idx (base + ((gsize t : Nat) : Int)) m, 0)]) (y := y) ht W (Nat.le_refl _) (C2 ++ C) (hL.trans (by simp [dsLine, hs]))
        rw [List.length_append, List.length_singleton] at h2
        rw [h2, dsG, hrow]
        simp [dsLine, hs, Nat.add_assoc]
end
end Go.Bm

/- Written by gen.py: the conditions of the functions of law7x. -/
set_option linter.unusedVariables false
set_option linter.unusedSimpArgs false
namespace Go.Den.Yteakipgcanafoaa
open Go Go.Den

/- burin/burinlaw7.light -/
set_option maxRecDepth 100000 in
def burinlaw7_light (C : CallP) (b_1 : Int) (b_2 : Int) (b_3 : Option Addr) (b_3n : Nat) (b_3c : Nat) (h : Heap) (K : Value → Heap → Prop) (Kp : List PanicEntry → Heap → Prop) : Prop :=
newC h [.int .i64 b_1, .int .i64 b_2, .slice b_3 b_3n b_3c] T_api_Bitmap fun r_4 h_5 =>
ldS h_5 ((⟨r_4, 0, none⟩ : Addr).add 2) fun x_6 x_6n x_6c =>
bcase (decide ((x_6n : Int) ≤ (1000 : Int))) (
ldI h_5 ((⟨r_4, 0, none⟩ : Addr).add 0) .i64 fun x_7 =>
ldI h_5 ((⟨r_4, 0, none⟩ : Addr).add 1) .i64 fun x_8 =>
ldS h_5 ((⟨r_4, 0, none⟩ : Addr).add 2) fun x_9 x_9n x_9c =>
C F_burinref0_May #[.agg #[.int .i64 x_7, .int .i64 x_8, .slice x_9 x_9n x_9c]] h_5 (fun v_10 h_11 =>
∃ (r_12 : Bool), v_10 = .bool r_12 ∧ (
bcase (!r_12) (
K (.bool true) h_11) <|
ldI h_11 ((⟨r_4, 0, none⟩ : Addr).add 0) .i64 fun x_13 =>
ldI h_11 ((⟨r_4, 0, none⟩ : Addr).add 1) .i64 fun x_14 =>
bindI (IntKind.i64.wrap (x_13 * x_14)) fun z_15 =>
K (.bool (decide (z_15 ≤ (6000 : Int)))) h_11)) (Kp)) <|
K (.bool false) h_5

/- burin/burinlaw7.wakes -/
set_option maxRecDepth 100000 in
def burinlaw7_wakes (C : CallP)  (h : Heap) (K : Value → Heap → Prop) (Kp : List PanicEntry → Heap → Prop) : Prop :=
newC h [.int .u64 12105675798371893248, .int .u64 12105675798371893248] T_uint64 fun r_1 h_2 =>
newC h_2 [.int .i64 0, .int .i64 0, .slice none 0 0] T_api_Bitmap fun r_3 h_4 =>
stV h_4 ((⟨r_3, 0, none⟩ : Addr).add 0) (.int .i64 5) fun h_5 =>
stV h_5 ((⟨r_3, 0, none⟩ : Addr).add 1) (.int .i64 2) fun h_6 =>
stV h_6 ((⟨r_3, 0, none⟩ : Addr).add 2) (.slice (some ⟨r_1, 0, none⟩) 2 2) fun h_7 =>
ldI h_7 ((⟨r_3, 0, none⟩ : Addr).add 0) .i64 fun x_8 =>
ldI h_7 ((⟨r_3, 0, none⟩ : Addr).add 1) .i64 fun x_9 =>
ldS h_7 ((⟨r_3, 0, none⟩ : Addr).add 2) fun x_10 x_10n x_10c =>
C F_generic_Encode #[.agg #[.int .i64 x_8, .int .i64 x_9, .slice x_10 x_10n x_10c], .int .i64 2, .bool true] h_7 (fun v_11 h_12 =>
∃ (r_13 : Option Addr) (r_13n : Nat) (r_13c : Nat), ∃ (r_14 : Int), v_11 = .tuple #[.slice r_13 r_13n r_13c, .int .i64 r_14] ∧ (
C F_generic_Decode #[.slice r_13 r_13n r_13c, .int .i64 5, .int .i64 2, .int .i64 2, .bool true] h_12 (fun v_15 h_16 =>
∃ (r_17 : Int) (r_18 : Int) (r_19 : Option Addr) (r_19n : Nat) (r_19c : Nat), ∃ (r_20 : Int), v_15 = .tuple #[.agg #[.int .i64 r_17, .int .i64 r_18, .slice r_19 r_19n r_19c], .int .i64 r_20] ∧ (
newC h_16 [.int .i64 0, .int .i64 0, .slice none 0 0] T_api_Bitmap fun r_21 h_22 =>
stV h_22 ((⟨r_21, 0, none⟩ : Addr).add 0) (.int .i64 r_17) fun h_23 =>
stV h_23 ((⟨r_21, 0, none⟩ : Addr).add 1) (.int .i64 r_18) fun h_24 =>
stV h_24 ((⟨r_21, 0, none⟩ : Addr).add 2) (.slice r_19 r_19n r_19c) fun h_25 =>
bcase (r_14 == (0 : Int)) (
bcase (r_20 == (0 : Int)) (
bcase (decide ((r_13n : Int) > (0 : Int))) (
ldI h_25 ((⟨r_3, 0, none⟩ : Addr).add 0) .i64 fun x_26 =>
ldI h_25 ((⟨r_3, 0, none⟩ : Addr).add 1) .i64 fun x_27 =>
ldS h_25 ((⟨r_3, 0, none⟩ : Addr).add 2) fun x_28 x_28n x_28c =>
ldI h_25 ((⟨r_21, 0, none⟩ : Addr).add 0) .i64 fun x_29 =>
ldI h_25 ((⟨r_21, 0, none⟩ : Addr).add 1) .i64 fun x_30 =>
ldS h_25 ((⟨r_21, 0, none⟩ : Addr).add 2) fun x_31 x_31n x_31c =>
C F_burinref0_EqBitmap #[.agg #[.int .i64 x_26, .int .i64 x_27, .slice x_28 x_28n x_28c], .agg #[.int .i64 x_29, .int .i64 x_30, .slice x_31 x_31n x_31c]] h_25 (fun v_32 h_33 =>
∃ (r_34 : Bool), v_32 = .bool r_34 ∧ (
K (.bool r_34) h_33)) (Kp)) <|
K (.bool false) h_25) <|
K (.bool false) h_25) <|
K (.bool false) h_25)) (Kp))) (Kp)

end Go.Den.Yteakipgcanafoaa

/- Written by gen.py: each condition of the functions of law7x is the one of its body; so it is enough for its call. -/
set_option linter.unusedVariables false
set_option linter.unusedSimpArgs false
namespace Go.Den.Yteakipgcanafoaa
open Go Go.Den

noncomputable def hints_burinlaw7_light : Hints := Hints.mk (fun i => none)
  (fun i => none)
  (fun i => none) []
set_option maxRecDepth 100000 in
theorem eq_burinlaw7_light (C : CallP) (b_1 : Int) (b_2 : Int) (b_3 : Option Addr) (b_3n : Nat) (b_3c : Nat) (h : Heap) (K : Value → Heap → Prop) (Kp : List PanicEntry → Heap → Prop) :
    fnD Go.Proofs.Try.prog C hints_burinlaw7_light Go.Proofs.Try.f42 [.agg #[.int .i64 b_1, .int .i64 b_2, .slice b_3 b_3n b_3c]] h K Kp = burinlaw7_light C b_1 b_2 b_3 b_3n b_3c h K Kp := by kernel_rfl

theorem call_burinlaw7_light {b_1 : Int} {b_2 : Int} {b_3 : Option Addr} {b_3n : Nat} {b_3c : Nat} {h : Heap} {K : Value → Heap → Prop} {Kp : List PanicEntry → Heap → Prop} (H : burinlaw7_light (CallsHP Go.Proofs.Try.prog) b_1 b_2 b_3 b_3n b_3c h K Kp) : CallsHP Go.Proofs.Try.prog F_burinlaw7_light #[.agg #[.int .i64 b_1, .int .i64 b_2, .slice b_3 b_3n b_3c]] h K Kp :=
  callsHP_of hints_burinlaw7_light (by kernel_rfl) Go.Proofs.Try.func42 (by kernel_rfl) (by rw [eq_burinlaw7_light]; exact H)

noncomputable def hints_burinlaw7_wakes : Hints := Hints.mk (fun i => none)
  (fun i => none)
  (fun i => none) []
set_option maxRecDepth 100000 in
theorem eq_burinlaw7_wakes (C : CallP)  (h : Heap) (K : Value → Heap → Prop) (Kp : List PanicEntry → Heap → Prop) :
    fnD Go.Proofs.Try.prog C hints_burinlaw7_wakes Go.Proofs.Try.f47 [] h K Kp = burinlaw7_wakes C  h K Kp := by kernel_rfl

theorem call_burinlaw7_wakes  {h : Heap} {K : Value → Heap → Prop} {Kp : List PanicEntry → Heap → Prop} (H : burinlaw7_wakes (CallsHP Go.Proofs.Try.prog)  h K Kp) : CallsHP Go.Proofs.Try.prog F_burinlaw7_wakes #[] h K Kp :=
  callsHP_of hints_burinlaw7_wakes (by kernel_rfl) Go.Proofs.Try.func47 (by kernel_rfl) (by rw [eq_burinlaw7_wakes]; exact H)

end Go.Den.Yteakipgcanafoaa

/- GnK: generic coding: back again, a few rows, wakes, light. -/
set_option linter.unusedVariables false
set_option linter.unusedSimpArgs false
namespace Go.Bm
open Go Go.Den Go.Den.Yteakipgcanafoaa
open Go.Ar (Cod Dec CodOk codN decN newC newC_ok newD idx bytesM flushM putM getD)

theorem GEncR.bytes {w b template : Int} {skip : Bool} {ws : List Nat} {e : Int} {bs : List Nat} (h : GEncR w b ws template skip e bs) : (∀ x ∈ bs, x < 256) ∧ bs.length < 140737488351300 := by
  rcases h with ⟨_, _, rfl⟩ | ⟨_, _, _, rfl⟩ | ⟨_, _, _, G, s', k, _, _, hok, rfl⟩
  · exact ⟨(fun x hx => by cases hx), by decide⟩
  · exact ⟨(fun x hx => by cases hx), by decide⟩
  · refine ⟨Go.Ar.flushM_lt hok.wf, ?_⟩
    have h1 := Go.Ar.flushM_len s'
    have h2 := hok.wf.len
    have h3 := hok.wf.n
    omega
theorem GGetR.len {bytes : List Nat} {m n0 : Nat} {base w b template : Int} {skip : Bool} {s : Dec} {e a c : Int} {bs : List Nat} {s' : Dec} (h : GGetR bytes m n0 base w b template skip s e a c bs s') : bs.length < 140737488351300 := by
  rcases h with ⟨_, _, _, _, rfl, _⟩ | ⟨_, _, _, _, _, rfl, _⟩ | ⟨_, _, _, _, _, _, rfl, _⟩ | ⟨_, p2, _, _, _, _, _, l, _⟩
  · decide
  · decide
  · decide
  · obtain ⟨W, X, rfl, rfl, hW1, hW2, hX1, hX2, hWX⟩ := size_nat p2
    simp only [Int.toNat_natCast] at l
    have := hw_le hW1 hWX
    omega
theorem GEncR.ok {w b template : Int} {skip : Bool} {ws : List Nat} {e : Int} {bs : List Nat} (ht : 0 ≤ template ∧ template < 4) (hm : MayP w b ws) (h : GEncR w b ws template skip e bs) : e = 0 := by
  rcases h with ⟨a, _⟩ | ⟨_, a, _⟩ | ⟨_, _, e, _⟩
  · exact absurd ht a
  · exact absurd hm a
  · exact e
/-- What is coded, said with the list of decisions. -/
theorem GEncR.list {W X t : Nat} {skip : Bool} {ws : List Nat} {e : Int} {bs : List Nat} (ht : t < 4) (hm : MayP (W : Int) (X : Int) ws) (h : GEncR (W : Int) (X : Int) ws (t : Int) skip e bs) :
    e = 0 ∧ (dsG (getP ws W X) W (gsize t + 1) t skip 0 X).length ≤ 16777216 ∧ bs = bytesM (flushM (cdL (gsize t + 1) (dsG (getP ws W X) W (gsize t + 1) t skip 0 X))) := by
  have hpx := size_px1 hm.1
  simp only [Int.toNat_natCast, Nat.zero_add] at hpx
  rcases h with ⟨a, _⟩ | ⟨_, a, _⟩ | ⟨_, _, rfl, Gz, sz, k, hrun, hkk, hok, rfl⟩
  · exact absurd ⟨by omega, by omega⟩ a
  · exact absurd hm a
  simp only [Int.toNat_natCast] at hrun
  have h1 := enc_g (getP ws W X) W (gsize t + 1) t skip 0 (getP_out ws W X) [] X
  rw [List.nil_append] at h1
  have h2 : cdL (gsize t + 1) [] = Go.Ar.newC (gsize t + 1) := rfl
  rw [h2, hrun] at h1
  injection h1 with h1
  injection h1 with _ h1
  subst h1
  exact ⟨rfl, Nat.le_trans (dsG_len _ _ _ _ _ _ _) hpx, rfl⟩
/-- As many rows, or fewer. -/
theorem g_top {W X n t : Nat} {skip : Bool} {ws : List Nat} {e e' w' b' : Int} {bs bs' : List Nat} {s' : Dec} (ht : t < 4) (hn : n ≤ X) (hn1 : 1 ≤ n) (hm : MayP (W : Int) (X : Int) ws)
    (henc : GEncR (W : Int) (X : Int) ws (t : Int) skip e bs) (hget : GGetR bs (gsize t + 1) 0 0 (W : Int) (n : Int) (t : Int) skip (newD bs (gsize t + 1)) e' w' b' bs' s') :
    e = 0 ∧ e' = 0 ∧ w' = (W : Int) ∧ b' = (n : Int) ∧ bs'.length = n * wds W ∧ W64 bs' ∧ PadZ W n bs' ∧ getP bs' W n = fun (x y : Int) => decide (y < n) && getP ws W X x y := by
  obtain ⟨W', X', e1, e2, hW1, hW2, hX1, hX2, hWX⟩ := size_nat hm.1
  obtain rfl : W = W' := by omega
  obtain rfl : X = X' := by omega
  have hWn : W * n ≤ W * X := Nat.mul_le_mul_left _ hn
  have hsz : SizeP (W : Int) (n : Int) := by
    refine ⟨by omega, by omega, by omega, by omega, ?_⟩
    rw [mul_cast]
    omega
  obtain ⟨rfl, hlen, hbs⟩ := henc.list ht hm
  rcases hget with ⟨a, _⟩ | ⟨_, a, _⟩ | ⟨_, _, a, _⟩ | ⟨_, _, _, rfl, rfl, rfl, hrun2, hl, hww, hz, _⟩
  · exact absurd ⟨by omega, by omega⟩ a
  · exact absurd hsz a
  · exact absurd ⟨by omega, by simp only [Int.toNat_natCast]; omega⟩ a
  simp only [Int.toNat_natCast] at hrun2 hl hz
  refine ⟨rfl, rfl, rfl, rfl, hl, hww, hz, ?_⟩
  have hwalk := walk_of (m := gsize t + 1) (dsG_bit (getP ws W X) W (gsize t + 1) t skip 0 X) hlen
  rw [← hbs] at hwalk
  have h1 := dec_g (getP ws W X) W (gsize t + 1) t skip 0 (getP_out ws W X) hwalk (A := []) (C := []) (X := X) ht (by simp) n hn
  have h2 : decN (kOf (dsG (getP ws W X) W (gsize t + 1) t skip 0 X)) bs (gsize t + 1) ([] : List (Nat × Nat)).length = newD bs (gsize t + 1) := rfl
  rw [h2, hrun2, part_rows] at h1
  injection h1 with h1
  injection h1 with h1 _
theorem g_back {W X t : Nat} {skip : Bool} {ws : List Nat} {e e' w' b' : Int} {bs bs' : List Nat} {s' : Dec} (ht : t < 4) (hm : MayP (W : Int) (X : Int) ws) (hw : W64 ws)
    (henc : GEncR (W : Int) (X : Int) ws (t : Int) skip e bs) (hget : GGetR bs (gsize t + 1) 0 0 (W : Int) (X : Int) (t : Int) skip (newD bs (gsize t + 1)) e' w' b' bs' s') :
    e = 0 ∧ e' = 0 ∧ w' = (W : Int) ∧ b' = (X : Int) ∧ bs' = ws := by
  obtain ⟨W', X', e1, e2, hW1, hW2, hX1, hX2, hWX⟩ := size_nat hm.1
  obtain rfl : W = W' := by omega
  obtain rfl : X = X' := by omega
  obtain ⟨h1, h2, h3, h4, h5, h6, h7, h8⟩ := g_top ht (Nat.le_refl X) hX1 hm henc hget
  refine ⟨h1, h2, h3, h4, getP_ext h5 (may_len hm) h6 hw h7 (fun y hy x k1 k2 => pix_of_may hm hy k1 k2) ?_⟩
  rw [h8]
  funext x y
  by_cases hy : y < (X : Int)
  · rw [decide_eq_true hy, Bool.true_and]
  · rw [decide_eq_false hy, Bool.false_and]
    unfold getP
    rw [decide_eq_false (by omega), Bool.false_and]
theorem g_ff {W X t : Nat} {skip : Bool} {ws : List Nat} {e : Int} {bs : List Nat} (ht : t < 4) (hm : MayP (W : Int) (X : Int) ws) (h : GEncR (W : Int) (X : Int) ws (t : Int) skip e bs) :
    ∀ i, bs[i]? = some 255 → ∀ y, bs[i + 1]? = some y → y ≤ 143 := by
  obtain ⟨rfl, hlen, rfl⟩ := h.list ht hm
  generalize hL : dsG (getP ws W X) W (gsize t + 1) t skip 0 X = L at hlen ⊢
  have hb := bOf_le (L := L) (by rw [← hL]; exact dsG_bit _ _ _ _ _ _ _)
  have hwf := Go.Ar.codN_wf (kOf L) (bOf L) (gsize t + 1) L.length hb L.length (Nat.le_refl _) hlen
  have hstf := Go.Ar.stf_flush (Go.Ar.codN_stf (kOf L) (bOf L) (gsize t + 1) L.length hb L.length (Nat.le_refl _) hlen) hwf.1
  exact fun i hi => (Go.Ar.bytes_ff hstf hi).2

theorem light7_ok {hB : Heap} {w b : Int} {q : Option Addr} {c : Nat} {ws : List Nat} (hr : rdO hB q (ws.length * 1) (u64s ws)) (hw : W64 ws) (hl : ws.length < 140737488351300) {K : Value → Heap → Prop} {Kp : List PanicEntry → Heap → Prop}
    (hk : ∀ (bb : Bool) h', (bb = true → ws.length ≤ 1000 ∧ (MayP w b ws → w * b ≤ 6000)) → hext hB h' → K (.bool bb) h') : CP F_burinlaw7_light #[.agg #[.int .i64 w, .int .i64 b, .slice q ws.length c]] hB K Kp := by
  refine call_burinlaw7_light ?_
  unfold burinlaw7_light
  have H := Hp.nil hB []
  refine newC_hp H fun r h H => ?_
  repeat first | with_reducible refine ldI_of (by with_unfolding_all first | exact hpA H 0 rfl rfl | exact Hp.cell H 0 rfl rfl | exact hpB H 0 rfl rfl | exact hpC H 0 rfl rfl) ?_ | with_reducible refine ldS_of (by with_unfolding_all first | exact hpA H 0 rfl rfl | exact Hp.cell H 0 rfl rfl | exact hpB H 0 rfl rfl | exact hpC H 0 rfl rfl) ?_ | with_reducible refine ldP_of (by with_unfolding_all first | exact hpA H 0 rfl rfl | exact Hp.cell H 0 rfl rfl | exact hpB H 0 rfl rfl | exact hpC H 0 rfl rfl) ?_ | with_reducible refine ldB_of (by with_unfolding_all first | exact hpA H 0 rfl rfl | exact Hp.cell H 0 rfl rfl | exact hpB H 0 rfl rfl | exact hpC H 0 rfl rfl) ?_ | with_reducible refine ldT_of (by with_unfolding_all first | exact hpA H 0 rfl rfl | exact Hp.cell H 0 rfl rfl | exact hpB H 0 rfl rfl | exact hpC H 0 rfl rfl) ?_
  refine bcase_dec (fun h1 => ?_) fun h1 => hk false _ (fun h => by cases h) H.hext
  repeat first | with_reducible refine ldI_of (by with_unfolding_all first | exact hpA H 0 rfl rfl | exact Hp.cell H 0 rfl rfl | exact hpB H 0 rfl rfl | exact hpC H 0 rfl rfl) ?_ | with_reducible refine ldS_of (by with_unfolding_all first | exact hpA H 0 rfl rfl | exact Hp.cell H 0 rfl rfl | exact hpB H 0 rfl rfl | exact hpC H 0 rfl rfl) ?_ | with_reducible refine ldP_of (by with_unfolding_all first | exact hpA H 0 rfl rfl | exact Hp.cell H 0 rfl rfl | exact hpB H 0 rfl rfl | exact hpC H 0 rfl rfl) ?_ | with_reducible refine ldB_of (by with_unfolding_all first | exact hpA H 0 rfl rfl | exact Hp.cell H 0 rfl rfl | exact hpB H 0 rfl rfl | exact hpC H 0 rfl rfl) ?_ | with_reducible refine ldT_of (by with_unfolding_all first | exact hpA H 0 rfl rfl | exact Hp.cell H 0 rfl rfl | exact hpB H 0 rfl rfl | exact hpC H 0 rfl rfl) ?_
  refine may_ok (H.rdO hr) hw hl fun bm h2 hbm e2 => ?_
  have H := H.ext e2
  refine ⟨_, rfl, ?_⟩
  refine bcase_not (fun h3 => ?_) fun h3 => ?_
  · exact hk true _ (fun _ => ⟨by omega, fun hm => by rw [hbm.2 hm] at h3; cases h3⟩) H.hext
  · have hm := hbm.1 h3
    obtain ⟨W, X, rfl, rfl, hW1, hW2, hX1, hX2, hWX⟩ := size_nat hm.1
    repeat first | with_reducible refine ldI_of (by with_unfolding_all first | exact hpA H 0 rfl rfl | exact Hp.cell H 0 rfl rfl | exact hpB H 0 rfl rfl | exact hpC H 0 rfl rfl) ?_ | with_reducible refine ldS_of (by with_unfolding_all first | exact hpA H 0 rfl rfl | exact Hp.cell H 0 rfl rfl | exact hpB H 0 rfl rfl | exact hpC H 0 rfl rfl) ?_ | with_reducible refine ldP_of (by with_unfolding_all first | exact hpA H 0 rfl rfl | exact Hp.cell H 0 rfl rfl | exact hpB H 0 rfl rfl | exact hpC H 0 rfl rfl) ?_ | with_reducible refine ldB_of (by with_unfolding_all first | exact hpA H 0 rfl rfl | exact Hp.cell H 0 rfl rfl | exact hpB H 0 rfl rfl | exact hpC H 0 rfl rfl) ?_ | with_reducible refine ldT_of (by with_unfolding_all first | exact hpA H 0 rfl rfl | exact Hp.cell H 0 rfl rfl | exact hpB H 0 rfl rfl | exact hpC H 0 rfl rfl) ?_
    refine bindI_of (((W * X : Nat) : Int)) (by exact i64_at _ _ mul_cast (by omega) (by omega)) ?_
    exact hk _ _ (fun h => ⟨by omega, fun _ => by rw [mul_cast]; exact of_decide_eq_true h⟩) H.hext
theorem wakes7_len : Nat.blt 0 (bytesM (flushM (cdL (gsize 2 + 1) (dsG (getP [12105675798371893248, 12105675798371893248] 5 2) 5 (gsize 2 + 1) 2 true 0 2)))).length = true := by kernel_rfl

set_option maxRecDepth 100000 in
theorem wakes7_ok {hB : Heap} {K : Value → Heap → Prop} {Kp : List PanicEntry → Heap → Prop} (hk : ∀ h', hext hB h' → K (.bool true) h') : CP F_burinlaw7_wakes #[] hB K Kp := by
  refine call_burinlaw7_wakes ?_
  unfold burinlaw7_wakes
  have H := Hp.nil hB []
  refine newC_hp H fun r1 h H => ?_
  refine newC_hp H fun r3 h H => ?_
  repeat first | with_reducible refine stA H 0 (by with_unfolding_all exact rfl) (by with_unfolding_all exact rfl) (by with_unfolding_all exact rfl) fun h H => ?_ | with_reducible refine stA H 1 (by with_unfolding_all exact rfl) (by with_unfolding_all exact rfl) (by with_unfolding_all exact rfl) fun h H => ?_ | with_reducible refine st0 H 0 (by with_unfolding_all exact rfl) (by with_unfolding_all exact rfl) (by with_unfolding_all exact rfl) fun h H => ?_ | with_reducible refine st0 H 1 (by with_unfolding_all exact rfl) (by with_unfolding_all exact rfl) (by with_unfolding_all exact rfl) fun h H => ?_ | with_reducible refine stB H 0 (by with_unfolding_all exact rfl) (by with_unfolding_all exact rfl) (by with_unfolding_all exact rfl) fun h H => ?_ | with_reducible refine stB H 1 (by with_unfolding_all exact rfl) (by with_unfolding_all exact rfl) (by with_unfolding_all exact rfl) fun h H => ?_
  have H : Hp hB [] h [⟨r1, true, T_uint64, u64s [12105675798371893248, 12105675798371893248] ++ []⟩, ⟨r3, true, T_api_Bitmap, [.int .i64 5, .int .i64 2, .slice (some ⟨r1, 0, none⟩) 2 2]⟩] := H
  repeat first | with_reducible refine ldI_of (by with_unfolding_all first | exact hpA H 0 rfl rfl | exact hpA H 1 rfl rfl | exact Hp.cell H 0 rfl rfl | exact Hp.cell H 1 rfl rfl | exact hpB H 0 rfl rfl | exact hpB H 1 rfl rfl | exact hpC H 0 rfl rfl | exact hpC H 1 rfl rfl) ?_ | with_reducible refine ldS_of (by with_unfolding_all first | exact hpA H 0 rfl rfl | exact hpA H 1 rfl rfl | exact Hp.cell H 0 rfl rfl | exact Hp.cell H 1 rfl rfl | exact hpB H 0 rfl rfl | exact hpB H 1 rfl rfl | exact hpC H 0 rfl rfl | exact hpC H 1 rfl rfl) ?_ | with_reducible refine ldP_of (by with_unfolding_all first | exact hpA H 0 rfl rfl | exact hpA H 1 rfl rfl | exact Hp.cell H 0 rfl rfl | exact Hp.cell H 1 rfl rfl | exact hpB H 0 rfl rfl | exact hpB H 1 rfl rfl | exact hpC H 0 rfl rfl | exact hpC H 1 rfl rfl) ?_ | with_reducible refine ldB_of (by with_unfolding_all first | exact hpA H 0 rfl rfl | exact hpA H 1 rfl rfl | exact Hp.cell H 0 rfl rfl | exact Hp.cell H 1 rfl rfl | exact hpB H 0 rfl rfl | exact hpB H 1 rfl rfl | exact hpC H 0 rfl rfl | exact hpC H 1 rfl rfl) ?_ | with_reducible refine ldT_of (by with_unfolding_all first | exact hpA H 0 rfl rfl | exact hpA H 1 rfl rfl | exact Hp.cell H 0 rfl rfl | exact Hp.cell H 1 rfl rfl | exact hpB H 0 rfl rfl | exact hpB H 1 rfl rfl | exact hpC H 0 rfl rfl | exact hpC H 1 rfl rfl) ?_
  have hm1 : MayP ((5 : Nat) : Int) ((2 : Nat) : Int) [12105675798371893248, 12105675798371893248] := ⟨by unfold SizeP; omega, by decide, fun y hy => by
    have : y = 0 ∨ y = 1 := by simp at hy; omega
    rcases this with rfl | rfl <;> decide⟩
  have hw1 : W64 [12105675798371893248, 12105675798371893248] := fun v hv => by simp at hv; rw [hv]; decide
  refine gEnc_ok (ws := [12105675798371893248, 12105675798371893248]) (row_rdO H 0 rfl) hw1 (by decide) fun e bs D qo c h' henc hsl H' => ?_
  replace H := H.join H' hsl.w
  clear H'
  refine ⟨_, _, _, _, rfl, ?_⟩
  refine gDec_ok (bytes := bs) henc.bytes.1 henc.bytes.2 (Slot.rdO' hsl H fun e he => List.mem_append_right _ he) fun e' w' b' bs' s' D2 qo2 c2 h' hget hsl2 H' => ?_
  replace H := H.join H' hsl2.w
  clear H'
  have hpos : 0 < bs.length := by
    obtain ⟨_, _, rfl⟩ := GEncR.list (W := 5) (X := 2) (t := 2) (by decide) hm1 henc
    exact Nat.le_of_ble_eq_true wakes7_len
  obtain ⟨rfl, rfl, rfl, rfl, rfl⟩ := g_back (W := 5) (X := 2) (t := 2) (by decide) hm1 hw1 henc hget
  refine ⟨_, _, _, _, _, _, rfl, ?_⟩
  refine newC_hp H fun r21 h H => ?_
  have H := H.rot
  repeat first | with_reducible refine stA H 0 (by with_unfolding_all exact rfl) (by with_unfolding_all exact rfl) (by with_unfolding_all exact rfl) fun h H => ?_ | with_reducible refine st0 H 0 (by with_unfolding_all exact rfl) (by with_unfolding_all exact rfl) (by with_unfolding_all exact rfl) fun h H => ?_ | with_reducible refine stB H 0 (by with_unfolding_all exact rfl) (by with_unfolding_all exact rfl) (by with_unfolding_all exact rfl) fun h H => ?_
  have H : Hp hB [] h ([⟨r21, true, T_api_Bitmap, [.int .i64 5, .int .i64 2, .slice qo2 2 c2]⟩] ++ ([⟨r1, true, T_uint64, u64s [12105675798371893248, 12105675798371893248] ++ []⟩, ⟨r3, true, T_api_Bitmap, [.int .i64 5, .int .i64 2, .slice (some ⟨r1, 0, none⟩) 2 2]⟩] ++ D ++ D2)) := H
  refine bcase_true (by rfl) ?_
  refine bcase_true (by rfl) ?_
  refine bcase_dec (fun h1 => ?_) fun h1 => absurd (by omega) h1
  repeat first | with_reducible refine ldI_of (by with_unfolding_all first | exact hpA H 0 rfl rfl | exact hpA H 1 rfl rfl | exact hpA H 2 rfl rfl | exact Hp.cell H 0 rfl rfl | exact Hp.cell H 1 rfl rfl | exact Hp.cell H 2 rfl rfl | exact hpB H 0 rfl rfl | exact hpB H 1 rfl rfl | exact hpB H 2 rfl rfl | exact hpC H 0 rfl rfl | exact hpC H 1 rfl rfl | exact hpC H 2 rfl rfl) ?_ | with_reducible refine ldS_of (by with_unfolding_all first | exact hpA H 0 rfl rfl | exact hpA H 1 rfl rfl | exact hpA H 2 rfl rfl | exact Hp.cell H 0 rfl rfl | exact Hp.cell H 1 rfl rfl | exact Hp.cell H 2 rfl rfl | exact hpB H 0 rfl rfl | exact hpB H 1 rfl rfl | exact hpB H 2 rfl rfl | exact hpC H 0 rfl rfl | exact hpC H 1 rfl rfl | exact hpC H 2 rfl rfl) ?_ | with_reducible refine ldP_of (by with_unfolding_all first | exact hpA H 0 rfl rfl | exact hpA H 1 rfl rfl | exact hpA H 2 rfl rfl | exact Hp.cell H 0 rfl rfl | exact Hp.cell H 1 rfl rfl | exact Hp.cell H 2 rfl rfl | exact hpB H 0 rfl rfl | exact hpB H 1 rfl rfl | exact hpB H 2 rfl rfl | exact hpC H 0 rfl rfl | exact hpC H 1 rfl rfl | exact hpC H 2 rfl rfl) ?_ | with_reducible refine ldB_of (by with_unfolding_all first | exact hpA H 0 rfl rfl | exact hpA H 1 rfl rfl | exact hpA H 2 rfl rfl | exact Hp.cell H 0 rfl rfl | exact Hp.cell H 1 rfl rfl | exact Hp.cell H 2 rfl rfl | exact hpB H 0 rfl rfl | exact hpB H 1 rfl rfl | exact hpB H 2 rfl rfl | exact hpC H 0 rfl rfl | exact hpC H 1 rfl rfl | exact hpC H 2 rfl rfl) ?_ | with_reducible refine ldT_of (by with_unfolding_all first | exact hpA H 0 rfl rfl | exact hpA H 1 rfl rfl | exact hpA H 2 rfl rfl | exact Hp.cell H 0 rfl rfl | exact Hp.cell H 1 rfl rfl | exact Hp.cell H 2 rfl rfl | exact hpB H 0 rfl rfl | exact hpB H 1 rfl rfl | exact hpB H 2 rfl rfl | exact hpC H 0 rfl rfl | exact hpC H 1 rfl rfl | exact hpC H 2 rfl rfl) ?_
  refine eqB_ok (xs := [12105675798371893248, 12105675798371893248]) (ys := [12105675798371893248, 12105675798371893248]) (row_rdO H 1 rfl) (Slot.rdO' hsl2 H fun e he => List.mem_append_right _ (List.mem_append_right _ he)) (by decide) fun h' e => ?_
  refine ⟨_, rfl, ?_⟩
  have := hk h' (H.hext.trans e)
  simpa using this
end Go.Bm

/- RdB: the law ArithReads, said of memory. -/
set_option linter.unusedVariables false
set_option linter.unusedSimpArgs false
namespace Go.Ar
open Go Go.Den Go.Den.Yteakipgcanafoaa

end Go.Ar

/- RdC: a reading as it comes in as an argument: the law ArithReads over it. -/
set_option linter.unusedVariables false
set_option linter.unusedSimpArgs false
namespace Go.Ar
open Go Go.Den Go.Den.Yteakipgcanafoaa

theorem u8s_ints {l : List Int} (h : ∀ x ∈ l, IntKind.u8.min ≤ x ∧ x ≤ IntKind.u8.max) : (l.map fun x => (.int .u8 x : Value)) = u8s (l.map Int.toNat) ∧ ∀ x ∈ l.map Int.toNat, x < 256 := by
  have hb : ∀ x ∈ l, 0 ≤ x ∧ x ≤ 255 := fun x hx => by have := h x hx; simpa [IntKind.min, IntKind.max, IntKind.signed, IntKind.bits] using this
  constructor
  · unfold u8s
    rw [List.map_map]
    refine List.map_congr_left fun x hx => ?_
    have := hb x hx
    show Value.int .u8 x = .int .u8 ((x.toNat : Nat) : Int)
    rw [Int.toNat_of_nonneg this.1]
  · intro y hy
    obtain ⟨x, hx, rfl⟩ := List.mem_map.1 hy
    have := hb x hx
    omega
/-- Bytes that come in. -/
theorem wd_bytes {h : Heap} {cs : List Value} (H : WDx Go.Proofs.Try.prog h T_s_uint8 cs) :
    ∃ q cap, ∃ bs : List Nat, cs = [.slice q bs.length cap] ∧ bs.length ≤ cap ∧ cap < 140737488351300 ∧ (q = none → cap = 0) ∧ rdO h q (bs.length * 1) (u8s bs) ∧ ∀ x ∈ bs, x < 256 := by
  obtain ⟨q, cap, l, rfl, h1, h2, h3, h4, h5⟩ := wd_ints (k := .u8) Go.Proofs.Try.underlying24 Go.Proofs.Try.underlying5 (by kernel_rfl) H
  obtain ⟨e1, e2⟩ := u8s_ints h5
  have k1 : Go.Proofs.Try.prog.bytesOf T_uint8 = 1 := by kernel_rfl
  rw [k1] at h2
  have hr : reachBytes = 140737488351232 := rfl
  rw [e1] at h4
  refine ⟨q, cap, l.map Int.toNat, by simp, by simpa using h1, by omega, h3, by simpa using h4, e2⟩

end Go.Ar

/- Written by gen.py: the conditions of the functions of law7GenericEncodes. -/
set_option linter.unusedVariables false
set_option linter.unusedSimpArgs false
namespace Go.Den.Yteakipgcanafoaa
open Go Go.Den

/- burin/burinlaw7.GenericEncodes -/
set_option maxRecDepth 100000 in
def burinlaw7_GenericEncodes (C : CallP) (a0 : Option Addr) (a0n : Nat) (a0c : Nat) (h : Heap) (K : Value → Heap → Prop) (Kp : List PanicEntry → Heap → Prop) : Prop :=
∃ J_1 : Nat → List Value → Heap → Prop, (∃ n_3, J_1 n_3 [.int .i64 0] h) ∧ ∀ (n_3 : Nat) (h_4 : Heap) (u_5 : Nat → Value) (x_6 : Int), J_1 n_3 [.int .i64 x_6] h_4 → (
bcase (decide (x_6 < (a0n : Int))) (
bcase (decide (x_6 < (6 : Int))) (
needs (0 ≤ x_6 ∧ x_6 < (a0n : Int)) <|
ptr a0 fun a_7 =>
ldI h_4 (((a_7.add (x_6.toNat * 5)).add 0).add 0) .i64 fun x_8 =>
ldI h_4 (((a_7.add (x_6.toNat * 5)).add 0).add 1) .i64 fun x_9 =>
ldS h_4 (((a_7.add (x_6.toNat * 5)).add 0).add 2) fun x_10 x_10n x_10c =>
C F_burinlaw7_light #[.agg #[.int .i64 x_8, .int .i64 x_9, .slice x_10 x_10n x_10c]] h_4 (fun v_11 h_12 =>
∃ (r_13 : Bool), v_11 = .bool r_13 ∧ (
bcase (!r_13) (
bindI (IntKind.i64.wrap (x_6 + (1 : Int))) fun z_14 =>
∃ m_2, m_2 < n_3 ∧ J_1 m_2 [.int .i64 z_14] h_12) <|
needs (0 ≤ x_6 ∧ x_6 < (a0n : Int)) <|
ptr a0 fun a_15 =>
ldI h_12 (((a_15.add (x_6.toNat * 5)).add 0).add 0) .i64 fun x_16 =>
ldI h_12 (((a_15.add (x_6.toNat * 5)).add 0).add 1) .i64 fun x_17 =>
ldS h_12 (((a_15.add (x_6.toNat * 5)).add 0).add 2) fun x_18 x_18n x_18c =>
C F_burinkit_LendBitmap #[.agg #[.int .i64 x_16, .int .i64 x_17, .slice x_18 x_18n x_18c]] h_12 (fun v_19 h_20 =>
∃ (r_21 : Int) (r_22 : Int) (r_23 : Option Addr) (r_23n : Nat) (r_23c : Nat), v_19 = .agg #[.int .i64 r_21, .int .i64 r_22, .slice r_23 r_23n r_23c] ∧ (
newC h_20 [.int .i64 0, .int .i64 0, .slice none 0 0] T_api_Bitmap fun r_24 h_25 =>
stV h_25 ((⟨r_24, 0, none⟩ : Addr).add 0) (.int .i64 r_21) fun h_26 =>
stV h_26 ((⟨r_24, 0, none⟩ : Addr).add 1) (.int .i64 r_22) fun h_27 =>
stV h_27 ((⟨r_24, 0, none⟩ : Addr).add 2) (.slice r_23 r_23n r_23c) fun h_28 =>
needs (0 ≤ x_6 ∧ x_6 < (a0n : Int)) <|
ptr a0 fun a_29 =>
needs (0 ≤ x_6 ∧ x_6 < (a0n : Int)) <|
ptr a0 fun a_30 =>
ldI h_28 ((⟨r_24, 0, none⟩ : Addr).add 0) .i64 fun x_31 =>
ldI h_28 ((⟨r_24, 0, none⟩ : Addr).add 1) .i64 fun x_32 =>
ldS h_28 ((⟨r_24, 0, none⟩ : Addr).add 2) fun x_33 x_33n x_33c =>
ldI h_28 ((a_29.add (x_6.toNat * 5)).add 3) .i64 fun x_34 =>
ldB h_28 ((a_30.add (x_6.toNat * 5)).add 4) fun x_35 =>
C F_generic_Encode #[.agg #[.int .i64 x_31, .int .i64 x_32, .slice x_33 x_33n x_33c], .int .i64 x_34, .bool x_35] h_28 (fun v_36 h_37 =>
∃ (r_38 : Option Addr) (r_38n : Nat) (r_38c : Nat), ∃ (r_39 : Int), v_36 = .tuple #[.slice r_38 r_38n r_38c, .int .i64 r_39] ∧ (
needs (0 ≤ x_6 ∧ x_6 < (a0n : Int)) <|
ptr a0 fun a_40 =>
needs (0 ≤ x_6 ∧ x_6 < (a0n : Int)) <|
ptr a0 fun a_41 =>
needs (0 ≤ x_6 ∧ x_6 < (a0n : Int)) <|
ptr a0 fun a_42 =>
ldI h_37 (((a_40.add (x_6.toNat * 5)).add 0).add 0) .i64 fun x_43 =>
ldI h_37 (((a_40.add (x_6.toNat * 5)).add 0).add 1) .i64 fun x_44 =>
ldS h_37 (((a_40.add (x_6.toNat * 5)).add 0).add 2) fun x_45 x_45n x_45c =>
ldI h_37 ((a_41.add (x_6.toNat * 5)).add 3) .i64 fun x_46 =>
ldB h_37 ((a_42.add (x_6.toNat * 5)).add 4) fun x_47 =>
C F_burinref7_Encode #[.agg #[.int .i64 x_43, .int .i64 x_44, .slice x_45 x_45n x_45c], .int .i64 x_46, .bool x_47] h_37 (fun v_48 h_49 =>
∃ (r_50 : Option Addr) (r_50n : Nat) (r_50c : Nat), ∃ (r_51 : Int), v_48 = .tuple #[.slice r_50 r_50n r_50c, .int .i64 r_51] ∧ (
needs (0 ≤ x_6 ∧ x_6 < (a0n : Int)) <|
ptr a0 fun a_52 =>
ldI h_49 ((⟨r_24, 0, none⟩ : Addr).add 0) .i64 fun x_53 =>
ldI h_49 ((⟨r_24, 0, none⟩ : Addr).add 1) .i64 fun x_54 =>
ldS h_49 ((⟨r_24, 0, none⟩ : Addr).add 2) fun x_55 x_55n x_55c =>
ldI h_49 (((a_52.add (x_6.toNat * 5)).add 0).add 0) .i64 fun x_56 =>
ldI h_49 (((a_52.add (x_6.toNat * 5)).add 0).add 1) .i64 fun x_57 =>
ldS h_49 (((a_52.add (x_6.toNat * 5)).add 0).add 2) fun x_58 x_58n x_58c =>
C F_burinkit_BackBitmap #[.agg #[.int .i64 x_53, .int .i64 x_54, .slice x_55 x_55n x_55c], .agg #[.int .i64 x_56, .int .i64 x_57, .slice x_58 x_58n x_58c]] h_49 (fun v_59 h_60 =>
∃ (r_61 : Bool), v_59 = .bool r_61 ∧ (
bcase (!r_61) (
K (.bool false) h_60) <|
bcase (r_39 != r_51) (
K (.bool false) h_60) <|
C F_burinref0_Eq #[.slice r_38 r_38n r_38c, .slice r_50 r_50n r_50c] h_60 (fun v_62 h_63 =>
∃ (r_64 : Bool), v_62 = .bool r_64 ∧ (
bcase (!r_64) (
K (.bool false) h_63) <|
bindI (IntKind.i64.wrap (x_6 + (1 : Int))) fun z_65 =>
∃ m_2, m_2 < n_3 ∧ J_1 m_2 [.int .i64 z_65] h_63)) (Kp))) (Kp))) (Kp))) (Kp))) (Kp))) (Kp)) <|
C F_burinlaw7_wakes #[] h_4 (fun v_66 h_67 =>
∃ (r_68 : Bool), v_66 = .bool r_68 ∧ (
K (.bool r_68) h_67)) (Kp)) <|
C F_burinlaw7_wakes #[] h_4 (fun v_69 h_70 =>
∃ (r_71 : Bool), v_69 = .bool r_71 ∧ (
K (.bool r_71) h_70)) (Kp))

end Go.Den.Yteakipgcanafoaa

/- Written by gen.py: each condition of the functions of law7GenericEncodes is the one of its body; so it is enough for its call. -/
set_option linter.unusedVariables false
set_option linter.unusedSimpArgs false
namespace Go.Den.Yteakipgcanafoaa
open Go Go.Den

noncomputable def hints_burinlaw7_GenericEncodes : Hints := Hints.mk (fun i => bif Nat.beq i 6 then some ([11], .take 1 <| .take 2 <| .take 3 <| .take 4 <| .take 6 <| .take 7 <| .take 8 <| .take 9 <| .take 0 <| .take 5 <| .take 10 <| .bar 11 [] <| .take 12 <| .take 13 <| .take 14 <| .take 15 <| .take 16 <| .done) else (bif Nat.beq i 7 then some ([15], .take 0 <| .take 1 <| .take 2 <| .take 3 <| .take 5 <| .take 6 <| .take 7 <| .take 8 <| .take 10 <| .take 11 <| .take 12 <| .take 13 <| .take 4 <| .take 9 <| .take 14 <| .bar 15 [] <| .take 16 <| .take 17 <| .take 18 <| .take 19 <| .take 20 <| .done) else (bif Nat.beq i 8 then some ([6, 16], .take 1 <| .take 2 <| .take 3 <| .take 4 <| .take 0 <| .take 5 <| .bar 6 [16] <| .take 7 <| .take 8 <| .take 9 <| .take 10 <| .take 11 <| .take 12 <| .take 13 <| .take 14 <| .take 15 <| .bar 16 [] <| .take 17 <| .take 18 <| .done) else (none))))
  (fun i => bif Nat.beq i 2 then some ([(3, .int .i64)], 38685626227668133590597628) else (none))
  (fun i => none) []
set_option maxRecDepth 100000 in
theorem eq_burinlaw7_GenericEncodes (C : CallP) (a0 : Option Addr) (a0n : Nat) (a0c : Nat) (h : Heap) (K : Value → Heap → Prop) (Kp : List PanicEntry → Heap → Prop) :
    fnD Go.Proofs.Try.prog C hints_burinlaw7_GenericEncodes Go.Proofs.Try.f9 [.slice a0 a0n a0c] h K Kp = burinlaw7_GenericEncodes C a0 a0n a0c h K Kp := by kernel_rfl

theorem call_burinlaw7_GenericEncodes {a0 : Option Addr} {a0n : Nat} {a0c : Nat} {h : Heap} {K : Value → Heap → Prop} {Kp : List PanicEntry → Heap → Prop} (H : burinlaw7_GenericEncodes (CallsHP Go.Proofs.Try.prog) a0 a0n a0c h K Kp) : CallsHP Go.Proofs.Try.prog F_burinlaw7_GenericEncodes #[.slice a0 a0n a0c] h K Kp :=
  callsHP_of hints_burinlaw7_GenericEncodes (by kernel_rfl) Go.Proofs.Try.func9 (by kernel_rfl) (by rw [eq_burinlaw7_GenericEncodes]; exact H)

end Go.Den.Yteakipgcanafoaa

/- GnL: the law GenericEncodes, said of memory; asks as they come in as an argument. -/
set_option linter.unusedVariables false
set_option linter.unusedSimpArgs false
namespace Go.Bm
open Go Go.Den Go.Den.Yteakipgcanafoaa

theorem list5 {α : Type} {l : List α} (h : l.length = 5) : ∃ a b c d e, l = [a, b, c, d, e] := by
  match l, h with
  | [a, b, c, d, e], _ => exact ⟨a, b, c, d, e, rfl⟩
/-- A bitmap, its template and whether rows are skipped, as they lie in memory. -/
structure Ask7V (h : Heap) (a : Addr) (w b : Int) (ws : List Nat) (t : Int) (sk : Bool) : Prop where
  c0 : hcell h (a.add 0) = some (.int .i64 w)
  c1 : hcell h (a.add 1) = some (.int .i64 b)
  c2 : ∃ q c, hcell h (a.add 2) = some (.slice q ws.length c) ∧ rdO h q (ws.length * 1) (u64s ws)
  c3 : hcell h (a.add 3) = some (.int .i64 t)
  c4 : hcell h (a.add 4) = some (.bool sk)
  w1 : W64 ws
  l1 : ws.length < 140737488351300
def Asks7V (h : Heap) (sq : Option Addr) (slen : Nat) : Prop := ∀ i, i < slen → ∃ a w b ws t sk, sq = some a ∧ Ask7V h (a.add (i * 5)) w b ws t sk
theorem add_00 (a : Addr) (j : Nat) : (a.add 0).add j = a.add j := by rw [add_zero']
set_option maxRecDepth 100000 in
set_option maxHeartbeats 2000000 in
theorem gEncodes_law {hB : Heap} {sq : Option Addr} {slen scap : Nat} (hv : Asks7V hB sq slen) {K : Value → Heap → Prop} {Kp : List PanicEntry → Heap → Prop} (hk : ∀ h', hext hB h' → K (.bool true) h') :
    CP F_burinlaw7_GenericEncodes #[.slice sq slen scap] hB K Kp := by
  refine call_burinlaw7_GenericEncodes ?_
  unfold burinlaw7_GenericEncodes
  refine ⟨fun n vs h' => ∃ i : Nat, i + n = 6 ∧ vs = [.int .i64 (i : Int)] ∧ Hp hB [] h' [], ⟨6, 0, rfl, rfl, Hp.nil hB []⟩, ?_⟩
  rintro n h u xx ⟨i, hin, hxx, H⟩
  injection hxx with hxx
  injection hxx with _ hxx
  subst hxx
  refine bcase_dec (fun h3 => ?_) fun h3 => wakes7_ok fun h' e => ⟨_, rfl, hk _ (H.hext.trans e)⟩
  refine bcase_dec (fun h4 => ?_) fun h4 => wakes7_ok fun h' e => ⟨_, rfl, hk _ (H.hext.trans e)⟩
  have h3 : i < slen := by omega
  have h4 : i < 6 := by omega
  obtain ⟨a, w, b, ws, t, sk, hsq, ha⟩ := hv i h3
  subst hsq
  obtain ⟨q1, c1, hc2, hr1⟩ := ha.c2
  have k0 := ha.c0
  have k1 := ha.c1
  have k2 := hc2
  rw [← add_00] at k0 k1 k2
  have fr : ∀ {h : Heap} {L : List Ent} {c : Addr} {v : Value}, Hp hB [] h L → hcell hB c = some v → hcell h c = some v := fun H hc => H.fr.cell (by simp) hc
  have next : ∀ h' L, Hp hB [] h' L → ∃ m, m < n ∧ ∃ i' : Nat, i' + m = 6 ∧ [Value.int .i64 ((i + 1 : Nat) : Int)] = [.int .i64 (i' : Int)] ∧ Hp hB [] h' [] := fun h' L H => ⟨n - 1, by omega, i + 1, by omega, rfl, H.take 0⟩
  have hnd : 0 ≤ (i : Int) ∧ (i : Int) < (slen : Int) := by omega
  refine needs_of hnd (ptr_of (a := a) ?_)
  rw [Int.toNat_natCast]
  refine ldI_of (fr H k0) (ldI_of (fr H k1) (ldS_of (fr H k2) ?_))
  refine light7_ok (H.rdO hr1) ha.w1 ha.l1 fun bb h1 hbb e1 => ?_
  have H := H.ext e1
  refine ⟨_, rfl, ?_⟩
  refine bcase_not (fun h5 => ?_) fun h5 => ?_
  · refine bindI_of (((i + 1 : Nat) : Int)) (by exact i64_at _ _ (by omega) (by omega) (by omega)) ?_
    exact next _ _ H
  have hl1 := (hbb h5).1
  refine needs_of hnd (ptr_of (a := a) ?_)
  refine ldI_of (fr H k0) (ldI_of (fr H k1) (ldS_of (fr H k2) ?_))
  refine lendB_ok (H.rdO hr1) (by omega) fun o1 l1 kk1 h6 hk1 H' => ?_
  replace H := H.join H' rfl
  clear H'
  refine ⟨_, _, _, _, _, rfl, ?_⟩
  refine newC_hp H fun r24 h H => ?_
  repeat first | with_reducible refine stA H 0 (by with_unfolding_all exact rfl) (by with_unfolding_all exact rfl) (by with_unfolding_all exact rfl) fun h H => ?_ | with_reducible refine stA H 1 (by with_unfolding_all exact rfl) (by with_unfolding_all exact rfl) (by with_unfolding_all exact rfl) fun h H => ?_ | with_reducible refine st0 H 0 (by with_unfolding_all exact rfl) (by with_unfolding_all exact rfl) (by with_unfolding_all exact rfl) fun h H => ?_ | with_reducible refine st0 H 1 (by with_unfolding_all exact rfl) (by with_unfolding_all exact rfl) (by with_unfolding_all exact rfl) fun h H => ?_ | with_reducible refine stB H 0 (by with_unfolding_all exact rfl) (by with_unfolding_all exact rfl) (by with_unfolding_all exact rfl) fun h H => ?_ | with_reducible refine stB H 1 (by with_unfolding_all exact rfl) (by with_unfolding_all exact rfl) (by with_unfolding_all exact rfl) fun h H => ?_
  have H : Hp hB [] h [⟨o1, true, T_uint64, u64s ws ++ (u64s (List.replicate 7 42405) ++ l1)⟩, ⟨r24, true, T_api_Bitmap, [.int .i64 w, .int .i64 b, .slice (at0 o1) ws.length kk1]⟩] := H
  refine needs_of hnd (ptr_of (a := a) (needs_of hnd (ptr_of (a := a) ?_)))
  repeat first | with_reducible refine ldI_of (by with_unfolding_all first | exact hpA H 0 rfl rfl | exact hpA H 1 rfl rfl | exact Hp.cell H 0 rfl rfl | exact Hp.cell H 1 rfl rfl | exact hpB H 0 rfl rfl | exact hpB H 1 rfl rfl | exact hpC H 0 rfl rfl | exact hpC H 1 rfl rfl) ?_ | with_reducible refine ldS_of (by with_unfolding_all first | exact hpA H 0 rfl rfl | exact hpA H 1 rfl rfl | exact Hp.cell H 0 rfl rfl | exact Hp.cell H 1 rfl rfl | exact hpB H 0 rfl rfl | exact hpB H 1 rfl rfl | exact hpC H 0 rfl rfl | exact hpC H 1 rfl rfl) ?_ | with_reducible refine ldP_of (by with_unfolding_all first | exact hpA H 0 rfl rfl | exact hpA H 1 rfl rfl | exact Hp.cell H 0 rfl rfl | exact Hp.cell H 1 rfl rfl | exact hpB H 0 rfl rfl | exact hpB H 1 rfl rfl | exact hpC H 0 rfl rfl | exact hpC H 1 rfl rfl) ?_ | with_reducible refine ldB_of (by with_unfolding_all first | exact hpA H 0 rfl rfl | exact hpA H 1 rfl rfl | exact Hp.cell H 0 rfl rfl | exact Hp.cell H 1 rfl rfl | exact hpB H 0 rfl rfl | exact hpB H 1 rfl rfl | exact hpC H 0 rfl rfl | exact hpC H 1 rfl rfl) ?_ | with_reducible refine ldT_of (by with_unfolding_all first | exact hpA H 0 rfl rfl | exact hpA H 1 rfl rfl | exact Hp.cell H 0 rfl rfl | exact Hp.cell H 1 rfl rfl | exact hpB H 0 rfl rfl | exact hpB H 1 rfl rfl | exact hpC H 0 rfl rfl | exact hpC H 1 rfl rfl) ?_
  refine ldI_of (fr H ha.c3) (ldB_of (fr H ha.c4) ?_)
  refine gEnc_ok (row_rdO H 0 rfl) ha.w1 ha.l1 fun e bs D qo c h' henc hsl H' => ?_
  replace H := H.join H' hsl.w
  clear H'
  refine ⟨_, _, _, _, rfl, ?_⟩
  refine needs_of hnd (ptr_of (a := a) (needs_of hnd (ptr_of (a := a) (needs_of hnd (ptr_of (a := a) ?_)))))
  refine ldI_of (fr H k0) (ldI_of (fr H k1) (ldS_of (fr H k2) (ldI_of (fr H ha.c3) (ldB_of (fr H ha.c4) ?_))))
  refine rEnc7_ok (H.rdO hr1) ha.w1 ha.l1 fun e' bs' D2 qo2 c2 h' henc2 hsl2 H' => ?_
  replace H := H.join H' hsl2.w
  clear H'
  obtain ⟨rfl, rfl⟩ := henc.det henc2
  refine ⟨_, _, _, _, rfl, ?_⟩
  refine needs_of hnd (ptr_of (a := a) ?_)
  repeat first | with_reducible refine ldI_of (by with_unfolding_all first | exact hpA H 0 rfl rfl | exact hpA H 1 rfl rfl | exact Hp.cell H 0 rfl rfl | exact Hp.cell H 1 rfl rfl | exact hpB H 0 rfl rfl | exact hpB H 1 rfl rfl | exact hpC H 0 rfl rfl | exact hpC H 1 rfl rfl) ?_ | with_reducible refine ldS_of (by with_unfolding_all first | exact hpA H 0 rfl rfl | exact hpA H 1 rfl rfl | exact Hp.cell H 0 rfl rfl | exact Hp.cell H 1 rfl rfl | exact hpB H 0 rfl rfl | exact hpB H 1 rfl rfl | exact hpC H 0 rfl rfl | exact hpC H 1 rfl rfl) ?_ | with_reducible refine ldP_of (by with_unfolding_all first | exact hpA H 0 rfl rfl | exact hpA H 1 rfl rfl | exact Hp.cell H 0 rfl rfl | exact Hp.cell H 1 rfl rfl | exact hpB H 0 rfl rfl | exact hpB H 1 rfl rfl | exact hpC H 0 rfl rfl | exact hpC H 1 rfl rfl) ?_ | with_reducible refine ldB_of (by with_unfolding_all first | exact hpA H 0 rfl rfl | exact hpA H 1 rfl rfl | exact Hp.cell H 0 rfl rfl | exact Hp.cell H 1 rfl rfl | exact hpB H 0 rfl rfl | exact hpB H 1 rfl rfl | exact hpC H 0 rfl rfl | exact hpC H 1 rfl rfl) ?_ | with_reducible refine ldT_of (by with_unfolding_all first | exact hpA H 0 rfl rfl | exact hpA H 1 rfl rfl | exact Hp.cell H 0 rfl rfl | exact Hp.cell H 1 rfl rfl | exact hpB H 0 rfl rfl | exact hpB H 1 rfl rfl | exact hpC H 0 rfl rfl | exact hpC H 1 rfl rfl) ?_
  refine ldI_of (fr H k0) (ldI_of (fr H k1) (ldS_of (fr H k2) ?_))
  refine backB_ok (H.give [0] (by decide) rfl) (H.rdO hr1) (by omega) hk1 fun cs1 h' H' => ?_
  replace H := H.put [0] (by decide) rfl rfl H' rfl rfl
  clear H'
  refine ⟨_, rfl, ?_⟩
  refine bcase_false (by rfl) ?_
  refine bcase_false (by simp) ?_
  have H : Hp hB [] h' ([⟨o1, true, T_uint64, cs1⟩, ⟨r24, true, T_api_Bitmap, [.int .i64 w, .int .i64 b, .slice (at0 o1) ws.length kk1]⟩] ++ D ++ D2) := H
  refine Go.Ar.eq_ok (xs := bs) (ys := bs) (Slot.rdO' hsl (Hp.pre (Y := D2) H) fun e he => List.mem_append_right _ he) (Slot.rdO' hsl2 H fun e he => List.mem_append_right _ he) henc.bytes.2 ?_
  refine ⟨_, rfl, ?_⟩
  refine bcase_false (by simp) ?_
  refine bindI_of (((i + 1 : Nat) : Int)) (by exact i64_at _ _ (by omega) (by omega) (by omega)) ?_
  exact next _ _ H

theorem wd_ask7 {h : Heap} {cs : List Value} (H : WDx TP h T_burinlaw7_Ask cs) : ∃ w b q1 c1 ws t sk, cs = [.int .i64 w, .int .i64 b, .slice q1 (List.length ws) c1, .int .i64 t, .bool sk] ∧
    rdO h q1 (ws.length * 1) (u64s ws) ∧ W64 ws ∧ ws.length < 140737488351300 ∧ (IntKind.i64.min ≤ t ∧ t ≤ IntKind.i64.max) := by
  obtain ⟨hl, hf⟩ := wd_struct Go.Proofs.Try.underlying87 H
  have k : TP.cellsOf T_burinlaw7_Ask = 5 := by kernel_rfl
  rw [k] at hl
  obtain ⟨v0, v1, v2, v3, v4, rfl⟩ := list5 hl
  have kb : TP.cellsOf T_api_Bitmap = 3 := by kernel_rfl
  have kB : TP.cellsOf T_bool = 1 := by kernel_rfl
  have f0 : WDx TP h T_api_Bitmap (([v0, v1, v2, v3, v4].drop 0).take (TP.cellsOf T_api_Bitmap)) := hf 0 _ rfl
  rw [kb] at f0
  obtain ⟨w, b, q1, cap1, ws, e0, _, _, g1, g2, g3⟩ := wd_bitmap f0
  obtain ⟨x, e2, hx⟩ := wd_int Go.Proofs.Try.underlying3 (one_of k_int (hf 1 _ rfl) (v := v3) rfl)
  obtain ⟨y, e3⟩ := wd_bool Go.Proofs.Try.underlying4 (one_of kB (hf 2 _ rfl) (v := v4) rfl)
  simp only [List.drop_succ_cons, List.drop_zero, List.take_succ_cons, List.take_zero, List.cons.injEq, and_true] at e0 e2 e3
  obtain ⟨e00, e01, e02⟩ := e0
  subst e00 e01 e02 e2 e3
  exact ⟨w, b, q1, cap1, ws, x, y, rfl, g2, g3, g1, hx⟩
theorem asks7_of {h : Heap} {cs : List Value} (H : WDx TP h T_s_burinlaw7_Ask cs) : ∃ q len cap, cs = [.slice q len cap] ∧ Asks7V h q len := by
  obtain ⟨q, len, cap, rfl, _, _, _, h4⟩ := wd_slice Go.Proofs.Try.underlying81 H
  refine ⟨q, len, cap, rfl, fun i hi => ?_⟩
  obtain ⟨a, cs', ha, hr, hd⟩ := h4 i hi
  have k : TP.cellsOf T_burinlaw7_Ask = 5 := by kernel_rfl
  rw [k] at hr
  obtain ⟨w, b, q1, c1, ws, t, sk, rfl, g1, g2, g3, _⟩ := wd_ask7 hd
  have c := fun j v hj => hr.2 j v hj
  exact ⟨a, w, b, ws, t, sk, ha, ⟨c 0 _ rfl, c 1 _ rfl, ⟨q1, c1, c 2 _ rfl, g1⟩, c 3 _ rfl, c 4 _ rfl, g2, g3⟩⟩
end Go.Bm

/- Written by gen.py: the conditions of the functions of law7GenericTop. -/
set_option linter.unusedVariables false
set_option linter.unusedSimpArgs false
namespace Go.Den.Yteakipgcanafoaa
open Go Go.Den

/- burin/burinlaw7.GenericTop -/
set_option maxRecDepth 100000 in
def burinlaw7_GenericTop (C : CallP) (a0_1 : Int) (a0_2 : Int) (a0_3 : Option Addr) (a0_3n : Nat) (a0_3c : Nat) (a0_4 : Int) (a0_5 : Bool) (h : Heap) (K : Value → Heap → Prop) (Kp : List PanicEntry → Heap → Prop) : Prop :=
newC h [.int .i64 a0_1, .int .i64 a0_2, .slice a0_3 a0_3n a0_3c, .int .i64 a0_4, .bool a0_5] T_burinlaw7_Ask fun r_6 h_7 =>
ldI h_7 (((⟨r_6, 0, none⟩ : Addr).add 0).add 0) .i64 fun x_8 =>
ldI h_7 (((⟨r_6, 0, none⟩ : Addr).add 0).add 1) .i64 fun x_9 =>
ldS h_7 (((⟨r_6, 0, none⟩ : Addr).add 0).add 2) fun x_10 x_10n x_10c =>
C F_burinref0_May #[.agg #[.int .i64 x_8, .int .i64 x_9, .slice x_10 x_10n x_10c]] h_7 (fun v_11 h_12 =>
∃ (r_13 : Bool), v_11 = .bool r_13 ∧ (
bcase (!r_13) (
C F_burinlaw7_wakes #[] h_12 (fun v_14 h_15 =>
∃ (r_16 : Bool), v_14 = .bool r_16 ∧ (
K (.bool r_16) h_15)) (Kp)) <|
ldI h_12 (((⟨r_6, 0, none⟩ : Addr).add 0).add 0) .i64 fun x_17 =>
ldI h_12 (((⟨r_6, 0, none⟩ : Addr).add 0).add 1) .i64 fun x_18 =>
ldS h_12 (((⟨r_6, 0, none⟩ : Addr).add 0).add 2) fun x_19 x_19n x_19c =>
C F_burinlaw7_light #[.agg #[.int .i64 x_17, .int .i64 x_18, .slice x_19 x_19n x_19c]] h_12 (fun v_20 h_21 =>
∃ (r_22 : Bool), v_20 = .bool r_22 ∧ (
bcase (!r_22) (
C F_burinlaw7_wakes #[] h_21 (fun v_23 h_24 =>
∃ (r_25 : Bool), v_23 = .bool r_25 ∧ (
K (.bool r_25) h_24)) (Kp)) <|
ldI h_21 ((⟨r_6, 0, none⟩ : Addr).add 3) .i64 fun x_26 =>
bindI (bitI .and .i64 x_26 (3 : Int)) fun z_27 =>
ldI h_21 (((⟨r_6, 0, none⟩ : Addr).add 0).add 0) .i64 fun x_28 =>
ldI h_21 (((⟨r_6, 0, none⟩ : Addr).add 0).add 1) .i64 fun x_29 =>
ldS h_21 (((⟨r_6, 0, none⟩ : Addr).add 0).add 2) fun x_30 x_30n x_30c =>
ldB h_21 ((⟨r_6, 0, none⟩ : Addr).add 4) fun x_31 =>
C F_generic_Encode #[.agg #[.int .i64 x_28, .int .i64 x_29, .slice x_30 x_30n x_30c], .int .i64 z_27, .bool x_31] h_21 (fun v_32 h_33 =>
∃ (r_34 : Option Addr) (r_34n : Nat) (r_34c : Nat), ∃ (r_35 : Int), v_32 = .tuple #[.slice r_34 r_34n r_34c, .int .i64 r_35] ∧ (
bcase (r_35 != (0 : Int)) (
K (.bool false) h_33) <|
∃ J_36 : Nat → List Value → Heap → Prop, (∃ n_38, J_36 n_38 [.int .i64 1] h_33) ∧ ∀ (n_38 : Nat) (h_39 : Heap) (u_40 : Nat → Value) (x_41 : Int), J_36 n_38 [.int .i64 x_41] h_39 → (
ldI h_39 (((⟨r_6, 0, none⟩ : Addr).add 0).add 1) .i64 fun x_42 =>
bcase (decide (x_41 ≤ x_42)) (
ldI h_39 (((⟨r_6, 0, none⟩ : Addr).add 0).add 0) .i64 fun x_43 =>
ldB h_39 ((⟨r_6, 0, none⟩ : Addr).add 4) fun x_44 =>
C F_generic_Decode #[.slice r_34 r_34n r_34c, .int .i64 x_43, .int .i64 x_41, .int .i64 z_27, .bool x_44] h_39 (fun v_45 h_46 =>
∃ (r_47 : Int) (r_48 : Int) (r_49 : Option Addr) (r_49n : Nat) (r_49c : Nat), ∃ (r_50 : Int), v_45 = .tuple #[.agg #[.int .i64 r_47, .int .i64 r_48, .slice r_49 r_49n r_49c], .int .i64 r_50] ∧ (
newC h_46 [.int .i64 0, .int .i64 0, .slice none 0 0] T_api_Bitmap fun r_51 h_52 =>
stV h_52 ((⟨r_51, 0, none⟩ : Addr).add 0) (.int .i64 r_47) fun h_53 =>
stV h_53 ((⟨r_51, 0, none⟩ : Addr).add 1) (.int .i64 r_48) fun h_54 =>
stV h_54 ((⟨r_51, 0, none⟩ : Addr).add 2) (.slice r_49 r_49n r_49c) fun h_55 =>
ldI h_55 (((⟨r_6, 0, none⟩ : Addr).add 0).add 0) .i64 fun x_56 =>
C F_burinref0_White #[.int .i64 x_56, .int .i64 x_41] h_55 (fun v_57 h_58 =>
∃ (r_59 : Int) (r_60 : Int) (r_61 : Option Addr) (r_61n : Nat) (r_61c : Nat), v_57 = .agg #[.int .i64 r_59, .int .i64 r_60, .slice r_61 r_61n r_61c] ∧ (
newC h_58 [.int .i64 0, .int .i64 0, .slice none 0 0] T_api_Bitmap fun r_62 h_63 =>
stV h_63 ((⟨r_62, 0, none⟩ : Addr).add 0) (.int .i64 r_59) fun h_64 =>
stV h_64 ((⟨r_62, 0, none⟩ : Addr).add 1) (.int .i64 r_60) fun h_65 =>
stV h_65 ((⟨r_62, 0, none⟩ : Addr).add 2) (.slice r_61 r_61n r_61c) fun h_66 =>
ldI h_66 ((⟨r_62, 0, none⟩ : Addr).add 0) .i64 fun x_67 =>
ldI h_66 ((⟨r_62, 0, none⟩ : Addr).add 1) .i64 fun x_68 =>
ldS h_66 ((⟨r_62, 0, none⟩ : Addr).add 2) fun x_69 x_69n x_69c =>
ldI h_66 (((⟨r_6, 0, none⟩ : Addr).add 0).add 0) .i64 fun x_70 =>
ldI h_66 (((⟨r_6, 0, none⟩ : Addr).add 0).add 1) .i64 fun x_71 =>
ldS h_66 (((⟨r_6, 0, none⟩ : Addr).add 0).add 2) fun x_72 x_72n x_72c =>
C F_burinref0_Lay #[.agg #[.int .i64 x_67, .int .i64 x_68, .slice x_69 x_69n x_69c], .int .i64 0, .int .i64 0, .int .i64 4, .agg #[.int .i64 x_70, .int .i64 x_71, .slice x_72 x_72n x_72c]] h_66 (fun v_73 h_74 =>
bcase (r_50 != (0 : Int)) (
K (.bool false) h_74) <|
ldI h_74 ((⟨r_51, 0, none⟩ : Addr).add 0) .i64 fun x_75 =>
ldI h_74 ((⟨r_51, 0, none⟩ : Addr).add 1) .i64 fun x_76 =>
ldS h_74 ((⟨r_51, 0, none⟩ : Addr).add 2) fun x_77 x_77n x_77c =>
ldI h_74 ((⟨r_62, 0, none⟩ : Addr).add 0) .i64 fun x_78 =>
ldI h_74 ((⟨r_62, 0, none⟩ : Addr).add 1) .i64 fun x_79 =>
ldS h_74 ((⟨r_62, 0, none⟩ : Addr).add 2) fun x_80 x_80n x_80c =>
C F_burinref0_EqBitmap #[.agg #[.int .i64 x_75, .int .i64 x_76, .slice x_77 x_77n x_77c], .agg #[.int .i64 x_78, .int .i64 x_79, .slice x_80 x_80n x_80c]] h_74 (fun v_81 h_82 =>
∃ (r_83 : Bool), v_81 = .bool r_83 ∧ (
bcase (!r_83) (
K (.bool false) h_82) <|
bindI (IntKind.i64.wrap (x_41 + (1 : Int))) fun z_84 =>
ldI h_82 (((⟨r_6, 0, none⟩ : Addr).add 0).add 1) .i64 fun x_85 =>
bindI (IntKind.i64.wrap (x_85.tdiv (5 : Int))) fun z_86 =>
bindI (IntKind.i64.wrap (z_84 + z_86)) fun z_87 =>
∃ m_37, m_37 < n_38 ∧ J_36 m_37 [.int .i64 z_87] h_82)) (Kp)) (Kp))) (Kp))) (Kp)) <|
C F_burinlaw7_wakes #[] h_39 (fun v_88 h_89 =>
∃ (r_90 : Bool), v_88 = .bool r_90 ∧ (
K (.bool r_90) h_89)) (Kp)))) (Kp))) (Kp))) (Kp)

end Go.Den.Yteakipgcanafoaa

/- Written by gen.py: each condition of the functions of law7GenericTop is the one of its body; so it is enough for its call. -/
set_option linter.unusedVariables false
set_option linter.unusedSimpArgs false
namespace Go.Den.Yteakipgcanafoaa
open Go Go.Den

noncomputable def hints_burinlaw7_GenericTop : Hints := Hints.mk (fun i => none)
  (fun i => bif Nat.beq i 8 then some ([(6, .int .i64)], 75557863725879963681732) else (none))
  (fun i => none) []
set_option maxRecDepth 100000 in
theorem eq_burinlaw7_GenericTop (C : CallP) (a0_1 : Int) (a0_2 : Int) (a0_3 : Option Addr) (a0_3n : Nat) (a0_3c : Nat) (a0_4 : Int) (a0_5 : Bool) (h : Heap) (K : Value → Heap → Prop) (Kp : List PanicEntry → Heap → Prop) :
    fnD Go.Proofs.Try.prog C hints_burinlaw7_GenericTop Go.Proofs.Try.f12 [.agg #[.int .i64 a0_1, .int .i64 a0_2, .slice a0_3 a0_3n a0_3c, .int .i64 a0_4, .bool a0_5]] h K Kp = burinlaw7_GenericTop C a0_1 a0_2 a0_3 a0_3n a0_3c a0_4 a0_5 h K Kp := by kernel_rfl

theorem call_burinlaw7_GenericTop {a0_1 : Int} {a0_2 : Int} {a0_3 : Option Addr} {a0_3n : Nat} {a0_3c : Nat} {a0_4 : Int} {a0_5 : Bool} {h : Heap} {K : Value → Heap → Prop} {Kp : List PanicEntry → Heap → Prop} (H : burinlaw7_GenericTop (CallsHP Go.Proofs.Try.prog) a0_1 a0_2 a0_3 a0_3n a0_3c a0_4 a0_5 h K Kp) : CallsHP Go.Proofs.Try.prog F_burinlaw7_GenericTop #[.agg #[.int .i64 a0_1, .int .i64 a0_2, .slice a0_3 a0_3n a0_3c, .int .i64 a0_4, .bool a0_5]] h K Kp :=
  callsHP_of hints_burinlaw7_GenericTop (by kernel_rfl) Go.Proofs.Try.func12 (by kernel_rfl) (by rw [eq_burinlaw7_GenericTop]; exact H)

end Go.Den.Yteakipgcanafoaa

/- GnO: the law GenericTop, said of memory. -/
set_option linter.unusedVariables false
set_option linter.unusedSimpArgs false
namespace Go.Bm
open Go Go.Den Go.Den.Yteakipgcanafoaa
open Go.Ar (u8s)

theorem and63_3 (x : Int) : ∃ t : Nat, t < 4 ∧ bitI .and .i64 x 3 = (t : Int) := by
  have e : bitI .and .i64 x 3 = IntKind.i64.wrap (((BitVec.ofInt 64 x &&& BitVec.ofInt 64 3).toNat : Nat) : Int) := rfl
  have e3 : (BitVec.ofInt 64 3).toNat = 3 := rfl
  have hle : (BitVec.ofInt 64 x &&& BitVec.ofInt 64 3).toNat ≤ 3 := by
    rw [BitVec.toNat_and, e3]
    exact Nat.and_le_right
  refine ⟨_, Nat.lt_succ_of_le hle, ?_⟩
  rw [e]
  exact wr63 _ (by omega) (by omega)
set_option maxRecDepth 100000 in
set_option maxHeartbeats 4000000 in
theorem gTop_law {hB : Heap} {w b tt : Int} {sk : Bool} {q1 : Option Addr} {c1 : Nat} {ws : List Nat} (hr1 : rdO hB q1 (ws.length * 1) (u64s ws)) (hw1 : W64 ws) (hl1 : ws.length < 140737488351300) (htt : IntKind.i64.min ≤ tt ∧ tt ≤ IntKind.i64.max)
    {K : Value → Heap → Prop} {Kp : List PanicEntry → Heap → Prop} (hk : ∀ h', hext hB h' → K (.bool true) h') :
    CP F_burinlaw7_GenericTop #[.agg #[.int .i64 w, .int .i64 b, .slice q1 ws.length c1, .int .i64 tt, .bool sk]] hB K Kp := by
  refine call_burinlaw7_GenericTop ?_
  unfold burinlaw7_GenericTop
  have H := Hp.nil hB []
  refine newC_hp H fun r6 h H => ?_
  repeat first | with_reducible refine ldI_of (by with_unfolding_all first | exact hpA H 0 rfl rfl | exact Hp.cell H 0 rfl rfl | exact hpB H 0 rfl rfl | exact hpC H 0 rfl rfl) ?_ | with_reducible refine ldS_of (by with_unfolding_all first | exact hpA H 0 rfl rfl | exact Hp.cell H 0 rfl rfl | exact hpB H 0 rfl rfl | exact hpC H 0 rfl rfl) ?_ | with_reducible refine ldP_of (by with_unfolding_all first | exact hpA H 0 rfl rfl | exact Hp.cell H 0 rfl rfl | exact hpB H 0 rfl rfl | exact hpC H 0 rfl rfl) ?_ | with_reducible refine ldB_of (by with_unfolding_all first | exact hpA H 0 rfl rfl | exact Hp.cell H 0 rfl rfl | exact hpB H 0 rfl rfl | exact hpC H 0 rfl rfl) ?_ | with_reducible refine ldT_of (by with_unfolding_all first | exact hpA H 0 rfl rfl | exact Hp.cell H 0 rfl rfl | exact hpB H 0 rfl rfl | exact hpC H 0 rfl rfl) ?_
  refine may_ok (H.rdO hr1) hw1 hl1 fun bm0 h1 hbm0 e1 => ?_
  have H := H.ext e1
  clear e1
  refine ⟨_, rfl, ?_⟩
  refine bcase_not (fun h2 => wakes7_ok fun h' e => ⟨_, rfl, hk _ (H.hext.trans e)⟩) fun hc0 => ?_
  repeat first | with_reducible refine ldI_of (by with_unfolding_all first | exact hpA H 0 rfl rfl | exact Hp.cell H 0 rfl rfl | exact hpB H 0 rfl rfl | exact hpC H 0 rfl rfl) ?_ | with_reducible refine ldS_of (by with_unfolding_all first | exact hpA H 0 rfl rfl | exact Hp.cell H 0 rfl rfl | exact hpB H 0 rfl rfl | exact hpC H 0 rfl rfl) ?_ | with_reducible refine ldP_of (by with_unfolding_all first | exact hpA H 0 rfl rfl | exact Hp.cell H 0 rfl rfl | exact hpB H 0 rfl rfl | exact hpC H 0 rfl rfl) ?_ | with_reducible refine ldB_of (by with_unfolding_all first | exact hpA H 0 rfl rfl | exact Hp.cell H 0 rfl rfl | exact hpB H 0 rfl rfl | exact hpC H 0 rfl rfl) ?_ | with_reducible refine ldT_of (by with_unfolding_all first | exact hpA H 0 rfl rfl | exact Hp.cell H 0 rfl rfl | exact hpB H 0 rfl rfl | exact hpC H 0 rfl rfl) ?_
  refine light7_ok (H.rdO hr1) hw1 hl1 fun bm2 h1 hbm2 e1 => ?_
  have H := H.ext e1
  clear e1
  refine ⟨_, rfl, ?_⟩
  refine bcase_not (fun h2 => wakes7_ok fun h' e => ⟨_, rfl, hk _ (H.hext.trans e)⟩) fun hc2 => ?_
  have hm1 := hbm0.1 hc0
  obtain ⟨W, X, rfl, rfl, hW1, hW2, hX1, hX2, hWX⟩ := size_nat hm1.1
  repeat first | with_reducible refine ldI_of (by with_unfolding_all first | exact hpA H 0 rfl rfl | exact Hp.cell H 0 rfl rfl | exact hpB H 0 rfl rfl | exact hpC H 0 rfl rfl) ?_ | with_reducible refine ldS_of (by with_unfolding_all first | exact hpA H 0 rfl rfl | exact Hp.cell H 0 rfl rfl | exact hpB H 0 rfl rfl | exact hpC H 0 rfl rfl) ?_ | with_reducible refine ldP_of (by with_unfolding_all first | exact hpA H 0 rfl rfl | exact Hp.cell H 0 rfl rfl | exact hpB H 0 rfl rfl | exact hpC H 0 rfl rfl) ?_ | with_reducible refine ldB_of (by with_unfolding_all first | exact hpA H 0 rfl rfl | exact Hp.cell H 0 rfl rfl | exact hpB H 0 rfl rfl | exact hpC H 0 rfl rfl) ?_ | with_reducible refine ldT_of (by with_unfolding_all first | exact hpA H 0 rfl rfl | exact Hp.cell H 0 rfl rfl | exact hpB H 0 rfl rfl | exact hpC H 0 rfl rfl) ?_
  have hand : ∃ t : Nat, t < 4 ∧ bitI .and .i64 tt 3 = (t : Int) := and63_3 tt
  obtain ⟨t, ht, hz⟩ := hand
  refine bindI_of (((t : Nat) : Int)) (by exact hz) ?_
  repeat first | with_reducible refine ldI_of (by with_unfolding_all first | exact hpA H 0 rfl rfl | exact Hp.cell H 0 rfl rfl | exact hpB H 0 rfl rfl | exact hpC H 0 rfl rfl) ?_ | with_reducible refine ldS_of (by with_unfolding_all first | exact hpA H 0 rfl rfl | exact Hp.cell H 0 rfl rfl | exact hpB H 0 rfl rfl | exact hpC H 0 rfl rfl) ?_ | with_reducible refine ldP_of (by with_unfolding_all first | exact hpA H 0 rfl rfl | exact Hp.cell H 0 rfl rfl | exact hpB H 0 rfl rfl | exact hpC H 0 rfl rfl) ?_ | with_reducible refine ldB_of (by with_unfolding_all first | exact hpA H 0 rfl rfl | exact Hp.cell H 0 rfl rfl | exact hpB H 0 rfl rfl | exact hpC H 0 rfl rfl) ?_ | with_reducible refine ldT_of (by with_unfolding_all first | exact hpA H 0 rfl rfl | exact Hp.cell H 0 rfl rfl | exact hpB H 0 rfl rfl | exact hpC H 0 rfl rfl) ?_
  refine gEnc_ok (H.rdO hr1) hw1 hl1 fun e bs D qo c h' henc hsl H' => ?_
  replace H := H.join H' hsl.w
  clear H'
  refine ⟨_, _, _, _, rfl, ?_⟩
  obtain rfl := henc.ok ⟨by omega, by omega⟩ hm1
  refine bcase_false (by rfl) ?_
  refine ⟨fun n vs h' => ∃ i : Nat, 1 ≤ i ∧ i ≤ 2 * X + 2 ∧ i + n = 2 * X + 2 ∧ vs = [.int .i64 (i : Int)] ∧ Hp hB [] h' ([⟨r6, true, T_burinlaw7_Ask, [.int .i64 (W : Nat), .int .i64 (X : Nat), .slice q1 ws.length c1, .int .i64 tt, .bool sk]⟩] ++ D), ⟨2 * X + 1, 1, by omega, by omega, by omega, rfl, H⟩, ?_⟩
  clear H
  rintro n h u xx ⟨i, hi1, hi2, hin, hxx, H⟩
  injection hxx with hxx
  injection hxx with _ hxx
  subst hxx
  repeat first | with_reducible refine ldI_of (by with_unfolding_all first | exact hpA H 0 rfl rfl | exact Hp.cell H 0 rfl rfl | exact hpB H 0 rfl rfl | exact hpC H 0 rfl rfl) ?_ | with_reducible refine ldS_of (by with_unfolding_all first | exact hpA H 0 rfl rfl | exact Hp.cell H 0 rfl rfl | exact hpB H 0 rfl rfl | exact hpC H 0 rfl rfl) ?_ | with_reducible refine ldP_of (by with_unfolding_all first | exact hpA H 0 rfl rfl | exact Hp.cell H 0 rfl rfl | exact hpB H 0 rfl rfl | exact hpC H 0 rfl rfl) ?_ | with_reducible refine ldB_of (by with_unfolding_all first | exact hpA H 0 rfl rfl | exact Hp.cell H 0 rfl rfl | exact hpB H 0 rfl rfl | exact hpC H 0 rfl rfl) ?_ | with_reducible refine ldT_of (by with_unfolding_all first | exact hpA H 0 rfl rfl | exact Hp.cell H 0 rfl rfl | exact hpB H 0 rfl rfl | exact hpC H 0 rfl rfl) ?_
  refine bcase_dec (fun h1 => ?_) fun h1 => wakes7_ok fun h' e => ⟨_, rfl, hk _ (H.hext.trans e)⟩
  have hiX : i ≤ X := by omega
  repeat first | with_reducible refine ldI_of (by with_unfolding_all first | exact hpA H 0 rfl rfl | exact Hp.cell H 0 rfl rfl | exact hpB H 0 rfl rfl | exact hpC H 0 rfl rfl) ?_ | with_reducible refine ldS_of (by with_unfolding_all first | exact hpA H 0 rfl rfl | exact Hp.cell H 0 rfl rfl | exact hpB H 0 rfl rfl | exact hpC H 0 rfl rfl) ?_ | with_reducible refine ldP_of (by with_unfolding_all first | exact hpA H 0 rfl rfl | exact Hp.cell H 0 rfl rfl | exact hpB H 0 rfl rfl | exact hpC H 0 rfl rfl) ?_ | with_reducible refine ldB_of (by with_unfolding_all first | exact hpA H 0 rfl rfl | exact Hp.cell H 0 rfl rfl | exact hpB H 0 rfl rfl | exact hpC H 0 rfl rfl) ?_ | with_reducible refine ldT_of (by with_unfolding_all first | exact hpA H 0 rfl rfl | exact Hp.cell H 0 rfl rfl | exact hpB H 0 rfl rfl | exact hpC H 0 rfl rfl) ?_
  refine gDec_ok (bytes := bs) henc.bytes.1 henc.bytes.2 (Slot.rdO' hsl H fun e he => List.mem_append_right _ he) fun e' w' b' bs' s' D2 qo2 c3 h' hget hsl2 H' => ?_
  replace H := H.join H' hsl2.w
  clear H'
  refine ⟨_, _, _, _, _, _, rfl, ?_⟩
  obtain ⟨_, rfl, rfl, rfl, g1, g2, g3, g4⟩ := g_top ht hiX hi1 hm1 henc hget
  refine newC_hp H fun r51 h H => ?_
  have H := H.rot
  repeat first | with_reducible refine stA H 0 (by with_unfolding_all exact rfl) (by with_unfolding_all exact rfl) (by with_unfolding_all exact rfl) fun h H => ?_ | with_reducible refine st0 H 0 (by with_unfolding_all exact rfl) (by with_unfolding_all exact rfl) (by with_unfolding_all exact rfl) fun h H => ?_ | with_reducible refine stB H 0 (by with_unfolding_all exact rfl) (by with_unfolding_all exact rfl) (by with_unfolding_all exact rfl) fun h H => ?_
  repeat first | with_reducible refine ldI_of (by with_unfolding_all first | exact hpA H 0 rfl rfl | exact hpA H 1 rfl rfl | exact Hp.cell H 0 rfl rfl | exact Hp.cell H 1 rfl rfl | exact hpB H 0 rfl rfl | exact hpB H 1 rfl rfl | exact hpC H 0 rfl rfl | exact hpC H 1 rfl rfl) ?_ | with_reducible refine ldS_of (by with_unfolding_all first | exact hpA H 0 rfl rfl | exact hpA H 1 rfl rfl | exact Hp.cell H 0 rfl rfl | exact Hp.cell H 1 rfl rfl | exact hpB H 0 rfl rfl | exact hpB H 1 rfl rfl | exact hpC H 0 rfl rfl | exact hpC H 1 rfl rfl) ?_ | with_reducible refine ldP_of (by with_unfolding_all first | exact hpA H 0 rfl rfl | exact hpA H 1 rfl rfl | exact Hp.cell H 0 rfl rfl | exact Hp.cell H 1 rfl rfl | exact hpB H 0 rfl rfl | exact hpB H 1 rfl rfl | exact hpC H 0 rfl rfl | exact hpC H 1 rfl rfl) ?_ | with_reducible refine ldB_of (by with_unfolding_all first | exact hpA H 0 rfl rfl | exact hpA H 1 rfl rfl | exact Hp.cell H 0 rfl rfl | exact Hp.cell H 1 rfl rfl | exact hpB H 0 rfl rfl | exact hpB H 1 rfl rfl | exact hpC H 0 rfl rfl | exact hpC H 1 rfl rfl) ?_ | with_reducible refine ldT_of (by with_unfolding_all first | exact hpA H 0 rfl rfl | exact hpA H 1 rfl rfl | exact Hp.cell H 0 rfl rfl | exact Hp.cell H 1 rfl rfl | exact hpB H 0 rfl rfl | exact hpB H 1 rfl rfl | exact hpC H 0 rfl rfl | exact hpC H 1 rfl rfl) ?_
  have hWi : W * i ≤ W * X := Nat.mul_le_mul_left _ hiX
  have hsi : SizeP (W : Int) (i : Int) := by
    refine ⟨by omega, by omega, by omega, by omega, ?_⟩
    rw [mul_cast]
    omega
  refine white_ok hsi fun q h' H' => ?_
  replace H := (H.join H' rfl).rot
  clear H'
  refine ⟨_, _, _, _, _, rfl, ?_⟩
  refine newC_hp H fun r62 h H => ?_
  have H := H.rot
  repeat first | with_reducible refine stA H 0 (by with_unfolding_all exact rfl) (by with_unfolding_all exact rfl) (by with_unfolding_all exact rfl) fun h H => ?_ | with_reducible refine st0 H 0 (by with_unfolding_all exact rfl) (by with_unfolding_all exact rfl) (by with_unfolding_all exact rfl) fun h H => ?_ | with_reducible refine stB H 0 (by with_unfolding_all exact rfl) (by with_unfolding_all exact rfl) (by with_unfolding_all exact rfl) fun h H => ?_
  have H : Hp hB [] h (([⟨r62, true, T_api_Bitmap, [.int .i64 (W : Nat), .int .i64 (i : Nat), .slice (at0 q) (i * wds W) (i * wds W)]⟩, ⟨q, true, T_uint64, u64s (List.replicate (i * wds W) 0) ++ []⟩, ⟨r51, true, T_api_Bitmap, [.int .i64 (W : Nat), .int .i64 (i : Nat), .slice qo2 bs'.length c3]⟩, ⟨r6, true, T_burinlaw7_Ask, [.int .i64 (W : Nat), .int .i64 (X : Nat), .slice q1 ws.length c1, .int .i64 tt, .bool sk]⟩] ++ D) ++ D2) := H.as (by simp)
  repeat first | with_reducible refine ldI_of (by with_unfolding_all first | exact hpA H 0 rfl rfl | exact hpA H 1 rfl rfl | exact hpA H 2 rfl rfl | exact hpA H 3 rfl rfl | exact Hp.cell H 0 rfl rfl | exact Hp.cell H 1 rfl rfl | exact Hp.cell H 2 rfl rfl | exact Hp.cell H 3 rfl rfl | exact hpB H 0 rfl rfl | exact hpB H 1 rfl rfl | exact hpB H 2 rfl rfl | exact hpB H 3 rfl rfl | exact hpC H 0 rfl rfl | exact hpC H 1 rfl rfl | exact hpC H 2 rfl rfl | exact hpC H 3 rfl rfl) ?_ | with_reducible refine ldS_of (by with_unfolding_all first | exact hpA H 0 rfl rfl | exact hpA H 1 rfl rfl | exact hpA H 2 rfl rfl | exact hpA H 3 rfl rfl | exact Hp.cell H 0 rfl rfl | exact Hp.cell H 1 rfl rfl | exact Hp.cell H 2 rfl rfl | exact Hp.cell H 3 rfl rfl | exact hpB H 0 rfl rfl | exact hpB H 1 rfl rfl | exact hpB H 2 rfl rfl | exact hpB H 3 rfl rfl | exact hpC H 0 rfl rfl | exact hpC H 1 rfl rfl | exact hpC H 2 rfl rfl | exact hpC H 3 rfl rfl) ?_ | with_reducible refine ldP_of (by with_unfolding_all first | exact hpA H 0 rfl rfl | exact hpA H 1 rfl rfl | exact hpA H 2 rfl rfl | exact hpA H 3 rfl rfl | exact Hp.cell H 0 rfl rfl | exact Hp.cell H 1 rfl rfl | exact Hp.cell H 2 rfl rfl | exact Hp.cell H 3 rfl rfl | exact hpB H 0 rfl rfl | exact hpB H 1 rfl rfl | exact hpB H 2 rfl rfl | exact hpB H 3 rfl rfl | exact hpC H 0 rfl rfl | exact hpC H 1 rfl rfl | exact hpC H 2 rfl rfl | exact hpC H 3 rfl rfl) ?_ | with_reducible refine ldB_of (by with_unfolding_all first | exact hpA H 0 rfl rfl | exact hpA H 1 rfl rfl | exact hpA H 2 rfl rfl | exact hpA H 3 rfl rfl | exact Hp.cell H 0 rfl rfl | exact Hp.cell H 1 rfl rfl | exact Hp.cell H 2 rfl rfl | exact Hp.cell H 3 rfl rfl | exact hpB H 0 rfl rfl | exact hpB H 1 rfl rfl | exact hpB H 2 rfl rfl | exact hpB H 3 rfl rfl | exact hpC H 0 rfl rfl | exact hpC H 1 rfl rfl | exact hpC H 2 rfl rfl | exact hpC H 3 rfl rfl) ?_ | with_reducible refine ldT_of (by with_unfolding_all first | exact hpA H 0 rfl rfl | exact hpA H 1 rfl rfl | exact hpA H 2 rfl rfl | exact hpA H 3 rfl rfl | exact Hp.cell H 0 rfl rfl | exact Hp.cell H 1 rfl rfl | exact Hp.cell H 2 rfl rfl | exact Hp.cell H 3 rfl rfl | exact hpB H 0 rfl rfl | exact hpB H 1 rfl rfl | exact hpB H 2 rfl rfl | exact hpB H 3 rfl rfl | exact hpC H 0 rfl rfl | exact hpC H 1 rfl rfl | exact hpC H 2 rfl rfl | exact hpC H 3 rfl rfl) ?_
  have hZw : W64 (List.replicate (i * wds W) 0) := W64.zero _
  have hZp : ∀ x y, pix (List.replicate (i * wds W) 0) (wds W) x y = false := fun x y => pix_zero _ _ _ _
  have hrl : (List.replicate (i * wds W) 0).length = i * wds W := List.length_replicate
  generalize List.replicate (i * wds W) 0 = Z at H hZw hZp hrl
  rw [← hrl] at H ⊢
  refine part_ok (ws := Z) (rest := []) (X := X) (j := 0) (op := 4) (ws2 := ws) H 1 rfl hsi hrl hZw hZp (fun h' R H' => H'.rdO hr1) hm1 hw1 (by omega) (.inr rfl) fun R h' k1 k2 k3 k4 H => ?_
  refine bcase_false (by rfl) ?_
  rw [hrl] at H
  have H : Hp hB [] h' (([⟨r62, true, T_api_Bitmap, [.int .i64 (W : Nat), .int .i64 (i : Nat), .slice (at0 q) (i * wds W) (i * wds W)]⟩, ⟨q, true, T_uint64, u64s R ++ []⟩, ⟨r51, true, T_api_Bitmap, [.int .i64 (W : Nat), .int .i64 (i : Nat), .slice qo2 bs'.length c3]⟩, ⟨r6, true, T_burinlaw7_Ask, [.int .i64 (W : Nat), .int .i64 (X : Nat), .slice q1 ws.length c1, .int .i64 tt, .bool sk]⟩] ++ D) ++ D2) := H
  have hRb : bs' = R := by
    refine getP_ext g1 k1 g2 k2 g3 (fun y hy x h1 h2 => pix_of_may k3 hy h1 h2) ?_
    rw [g4]
    funext x y
    unfold getP
    by_cases hh : 0 ≤ x ∧ 0 ≤ y ∧ x < W ∧ y < i
    · rw [decide_eq_true hh, decide_eq_true (show y < i by omega), decide_eq_true (show 0 ≤ x ∧ 0 ≤ y ∧ x < W ∧ y < X by omega)]
      have hx64 : x.toNat < 64 * wds W := by unfold wds; omega
      rw [k4 y.toNat (by omega) x.toNat hx64]
      rfl
    · rw [decide_eq_false hh, Bool.false_and]
      by_cases h5 : y < i
      · rw [decide_eq_false (show ¬ (0 ≤ x ∧ 0 ≤ y ∧ x < W ∧ y < X) by omega)]
        simp
      · rw [decide_eq_false h5, Bool.false_and]
  repeat first | with_reducible refine ldI_of (by with_unfolding_all first | exact hpA H 0 rfl rfl | exact hpA H 1 rfl rfl | exact hpA H 2 rfl rfl | exact hpA H 3 rfl rfl | exact Hp.cell H 0 rfl rfl | exact Hp.cell H 1 rfl rfl | exact Hp.cell H 2 rfl rfl | exact Hp.cell H 3 rfl rfl | exact hpB H 0 rfl rfl | exact hpB H 1 rfl rfl | exact hpB H 2 rfl rfl | exact hpB H 3 rfl rfl | exact hpC H 0 rfl rfl | exact hpC H 1 rfl rfl | exact hpC H 2 rfl rfl | exact hpC H 3 rfl rfl) ?_ | with_reducible refine ldS_of (by with_unfolding_all first | exact hpA H 0 rfl rfl | exact hpA H 1 rfl rfl | exact hpA H 2 rfl rfl | exact hpA H 3 rfl rfl | exact Hp.cell H 0 rfl rfl | exact Hp.cell H 1 rfl rfl | exact Hp.cell H 2 rfl rfl | exact Hp.cell H 3 rfl rfl | exact hpB H 0 rfl rfl | exact hpB H 1 rfl rfl | exact hpB H 2 rfl rfl | exact hpB H 3 rfl rfl | exact hpC H 0 rfl rfl | exact hpC H 1 rfl rfl | exact hpC H 2 rfl rfl | exact hpC H 3 rfl rfl) ?_ | with_reducible refine ldP_of (by with_unfolding_all first | exact hpA H 0 rfl rfl | exact hpA H 1 rfl rfl | exact hpA H 2 rfl rfl | exact hpA H 3 rfl rfl | exact Hp.cell H 0 rfl rfl | exact Hp.cell H 1 rfl rfl | exact Hp.cell H 2 rfl rfl | exact Hp.cell H 3 rfl rfl | exact hpB H 0 rfl rfl | exact hpB H 1 rfl rfl | exact hpB H 2 rfl rfl | exact hpB H 3 rfl rfl | exact hpC H 0 rfl rfl | exact hpC H 1 rfl rfl | exact hpC H 2 rfl rfl | exact hpC H 3 rfl rfl) ?_ | with_reducible refine ldB_of (by with_unfolding_all first | exact hpA H 0 rfl rfl | exact hpA H 1 rfl rfl | exact hpA H 2 rfl rfl | exact hpA H 3 rfl rfl | exact Hp.cell H 0 rfl rfl | exact Hp.cell H 1 rfl rfl | exact Hp.cell H 2 rfl rfl | exact Hp.cell H 3 rfl rfl | exact hpB H 0 rfl rfl | exact hpB H 1 rfl rfl | exact hpB H 2 rfl rfl | exact hpB H 3 rfl rfl | exact hpC H 0 rfl rfl | exact hpC H 1 rfl rfl | exact hpC H 2 rfl rfl | exact hpC H 3 rfl rfl) ?_ | with_reducible refine ldT_of (by with_unfolding_all first | exact hpA H 0 rfl rfl | exact hpA H 1 rfl rfl | exact hpA H 2 rfl rfl | exact hpA H 3 rfl rfl | exact Hp.cell H 0 rfl rfl | exact Hp.cell H 1 rfl rfl | exact Hp.cell H 2 rfl rfl | exact Hp.cell H 3 rfl rfl | exact hpB H 0 rfl rfl | exact hpB H 1 rfl rfl | exact hpB H 2 rfl rfl | exact hpB H 3 rfl rfl | exact hpC H 0 rfl rfl | exact hpC H 1 rfl rfl | exact hpC H 2 rfl rfl | exact hpC H 3 rfl rfl) ?_
  rw [← k1] at H ⊢
  refine eqB_ok (xs := bs') (ys := R) (Slot.rdO' hsl2 H fun e he => List.mem_append_right _ he) (row_rdO H 1 rfl) (by rw [g1, ← k1, k1]; exact Nat.lt_of_le_of_lt (hw_le hW1 (by omega : W * i ≤ 1048576)) (by decide)) fun h' e => ?_
  have H := H.ext e
  refine ⟨_, rfl, ?_⟩
  refine bcase_false (by rw [hRb]; simp) ?_
  refine bindI_of (((i + 1 : Nat) : Int)) (by exact i64_at _ _ (by omega) (by omega) (by omega)) ?_
  repeat first | with_reducible refine ldI_of (by with_unfolding_all first | exact hpA H 0 rfl rfl | exact hpA H 1 rfl rfl | exact hpA H 2 rfl rfl | exact hpA H 3 rfl rfl | exact Hp.cell H 0 rfl rfl | exact Hp.cell H 1 rfl rfl | exact Hp.cell H 2 rfl rfl | exact Hp.cell H 3 rfl rfl | exact hpB H 0 rfl rfl | exact hpB H 1 rfl rfl | exact hpB H 2 rfl rfl | exact hpB H 3 rfl rfl | exact hpC H 0 rfl rfl | exact hpC H 1 rfl rfl | exact hpC H 2 rfl rfl | exact hpC H 3 rfl rfl) ?_ | with_reducible refine ldS_of (by with_unfolding_all first | exact hpA H 0 rfl rfl | exact hpA H 1 rfl rfl | exact hpA H 2 rfl rfl | exact hpA H 3 rfl rfl | exact Hp.cell H 0 rfl rfl | exact Hp.cell H 1 rfl rfl | exact Hp.cell H 2 rfl rfl | exact Hp.cell H 3 rfl rfl | exact hpB H 0 rfl rfl | exact hpB H 1 rfl rfl | exact hpB H 2 rfl rfl | exact hpB H 3 rfl rfl | exact hpC H 0 rfl rfl | exact hpC H 1 rfl rfl | exact hpC H 2 rfl rfl | exact hpC H 3 rfl rfl) ?_ | with_reducible refine ldP_of (by with_unfolding_all first | exact hpA H 0 rfl rfl | exact hpA H 1 rfl rfl | exact hpA H 2 rfl rfl | exact hpA H 3 rfl rfl | exact Hp.cell H 0 rfl rfl | exact Hp.cell H 1 rfl rfl | exact Hp.cell H 2 rfl rfl | exact Hp.cell H 3 rfl rfl | exact hpB H 0 rfl rfl | exact hpB H 1 rfl rfl | exact hpB H 2 rfl rfl | exact hpB H 3 rfl rfl | exact hpC H 0 rfl rfl | exact hpC H 1 rfl rfl | exact hpC H 2 rfl rfl | exact hpC H 3 rfl rfl) ?_ | with_reducible refine ldB_of (by with_unfolding_all first | exact hpA H 0 rfl rfl | exact hpA H 1 rfl rfl | exact hpA H 2 rfl rfl | exact hpA H 3 rfl rfl | exact Hp.cell H 0 rfl rfl | exact Hp.cell H 1 rfl rfl | exact Hp.cell H 2 rfl rfl | exact Hp.cell H 3 rfl rfl | exact hpB H 0 rfl rfl | exact hpB H 1 rfl rfl | exact hpB H 2 rfl rfl | exact hpB H 3 rfl rfl | exact hpC H 0 rfl rfl | exact hpC H 1 rfl rfl | exact hpC H 2 rfl rfl | exact hpC H 3 rfl rfl) ?_ | with_reducible refine ldT_of (by with_unfolding_all first | exact hpA H 0 rfl rfl | exact hpA H 1 rfl rfl | exact hpA H 2 rfl rfl | exact hpA H 3 rfl rfl | exact Hp.cell H 0 rfl rfl | exact Hp.cell H 1 rfl rfl | exact Hp.cell H 2 rfl rfl | exact Hp.cell H 3 rfl rfl | exact hpB H 0 rfl rfl | exact hpB H 1 rfl rfl | exact hpB H 2 rfl rfl | exact hpB H 3 rfl rfl | exact hpC H 0 rfl rfl | exact hpC H 1 rfl rfl | exact hpC H 2 rfl rfl | exact hpC H 3 rfl rfl) ?_
  refine bindI_of (((X / 5 : Nat) : Int)) (by exact i64_at _ _ (tdiv_nat X 5) (by omega) (by omega)) ?_
  refine bindI_of (((i + 1 + X / 5 : Nat) : Int)) (by exact i64_at _ _ (by omega) (by omega) (by omega)) ?_
  refine ⟨n - (1 + X / 5), by omega, i + 1 + X / 5, by omega, by omega, by omega, rfl, ?_⟩
  exact (Hp.pre (Y := D2) H).sub (List.Sublist.append (by simp) (List.Sublist.refl D))
theorem gTop_arg {h : Heap} {cs : Array Value} (hsz : cs.size = TP.cellsOf T_burinlaw7_Ask) (hw : WDx TP h T_burinlaw7_Ask cs.toList) {K : Value → Heap → Prop} {Kp : List PanicEntry → Heap → Prop} (hk : ∀ h', hext h h' → K (.bool true) h') :
    CP F_burinlaw7_GenericTop #[.agg cs] h K Kp := by
  obtain ⟨w, b, q1, c1, ws, t, sk, e, g1, g2, g3, g4⟩ := wd_ask7 hw
  obtain rfl : cs = #[.int .i64 w, .int .i64 b, .slice q1 ws.length c1, .int .i64 t, .bool sk] := by
    apply Array.toList_inj.1
    rw [e]
  exact gTop_law g1 g2 g3 g4 hk
end Go.Bm

/- ArLink2: what a law's walk hands on. -/
namespace Go.Proofs.Yteakipgcanafoaa
open Go.ChangeShapes Go.WideShapes Go.ChangeAt Go.RowKit
set_option linter.unusedVariables false

theorem own : ownKnob Try.prog.godebug = none := by kernel_rfl
theorem laidOut : laidOutB Try.prog = true := by kernel_rfl

/-- What a call that keeps all old rows leaves, as a row's statement asks it. -/
theorem below_of {W W' : World} (hk : Go.Den.keeps W W') (h : Go.Den.hext W.heap W'.heap) : Below W.heap.size W W' :=
  ⟨hk.1, hk.2.1, hk.2.2, h.1, fun k hlt => h.2 k hlt⟩

theorem walk_of {f : FuncId} {args : Array Value} {W : World}
    (h : Calls Try.prog f args W fun e w' => Go.Den.keeps W w' ∧ match e with
      | .returned v => v = .bool true ∧ Go.Den.hext W.heap w'.heap
      | .panicked c => False
      | .outgrown => False) : Calls Try.prog f args W fun e W' => e = .returned (.bool true) ∧ Below W.heap.size W W' := by
  refine h.mono fun e W' he => ?_
  obtain ⟨hk, he⟩ := he
  cases e with
  | returned v => exact ⟨by rw [he.1], below_of hk he.2⟩
  | panicked c => exact he.elim
  | outgrown => exact he.elim

end Go.Proofs.Yteakipgcanafoaa

/- GnTop: the given statement GenericTopSaid. -/
namespace Go.Proofs.Yteakipgcanafoaa
open Go.ChangeShapes Go.WideShapes Go.ChangeAt Go.RowKit
set_option linter.unusedVariables false

theorem genericTop_walk (W : World) {cs : Array Value} (hsz : cs.size = Try.prog.cellsOf 87) (hw : Go.Den.WDx Try.prog W.heap 87 cs.toList) : Calls Try.prog 12 #[.agg cs] W fun e W' => e = .returned (.bool true) ∧ Below W.heap.size W W' :=
  walk_of ((Go.Bm.gTop_arg (h := W.heap) (K := fun v h' => v = .bool true ∧ Go.Den.hext W.heap h') (Kp := fun _ _ => False) hsz hw fun h' e => ⟨rfl, e⟩).2 W rfl)

set_option maxRecDepth 100000 in
theorem genericTop_lifted (os : Os) (started : os.Started) (H : Type) (enc : TypeId × Value → H) :
    ReturnsInHanded {} Try.checked os 12 .any (Rows.genericTopSpec.pre6 enc Try.prog Try.f12 Rows.genericTopRow.domain false) (Rows.genericTopSpec.post enc Try.prog Try.f12 false true false false) := by
  refine returnsInHanded_of_change_sized (C := Try.checked) own started (by kernel_rfl) Try.func12
    (ChangeSpec.witness6 (enc := enc) (C := Try.checked) false ⟨#[], #[.agg #[.int .i64 0, .int .i64 0, .slice none 0 0, .int .i64 0, .bool false]], []⟩ 8 (by kernel_rfl) (by kernel_rfl) (by kernel_rfl) (by kernel_rfl)) ?_
  intro W base args ds gs before hval0 hW hcnd hz _
  have hval : ∀ (j : Nat) t v, Try.f12.params[j]? = some t → args[j]? = some v → Value.okWide Try.prog W .any base t v := hval0
  have hz : ∀ n ∈ DataW.weightsEach Try.prog (Try.f12.params.toList ++ Rows.genericTopSpec.plain.varTypes Try.prog) (ds ++ gs), n ≤ reachBytes := fun n hn => by simpa using List.all_eq_true.1 hz n hn
  have hW' := hW
  obtain ⟨p, q, hA0, hV, rfl, hfz, hnd⟩ := hW
  have hA : DataW.TrodAll enc Try.prog W 0 (fun _ => true) true Try.f12.params.toList args.toList ds p := hA0
  rw [Try.params12] at hA hval hz
  obtain ⟨v0, vs0, d0, ds0, p0, q0, hargs, rfl, rfl, h0, r0⟩ := trodAll_cons hA
  obtain ⟨rfl, rfl, rfl⟩ := trodAll_nil r0
  obtain rfl : args = #[v0] := by cases args; simp_all
  obtain ⟨rfl, rfl⟩ := trodVars_none hV
  obtain ⟨cs, rfl, hsz⟩ := okWide_struct Try.underlying87 (hval 0 87 v0 rfl rfl)
  have hwd : Go.Den.WDx Try.prog W.heap 87 cs.toList := by
    obtain ⟨f, hf⟩ := h0
    exact ⟨f, Go.Den.wd_of hf fun n hn => hz n (DataW.weights_mem_each (j := 0) rfl rfl n hn)⟩
  clear hA0 hval0
  simp only [List.append_nil] at hW'
  refine (genericTop_walk W hsz hwd).mono fun e W' ⟨he, hb⟩ => ?_
  subst he
  refine ⟨_, rfl, [d0], [], _, [], p0, [], hW', ?_, ?_, ?_, hb.frame _, fun h => Bool.noConfusion h⟩
  · exact trodAll_cons_mk (shut_bool Go.Proofs.Try.underlying4 _) trodAll_mk0
  · exact ⟨p0, [], Below.trod laidOut (by kernel_rfl) (of_decide_eq_true (by kernel_rfl)) h0 hb (fun x hx => by simpa using hW'.lt x hx), rfl, (List.append_nil p0).symm⟩
  · rfl

theorem genericTop_over : Rows.genericTopRow.holds Try.pinned (OpenSpec.ofChange Rows.genericTopSpec) :=
  OpenClaim.holds_of_wide 12 Try.f12 rfl rfl rfl rfl rfl rfl rfl ⟨rfl, rfl, rfl, rfl, rfl⟩ rfl rfl rfl rfl rfl (by kernel_rfl) Try.func12 (by kernel_rfl)
    (of_decide_eq_true (by kernel_rfl)) (by unfold Func.isWrapper; first | (rw [if_pos (by decide +kernel)]; kernel_rfl) | (rw [if_neg (by decide +kernel)]; exact ⟨rfl, rfl⟩))
    (fun os started H enc _ => genericTop_lifted os started H enc)

theorem genericTop_proved : Rows.GenericTopSaid := genericTop_over

#print axioms genericTop_proved
end Go.Proofs.Yteakipgcanafoaa
