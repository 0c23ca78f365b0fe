/- W6: put together by wip/tools/bundle.py: GnG RfR RfS GnH GnI GnJ Mlaw7x Blaw7x GnK ShA ShB ShD GnR RdB RdC Mlaw7GenericEncodes Blaw7GenericEncodes GnL Mlaw7GenericTop Blaw7GenericTop GnO Mlaw7GenericRepeats Blaw7GenericRepeats GnT ArLink2. -/
import Derived.Test.YteakipgcanafoaaW1
import Derived.Test.YteakipgcanafoaaW2
import Derived.Test.YteakipgcanafoaaW3
import Derived.Test.YteakipgcanafoaaW4
import Derived.Test.YteakipgcanafoaaW5
import Derived.Test.YteakipgcanafoaaProg
import Derived.WalkKit
import Derived.ProofKit
import Derived.OpenShut
import Derived.Carry
import Derived.Deep.SlicePairs
import Derived.Lib.SmallJoins

/- GnG: generic.Decode; the document's side of generic coding. -/
set_option linter.unusedVariables false
set_option linter.unusedSimpArgs false
namespace Go.Bm
open Go Go.Den Go.Den.Yteakipgcanafoaa
open Go.Ar (Cod CodOk Dec codL decL BOk idx putM_ok getD_ok getD_bit newC newC_ok newD newD_ok flushM bytesM u8s refL refD RP)

section
variable {hB : Heap} {w b template : Int} {skip : Bool} {K : Value → Heap → Prop} {Kp : List PanicEntry → Heap → Prop}
set_option maxRecDepth 100000 in
set_option maxHeartbeats 1000000 in
theorem gDec_ok {src : Option Addr} {bc0 : Nat} {bytes : List Nat} (hbb : ∀ x ∈ bytes, x < 256) (hbl : bytes.length < 140737488351300) (hr : rdO hB src (bytes.length * 1) (u8s bytes))
    (hk : ∀ e w' b' bs s' D qo c h', GGetR bytes (gsize template.toNat + 1) 0 0 w b template skip (newD bytes (gsize template.toNat + 1)) e w' b' bs s' → Slot T_uint64 1 D qo bs.length c (u64s bs) → Hp hB [] h' D → K (.tuple #[.agg #[.int .i64 w', .int .i64 b', .slice qo bs.length c], .int .i64 e]) h') :
    CP F_generic_Decode #[.slice src bytes.length bc0, .int .i64 w, .int .i64 b, .int .i64 template, .bool skip] hB K Kp := by
  refine call_generic_Decode ?_
  unfold generic_Decode
  have H := Hp.nil hB []
  refine newC_hp H fun r1 h H => ?_
  refine csize_ok (fun t ht et h2 e2 => ?_) fun hn h2 e2 => ?_
  · have H := H.ext e2
    clear e2
    subst et
    have htt : 0 ≤ ((t : Nat) : Int) ∧ ((t : Nat) : Int) < 4 := by omega
    have hgs := gsize_le ht
    simp only [Int.toNat_natCast] at hk
    refine ⟨_, _, rfl, ?_⟩
    refine bcase_false (by rfl) ?_
    refine bindI_of (((gsize t + 1 : Nat) : Int)) (by exact i64_at _ _ (by omega) (by omega) (by omega)) ?_
    refine Go.Ar.newDecoder_ok (n := gsize t + 1) (by omega) (by omega) hbb hbl (H.rdO hr) fun p q e0 bp bc h3 hbok H' => ?_
    have hew := hbok.1
    replace H := H.join H' (by simp [decL, Go.Ar.decE, hbok.1])
    clear H'
    refine ⟨_, _, rfl, ?_⟩
    refine bcase_false (by rfl) ?_
    have hd := newD_ok hbb (gsize t + 1)
    refine gget_ok (bytes := bytes) (base := 0) (n0 := 0) (H.give [1, 2, 3] (by decide) rfl) (by rw [hd.b]; exact hbok) hbl hd (by omega) (by omega) size_px1 fun e w' b' bs s' D qo c h' hg hsl H' => ?_
    have H := Go.Bm.Hp.backD H [1, 2, 3] (by decide) rfl (by simp [decL, Go.Ar.decE, hew]) H' (by simp [decL, Go.Ar.decE, hew]) hsl.w rfl
    clear H'
    refine ⟨_, _, _, _, _, _, rfl, ?_⟩
    repeat first | with_reducible refine stA H 0 (by with_unfolding_all exact rfl) (by with_unfolding_all exact rfl) (by with_unfolding_all exact rfl) fun h H => ?_ | with_reducible refine st0 H 0 (by with_unfolding_all exact rfl) (by with_unfolding_all exact rfl) (by with_unfolding_all exact rfl) fun h H => ?_ | with_reducible refine stB H 0 (by with_unfolding_all exact rfl) (by with_unfolding_all exact rfl) (by with_unfolding_all exact rfl) fun h H => ?_
    have H : Hp hB [] h (([⟨r1, true, T_api_Bitmap, [.int .i64 w', .int .i64 b', .slice qo bs.length c]⟩] ++ decL p q e0 bp bc s') ++ D) := H
    repeat first | with_reducible refine ldI_of (by with_unfolding_all first | exact hpA H 0 rfl rfl | exact Hp.cell H 0 rfl rfl | exact hpB H 0 rfl rfl | exact hpC H 0 rfl rfl) ?_ | with_reducible refine ldS_of (by with_unfolding_all first | exact hpA H 0 rfl rfl | exact Hp.cell H 0 rfl rfl | exact hpB H 0 rfl rfl | exact hpC H 0 rfl rfl) ?_ | with_reducible refine ldP_of (by with_unfolding_all first | exact hpA H 0 rfl rfl | exact Hp.cell H 0 rfl rfl | exact hpB H 0 rfl rfl | exact hpC H 0 rfl rfl) ?_ | with_reducible refine ldB_of (by with_unfolding_all first | exact hpA H 0 rfl rfl | exact Hp.cell H 0 rfl rfl | exact hpB H 0 rfl rfl | exact hpC H 0 rfl rfl) ?_ | with_reducible refine ldT_of (by with_unfolding_all first | exact hpA H 0 rfl rfl | exact Hp.cell H 0 rfl rfl | exact hpB H 0 rfl rfl | exact hpC H 0 rfl rfl) ?_
    exact hk e w' b' bs s' D qo c h hg hsl (Hp.suf H)
  · have H := H.ext e2
    refine ⟨_, _, rfl, ?_⟩
    refine bcase_true (by rfl) ?_
    repeat first | with_reducible refine ldI_of (by with_unfolding_all first | exact hpA H 0 rfl rfl | exact Hp.cell H 0 rfl rfl | exact hpB H 0 rfl rfl | exact hpC H 0 rfl rfl) ?_ | with_reducible refine ldS_of (by with_unfolding_all first | exact hpA H 0 rfl rfl | exact Hp.cell H 0 rfl rfl | exact hpB H 0 rfl rfl | exact hpC H 0 rfl rfl) ?_ | with_reducible refine ldP_of (by with_unfolding_all first | exact hpA H 0 rfl rfl | exact Hp.cell H 0 rfl rfl | exact hpB H 0 rfl rfl | exact hpC H 0 rfl rfl) ?_ | with_reducible refine ldB_of (by with_unfolding_all first | exact hpA H 0 rfl rfl | exact Hp.cell H 0 rfl rfl | exact hpB H 0 rfl rfl | exact hpC H 0 rfl rfl) ?_ | with_reducible refine ldT_of (by with_unfolding_all first | exact hpA H 0 rfl rfl | exact Hp.cell H 0 rfl rfl | exact hpB H 0 rfl rfl | exact hpC H 0 rfl rfl) ?_ | with_reducible refine stA H 0 (by with_unfolding_all exact rfl) (by with_unfolding_all exact rfl) (by with_unfolding_all exact rfl) fun h H => ?_ | with_reducible refine st0 H 0 (by with_unfolding_all exact rfl) (by with_unfolding_all exact rfl) (by with_unfolding_all exact rfl) fun h H => ?_ | with_reducible refine stB H 0 (by with_unfolding_all exact rfl) (by with_unfolding_all exact rfl) (by with_unfolding_all exact rfl) fun h H => ?_
    exact hk 60 0 0 [] _ [] none 0 _ (.inl ⟨hn, rfl, rfl, rfl, rfl, rfl⟩) (Slot.nil _ _) (H.take 0)

/-! ### the document's -/
theorem need7_ok {t : Nat} (ht : t < 4) (hk : ∀ h', hext hB h' → K (.int .i64 (gsize t + 1 : Nat)) h') : CP F_burinref7_Need #[.int .i64 (t : Nat)] hB K Kp := by
  refine call_burinref7_Need ?_
  unfold burinref7_Need
  have hgs := gsize_le ht
  refine rsize6_ok ht fun h' e => ?_
  refine ⟨_, rfl, ?_⟩
  refine bindI_of (((gsize t + 1 : Nat) : Int)) (by exact i64_at _ _ (by omega) (by omega) (by omega)) ?_
  exact hk _ e
theorem same7_ok {W X y : Nat} {q : Option Addr} {c : Nat} {ws : List Nat} (hr : rdO hB q (ws.length * 1) (u64s ws)) (hw : W64 ws) (hs : SizeP (W : Int) (X : Int)) (hl : ws.length = X * wds W) (hy : y < X)
    (hk : ∀ h', hext hB h' → K (.int .i64 ((sameB (getP ws W X) W y).toNat : Nat)) h') : CP F_burinref7_same #[.agg #[.int .i64 (W : Nat), .int .i64 (X : Nat), .slice q ws.length c], .int .i64 (y : Nat)] hB K Kp := by
  refine call_burinref7_same ?_
  unfold burinref7_same
  obtain ⟨W', X', e1, e2, hW1, hW2, hX1, hX2, hWX⟩ := size_nat hs
  obtain rfl : W = W' := by omega
  obtain rfl : X = X' := by omega
  clear e1 e2
  have H := Hp.nil hB []
  refine newC_hp H fun r4 h H => ?_
  refine ⟨fun n vs h' => ∃ x : Nat, x + n = W ∧ vs = [.int .i64 (x : Nat)] ∧ (∀ j, j < x → getP ws W X (j : Int) (y : Int) = getP ws W X (j : Int) ((y : Int) - 1)) ∧ Hp hB [] h' [⟨r4, true, T_api_Bitmap, [.int .i64 (W : Nat), .int .i64 (X : Nat), .slice q ws.length c]⟩], ⟨W, 0, by omega, rfl, fun j hj => absurd hj (Nat.not_lt_zero _), H⟩, ?_⟩
  clear H
  rintro n h u xx ⟨x, hxn, hxx, hall, H⟩
  injection hxx with hxx
  injection hxx with _ hxx
  subst hxx
  repeat first | with_reducible refine ldI_of (by with_unfolding_all first | exact hpA H 0 rfl rfl | exact Hp.cell H 0 rfl rfl | exact hpB H 0 rfl rfl | exact hpC H 0 rfl rfl) ?_ | with_reducible refine ldS_of (by with_unfolding_all first | exact hpA H 0 rfl rfl | exact Hp.cell H 0 rfl rfl | exact hpB H 0 rfl rfl | exact hpC H 0 rfl rfl) ?_ | with_reducible refine ldP_of (by with_unfolding_all first | exact hpA H 0 rfl rfl | exact Hp.cell H 0 rfl rfl | exact hpB H 0 rfl rfl | exact hpC H 0 rfl rfl) ?_ | with_reducible refine ldB_of (by with_unfolding_all first | exact hpA H 0 rfl rfl | exact Hp.cell H 0 rfl rfl | exact hpB H 0 rfl rfl | exact hpC H 0 rfl rfl) ?_ | with_reducible refine ldT_of (by with_unfolding_all first | exact hpA H 0 rfl rfl | exact Hp.cell H 0 rfl rfl | exact hpB H 0 rfl rfl | exact hpC H 0 rfl rfl) ?_
  refine bcase_dec (fun h4 => ?_) fun h4 => ?_
  · refine bindI_of (((y : Int) - 1)) (by exact i64_in _ (by omega) (by omega)) ?_
    repeat first | with_reducible refine ldI_of (by with_unfolding_all first | exact hpA H 0 rfl rfl | exact Hp.cell H 0 rfl rfl | exact hpB H 0 rfl rfl | exact hpC H 0 rfl rfl) ?_ | with_reducible refine ldS_of (by with_unfolding_all first | exact hpA H 0 rfl rfl | exact Hp.cell H 0 rfl rfl | exact hpB H 0 rfl rfl | exact hpC H 0 rfl rfl) ?_ | with_reducible refine ldP_of (by with_unfolding_all first | exact hpA H 0 rfl rfl | exact Hp.cell H 0 rfl rfl | exact hpB H 0 rfl rfl | exact hpC H 0 rfl rfl) ?_ | with_reducible refine ldB_of (by with_unfolding_all first | exact hpA H 0 rfl rfl | exact Hp.cell H 0 rfl rfl | exact hpB H 0 rfl rfl | exact hpC H 0 rfl rfl) ?_ | with_reducible refine ldT_of (by with_unfolding_all first | exact hpA H 0 rfl rfl | exact Hp.cell H 0 rfl rfl | exact hpB H 0 rfl rfl | exact hpC H 0 rfl rfl) ?_
    refine get_ok (H.rdO hr) hw hs hl fun h' e => ?_
    have H := H.ext e
    refine ⟨_, rfl, e, ?_⟩
    refine get_ok (H.rdO hr) hw hs hl fun h' e => ?_
    have H := H.ext e
    refine ⟨_, rfl, ?_⟩
    refine bcase_ne (fun h5 => ?_) fun h5 => ?_
    · have hne : getP ws W X (x : Int) (y : Int) ≠ getP ws W X (x : Int) ((y : Int) - 1) := fun e => h5 (by rw [e])
      have : sameB (getP ws W X) W y = false := by
        unfold sameB
        rw [← Bool.not_eq_true, List.all_eq_true]
        intro hh
        have := hh x (List.mem_range.2 (by omega))
        exact hne (by simpa using this)
      rw [this] at hk
      exact hk _ H.hext
    · have heq : getP ws W X (x : Int) (y : Int) = getP ws W X (x : Int) ((y : Int) - 1) := by
        generalize getP ws W X (x : Int) (y : Int) = a at h5
        generalize getP ws W X (x : Int) ((y : Int) - 1) = b at h5
        cases a <;> cases b <;> first | rfl | (exact absurd h5 (by decide))
      refine bindI_of (((x + 1 : Nat) : Int)) (by exact i64_at _ _ (by omega) (by omega) (by omega)) ?_
      refine ⟨n - 1, by omega, x + 1, by omega, rfl, fun j hj => ?_, H⟩
      rcases Nat.lt_or_ge j x with h6 | h6
      · exact hall j h6
      · obtain rfl : j = x := by omega
        exact heq
  · obtain rfl : W = x := by omega
    have : sameB (getP ws W X) W y = true := by
      unfold sameB
      rw [List.all_eq_true]
      intro j hj
      rw [hall j (List.mem_range.1 hj)]
      simp
    rw [this] at hk
    exact hk _ H.hext
end
theorem runG_next {σ : Type} {step : σ → Nat → Bool → (Bool × σ) ⊕ (Int × σ)} {W t y : Nat} {skip : Bool} {g : (Int → Int → Bool) × σ} {G : Int → Int → Bool} {s : σ} (h : runG W t skip step y g = .inl (G, s)) : runG W t skip step (y + 1) g = match skip with
    | false => rowG t step y W (G, s)
    | true => match step s (gsize t) (sameB G W y) with
      | .inr e => .inr e
      | .inl (true, s') => .inl (copyRow G y, s')
      | .inl (false, s') => rowG t step y W (G, s') := by
  rw [runG, h]
  cases skip <;> rfl
theorem copy_same {G : Int → Int → Bool} {W y : Nat} (hG : ∀ a b : Int, ¬ (0 ≤ a ∧ a < W) → G a b = false) (h : sameB G W y = true) : copyRow G y = G := by
  funext a b
  unfold copyRow
  by_cases hc : b = (y : Int) ∧ y ≠ 0
  · rw [if_pos hc]
    by_cases hin : 0 ≤ a ∧ a < W
    · unfold sameB at h
      rw [List.all_eq_true] at h
      have := h a.toNat (List.mem_range.2 (by omega))
      have ea : ((a.toNat : Nat) : Int) = a := by omega
      rw [ea] at this
      rw [hc.1]
      exact (by simpa using this : G a (y : Int) = G a ((y : Int) - 1)).symm
    · rw [hG _ _ hin, hG _ _ hin]
  · rw [if_neg hc]
theorem getP_side (ws : List Nat) (W X : Nat) (a b : Int) (h : ¬ (0 ≤ a ∧ a < W)) : getP ws W X a b = false := by
  unfold getP
  rw [decide_eq_false (by omega), Bool.false_and]

set_option maxRecDepth 100000 in
set_option maxHeartbeats 2000000 in
theorem rPut7_ok {h0 h : Heap} {A : RP} {r m n0 : Nat} {s0 : Cod} {rest : List Value} {Y : List Ent} (H : Hp h0 [] h (refL A r s0 rest ++ Y)) (hc : CodOk m n0 s0) (hm1 : 1 ≤ m) (hm2 : m ≤ 131072) {base : Int} (hbase : 0 ≤ base ∧ base ≤ 131072)
    {W X t : Nat} {q1 : Option Addr} {c1 : Nat} {ws : List Nat} {skip : Bool} (ht : t < 4) (hr1 : rdO h0 q1 (ws.length * 1) (u64s ws)) (hw : W64 ws) (hma : MayP (W : Int) (X : Int) ws) (hN : n0 + X * (W + 1) ≤ 16777216) {K : Value → Heap → Prop} {Kp : List PanicEntry → Heap → Prop}
    (hk : ∀ s' k r' rest' h', runG W t skip (stepP m base) X (getP ws W X, s0) = .inl (getP ws W X, s') → k ≤ X * (W + 1) → CodOk m (n0 + k) s' → Hp h0 [] h' (refL A r' s' rest' ++ Y) → K (.int .i64 0) h') :
    CP F_burinref7_Put #[.pointer (at0 A.p), .int .i64 base, .agg #[.int .i64 (W : Nat), .int .i64 (X : Nat), .slice q1 ws.length c1], .int .i64 (t : Nat), .bool skip] h K Kp := by
  refine call_burinref7_Put ?_
  unfold burinref7_Put
  obtain ⟨W', X', e1, e2, hW1, hW2, hX1, hX2, hWX⟩ := size_nat hma.1
  obtain rfl : W = W' := by omega
  obtain rfl : X = X' := by omega
  clear e1 e2
  have hgs := gsize_le ht
  refine newC_hp H fun r4 h H => ?_
  have H := H.rot
  refine places_ok ht fun rp h' H' => ?_
  replace H := (H.join H' rfl).rot
  clear H'
  refine ⟨_, _, _, rfl, ?_⟩
  have H : Hp h0 [] h' ([⟨rp, true, T_int, plcI (plcs (spanL t))⟩, ⟨r4, true, T_api_Bitmap, [.int .i64 (W : Nat), .int .i64 (X : Nat), .slice q1 ws.length c1]⟩] ++ (refL A r s0 rest ++ Y)) := H
  have hplr : ∀ {h : Heap} {s : Cod} {r : Nat} {rest : List Value}, Hp h0 [] h ([⟨rp, true, T_int, plcI (plcs (spanL t))⟩, ⟨r4, true, T_api_Bitmap, [.int .i64 (W : Nat), .int .i64 (X : Nat), .slice q1 ws.length c1]⟩] ++ (refL A r s rest ++ Y)) → rdO h (at0 rp) (2 * (plcs (spanL t)).length * 1) (plcI (plcs (spanL t))) := fun H => by
    have hpl : (plcI (plcs (spanL t))).length = 2 * (plcs (spanL t)).length * 1 := by
      generalize plcs (spanL t) = P
      induction P with
      | nil => rfl
      | cons p P ih =>
        show (_ :: _ :: plcI P).length = _
        simp only [List.length_cons, ih]
        omega
    have := rdO_hp H 0 (b := rp) (o := 0) (n := 2 * (plcs (spanL t)).length * 1) (w := true) (t := T_int) (cs := plcI (plcs (spanL t))) rfl (by omega)
    rw [List.drop_zero, List.take_of_length_le (by omega)] at this
    exact this
  obtain ⟨G, hG⟩ : ∃ G, G = getP ws W X := ⟨_, rfl⟩
  refine ⟨fun n vs h' => ∃ (y : Nat) (s : Cod) (k r' : Nat) (rest' : List Value), y + n = X ∧ vs = [.int .i64 (y : Nat)] ∧ runG W t skip (stepP m base) y (G, s0) = .inl (G, s) ∧ k ≤ y * (W + 1) ∧ CodOk m (n0 + k) s ∧
    Hp h0 [] h' ([⟨rp, true, T_int, plcI (plcs (spanL t))⟩, ⟨r4, true, T_api_Bitmap, [.int .i64 (W : Nat), .int .i64 (X : Nat), .slice q1 ws.length c1]⟩] ++ (refL A r' s rest' ++ Y)), ⟨X, 0, s0, 0, r, rest, by omega, rfl, rfl, by omega, hc, H⟩, ?_⟩
  clear H
  rintro n h u xx ⟨y, s, k, r', rest', hyn, hxx, hrun, hky, hok, H⟩
  injection hxx with hxx
  injection hxx with _ hxx
  subst hxx
  repeat first | with_reducible refine ldI_of (by with_unfolding_all first | exact hpA H 1 rfl rfl | exact Hp.cell H 1 rfl rfl | exact hpB H 1 rfl rfl | exact hpC H 1 rfl rfl) ?_ | with_reducible refine ldS_of (by with_unfolding_all first | exact hpA H 1 rfl rfl | exact Hp.cell H 1 rfl rfl | exact hpB H 1 rfl rfl | exact hpC H 1 rfl rfl) ?_ | with_reducible refine ldP_of (by with_unfolding_all first | exact hpA H 1 rfl rfl | exact Hp.cell H 1 rfl rfl | exact hpB H 1 rfl rfl | exact hpC H 1 rfl rfl) ?_ | with_reducible refine ldB_of (by with_unfolding_all first | exact hpA H 1 rfl rfl | exact Hp.cell H 1 rfl rfl | exact hpB H 1 rfl rfl | exact hpC H 1 rfl rfl) ?_ | with_reducible refine ldT_of (by with_unfolding_all first | exact hpA H 1 rfl rfl | exact Hp.cell H 1 rfl rfl | exact hpB H 1 rfl rfl | exact hpC H 1 rfl rfl) ?_
  refine bcase_dec (fun h1 => ?_) fun h1 => ?_
  · have hy : y < X := by omega
    have hkX : (y + 1) * (W + 1) ≤ X * (W + 1) := Nat.mul_le_mul_right _ (by omega)
    rw [Nat.add_mul, Nat.one_mul] at hkX
    have hnext := runG_next hrun
    refine ⟨fun _ h' => ∃ s1 k1 r1 rest1, runG W t skip (stepP m base) (y + 1) (G, s0) = rowG t (stepP m base) y W (G, s1) ∧ k1 ≤ y * (W + 1) + 1 ∧ CodOk m (n0 + k1) s1 ∧
      Hp h0 [] h' ([⟨rp, true, T_int, plcI (plcs (spanL t))⟩, ⟨r4, true, T_api_Bitmap, [.int .i64 (W : Nat), .int .i64 (X : Nat), .slice q1 ws.length c1]⟩] ++ (refL A r1 s1 rest1 ++ Y)), ?_, ?_⟩
    · cases skip with
      | false =>
        refine bcase_false rfl ?_
        exact ⟨s, k, r', rest', hnext, by omega, hok, H⟩
      | true =>
        refine bcase_true rfl ?_
        repeat first | with_reducible refine ldI_of (by with_unfolding_all first | exact hpA H 1 rfl rfl | exact Hp.cell H 1 rfl rfl | exact hpB H 1 rfl rfl | exact hpC H 1 rfl rfl) ?_ | with_reducible refine ldS_of (by with_unfolding_all first | exact hpA H 1 rfl rfl | exact Hp.cell H 1 rfl rfl | exact hpB H 1 rfl rfl | exact hpC H 1 rfl rfl) ?_ | with_reducible refine ldP_of (by with_unfolding_all first | exact hpA H 1 rfl rfl | exact Hp.cell H 1 rfl rfl | exact hpB H 1 rfl rfl | exact hpC H 1 rfl rfl) ?_ | with_reducible refine ldB_of (by with_unfolding_all first | exact hpA H 1 rfl rfl | exact Hp.cell H 1 rfl rfl | exact hpB H 1 rfl rfl | exact hpC H 1 rfl rfl) ?_ | with_reducible refine ldT_of (by with_unfolding_all first | exact hpA H 1 rfl rfl | exact Hp.cell H 1 rfl rfl | exact hpB H 1 rfl rfl | exact hpC H 1 rfl rfl) ?_
        refine same7_ok (H.rdO hr1) hw hma.1 (may_len hma) hy fun h' e => ?_
        have H := H.ext e
        clear e
        refine ⟨_, rfl, ?_⟩
        refine need7_ok ht fun h' e => ?_
        have H := H.ext e
        clear e
        refine ⟨_, rfl, ?_⟩
        refine bindI_of ((base + ((gsize t + 1 : Nat) : Int))) (by exact i64_in _ (by omega) (by omega)) ?_
        refine bindI_of ((base + ((gsize t : Nat) : Int))) (by exact i64_at _ _ (by omega) (by omega) (by omega)) ?_
        rw [← hG]
        refine Go.Ar.rput_ok (bit := (sameB G W y).toNat) (H.give [2, 3, 4, 5, 6] (by decide) rfl) hok.wf hok.done (by rw [hok.n]; omega) (by rw [hok.len]; exact hm1) (by rw [hok.len]; exact hm2) (toNat_le _) fun r3 rest3 h5 H' => ?_
        replace H := H.put [2, 3, 4, 5, 6] (by decide) rfl rfl H' rfl rfl
        clear H'
        rw [hok.len] at H
        have hok2 := putM_ok hok (idx (base + ((gsize t : Nat) : Int)) m) (sameB G W y).toNat (by omega)
        refine ⟨_, rfl, ?_⟩
        refine bcase_false (by rfl) ?_
        simp only [stepP] at hnext
        cases hsm : sameB G W y with
        | true =>
          rw [hsm] at hnext H hok2
          simp only at hnext
          rw [copy_same (fun a b h => by rw [hG]; exact getP_side ws W X a b h) hsm] at hnext
          refine bcase_eq (fun _ => ?_) fun h5 => absurd rfl h5
          refine bindI_of (((y + 1 : Nat) : Int)) (by exact i64_at _ _ (by omega) (by omega) (by omega)) ?_
          exact ⟨n - 1, by omega, y + 1, _, k + 1, r3, rest3, by omega, rfl, hnext, by rw [Nat.add_mul, Nat.one_mul]; omega, hok2, H⟩
        | false =>
          rw [hsm] at hnext H hok2
          simp only at hnext
          refine bcase_eq (fun h5 => absurd h5 (by decide)) fun h5 => ?_
          exact ⟨_, k + 1, r3, rest3, hnext, by omega, hok2, H⟩
    · clear H hok hnext
      rintro h u ⟨s1, k1, r1, rest1, hnext, hk1, hok1, H⟩
      refine ⟨fun n vs h' => ∃ (x : Nat) (s : Cod) (r' : Nat) (rest' : List Value), x + n = W ∧ vs = [.int .i64 (x : Nat)] ∧ rowG t (stepP m base) y x (G, s1) = .inl (G, s) ∧ CodOk m (n0 + k1 + x) s ∧
        Hp h0 [] h' ([⟨rp, true, T_int, plcI (plcs (spanL t))⟩, ⟨r4, true, T_api_Bitmap, [.int .i64 (W : Nat), .int .i64 (X : Nat), .slice q1 ws.length c1]⟩] ++ (refL A r' s rest' ++ Y)), ⟨W, 0, s1, r1, rest1, by omega, rfl, rfl, hok1, H⟩, ?_⟩
      clear H hok1
      rintro n2 h u xx ⟨x, s2, r2, rest2, hxn, hxx, hrow, hok, H⟩
      injection hxx with hxx
      injection hxx with _ hxx
      subst hxx
      repeat first | with_reducible refine ldI_of (by with_unfolding_all first | exact hpA H 1 rfl rfl | exact Hp.cell H 1 rfl rfl | exact hpB H 1 rfl rfl | exact hpC H 1 rfl rfl) ?_ | with_reducible refine ldS_of (by with_unfolding_all first | exact hpA H 1 rfl rfl | exact Hp.cell H 1 rfl rfl | exact hpB H 1 rfl rfl | exact hpC H 1 rfl rfl) ?_ | with_reducible refine ldP_of (by with_unfolding_all first | exact hpA H 1 rfl rfl | exact Hp.cell H 1 rfl rfl | exact hpB H 1 rfl rfl | exact hpC H 1 rfl rfl) ?_ | with_reducible refine ldB_of (by with_unfolding_all first | exact hpA H 1 rfl rfl | exact Hp.cell H 1 rfl rfl | exact hpB H 1 rfl rfl | exact hpC H 1 rfl rfl) ?_ | with_reducible refine ldT_of (by with_unfolding_all first | exact hpA H 1 rfl rfl | exact Hp.cell H 1 rfl rfl | exact hpB H 1 rfl rfl | exact hpC H 1 rfl rfl) ?_
      refine bcase_dec (fun h2 => ?_) fun h2 => ?_
      · have hx : x < W := by omega
        repeat first | with_reducible refine ldI_of (by with_unfolding_all first | exact hpA H 1 rfl rfl | exact Hp.cell H 1 rfl rfl | exact hpB H 1 rfl rfl | exact hpC H 1 rfl rfl) ?_ | with_reducible refine ldS_of (by with_unfolding_all first | exact hpA H 1 rfl rfl | exact Hp.cell H 1 rfl rfl | exact hpB H 1 rfl rfl | exact hpC H 1 rfl rfl) ?_ | with_reducible refine ldP_of (by with_unfolding_all first | exact hpA H 1 rfl rfl | exact Hp.cell H 1 rfl rfl | exact hpB H 1 rfl rfl | exact hpC H 1 rfl rfl) ?_ | with_reducible refine ldB_of (by with_unfolding_all first | exact hpA H 1 rfl rfl | exact Hp.cell H 1 rfl rfl | exact hpB H 1 rfl rfl | exact hpC H 1 rfl rfl) ?_ | with_reducible refine ldT_of (by with_unfolding_all first | exact hpA H 1 rfl rfl | exact Hp.cell H 1 rfl rfl | exact hpB H 1 rfl rfl | exact hpC H 1 rfl rfl) ?_
        refine at6_ok ht (H.rdO hr1) hw hma.1 (may_len hma) (hplr H) hx hy fun h' e => ?_
        have H := H.ext e
        refine ⟨_, rfl, e, ?_⟩
        clear e
        rw [← hG]
        have hcl := gctx_lt t G (x : Nat) (y : Nat)
        have hstep : rowG t (stepP m base) y (x + 1) (G, s1) = .inl (G, Go.Ar.putM s2 (idx (base + ((gctx t G (x : Nat) (y : Nat) : Nat) : Int)) m) (G (x : Int) (y : Int)).toNat) := by
          rw [rowG, hrow]
          simp only [stepP, upd_self]
        generalize gctx t G (x : Nat) (y : Nat) = cx at hcl hstep ⊢
        refine bindI_of ((base + (cx : Int))) (by exact i64_in _ (by omega) (by omega)) ?_
        refine get_ok (H.rdO hr1) hw hma.1 (may_len hma) fun h4 e4 => ?_
        have H := H.ext e4
        clear e4
        refine ⟨_, rfl, ?_⟩
        rw [← hG]
        refine Go.Ar.rput_ok (bit := (G (x : Int) (y : Int)).toNat) (H.give [2, 3, 4, 5, 6] (by decide) rfl) hok.wf hok.done (by rw [hok.n]; omega) (by rw [hok.len]; exact hm1) (by rw [hok.len]; exact hm2) (toNat_le _) fun r3 rest3 h5 H' => ?_
        replace H := H.put [2, 3, 4, 5, 6] (by decide) rfl rfl H' rfl rfl
        clear H'
        rw [hok.len] at H
        refine ⟨_, rfl, ?_⟩
        refine bcase_false (by rfl) ?_
        refine bindI_of (((x + 1 : Nat) : Int)) (by exact i64_at _ _ (by omega) (by omega) (by omega)) ?_
        exact ⟨n2 - 1, by omega, x + 1, _, r3, rest3, by omega, rfl, hstep, putM_ok hok _ _ (by omega), H⟩
      · obtain rfl : W = x := by omega
        rw [hrow] at hnext
        refine bindI_of (((y + 1 : Nat) : Int)) (by exact i64_at _ _ (by omega) (by omega) (by omega)) ?_
        exact ⟨n - 1, by omega, y + 1, s2, k1 + W, r2, rest2, by omega, rfl, hnext, by rw [Nat.add_mul, Nat.one_mul]; omega, by rw [← Nat.add_assoc]; exact hok, H⟩
  · obtain rfl : X = y := by omega
    rw [hG] at hrun
    exact hk s k r' rest' h hrun hky hok (Hp.suf (X := [_, _]) H)
end Go.Bm

/- RfR: refinement, plain laws: what is read is one; a reference that is seen alike; a few rows; many bitmaps one behind the other. -/
set_option linter.unusedVariables false
set_option linter.unusedSimpArgs false
namespace Go.Bm
open Go Go.Den Go.Den.Yteakipgcanafoaa
open Go.Ar (Cod Dec codN decN newC newD idx bytesM flushM)

theorem GetR.det {bytes : List Nat} {m n0 : Nat} {base w b w2 b2 : Int} {ws2 : List Nat} {dx dy : Int} {s : Dec} {e1 a1 c1 e2 a2 c2 : Int} {bs1 bs2 : List Nat} {s1 s2 : Dec}
    (h1 : GetR bytes m n0 base w b w2 b2 ws2 dx dy s e1 a1 c1 bs1 s1) (h2 : GetR bytes m n0 base w b w2 b2 ws2 dx dy s e2 a2 c2 bs2 s2) : e1 = e2 ∧ a1 = a2 ∧ c1 = c2 ∧ bs1 = bs2 ∧ s1 = s2 := by
  rcases h1 with ⟨p, q1, q2, q3, q4, q5⟩ | ⟨p, p2, q1, q2, q3, q4, q5⟩ | ⟨p, p2, p3, q1, q2, q3, q4, q5⟩ | ⟨p, p2, p3, p4, q1, q2, q3, q4, q5⟩ | ⟨p, p2, p3, p4, q1, q2, q3, q4, lx, wx, zx, dx'⟩ <;>
  rcases h2 with ⟨p', r1, r2, r3, r4, r5⟩ | ⟨p', p2', r1, r2, r3, r4, r5⟩ | ⟨p', p2', p3', r1, r2, r3, r4, r5⟩ | ⟨p', p2', p3', p4', r1, r2, r3, r4, r5⟩ | ⟨p', p2', p3', p4', r1, r2, r3, r4, ly, wy, zy, dy'⟩ <;>
  first
    | contradiction
    | exact ⟨q1.trans r1.symm, q2.trans r2.symm, q3.trans r3.symm, q4.trans r4.symm, q5.trans r5.symm⟩
    | skip
  rw [q4] at r4
  injection r4 with r4
  injection r4 with r4 r5
  obtain ⟨W, X, rfl, rfl, _⟩ := size_nat p2
  simp only [Int.toNat_natCast] at r4 lx ly zx zy
  exact ⟨q1.trans r1.symm, q2.trans r2.symm, q3.trans r3.symm, getP_ext lx ly wx wy zx zy r4, r5⟩

theorem ctx_ref {G R1 R2 : Int → Int → Bool} {dx1 dy1 dx2 dy2 x y : Int} (h : ∀ a b, x - 1 ≤ a → a ≤ x + 1 → R1 (a - dx1) (b - dy1) = R2 (a - dx2) (b - dy2)) : ctxN G R1 dx1 dy1 x y = ctxN G R2 dx2 dy2 x y := by
  have rows : ∀ d, rowsN R1 dx1 dy1 x y d = rowsN R2 dx2 dy2 x y d := by
    intro d
    induction d with
    | zero => rfl
    | succ d ih =>
      unfold rowsN rowB3
      rw [ih, h (x - 1) _ (by omega) (by omega), h x _ (by omega) (by omega), h (x + 1) _ (by omega) (by omega)]
  unfold ctxN
  rw [rows 3]
theorem runN_ref {σ : Type} {step : σ → Nat → Bool → (Bool × σ) ⊕ (Int × σ)} {W : Nat} {R1 R2 : Int → Int → Bool} {dx1 dy1 dx2 dy2 : Int} (hW : 1 ≤ W) (h : ∀ a b : Int, -1 ≤ a → a ≤ W → R1 (a - dx1) (b - dy1) = R2 (a - dx2) (b - dy2)) (g : (Int → Int → Bool) × σ) :
    ∀ k, runN W R1 dx1 dy1 step k g = runN W R2 dx2 dy2 step k g
  | 0 => rfl
  | k + 1 => by
    unfold runN
    rw [runN_ref hW h g k]
    have hx := Nat.mod_lt k hW
    cases runN W R2 dx2 dy2 step k g with
    | inr e => rfl
    | inl g =>
      obtain ⟨G, s⟩ := g
      have e : ctxN G R1 dx1 dy1 ((k % W : Nat) : Int) ((k / W : Nat) : Int) = ctxN G R2 dx2 dy2 ((k % W : Nat) : Int) ((k / W : Nat) : Int) := ctx_ref fun a b h1 h2 => h a b (by omega) (by omega)
      simp only [e]
theorem EncR.ref {W X : Nat} {w2 b2 w3 b3 : Int} {ws ws2 ws3 : List Nat} {dx dy dx2 dy2 e e' : Int} {bs bs' : List Nat} (hm : MayP (W : Int) (X : Int) ws) (hm2 : MayP w2 b2 ws2) (hm3 : MayP w3 b3 ws3) (hs : ShiftP dx dy) (hs2 : ShiftP dx2 dy2)
    (h : ∀ a b : Int, -1 ≤ a → a ≤ W → getP ws2 w2.toNat b2.toNat (a - dx) (b - dy) = getP ws3 w3.toNat b3.toNat (a - dx2) (b - dy2))
    (h1 : EncR (W : Int) (X : Int) w2 b2 ws ws2 dx dy e bs) (h2 : EncR (W : Int) (X : Int) w3 b3 ws ws3 dx2 dy2 e' bs') : bs = bs' := by
  obtain ⟨W', X', e1, e2, hW1, _⟩ := size_nat hm.1
  obtain rfl : W = W' := by omega
  rcases h1 with ⟨a, _⟩ | ⟨_, a, _⟩ | ⟨_, _, _, G1, s1, r1, _, c1⟩
  · exact absurd ⟨hm, hm2⟩ a
  · exact absurd hs a
  rcases h2 with ⟨a, _⟩ | ⟨_, a, _⟩ | ⟨_, _, _, G2, s2, r2, _, c2⟩
  · exact absurd ⟨hm, hm3⟩ a
  · exact absurd hs2 a
  simp only [Int.toNat_natCast] at r1 r2
  rw [runN_ref hW1 h, r2] at r1
  injection r1 with r1
  injection r1 with _ r1
  rw [c1, c2, r1]
theorem EncR.ok {w b w2 b2 : Int} {ws ws2 : List Nat} {dx dy e : Int} {bs : List Nat} (hm : MayP w b ws) (hm2 : MayP w2 b2 ws2) (hs : ShiftP dx dy) (h : EncR w b w2 b2 ws ws2 dx dy e bs) : e = 0 := by
  rcases h with ⟨a, _⟩ | ⟨_, a, _⟩ | ⟨_, _, e, _⟩
  · exact absurd ⟨hm, hm2⟩ a
  · exact absurd hs a
  · exact e

theorem part_rows (ws : List Nat) (W X n : Nat) : partG (getP ws W X) W (n * W) = fun (x y : Int) => decide (y < n) && getP ws W X x y := by
  funext x y
  unfold partG
  by_cases h : 0 ≤ x ∧ 0 ≤ y ∧ x < W ∧ y < X
  · congr 1
    rw [decide_eq_decide]
    constructor
    · rintro ⟨_, _, _, h4⟩
      rcases Nat.lt_or_ge y.toNat n with h5 | h5
      · omega
      · have : n * W ≤ y.toNat * W := Nat.mul_le_mul_right _ h5
        omega
    · intro h4
      have : (y.toNat + 1) * W ≤ n * W := Nat.mul_le_mul_right _ (by omega)
      rw [Nat.add_mul, Nat.one_mul] at this
      exact ⟨h.1, h.2.2.1, h.2.1, by omega⟩
  · unfold getP
    rw [decide_eq_false h, Bool.false_and, Bool.and_false, Bool.and_false]

section
variable (G R : Int → Int → Bool) (W m : Nat) (dx dy base : Int) {k b : Nat → Nat} {n0 cnt : Nat}
theorem enc_from (hk : ∀ j, j < cnt → k (n0 + j) = kf G R W m dx dy base j) (hb : ∀ j, j < cnt → b (n0 + j) = bf G W j) : ∀ i, i ≤ cnt →
    runN W R dx dy (stepP m base) i (G, codN k b m n0) = .inl (G, codN k b m (n0 + i))
  | 0, _ => rfl
  | i + 1, hi => by
    unfold runN
    rw [enc_from hk hb i (by omega)]
    simp only [stepP, upd_self]
    have e : codN k b m (n0 + (i + 1)) = Go.Ar.putM (codN k b m (n0 + i)) (k (n0 + i)) (b (n0 + i)) := rfl
    rw [e, hk i (by omega), hb i (by omega)]
    rfl
theorem dec_from (hG : ∀ x y : Int, ¬ (0 ≤ x ∧ x < W ∧ 0 ≤ y) → G x y = false) (hW : 1 ≤ W) {tot : Nat} (ht : tot ≤ 16777216) (hb1 : ∀ i, i < tot → b i ≤ 1) (hlt : ∀ x ∈ bytesM (flushM (codN k b m tot)), x < 256) (hct : n0 + cnt ≤ tot)
    (hk : ∀ j, j < cnt → k (n0 + j) = kf G R W m dx dy base j) (hb : ∀ j, j < cnt → b (n0 + j) = bf G W j) : ∀ i, i ≤ cnt →
    runN W R dx dy (stepG m base) i (fun _ _ => false, decN k (bytesM (flushM (codN k b m tot))) m n0) = .inl (partG G W i, decN k (bytesM (flushM (codN k b m tot))) m (n0 + i))
  | 0, _ => by
    have : partG G W 0 = fun _ _ => false := by
      funext x y
      unfold partG
      rw [decide_eq_false (by omega), Bool.false_and]
    rw [this]
    rfl
  | i + 1, hi => by
    have hbit0 := Go.Ar.back_bit k b m tot hb1 ht hlt (i := n0 + i) (by omega)
    have hx : i % W < W := Nat.mod_lt _ (by omega)
    have hi2 : i / W * W + i % W = i := by rw [Nat.mul_comm]; exact Nat.div_add_mod i W
    have h1 := part_ctx G R W dx dy hG (x := i % W) (y := i / W) hx
    have h2 := partG_next G W hG (x := i % W) (y := i / W) hx
    rw [hi2] at h1 h2
    unfold runN
    rw [dec_from hG hW ht hb1 hlt hct hk hb i (by omega)]
    simp only [stepG]
    rw [h1]
    have hk1 : idx (base + ((ctxN G R dx dy ((i % W : Nat) : Int) ((i / W : Nat) : Int) : Nat) : Int)) m = k (n0 + i) := (hk i (by omega)).symm
    rw [hk1, hbit0, hb i (by omega)]
    have hbit : decide (bf G W i = 1) = G ((i % W : Nat) : Int) ((i / W : Nat) : Int) := by
      unfold bf
      cases G ((i % W : Nat) : Int) ((i / W : Nat) : Int) <;> rfl
    rw [hbit, h2]
    rfl
end
/-- Fewer rows than were coded. -/
theorem rf_top {W X n : Nat} {w2 b2 : Int} {ws ws2 : List Nat} {dx dy e e' w' b' : Int} {bs bs' : List Nat} {s' : Dec} (hn : n ≤ X) (hn1 : 1 ≤ n) (hm : MayP (W : Int) (X : Int) ws) (hm2 : MayP w2 b2 ws2) (hsh : ShiftP dx dy)
    (henc : EncR (W : Int) (X : Int) w2 b2 ws ws2 dx dy e bs) (hget : GetR bs 8192 0 0 (W : Int) (n : Int) w2 b2 ws2 dx dy (newD bs 8192) e' w' b' bs' s') :
    e' = 0 ∧ w' = (W : Int) ∧ b' = (n : Int) ∧ bs'.length = n * wds W ∧ W64 bs' ∧ PadZ W n bs' ∧ getP bs' W n = fun (x y : Int) => decide (y < n) && getP ws W X x y := by
  have hpx := may_px hm
  simp only [Int.toNat_natCast, Nat.zero_add] at hpx
  obtain ⟨W', X', e1, e2, hW1, hW2, hX1, hX2, hWX⟩ := size_nat hm.1
  obtain rfl : W = W' := by omega
  obtain rfl : X = X' := by omega
  have hWn : W * n ≤ W * X := Nat.mul_le_mul_left _ hn
  have hsz : SizeP (W : Int) (n : Int) := by
    refine ⟨by omega, by omega, by omega, by omega, ?_⟩
    rw [mul_cast]
    omega
  rcases henc with ⟨a, _⟩ | ⟨_, a, _⟩ | ⟨_, _, rfl, Gz, sz, hrun, hok, rfl⟩
  · exact absurd ⟨hm, hm2⟩ a
  · exact absurd hsh a
  rcases hget with ⟨a, _⟩ | ⟨_, a, _⟩ | ⟨_, _, a, _⟩ | ⟨_, _, _, a, _⟩ | ⟨_, _, _, _, rfl, rfl, rfl, hrun2, hlen, hww, hz, _⟩
  · exact absurd hm2 a
  · exact absurd hsz a
  · exact absurd hsh a
  · exact absurd ⟨by omega, by omega⟩ a
  simp only [Int.toNat_natCast] at hrun hrun2 hlen hz
  refine ⟨rfl, rfl, rfl, hlen, hww, hz, ?_⟩
  rw [enc_run] at hrun
  injection hrun with hrun
  injection hrun with _ hrun
  subst hrun
  have hlt := Go.Ar.flushM_lt hok.wf
  rw [dec_run (getP ws W X) (getP ws2 w2.toNat b2.toNat) W 8192 dx dy 0 (getP_out ws W X) hW1 hpx hlt _ (Nat.mul_le_mul_right _ hn), part_rows] at hrun2
  injection hrun2 with hrun2
  injection hrun2 with hrun2 _
  exact hrun2.symm
end Go.Bm

/- RfS: burinref8.Get and burinref8.Decode. -/
set_option linter.unusedVariables false
set_option linter.unusedSimpArgs false
namespace Go.Bm
open Go Go.Den Go.Den.Yteakipgcanafoaa
open Go.Ar (Dec refD RP idx BOk getD_ok newD newD_ok u8s)

end Go.Bm

/- GnH: burinref7.Get, Encode, Decode. -/
set_option linter.unusedVariables false
set_option linter.unusedSimpArgs false
namespace Go.Bm
open Go Go.Den Go.Den.Yteakipgcanafoaa
open Go.Ar (Cod CodOk Dec codL decL BOk idx putM_ok getD_ok getD_bit newC newC_ok newD newD_ok flushM bytesM u8s refL refD RP)

theorem getD_nat (s : Dec) (k : Nat) : (Go.Ar.getD s k).2 = (decide ((Go.Ar.getD s k).2 = 1)).toNat := by
  have hbit := getD_bit (s := s) k
  by_cases h1 : (Go.Ar.getD s k).2 = 1
  · rw [decide_eq_true h1, h1]; rfl
  · rw [decide_eq_false h1]; show _ = 0; omega

set_option maxRecDepth 100000 in
set_option maxHeartbeats 4000000 in
theorem rGet7_ok {h0 h : Heap} {A : RP} {e0 : Ent} {bp : Option Addr} {bc m n0 : Nat} {s0 : Dec} {bytes : List Nat} {Y : List Ent} (H : Hp h0 [] h (refD A e0 bp bc s0 ++ Y)) (hb : BOk e0 bp bytes) (hbl : bytes.length < 140737488351300) (hc : Go.Ar.DecOk bytes m n0 s0) (hm1 : 1 ≤ m) (hm2 : m ≤ 131072)
    {base : Int} (hbase : 0 ≤ base ∧ base ≤ 131072) {W X t : Nat} {skip : Bool} (ht : t < 4) (hs : SizeP (W : Int) (X : Int)) (hN : n0 + X * (W + 1) ≤ 16777216) {K : Value → Heap → Prop} {Kp : List PanicEntry → Heap → Prop}
    (hk : ∀ bs s' k q h', runG W t skip (stepG m base) X (fun _ _ => false, s0) = .inl (getP bs W X, s') → bs.length = X * wds W → W64 bs → PadZ W X bs → k ≤ X * (W + 1) → Go.Ar.DecOk bytes m (n0 + k) s' →
      Hp h0 [] h' (refD A e0 bp bc s' ++ Y ++ [⟨q, true, T_uint64, u64s bs ++ []⟩]) → K (.tuple #[.agg #[.int .i64 (W : Nat), .int .i64 (X : Nat), .slice (at0 q) bs.length bs.length], .int .i64 0]) h') :
    CP F_burinref7_Get #[.pointer (at0 A.p), .int .i64 base, .int .i64 (W : Nat), .int .i64 (X : Nat), .int .i64 (t : Nat), .bool skip] h K Kp := by
  refine call_burinref7_Get ?_
  unfold burinref7_Get
  obtain ⟨W', X', e1, e2, hW1, hW2, hX1, hX2, hWX⟩ := size_nat hs
  obtain rfl : W = W' := by omega
  obtain rfl : X = X' := by omega
  clear e1 e2
  have hgs := gsize_le ht
  have hb' := hb.1
  refine newC_hp H fun r1 h H => ?_
  have H := H.rot
  refine places_ok ht fun rp h' H' => ?_
  replace H := (H.join H' rfl).rot
  clear H'
  refine ⟨_, _, _, rfl, ?_⟩
  refine white_ok hs fun q h' H' => ?_
  replace H := (H.join H' rfl).rot
  clear H'
  refine ⟨_, _, _, _, _, rfl, ?_⟩
  refine newC_hp H fun r11 h H => ?_
  have H := H.rot
  repeat first | with_reducible refine stA H 0 (by with_unfolding_all exact rfl) (by with_unfolding_all exact rfl) (by with_unfolding_all exact rfl) fun h H => ?_ | with_reducible refine st0 H 0 (by with_unfolding_all exact rfl) (by with_unfolding_all exact rfl) (by with_unfolding_all exact rfl) fun h H => ?_ | with_reducible refine stB H 0 (by with_unfolding_all exact rfl) (by with_unfolding_all exact rfl) (by with_unfolding_all exact rfl) fun h H => ?_
  obtain ⟨N, hNd⟩ : ∃ N, N = X * wds W := ⟨_, rfl⟩
  rw [← hNd] at H
  obtain ⟨P, hP⟩ : ∃ P : List Nat → Dec → List Ent, P = fun ws s => [⟨r11, true, T_api_Bitmap, [.int .i64 (W : Nat), .int .i64 (X : Nat), .slice (at0 q) N N]⟩, ⟨q, true, T_uint64, u64s ws ++ []⟩, ⟨rp, true, T_int, plcI (plcs (spanL t))⟩, ⟨r1, true, T_api_Bitmap, [.int .i64 0, .int .i64 0, .slice none 0 0]⟩] ++ (refD A e0 bp bc s ++ Y) := ⟨_, rfl⟩
  have hPd : ∀ ws s, P ws s = [⟨r11, true, T_api_Bitmap, [.int .i64 (W : Nat), .int .i64 (X : Nat), .slice (at0 q) N N]⟩, ⟨q, true, T_uint64, u64s ws ++ []⟩, ⟨rp, true, T_int, plcI (plcs (spanL t))⟩, ⟨r1, true, T_api_Bitmap, [.int .i64 0, .int .i64 0, .slice none 0 0]⟩] ++ (refD A e0 bp bc s ++ Y) := fun ws s => by rw [hP]
  have H : Hp h0 [] h (P (List.replicate N 0) s0) := by rw [hPd]; exact H.as (by simp)
  have hplr : ∀ {h : Heap} {ws : List Nat} {s : Dec}, Hp h0 [] h (P ws s) → rdO h (at0 rp) (2 * (plcs (spanL t)).length * 1) (plcI (plcs (spanL t))) := fun H => by
    rw [hPd] at H
    have hpl : (plcI (plcs (spanL t))).length = 2 * (plcs (spanL t)).length * 1 := by
      generalize plcs (spanL t) = P
      induction P with
      | nil => rfl
      | cons p P ih =>
        show (_ :: _ :: plcI P).length = _
        simp only [List.length_cons, ih]
        omega
    have := rdO_hp H 2 (b := rp) (o := 0) (n := 2 * (plcs (spanL t)).length * 1) (w := true) (t := T_int) (cs := plcI (plcs (spanL t))) rfl (by omega)
    rw [List.drop_zero, List.take_of_length_le (by omega)] at this
    exact this
  -- one bit out of the decoder
  have gbit : ∀ {h : Heap} {ws : List Nat} {s : Dec} {n : Nat} {ctx : Int} {K1 : Value → Heap → Prop} {Kp1 : List PanicEntry → Heap → Prop}, Hp h0 [] h (P ws s) → Go.Ar.DecOk bytes m n s → n < 16777216 →
      (∀ h', Go.Ar.DecOk bytes m (n + 1) (Go.Ar.getD s (idx ctx m)).1 → Hp h0 [] h' (P ws (Go.Ar.getD s (idx ctx m)).1) → K1 (.tuple #[.int .i64 ((decide ((Go.Ar.getD s (idx ctx m)).2 = 1)).toNat : Nat), .int .i64 0]) h') →
      CP F_burinref4_Decoder_Get #[.pointer (at0 A.p), .int .i64 ctx] h K1 Kp1 := fun {h ws s n ctx K1 Kp1} H hok hn hk1 => by
    rw [hPd] at H
    refine Go.Ar.rget_ok (H.give [4, 5, 6, 7, 8] (by decide) rfl) (by rw [hok.b]; exact hb) hok.wf (by rw [hok.b]; exact hbl) (by rw [hok.n]; exact hn) (by rw [hok.len]; exact hm1) (by rw [hok.len]; exact hm2) fun h' H' => ?_
    replace H := H.put [4, 5, 6, 7, 8] (by decide) rfl (by simp [refD, Go.Ar.sideL, hb']) H' (by simp [refD, Go.Ar.sideL, hb']) rfl
    rw [hok.len] at H ⊢
    rw [getD_nat]
    exact hk1 h' (getD_ok hok _ hn) (by rw [hPd]; exact H)
  -- a pixel into the bitmap
  have gput : ∀ {h : Heap} {ws : List Nat} {s : Dec} {a b : Nat} {bit : Bool} {K1 : Value → Heap → Prop} {Kp1 : List PanicEntry → Heap → Prop}, Hp h0 [] h (P ws s) → ws.length = N → W64 ws → PadZ W X ws → a < W → b < X →
      (∀ R h', R.length = N → W64 R → PadZ W X R → getP R W X = upd (getP ws W X) (a : Int) (b : Int) bit → Hp h0 [] h' (P R s) → K1 (.tuple #[]) h') →
      CP F_burinref0_Put #[.agg #[.int .i64 (W : Nat), .int .i64 (X : Nat), .slice (at0 q) N N], .int .i64 (a : Nat), .int .i64 (b : Nat), .int .i64 (bit.toNat : Nat)] h K1 Kp1 := fun {h ws s a b bit K1 Kp1} H hl hw hz ha hb hk1 => by
    rw [hPd] at H
    rw [← hl]
    refine put_ok (ws := ws) H 1 rfl hw hs (by rw [hl, hNd]) ha hb fun R h' k1 k2 k3 H' => ?_
    exact hk1 R h' (by rw [k1, hl]) k2 (hz.set ha k3) (getP_set ha hb k3) (by rw [hPd]; exact H')
  have gload : ∀ {h : Heap} {ws : List Nat} {s : Dec}, Hp h0 [] h (P ws s) → Hp h0 [] h ([⟨r11, true, T_api_Bitmap, [.int .i64 (W : Nat), .int .i64 (X : Nat), .slice (at0 q) N N]⟩, ⟨q, true, T_uint64, u64s ws ++ []⟩, ⟨rp, true, T_int, plcI (plcs (spanL t))⟩, ⟨r1, true, T_api_Bitmap, [.int .i64 0, .int .i64 0, .slice none 0 0]⟩] ++ (refD A e0 bp bc s ++ Y)) := fun H => by rw [hPd] at H; exact H
  refine ⟨fun n vs h' => ∃ (y : Nat) (ws : List Nat) (s : Dec) (k : Nat), y + n = X ∧ vs = [.int .i64 (y : Nat)] ∧ runG W t skip (stepG m base) y (fun _ _ => false, s0) = .inl (getP ws W X, s) ∧ ws.length = N ∧ W64 ws ∧ PadZ W X ws ∧ (∀ a b : Int, (y : Int) ≤ b → getP ws W X a b = false) ∧ k ≤ y * (W + 1) ∧ Go.Ar.DecOk bytes m (n0 + k) s ∧ Hp h0 [] h' (P ws s),
    ⟨X, 0, List.replicate N 0, s0, 0, by omega, rfl, by rw [getP_zero]; rfl, by simp, W64.zero _, fun y hy x h1 h2 => pix_zero _ _ _ _, fun a b _ => by rw [getP_zero], by omega, hc, H⟩, ?_⟩
  clear H
  rintro n h u xx ⟨y, ws, s, k, hyn, hxx, hrun, hwl, hww, hwz, hzr, hky, hok, H⟩
  injection hxx with hxx
  injection hxx with _ hxx
  subst hxx
  refine bcase_dec (fun h1 => ?_) fun h1 => ?_
  · have hy : y < X := by omega
    have hkX : (y + 1) * (W + 1) ≤ X * (W + 1) := Nat.mul_le_mul_right _ (by omega)
    rw [Nat.add_mul, Nat.one_mul] at hkX
    have hnext := runG_next hrun
    refine ⟨fun _ h' => ∃ s1 k1, runG W t skip (stepG m base) (y + 1) (fun _ _ => false, s0) = rowG t (stepG m base) y W (getP ws W X, s1) ∧ k1 ≤ y * (W + 1) + 1 ∧ Go.Ar.DecOk bytes m (n0 + k1) s1 ∧ Hp h0 [] h' (P ws s1), ?_, ?_⟩
    · cases skip with
      | false =>
        refine bcase_false rfl ?_
        exact ⟨s, k, hnext, by omega, hok, H⟩
      | true =>
        refine bcase_true rfl ?_
        refine need7_ok ht fun h' e => ?_
        have H := H.ext e
        clear e
        refine ⟨_, rfl, ?_⟩
        refine bindI_of ((base + ((gsize t + 1 : Nat) : Int))) (by exact i64_in _ (by omega) (by omega)) ?_
        refine bindI_of ((base + ((gsize t : Nat) : Int))) (by exact i64_at _ _ (by omega) (by omega) (by omega)) ?_
        refine gbit H hok (by omega) fun h' hok2 H => ?_
        refine ⟨_, _, rfl, ?_⟩
        refine bcase_false (by rfl) ?_
        simp only [stepG] at hnext
        generalize (Go.Ar.getD s (idx (base + ((gsize t : Nat) : Int)) m)).1 = s1 at hnext hok2 H
        generalize decide ((Go.Ar.getD s (idx (base + ((gsize t : Nat) : Int)) m)).2 = 1) = bit at hnext ⊢
        cases bit with
        | true =>
          simp only at hnext
          refine bcase_eq (fun _ => ?_) fun h5 => absurd rfl h5
          obtain ⟨G0, hG0⟩ : ∃ G0, G0 = getP ws W X := ⟨_, rfl⟩
          refine ⟨fun n vs h' => ∃ (x : Nat) (R : List Nat), x + n = W ∧ vs = [.int .i64 (x : Nat)] ∧ R.length = N ∧ W64 R ∧ PadZ W X R ∧ (getP R W X = fun a b => if b = (y : Int) ∧ 0 ≤ a ∧ a < (x : Int) then G0 a ((y : Int) - 1) else G0 a b) ∧ Hp h0 [] h' (P R s1),
            ⟨W, 0, ws, by omega, rfl, hwl, hww, hwz, by funext a b; rw [if_neg (by omega), hG0], H⟩, ?_⟩
          clear H
          rintro n2 h u xx ⟨x, R, hxn, hxx, hRl, hRw, hRz, hRG, H⟩
          injection hxx with hxx
          injection hxx with _ hxx
          subst hxx
          refine bcase_dec (fun h2 => ?_) fun h2 => ?_
          · have hx : x < W := by omega
            refine bindI_of (((y : Int) - 1)) (by exact i64_in _ (by omega) (by omega)) ?_
            have H0 := gload H
            refine ldI_of (hpA H0 0 rfl rfl) (ldI_of (hpA H0 0 rfl rfl) (ldS_of (hpA H0 0 rfl rfl) (ldI_of (hpA H0 0 rfl rfl) (ldI_of (hpA H0 0 rfl rfl) (ldS_of (hpA H0 0 rfl rfl) ?_)))))
            have hRN : N = R.length := hRl.symm
            have getR : ∀ {K1 : Value → Heap → Prop} {Kp1 : List PanicEntry → Heap → Prop}, (∀ h', hext h h' → K1 (.int .i64 ((getP R W X (x : Nat) ((y : Int) - 1)).toNat : Nat)) h') → CP F_burinref0_Get #[.agg #[.int .i64 (W : Nat), .int .i64 (X : Nat), .slice (at0 q) N N], .int .i64 (x : Nat), .int .i64 ((y : Int) - 1)] h K1 Kp1 := fun hk1 => by
              rw [hRN]
              exact get_ok (row_rdO H0 1 rfl) hRw hs (by rw [hRl, hNd]) hk1
            refine getR fun h' e => ?_
            have H := H.ext e
            refine ⟨_, rfl, e, ?_⟩
            refine gput H hRl hRw hRz hx hy fun R2 h' k1 k2 k3 k4 H => ?_
            refine bindI_of (((x + 1 : Nat) : Int)) (by exact i64_at _ _ (by omega) (by omega) (by omega)) ?_
            refine ⟨n2 - 1, by omega, x + 1, R2, by omega, rfl, k1, k2, k3, ?_, H⟩
            rw [k4]
            funext a b
            unfold upd
            by_cases hc : a = (x : Int) ∧ b = (y : Int)
            · rw [if_pos hc, if_pos (by omega), hRG]
              simp only
              rw [if_neg (by omega), hc.1]
            · rw [if_neg hc, hRG]
              simp only
              by_cases hd : b = (y : Int) ∧ 0 ≤ a ∧ a < (x : Int)
              · rw [if_pos hd, if_pos (by omega)]
              · rw [if_neg hd, if_neg (by omega)]
          · obtain rfl : W = x := by omega
            have hcopy : getP R W X = copyRow (getP ws W X) y := by
              rw [hRG, ← hG0]
              funext a b
              unfold copyRow
              by_cases hin : 0 ≤ a ∧ a < (W : Int)
              · by_cases hb : b = (y : Int)
                · rw [if_pos ⟨hb, hin⟩]
                  by_cases hy0 : y = 0
                  · rw [if_neg (fun hh => hh.2 hy0), hG0, hzr a b (by omega)]
                    unfold getP
                    rw [decide_eq_false (by omega), Bool.false_and]
                  · rw [if_pos ⟨hb, hy0⟩]
                · rw [if_neg (fun hh => hb hh.1), if_neg (fun hh => hb hh.1)]
              · have e : ∀ b, G0 a b = false := fun b => by rw [hG0]; exact getP_side ws W X a b hin
                rw [e, e]
                simp
            rw [← hcopy] at hnext
            refine bindI_of (((y + 1 : Nat) : Int)) (by exact i64_at _ _ (by omega) (by omega) (by omega)) ?_
            refine ⟨n - 1, by omega, y + 1, R, s1, k + 1, by omega, rfl, hnext, hRl, hRw, hRz, fun a b hb => ?_, by rw [Nat.add_mul, Nat.one_mul]; omega, hok2, H⟩
            rw [hRG]
            simp only
            rw [if_neg (by omega), hG0, hzr a b (by omega)]
        | false =>
          simp only at hnext
          refine bcase_eq (fun h5 => absurd h5 (by decide)) fun h5 => ?_
          exact ⟨s1, k + 1, hnext, by omega, hok2, H⟩
    · clear H hok hnext
      rintro h u ⟨s1, k1, hnext, hk1, hok1, H⟩
      refine ⟨fun n vs h' => ∃ (x : Nat) (R : List Nat) (s : Dec), x + n = W ∧ vs = [.int .i64 (x : Nat)] ∧ rowG t (stepG m base) y x (getP ws W X, s1) = .inl (getP R W X, s) ∧ R.length = N ∧ W64 R ∧ PadZ W X R ∧ (∀ a b : Int, (y + 1 : Nat) ≤ b → getP R W X a b = false) ∧ Go.Ar.DecOk bytes m (n0 + k1 + x) s ∧ Hp h0 [] h' (P R s),
        ⟨W, 0, ws, s1, by omega, rfl, rfl, hwl, hww, hwz, fun a b hb => hzr a b (by omega), hok1, H⟩, ?_⟩
      clear H hok1
      rintro n2 h u xx ⟨x, R, s2, hxn, hxx, hrow, hRl, hRw, hRz, hRr, hok, H⟩
      injection hxx with hxx
      injection hxx with _ hxx
      subst hxx
      refine bcase_dec (fun h2 => ?_) fun h2 => ?_
      · have hx : x < W := by omega
        have H0 := gload H
        refine ldI_of (hpA H0 0 rfl rfl) (ldI_of (hpA H0 0 rfl rfl) (ldS_of (hpA H0 0 rfl rfl) ?_))
        have hRN : N = R.length := hRl.symm
        have atR : ∀ {K1 : Value → Heap → Prop} {Kp1 : List PanicEntry → Heap → Prop}, (∀ h', hext h h' → K1 (.int .i64 (gctx t (getP R W X) x y : Nat)) h') → CP F_burinref6_At #[.agg #[.int .i64 (W : Nat), .int .i64 (X : Nat), .slice (at0 q) N N], .slice (at0 rp) (2 * (plcs (spanL t)).length) (2 * (plcs (spanL t)).length), .int .i64 (x : Nat), .int .i64 (y : Nat)] h K1 Kp1 := fun hk1 => by
          rw [hRN]
          exact at6_ok ht (row_rdO H0 1 rfl) hRw hs (by rw [hRl, hNd]) (hplr H) hx hy hk1
        refine atR fun h' e => ?_
        have H := H.ext e
        clear e
        refine ⟨_, rfl, ?_⟩
        have hcl := gctx_lt t (getP R W X) (x : Nat) (y : Nat)
        have hstep : rowG t (stepG m base) y (x + 1) (getP ws W X, s1) = .inl (upd (getP R W X) (x : Int) (y : Int) (decide ((Go.Ar.getD s2 (idx (base + ((gctx t (getP R W X) (x : Nat) (y : Nat) : Nat) : Int)) m)).2 = 1)), (Go.Ar.getD s2 (idx (base + ((gctx t (getP R W X) (x : Nat) (y : Nat) : Nat) : Int)) m)).1) := by
          rw [rowG, hrow]
          simp only [stepG]
        generalize gctx t (getP R W X) (x : Nat) (y : Nat) = cx at hcl hstep ⊢
        refine bindI_of ((base + (cx : Int))) (by exact i64_in _ (by omega) (by omega)) ?_
        refine gbit H hok (by omega) fun h' hok2 H => ?_
        refine ⟨_, _, rfl, ?_⟩
        refine bcase_false (by rfl) ?_
        have H0 := gload H
        refine ldI_of (hpA H0 0 rfl rfl) (ldI_of (hpA H0 0 rfl rfl) (ldS_of (hpA H0 0 rfl rfl) ?_))
        refine gput H hRl hRw hRz hx hy fun R2 h' k1 k2 k3 k4 H => ?_
        refine bindI_of (((x + 1 : Nat) : Int)) (by exact i64_at _ _ (by omega) (by omega) (by omega)) ?_
        refine ⟨n2 - 1, by omega, x + 1, R2, _, by omega, rfl, by rw [k4]; exact hstep, k1, k2, k3, fun a b hb => ?_, hok2, H⟩
        rw [k4]
        unfold upd
        rw [if_neg (by omega)]
        exact hRr a b hb
      · obtain rfl : W = x := by omega
        rw [hrow] at hnext
        refine bindI_of (((y + 1 : Nat) : Int)) (by exact i64_at _ _ (by omega) (by omega) (by omega)) ?_
        exact ⟨n - 1, by omega, y + 1, R, s2, k1 + W, by omega, rfl, hnext, hRl, hRw, hRz, hRr, by rw [Nat.add_mul, Nat.one_mul]; omega, by rw [← Nat.add_assoc]; exact hok, H⟩
  · obtain rfl : X = y := by omega
    have H := gload H
    repeat first | with_reducible refine ldI_of (by with_unfolding_all first | exact hpA H 0 rfl rfl | exact Hp.cell H 0 rfl rfl | exact hpB H 0 rfl rfl | exact hpC H 0 rfl rfl) ?_ | with_reducible refine ldS_of (by with_unfolding_all first | exact hpA H 0 rfl rfl | exact Hp.cell H 0 rfl rfl | exact hpB H 0 rfl rfl | exact hpC H 0 rfl rfl) ?_ | with_reducible refine ldP_of (by with_unfolding_all first | exact hpA H 0 rfl rfl | exact Hp.cell H 0 rfl rfl | exact hpB H 0 rfl rfl | exact hpC H 0 rfl rfl) ?_ | with_reducible refine ldB_of (by with_unfolding_all first | exact hpA H 0 rfl rfl | exact Hp.cell H 0 rfl rfl | exact hpB H 0 rfl rfl | exact hpC H 0 rfl rfl) ?_ | with_reducible refine ldT_of (by with_unfolding_all first | exact hpA H 0 rfl rfl | exact Hp.cell H 0 rfl rfl | exact hpB H 0 rfl rfl | exact hpC H 0 rfl rfl) ?_
    repeat first | with_reducible refine stA H 3 (by with_unfolding_all exact rfl) (by with_unfolding_all exact rfl) (by with_unfolding_all exact rfl) fun h H => ?_ | with_reducible refine st0 H 3 (by with_unfolding_all exact rfl) (by with_unfolding_all exact rfl) (by with_unfolding_all exact rfl) fun h H => ?_ | with_reducible refine stB H 3 (by with_unfolding_all exact rfl) (by with_unfolding_all exact rfl) (by with_unfolding_all exact rfl) fun h H => ?_
    repeat first | with_reducible refine ldI_of (by with_unfolding_all first | exact hpA H 3 rfl rfl | exact Hp.cell H 3 rfl rfl | exact hpB H 3 rfl rfl | exact hpC H 3 rfl rfl) ?_ | with_reducible refine ldS_of (by with_unfolding_all first | exact hpA H 3 rfl rfl | exact Hp.cell H 3 rfl rfl | exact hpB H 3 rfl rfl | exact hpC H 3 rfl rfl) ?_ | with_reducible refine ldP_of (by with_unfolding_all first | exact hpA H 3 rfl rfl | exact Hp.cell H 3 rfl rfl | exact hpB H 3 rfl rfl | exact hpC H 3 rfl rfl) ?_ | with_reducible refine ldB_of (by with_unfolding_all first | exact hpA H 3 rfl rfl | exact Hp.cell H 3 rfl rfl | exact hpB H 3 rfl rfl | exact hpC H 3 rfl rfl) ?_ | with_reducible refine ldT_of (by with_unfolding_all first | exact hpA H 3 rfl rfl | exact Hp.cell H 3 rfl rfl | exact hpB H 3 rfl rfl | exact hpC H 3 rfl rfl) ?_
    have hRN : N = ws.length := hwl.symm
    have H : Hp h0 [] h (([⟨r11, true, T_api_Bitmap, [.int .i64 (W : Nat), .int .i64 (X : Nat), .slice (at0 q) N N]⟩, ⟨q, true, T_uint64, u64s ws ++ []⟩, ⟨rp, true, T_int, plcI (plcs (spanL t))⟩, ⟨r1, true, T_api_Bitmap, [.int .i64 (W : Nat), .int .i64 (X : Nat), .slice (at0 q) N N]⟩] ++ (refD A e0 bp bc s ++ Y))) := H
    rw [hRN]
    refine hk ws s k q h hrun (by rw [hwl, hNd]) hww hwz hky hok ?_
    have H1 : Hp h0 [] h ([⟨q, true, T_uint64, u64s ws ++ []⟩] ++ (refD A e0 bp bc s ++ Y)) := H.sub (List.Sublist.append (by simp) (List.Sublist.refl _))
    exact H1.rot
end Go.Bm

/- GnI: burinref7.Encode and Decode; the answers are one. -/
set_option linter.unusedVariables false
set_option linter.unusedSimpArgs false
namespace Go.Bm
open Go Go.Den Go.Den.Yteakipgcanafoaa
open Go.Ar (Cod CodOk Dec codL decL BOk idx putM_ok getD_ok getD_bit newC newC_ok newD newD_ok flushM bytesM u8s refL refD RP)

section
variable {hB : Heap} {w b template : Int} {skip : Bool} {K : Value → Heap → Prop} {Kp : List PanicEntry → Heap → Prop}
set_option maxRecDepth 100000 in
set_option maxHeartbeats 2000000 in
theorem rEnc7_ok {q1 : Option Addr} {c1 : Nat} {ws : List Nat} (hr1 : rdO hB q1 (ws.length * 1) (u64s ws)) (hw1 : W64 ws) (hl1 : ws.length < 140737488351300)
    (hk : ∀ e bs D qo c h', GEncR w b ws template skip e bs → Slot T_uint8 1 D qo bs.length c (u8s bs) → Hp hB [] h' D → K (.tuple #[.slice qo bs.length c, .int .i64 e]) h') :
    CP F_burinref7_Encode #[.agg #[.int .i64 w, .int .i64 b, .slice q1 ws.length c1], .int .i64 template, .bool skip] hB K Kp := by
  refine call_burinref7_Encode ?_
  unfold burinref7_Encode
  have H := Hp.nil hB []
  refine newC_hp H fun r4 h H => ?_
  refine may6_ok fun bt hbt => ?_
  refine ⟨_, rfl, ?_⟩
  refine bcase_not (fun h2 => ?_) fun h2 => ?_
  · exact hk 60 [] [] none 0 _ (.inl ⟨(fun hh => by rw [hbt.2 hh] at h2; cases h2), rfl, rfl⟩) (Slot.nil _ _) (H.take 0)
  have htt := hbt.1 h2
  obtain ⟨t, rfl⟩ : ∃ t : Nat, template = (t : Int) := ⟨template.toNat, by omega⟩
  have ht : t < 4 := by omega
  have hgs := gsize_le ht
  repeat first | with_reducible refine ldI_of (by with_unfolding_all first | exact hpA H 0 rfl rfl | exact Hp.cell H 0 rfl rfl | exact hpB H 0 rfl rfl | exact hpC H 0 rfl rfl) ?_ | with_reducible refine ldS_of (by with_unfolding_all first | exact hpA H 0 rfl rfl | exact Hp.cell H 0 rfl rfl | exact hpB H 0 rfl rfl | exact hpC H 0 rfl rfl) ?_ | with_reducible refine ldP_of (by with_unfolding_all first | exact hpA H 0 rfl rfl | exact Hp.cell H 0 rfl rfl | exact hpB H 0 rfl rfl | exact hpC H 0 rfl rfl) ?_ | with_reducible refine ldB_of (by with_unfolding_all first | exact hpA H 0 rfl rfl | exact Hp.cell H 0 rfl rfl | exact hpB H 0 rfl rfl | exact hpC H 0 rfl rfl) ?_ | with_reducible refine ldT_of (by with_unfolding_all first | exact hpA H 0 rfl rfl | exact Hp.cell H 0 rfl rfl | exact hpB H 0 rfl rfl | exact hpC H 0 rfl rfl) ?_
  refine may_ok (H.rdO hr1) hw1 hl1 fun bm h1 hbm e1 => ?_
  have H := H.ext e1
  refine ⟨_, rfl, ?_⟩
  refine bcase_not (fun h2 => ?_) fun h2 => ?_
  · exact hk 62 [] [] none 0 _ (.inr (.inl ⟨htt, (fun hh => by rw [hbm.2 hh] at h2; cases h2), rfl, rfl⟩)) (Slot.nil _ _) (H.take 0)
  have hma := hbm.1 h2
  refine need7_ok ht fun h' e => ?_
  have H := H.ext e
  clear e
  refine ⟨_, rfl, ?_⟩
  refine Go.Ar.rnew_ok (n := gsize t + 1) (by omega) fun A r h H' => ?_
  replace H := H.join H' rfl
  clear H'
  refine ⟨_, rfl, ?_⟩
  have hpx := size_px1 hma.1
  obtain ⟨W, X, rfl, rfl, hW1, hW2, hX1, hX2, hWX⟩ := size_nat hma.1
  repeat first | with_reducible refine ldI_of (by with_unfolding_all first | exact hpA H 0 rfl rfl | exact Hp.cell H 0 rfl rfl | exact hpB H 0 rfl rfl | exact hpC H 0 rfl rfl) ?_ | with_reducible refine ldS_of (by with_unfolding_all first | exact hpA H 0 rfl rfl | exact Hp.cell H 0 rfl rfl | exact hpB H 0 rfl rfl | exact hpC H 0 rfl rfl) ?_ | with_reducible refine ldP_of (by with_unfolding_all first | exact hpA H 0 rfl rfl | exact Hp.cell H 0 rfl rfl | exact hpB H 0 rfl rfl | exact hpC H 0 rfl rfl) ?_ | with_reducible refine ldB_of (by with_unfolding_all first | exact hpA H 0 rfl rfl | exact Hp.cell H 0 rfl rfl | exact hpB H 0 rfl rfl | exact hpC H 0 rfl rfl) ?_ | with_reducible refine ldT_of (by with_unfolding_all first | exact hpA H 0 rfl rfl | exact Hp.cell H 0 rfl rfl | exact hpB H 0 rfl rfl | exact hpC H 0 rfl rfl) ?_
  simp only [Int.toNat_natCast] at hpx
  refine rPut7_ok (base := 0) (n0 := 0) (m := gsize t + 1) (Hp.rot H) (newC_ok _) (by omega) (by omega) (by decide) ht hr1 hw1 hma hpx fun s' k r' rest' h' hrun hkk hok H => ?_
  rw [Nat.zero_add] at hok
  refine ⟨_, rfl, ?_⟩
  refine bcase_false (by rfl) ?_
  refine Go.Ar.rflush_ok (H.give [0, 1, 2, 3, 4] (by decide) rfl) hok.wf hok.done fun r3 rest3 o orest h' H' => ?_
  have H := Go.Bm.Hp.backD H [0, 1, 2, 3, 4] (by decide) rfl rfl H' rfl rfl rfl
  clear H'
  refine ⟨_, _, _, _, rfl, ?_⟩
  refine hk 0 _ [⟨o, true, T_uint8, u8s (bytesM (flushM s')) ++ orest⟩] _ _ h' (.inr (.inr ⟨htt, hma, rfl, _, s', k, by simpa using hrun, by simpa using hkk, by simpa using hok, rfl⟩)) (Slot.one (by rw [Go.Ar.u8s_length, Nat.mul_one]) (by rw [List.length_append, Go.Ar.u8s_length, Nat.mul_one])) (Hp.suf H)

set_option maxRecDepth 100000 in
set_option maxHeartbeats 2000000 in
theorem rDec7_ok {src : Option Addr} {bc0 : Nat} {bytes : List Nat} (hbb : ∀ x ∈ bytes, x < 256) (hbl : bytes.length < 140737488351300) (hr : rdO hB src (bytes.length * 1) (u8s bytes))
    (hk : ∀ e w' b' bs s' D qo c h', GGetR bytes (gsize template.toNat + 1) 0 0 w b template skip (newD bytes (gsize template.toNat + 1)) e w' b' bs s' → Slot T_uint64 1 D qo bs.length c (u64s bs) → Hp hB [] h' D → K (.tuple #[.agg #[.int .i64 w', .int .i64 b', .slice qo bs.length c], .int .i64 e]) h') :
    CP F_burinref7_Decode #[.slice src bytes.length bc0, .int .i64 w, .int .i64 b, .int .i64 template, .bool skip] hB K Kp := by
  refine call_burinref7_Decode ?_
  unfold burinref7_Decode
  have H := Hp.nil hB []
  refine newC_hp H fun r1 h H => ?_
  refine may6_ok fun bt hbt => ?_
  refine ⟨_, rfl, ?_⟩
  refine bcase_not (fun h2 => ?_) fun h2 => ?_
  · repeat first | with_reducible refine ldI_of (by with_unfolding_all first | exact hpA H 0 rfl rfl | exact Hp.cell H 0 rfl rfl | exact hpB H 0 rfl rfl | exact hpC H 0 rfl rfl) ?_ | with_reducible refine ldS_of (by with_unfolding_all first | exact hpA H 0 rfl rfl | exact Hp.cell H 0 rfl rfl | exact hpB H 0 rfl rfl | exact hpC H 0 rfl rfl) ?_ | with_reducible refine ldP_of (by with_unfolding_all first | exact hpA H 0 rfl rfl | exact Hp.cell H 0 rfl rfl | exact hpB H 0 rfl rfl | exact hpC H 0 rfl rfl) ?_ | with_reducible refine ldB_of (by with_unfolding_all first | exact hpA H 0 rfl rfl | exact Hp.cell H 0 rfl rfl | exact hpB H 0 rfl rfl | exact hpC H 0 rfl rfl) ?_ | with_reducible refine ldT_of (by with_unfolding_all first | exact hpA H 0 rfl rfl | exact Hp.cell H 0 rfl rfl | exact hpB H 0 rfl rfl | exact hpC H 0 rfl rfl) ?_ | with_reducible refine stA H 0 (by with_unfolding_all exact rfl) (by with_unfolding_all exact rfl) (by with_unfolding_all exact rfl) fun h H => ?_ | with_reducible refine st0 H 0 (by with_unfolding_all exact rfl) (by with_unfolding_all exact rfl) (by with_unfolding_all exact rfl) fun h H => ?_ | with_reducible refine stB H 0 (by with_unfolding_all exact rfl) (by with_unfolding_all exact rfl) (by with_unfolding_all exact rfl) fun h H => ?_
    exact hk 60 0 0 [] _ [] none 0 _ (.inl ⟨(fun hh => by rw [hbt.2 hh] at h2; cases h2), rfl, rfl, rfl, rfl, rfl⟩) (Slot.nil _ _) (H.take 0)
  have htt := hbt.1 h2
  obtain ⟨t, rfl⟩ : ∃ t : Nat, template = (t : Int) := ⟨template.toNat, by omega⟩
  have ht : t < 4 := by omega
  have hgs := gsize_le ht
  simp only [Int.toNat_natCast] at hk
  refine rsize_ok fun bs hbs => ?_
  refine ⟨_, rfl, ?_⟩
  refine bcase_not (fun h3 => ?_) fun h3 => ?_
  · repeat first | with_reducible refine ldI_of (by with_unfolding_all first | exact hpA H 0 rfl rfl | exact Hp.cell H 0 rfl rfl | exact hpB H 0 rfl rfl | exact hpC H 0 rfl rfl) ?_ | with_reducible refine ldS_of (by with_unfolding_all first | exact hpA H 0 rfl rfl | exact Hp.cell H 0 rfl rfl | exact hpB H 0 rfl rfl | exact hpC H 0 rfl rfl) ?_ | with_reducible refine ldP_of (by with_unfolding_all first | exact hpA H 0 rfl rfl | exact Hp.cell H 0 rfl rfl | exact hpB H 0 rfl rfl | exact hpC H 0 rfl rfl) ?_ | with_reducible refine ldB_of (by with_unfolding_all first | exact hpA H 0 rfl rfl | exact Hp.cell H 0 rfl rfl | exact hpB H 0 rfl rfl | exact hpC H 0 rfl rfl) ?_ | with_reducible refine ldT_of (by with_unfolding_all first | exact hpA H 0 rfl rfl | exact Hp.cell H 0 rfl rfl | exact hpB H 0 rfl rfl | exact hpC H 0 rfl rfl) ?_ | with_reducible refine stA H 0 (by with_unfolding_all exact rfl) (by with_unfolding_all exact rfl) (by with_unfolding_all exact rfl) fun h H => ?_ | with_reducible refine st0 H 0 (by with_unfolding_all exact rfl) (by with_unfolding_all exact rfl) (by with_unfolding_all exact rfl) fun h H => ?_ | with_reducible refine stB H 0 (by with_unfolding_all exact rfl) (by with_unfolding_all exact rfl) (by with_unfolding_all exact rfl) fun h H => ?_
    exact hk 63 0 0 [] _ [] none 0 _ (.inr (.inl ⟨htt, (fun hh => by rw [hbs.2 hh] at h3; cases h3), rfl, rfl, rfl, rfl, rfl⟩)) (Slot.nil _ _) (H.take 0)
  have hs := hbs.1 h3
  have hpx := size_px1 hs
  obtain ⟨W, X, rfl, rfl, hW1, hW2, hX1, hX2, hWX⟩ := size_nat hs
  simp only [Int.toNat_natCast] at hpx
  refine need7_ok ht fun h' e => ?_
  have H := H.ext e
  clear e
  refine ⟨_, rfl, ?_⟩
  refine Go.Ar.rnewD_ok (n := gsize t + 1) (by omega) hbb hbl (H.rdO hr) fun A eb bp bc h' hbo H' => ?_
  have hw5 := hbo.1
  replace H := H.join H' (by simp [refD, Go.Ar.sideL, hbo.1])
  clear H'
  refine ⟨_, rfl, ?_⟩
  refine rGet7_ok (base := 0) (n0 := 0) (m := gsize t + 1) H.rot hbo hbl (newD_ok hbb _) (by omega) (by omega) (by decide) ht hs hpx fun bs s' k q h' hrun hlen hww hwz hkk hok H => ?_
  refine ⟨_, _, _, _, _, _, rfl, ?_⟩
  have H : Hp hB [] h' ([] ++ refD A eb bp bc s' ++ ([⟨r1, true, T_api_Bitmap, [.int .i64 0, .int .i64 0, .slice none 0 0]⟩, ⟨q, true, T_uint64, u64s bs ++ []⟩])) := H.as (by simp)
  have H := Hp.suf H
  repeat first | with_reducible refine ldI_of (by with_unfolding_all first | exact hpA H 0 rfl rfl | exact hpA H 1 rfl rfl | exact Hp.cell H 0 rfl rfl | exact Hp.cell H 1 rfl rfl | exact hpB H 0 rfl rfl | exact hpB H 1 rfl rfl | exact hpC H 0 rfl rfl | exact hpC H 1 rfl rfl) ?_ | with_reducible refine ldS_of (by with_unfolding_all first | exact hpA H 0 rfl rfl | exact hpA H 1 rfl rfl | exact Hp.cell H 0 rfl rfl | exact Hp.cell H 1 rfl rfl | exact hpB H 0 rfl rfl | exact hpB H 1 rfl rfl | exact hpC H 0 rfl rfl | exact hpC H 1 rfl rfl) ?_ | with_reducible refine ldP_of (by with_unfolding_all first | exact hpA H 0 rfl rfl | exact hpA H 1 rfl rfl | exact Hp.cell H 0 rfl rfl | exact Hp.cell H 1 rfl rfl | exact hpB H 0 rfl rfl | exact hpB H 1 rfl rfl | exact hpC H 0 rfl rfl | exact hpC H 1 rfl rfl) ?_ | with_reducible refine ldB_of (by with_unfolding_all first | exact hpA H 0 rfl rfl | exact hpA H 1 rfl rfl | exact Hp.cell H 0 rfl rfl | exact Hp.cell H 1 rfl rfl | exact hpB H 0 rfl rfl | exact hpB H 1 rfl rfl | exact hpC H 0 rfl rfl | exact hpC H 1 rfl rfl) ?_ | with_reducible refine ldT_of (by with_unfolding_all first | exact hpA H 0 rfl rfl | exact hpA H 1 rfl rfl | exact Hp.cell H 0 rfl rfl | exact Hp.cell H 1 rfl rfl | exact hpB H 0 rfl rfl | exact hpB H 1 rfl rfl | exact hpC H 0 rfl rfl | exact hpC H 1 rfl rfl) ?_ | with_reducible refine stA H 0 (by with_unfolding_all exact rfl) (by with_unfolding_all exact rfl) (by with_unfolding_all exact rfl) fun h H => ?_ | with_reducible refine stA H 1 (by with_unfolding_all exact rfl) (by with_unfolding_all exact rfl) (by with_unfolding_all exact rfl) fun h H => ?_ | with_reducible refine st0 H 0 (by with_unfolding_all exact rfl) (by with_unfolding_all exact rfl) (by with_unfolding_all exact rfl) fun h H => ?_ | with_reducible refine st0 H 1 (by with_unfolding_all exact rfl) (by with_unfolding_all exact rfl) (by with_unfolding_all exact rfl) fun h H => ?_ | with_reducible refine stB H 0 (by with_unfolding_all exact rfl) (by with_unfolding_all exact rfl) (by with_unfolding_all exact rfl) fun h H => ?_ | with_reducible refine stB H 1 (by with_unfolding_all exact rfl) (by with_unfolding_all exact rfl) (by with_unfolding_all exact rfl) fun h H => ?_
  have H : Hp hB [] h ([⟨r1, true, T_api_Bitmap, [.int .i64 (W : Nat), .int .i64 (X : Nat), .slice (at0 q) bs.length bs.length]⟩] ++ [⟨q, true, T_uint64, u64s bs ++ []⟩]) := H
  refine hk 0 _ _ bs s' [⟨q, true, T_uint64, u64s bs ++ []⟩] _ _ h (.inr (.inr (.inr ⟨htt, hs, ⟨by omega, by simp only [Int.toNat_natCast]; omega⟩, rfl, rfl, rfl, by simpa using hrun, by simpa using hlen, hww, by simpa using hwz, k, by simpa using hkk, by simpa using hok⟩))) (Slot.one (by rw [u64s_length, Nat.mul_one]) (by rw [List.length_append, u64s_length, Nat.mul_one]; simp)) (Hp.suf H)
end
theorem GEncR.det {w b template : Int} {skip : Bool} {ws : List Nat} {e1 e2 : Int} {bs1 bs2 : List Nat} (h1 : GEncR w b ws template skip e1 bs1) (h2 : GEncR w b ws template skip e2 bs2) : e1 = e2 ∧ bs1 = bs2 := by
  rcases h1 with ⟨a, b, c⟩ | ⟨a, s, b, c⟩ | ⟨a, s, b, G, s1, k, r, _, _, c⟩ <;> rcases h2 with ⟨a', b', c'⟩ | ⟨a', s', b', c'⟩ | ⟨a', s', b', G', s1', k', r', _, _, c'⟩
  · exact ⟨b.trans b'.symm, c.trans c'.symm⟩
  · exact absurd a' a
  · exact absurd a' a
  · exact absurd a a'
  · exact ⟨b.trans b'.symm, c.trans c'.symm⟩
  · exact absurd s' s
  · exact absurd a a'
  · exact absurd s s'
  · refine ⟨b.trans b'.symm, ?_⟩
    rw [r] at r'
    injection r' with r'
    injection r' with _ r'
    rw [c, c', r']
theorem GGetR.det {bytes : List Nat} {m n0 : Nat} {base w b template : Int} {skip : Bool} {s : Dec} {e1 a1 c1 e2 a2 c2 : Int} {bs1 bs2 : List Nat} {s1 s2 : Dec}
    (h1 : GGetR bytes m n0 base w b template skip s e1 a1 c1 bs1 s1) (h2 : GGetR bytes m n0 base w b template skip s e2 a2 c2 bs2 s2) : e1 = e2 ∧ a1 = a2 ∧ c1 = c2 ∧ bs1 = bs2 ∧ s1 = s2 := by
  rcases h1 with ⟨p, q1, q2, q3, q4, q5⟩ | ⟨p, p2, q1, q2, q3, q4, q5⟩ | ⟨p, p2, p3, q1, q2, q3, q4, q5⟩ | ⟨p, p2, p3, q1, q2, q3, q4, lx, wx, zx, dx'⟩ <;>
  rcases h2 with ⟨p', r1, r2, r3, r4, r5⟩ | ⟨p', p2', r1, r2, r3, r4, r5⟩ | ⟨p', p2', p3', r1, r2, r3, r4, r5⟩ | ⟨p', p2', p3', r1, r2, r3, r4, ly, wy, zy, dy'⟩ <;>
  first
    | contradiction
    | exact ⟨q1.trans r1.symm, q2.trans r2.symm, q3.trans r3.symm, q4.trans r4.symm, q5.trans r5.symm⟩
    | skip
  rw [q4] at r4
  injection r4 with r4
  injection r4 with r4 r5
  obtain ⟨W, X, rfl, rfl, _⟩ := size_nat p2
  simp only [Int.toNat_natCast] at r4 lx ly zx zy
  exact ⟨q1.trans r1.symm, q2.trans r2.symm, q3.trans r3.symm, getP_ext lx ly wx wy zx zy r4, r5⟩
end Go.Bm

/- GnJ: generic coding, plain law: what is coded is decoded as the same bitmap, row by row. -/
set_option linter.unusedVariables false
set_option linter.unusedSimpArgs false
namespace Go.Bm
open Go Go.Den Go.Den.Yteakipgcanafoaa
open Go.Ar (Cod Dec CodOk codN decN newC newC_ok newD idx bytesM flushM putM getD)

/-! ### decisions as a list -/
def kOf (L : List (Nat × Nat)) (i : Nat) : Nat := (L[i]?.getD (0, 0)).1
def bOf (L : List (Nat × Nat)) (i : Nat) : Nat := (L[i]?.getD (0, 0)).2
def cdL (m : Nat) (L : List (Nat × Nat)) : Cod := codN (kOf L) (bOf L) m L.length
theorem codN_cong {k b k' b' : Nat → Nat} {m : Nat} : ∀ {n : Nat}, (∀ j, j < n → k j = k' j ∧ b j = b' j) → codN k b m n = codN k' b' m n
  | 0, _ => rfl
  | n + 1, h => by
    have := codN_cong (m := m) (n := n) fun j hj => h j (by omega)
    unfold codN
    rw [this, (h n (by omega)).1, (h n (by omega)).2]
theorem cdL_snoc (m : Nat) (L : List (Nat × Nat)) (d : Nat × Nat) : cdL m (L ++ [d]) = putM (cdL m L) d.1 d.2 := by
  have e : codN (kOf (L ++ [d])) (bOf (L ++ [d])) m L.length = cdL m L := codN_cong fun j hj => by
    unfold kOf bOf
    rw [List.getElem?_append_left hj]
    exact ⟨rfl, rfl⟩
  unfold cdL at e ⊢
  rw [List.length_append, List.length_singleton, codN, e]
  unfold kOf bOf
  rw [List.getElem?_append_right (Nat.le_refl _), Nat.sub_self]
  rfl
theorem cdL_ok {m : Nat} {L : List (Nat × Nat)} (h : L.length ≤ 16777216) : CodOk m L.length (cdL m L) := by
  have key : ∀ i, i ≤ 16777216 → CodOk m i (codN (kOf L) (bOf L) m i) := by
    intro i
    induction i with
    | zero => exact fun _ => newC_ok m
    | succ i ih => exact fun hi => Go.Ar.putM_ok (ih (by omega)) _ _ (by omega)
  exact key _ h
theorem bOf_le {L : List (Nat × Nat)} (h : ∀ d ∈ L, d.2 ≤ 1) : ∀ i, i < L.length → bOf L i ≤ 1 := fun i hi => by
  unfold bOf
  rw [List.getElem?_eq_getElem hi]
  exact h _ (List.getElem_mem hi)
theorem kOf_at {L A B : List (Nat × Nat)} {d : Nat × Nat} (h : L = A ++ d :: B) : kOf L A.length = d.1 ∧ bOf L A.length = d.2 := by
  subst h
  unfold kOf bOf
  rw [List.getElem?_append_right (Nat.le_refl _), Nat.sub_self]
  exact ⟨rfl, rfl⟩
/-- The decoder's walk over the decisions. -/
structure Walk (L : List (Nat × Nat)) (D : Nat → Dec) : Prop where
  step : ∀ i, i < L.length → getD (D i) (kOf L i) = (D (i + 1), bOf L i)
theorem Walk.at {L A B : List (Nat × Nat)} {D : Nat → Dec} {d : Nat × Nat} (h : Walk L D) (e : L = A ++ d :: B) : getD (D A.length) d.1 = (D (A.length + 1), d.2) := by
  obtain ⟨h1, h2⟩ := kOf_at e
  have := h.step A.length (by rw [e]; simp)
  rw [h1, h2] at this
  exact this
theorem walk_of {m : Nat} {L : List (Nat × Nat)} (h1 : ∀ d ∈ L, d.2 ≤ 1) (hc : L.length ≤ 16777216) : Walk L (decN (kOf L) (bytesM (flushM (cdL m L))) m) := by
  refine ⟨fun i hi => Prod.ext rfl ?_⟩
  have hlt : ∀ x ∈ bytesM (flushM (cdL m L)), x < 256 := Go.Ar.flushM_lt (cdL_ok hc).wf
  exact Go.Ar.back_bit (kOf L) (bOf L) m L.length (bOf_le h1) hc hlt hi

/-! ### the decisions of a bitmap -/
section
variable (G : Int → Int → Bool) (W m t : Nat) (skip : Bool) (base : Int)
def dsRow (y k : Nat) : List (Nat × Nat) := (List.range k).map fun (x : Nat) => (idx (base + ((gctx t G (x : Int) (y : Int) : Nat) : Int)) m, (G (x : Int) (y : Int)).toNat)
def dsLine (y : Nat) : List (Nat × Nat) := match skip with
  | false => dsRow G m t base y W
  | true => (idx (base + ((gsize t : Nat) : Int)) m, (sameB G W y).toNat) :: (match sameB G W y with
    | true => []
    | false => dsRow G m t base y W)
def dsG : Nat → List (Nat × Nat)
  | 0 => []
  | y + 1 => dsG y ++ dsLine G W m t skip base y
theorem dsRow_succ (y k : Nat) : dsRow G m t base y (k + 1) = dsRow G m t base y k ++ [(idx (base + ((gctx t G (k : Int) (y : Int) : Nat) : Int)) m, (G (k : Int) (y : Int)).toNat)] := by
  unfold dsRow
  rw [List.range_succ, List.map_append]
  rfl
theorem dsRow_len (y k : Nat) : (dsRow G m t base y k).length = k := by simp [dsRow]
theorem dsLine_len (y : Nat) : (dsLine G W m t skip base y).length ≤ W + 1 := by
  unfold dsLine
  cases skip with
  | false =>
    simp only [dsRow_len]
    omega
  | true =>
    cases sameB G W y <;> simp [dsRow_len]
theorem dsG_len : ∀ y, (dsG G W m t skip base y).length ≤ y * (W + 1)
  | 0 => by simp [dsG]
  | y + 1 => by
    have h1 := dsG_len y
    have h2 := dsLine_len G W m t skip base y
    unfold dsG
    rw [List.length_append, Nat.add_mul, Nat.one_mul]
    omega
theorem dsRow_bit (y k : Nat) : ∀ d ∈ dsRow G m t base y k, d.2 ≤ 1 := fun d hd => by
  unfold dsRow at hd
  obtain ⟨x, _, rfl⟩ := List.mem_map.1 hd
  exact toNat_le _
theorem dsLine_bit (y : Nat) : ∀ d ∈ dsLine G W m t skip base y, d.2 ≤ 1 := fun d hd => by
  unfold dsLine at hd
  cases skip with
  | false => exact dsRow_bit G m t base y W d hd
  | true =>
    rcases List.mem_cons.1 hd with rfl | hd
    · exact toNat_le _
    · cases hs : sameB G W y with
      | true => rw [hs] at hd; cases hd
      | false => rw [hs] at hd; exact dsRow_bit G m t base y W d hd
theorem dsG_bit : ∀ y, ∀ d ∈ dsG G W m t skip base y, d.2 ≤ 1
  | 0 => fun d hd => by cases hd
  | y + 1 => fun d hd => by
    unfold dsG at hd
    rcases List.mem_append.1 hd with hd | hd
    · exact dsG_bit y d hd
    · exact dsLine_bit G W m t skip base y d hd
theorem dsG_split {y : Nat} : ∀ {X : Nat}, y < X → ∃ C, dsG G W m t skip base X = dsG G W m t skip base y ++ (dsLine G W m t skip base y ++ C)
  | X + 1, h => by
    rcases Nat.lt_or_ge y X with h1 | h1
    · obtain ⟨C, hC⟩ := dsG_split h1
      refine ⟨C ++ dsLine G W m t skip base X, ?_⟩
      rw [dsG, hC]
      simp
    · obtain rfl : y = X := by omega
      exact ⟨[], by simp [dsG]⟩

/-! ### coding -/
theorem enc_row (L : List (Nat × Nat)) (y : Nat) : ∀ k, rowG t (stepP m base) y k (G, cdL m L) = .inl (G, cdL m (L ++ dsRow G m t base y k))
  | 0 => by simp [rowG, dsRow]
  | k + 1 => by
    unfold rowG
    rw [enc_row L y k]
    simp only [stepP, upd_self]
    rw [dsRow_succ, ← List.append_assoc, cdL_snoc]
variable (hG : ∀ x y : Int, ¬ (0 ≤ x ∧ x < W ∧ 0 ≤ y) → G x y = false)
include hG
theorem enc_g (L : List (Nat × Nat)) : ∀ y, runG W t skip (stepP m base) y (G, cdL m L) = .inl (G, cdL m (L ++ dsG G W m t skip base y))
  | 0 => by simp [runG, dsG]
  | y + 1 => by
    unfold runG
    rw [enc_g L y]
    cases skip with
    | false =>
      simp only []
      rw [enc_row, dsG, dsLine, List.append_assoc]
    | true =>
      simp only [stepP]
      rw [← cdL_snoc m _ (idx (base + ((gsize t : Nat) : Int)) m, (sameB G W y).toNat)]
      cases hs : sameB G W y with
      | true =>
        simp only []
        rw [copy_same (fun a b h => hG a b fun hh => h ⟨hh.1, hh.2.1⟩) hs, dsG]
        simp only [dsLine, hs]
        simp
      | false =>
        simp only []
        rw [enc_row, dsG]
        simp only [dsLine, hs]
        simp

/-! ### decoding -/
theorem part_gctx {x y : Nat} (ht : t < 4) (hx : x < W) : gctx t (partG G W (y * W + x)) x y = gctx t G x y := by
  unfold gctx pb
  congr 1
  refine List.map_congr_left fun p hp => ?_
  unfold plcs at hp
  obtain ⟨s, hs, hp⟩ := List.mem_flatMap.1 hp
  have hok := spanL_ok ht s hs
  have d1 := hok.d
  have d2 := hok.f
  have d3 := hok.t
  have d4 := hok.z
  unfold spl at hp
  obtain ⟨j, hj, rfl⟩ := List.mem_map.1 hp
  have hj := List.mem_range.1 hj
  unfold spanW at hj
  dsimp only
  refine partG_eq G W hG fun h1 h2 h3 => ?_
  by_cases h : s.1 = 0
  · have e : ((y : Int) + s.1).toNat = y := by omega
    rw [e]
    omega
  · have e : (((y : Int) + s.1).toNat + 1) * W ≤ y * W := Nat.mul_le_mul_right _ (by omega)
    rw [Nat.add_mul, Nat.one_mul] at e
    omega
theorem part_zero : partG G W 0 = fun _ _ => false := by
  have _ := hG
  funext x y
  unfold partG
  rw [decide_eq_false (by omega), Bool.false_and]
theorem part_same {y : Nat} (hs : sameB G W y = true) : copyRow (partG G W (y * W)) y = partG G W ((y + 1) * W) := by
  have hs := fun (x : Nat) (hx : x < W) => by
    unfold sameB at hs
    have := List.all_eq_true.1 hs x (List.mem_range.2 hx)
    exact of_decide_eq_true (p := G (x : Int) (y : Int) = G (x : Int) ((y : Int) - 1)) (by simpa using this)
  funext a b
  unfold copyRow
  by_cases hin : 0 ≤ a ∧ a < (W : Int) ∧ 0 ≤ b
  · by_cases hb : b = (y : Int)
    · subst hb
      have e2 : partG G W ((y + 1) * W) a y = G a y := partG_eq G W hG fun h1 h2 h3 => by
        rw [Int.toNat_natCast, Nat.add_mul, Nat.one_mul]
        omega
      have e3 := hs a.toNat (by omega)
      rw [show ((a.toNat : Nat) : Int) = a by omega] at e3
      rw [e2]
      by_cases hy : y = 0
      · rw [if_neg (fun hh => hh.2 hy)]
        subst hy
        rw [e3, hG a _ (by omega)]
        unfold partG
        rw [decide_eq_false (by omega), Bool.false_and]
      · rw [if_pos ⟨rfl, hy⟩, e3]
        refine partG_eq G W hG fun h1 h2 h3 => ?_
        have e4 : (((y : Int) - 1).toNat + 1) * W ≤ y * W := Nat.mul_le_mul_right _ (by omega)
        rw [Nat.add_mul, Nat.one_mul] at e4
        omega
    · rw [if_neg (fun hh => hb hh.1)]
      unfold partG
      congr 1
      rw [decide_eq_decide]
      constructor
      · rintro ⟨h2, h3, h4, h5⟩
        refine ⟨h2, h3, h4, ?_⟩
        rw [Nat.add_mul, Nat.one_mul]
        omega
      · rintro ⟨h2, h3, h4, h5⟩
        refine ⟨h2, h3, h4, ?_⟩
        rcases Nat.lt_or_ge b.toNat y with h6 | h6
        · have e4 : (b.toNat + 1) * W ≤ y * W := Nat.mul_le_mul_right _ (by omega)
          rw [Nat.add_mul, Nat.one_mul] at e4
          omega
        · exfalso
          have e4 : (y + 1) * W ≤ b.toNat * W := Nat.mul_le_mul_right _ (by omega)
          omega
  · have e : ∀ i a b, ¬ (0 ≤ a ∧ a < (W : Int) ∧ 0 ≤ b) → partG G W i a b = false := fun i a b h => by
      unfold partG
      rw [hG a b h, Bool.and_false]
    rw [e _ a b hin]
    by_cases hb : b = (y : Int) ∧ y ≠ 0
    · rw [if_pos hb, e _ a _ (by omega), e _ a b hin]
    · rw [if_neg hb, e _ a b hin]
variable {L : List (Nat × Nat)} {D : Nat → Dec} (hW : Walk L D)
include hW
theorem dec_row {A : List (Nat × Nat)} {y : Nat} (ht : t < 4) : ∀ k, k ≤ W → ∀ C, L = A ++ (dsRow G m t base y k ++ C) → rowG t (stepG m base) y k (partG G W (y * W), D A.length) = .inl (partG G W (y * W + k), D (A ++ dsRow G m t base y k).length)
  | 0, _, C, _ => by simp [rowG, dsRow]
  | k + 1, hk, C, hL => by
    have hL2 : L = (A ++ dsRow G m t base y k) ++ (idx (base + ((gctx t G (k : Int) (y : Int) : Nat) : Int)) m, (G (k : Int) (y : Int)).toNat) :: C := by
      rw [hL, dsRow_succ]
      simp
    have hs := hW.at hL2
    unfold rowG
    rw [dec_row ht k (by omega) ((idx (base + ((gctx t G (k : Int) (y : Int) : Nat) : Int)) m, (G (k : Int) (y : Int)).toNat) :: C) (hL2.trans (List.append_assoc _ _ _))]
    simp only [stepG]
    rw [part_gctx G W t hG ht (by omega), hs]
    dsimp only
    have hbit : decide ((G (k : Int) (y : Int)).toNat = 1) = G (k : Int) (y : Int) := by cases G (k : Int) (y : Int) <;> rfl
    rw [hbit, partG_next G W hG (by omega), dsRow_succ]
    simp [Nat.add_assoc]
theorem dec_g {A C : List (Nat × Nat)} {X : Nat} (ht : t < 4) (hL : L = A ++ (dsG G W m t skip base X ++ C)) : ∀ y, y ≤ X → runG W t skip (stepG m base) y (fun _ _ => false, D A.length) = .inl (partG G W (y * W), D (A ++ dsG G W m t skip base y).length)
  | 0, _ => by
    rw [Nat.zero_mul, part_zero G W hG]
    simp [runG, dsG]
  | y + 1, hy => by
    obtain ⟨C2, hC2⟩ := dsG_split G W m t skip base (y := y) (X := X) (by omega)
    unfold runG
    rw [dec_g ht hL y (by omega)]
    rw [hC2] at hL
    have hrow : (y + 1) * W = y * W + W := by rw [Nat.add_mul, Nat.one_mul]
    cases skip with
    | false =>
      simp only []
      rw [dec_row G W m t base hG hW (A := A ++ dsG G W m t false base y) ht W (Nat.le_refl _) (C2 ++ C) (hL.trans (by simp [dsLine])), dsG, dsLine, hrow, List.append_assoc]
    | true =>
      simp only [stepG]
      cases hs : sameB G W y with
      | true =>
        have h1 := hW.at (A := A ++ dsG G W m t true base y) (B := C2 ++ C) (d := (idx (base + ((gsize t : Nat) : Int)) m, 1)) (hL.trans (by simp [dsLine, hs]))
        rw [h1]
        simp only [decide_true]
        rw [part_same G W hG hs, dsG]
        simp [dsLine, hs, Nat.add_assoc]
      | false =>
        have h1 := hW.at (A := A ++ dsG G W m t true base y) (B := dsRow G m t base y W ++ (C2 ++ C)) (d := (idx (base + ((gsize t : Nat) : Int)) m, 0)) (hL.trans (by simp [dsLine, hs]))
        rw [h1]
        simp only [show decide ((0 : Nat) = 1) = false from rfl]
        have h2 := dec_row G W m t base hG hW (A := (A ++ dsG G W m t true base y) ++ [(idx (base + ((gsize t : Nat) : Int)) m, 0)]) (y := y) ht W (Nat.le_refl _) (C2 ++ C) (hL.trans (by simp [dsLine, hs]))
        rw [List.length_append, List.length_singleton] at h2
        rw [h2, dsG, hrow]
        simp [dsLine, hs, Nat.add_assoc]
end
end Go.Bm

/- Written by gen.py: the conditions of the functions of law7x. -/
set_option linter.unusedVariables false
set_option linter.unusedSimpArgs false
namespace Go.Den.Yteakipgcanafoaa
open Go Go.Den

/- burin/burinlaw7.light -/
set_option maxRecDepth 100000 in
def burinlaw7_light (C : CallP) (b_1 : Int) (b_2 : Int) (b_3 : Option Addr) (b_3n : Nat) (b_3c : Nat) (h : Heap) (K : Value → Heap → Prop) (Kp : List PanicEntry → Heap → Prop) : Prop :=
newC h [.int .i64 b_1, .int .i64 b_2, .slice b_3 b_3n b_3c] T_api_Bitmap fun r_4 h_5 =>
ldS h_5 ((⟨r_4, 0, none⟩ : Addr).add 2) fun x_6 x_6n x_6c =>
bcase (decide ((x_6n : Int) ≤ (1000 : Int))) (
ldI h_5 ((⟨r_4, 0, none⟩ : Addr).add 0) .i64 fun x_7 =>
ldI h_5 ((⟨r_4, 0, none⟩ : Addr).add 1) .i64 fun x_8 =>
ldS h_5 ((⟨r_4, 0, none⟩ : Addr).add 2) fun x_9 x_9n x_9c =>
C F_burinref0_May #[.agg #[.int .i64 x_7, .int .i64 x_8, .slice x_9 x_9n x_9c]] h_5 (fun v_10 h_11 =>
∃ (r_12 : Bool), v_10 = .bool r_12 ∧ (
bcase (!r_12) (
K (.bool true) h_11) <|
ldI h_11 ((⟨r_4, 0, none⟩ : Addr).add 0) .i64 fun x_13 =>
ldI h_11 ((⟨r_4, 0, none⟩ : Addr).add 1) .i64 fun x_14 =>
bindI (IntKind.i64.wrap (x_13 * x_14)) fun z_15 =>
K (.bool (decide (z_15 ≤ (6000 : Int)))) h_11)) (Kp)) <|
K (.bool false) h_5

/- burin/burinlaw7.wakes -/
set_option maxRecDepth 100000 in
def burinlaw7_wakes (C : CallP)  (h : Heap) (K : Value → Heap → Prop) (Kp : List PanicEntry → Heap → Prop) : Prop :=
newC h [.int .u64 12105675798371893248, .int .u64 12105675798371893248] T_uint64 fun r_1 h_2 =>
newC h_2 [.int .i64 0, .int .i64 0, .slice none 0 0] T_api_Bitmap fun r_3 h_4 =>
stV h_4 ((⟨r_3, 0, none⟩ : Addr).add 0) (.int .i64 5) fun h_5 =>
stV h_5 ((⟨r_3, 0, none⟩ : Addr).add 1) (.int .i64 2) fun h_6 =>
stV h_6 ((⟨r_3, 0, none⟩ : Addr).add 2) (.slice (some ⟨r_1, 0, none⟩) 2 2) fun h_7 =>
ldI h_7 ((⟨r_3, 0, none⟩ : Addr).add 0) .i64 fun x_8 =>
ldI h_7 ((⟨r_3, 0, none⟩ : Addr).add 1) .i64 fun x_9 =>
ldS h_7 ((⟨r_3, 0, none⟩ : Addr).add 2) fun x_10 x_10n x_10c =>
C F_generic_Encode #[.agg #[.int .i64 x_8, .int .i64 x_9, .slice x_10 x_10n x_10c], .int .i64 2, .bool true] h_7 (fun v_11 h_12 =>
∃ (r_13 : Option Addr) (r_13n : Nat) (r_13c : Nat), ∃ (r_14 : Int), v_11 = .tuple #[.slice r_13 r_13n r_13c, .int .i64 r_14] ∧ (
C F_generic_Decode #[.slice r_13 r_13n r_13c, .int .i64 5, .int .i64 2, .int .i64 2, .bool true] h_12 (fun v_15 h_16 =>
∃ (r_17 : Int) (r_18 : Int) (r_19 : Option Addr) (r_19n : Nat) (r_19c : Nat), ∃ (r_20 : Int), v_15 = .tuple #[.agg #[.int .i64 r_17, .int .i64 r_18, .slice r_19 r_19n r_19c], .int .i64 r_20] ∧ (
newC h_16 [.int .i64 0, .int .i64 0, .slice none 0 0] T_api_Bitmap fun r_21 h_22 =>
stV h_22 ((⟨r_21, 0, none⟩ : Addr).add 0) (.int .i64 r_17) fun h_23 =>
stV h_23 ((⟨r_21, 0, none⟩ : Addr).add 1) (.int .i64 r_18) fun h_24 =>
stV h_24 ((⟨r_21, 0, none⟩ : Addr).add 2) (.slice r_19 r_19n r_19c) fun h_25 =>
bcase (r_14 == (0 : Int)) (
bcase (r_20 == (0 : Int)) (
bcase (decide ((r_13n : Int) > (0 : Int))) (
ldI h_25 ((⟨r_3, 0, none⟩ : Addr).add 0) .i64 fun x_26 =>
ldI h_25 ((⟨r_3, 0, none⟩ : Addr).add 1) .i64 fun x_27 =>
ldS h_25 ((⟨r_3, 0, none⟩ : Addr).add 2) fun x_28 x_28n x_28c =>
ldI h_25 ((⟨r_21, 0, none⟩ : Addr).add 0) .i64 fun x_29 =>
ldI h_25 ((⟨r_21, 0, none⟩ : Addr).add 1) .i64 fun x_30 =>
ldS h_25 ((⟨r_21, 0, none⟩ : Addr).add 2) fun x_31 x_31n x_31c =>
C F_burinref0_EqBitmap #[.agg #[.int .i64 x_26, .int .i64 x_27, .slice x_28 x_28n x_28c], .agg #[.int .i64 x_29, .int .i64 x_30, .slice x_31 x_31n x_31c]] h_25 (fun v_32 h_33 =>
∃ (r_34 : Bool), v_32 = .bool r_34 ∧ (
K (.bool r_34) h_33)) (Kp)) <|
K (.bool false) h_25) <|
K (.bool false) h_25) <|
K (.bool false) h_25)) (Kp))) (Kp)

end Go.Den.Yteakipgcanafoaa

/- Written by gen.py: each condition of the functions of law7x is the one of its body; so it is enough for its call. -/
set_option linter.unusedVariables false
set_option linter.unusedSimpArgs false
namespace Go.Den.Yteakipgcanafoaa
open Go Go.Den

noncomputable def hints_burinlaw7_light : Hints := Hints.mk (fun i => none)
  (fun i => none)
  (fun i => none) []
set_option maxRecDepth 100000 in
theorem eq_burinlaw7_light (C : CallP) (b_1 : Int) (b_2 : Int) (b_3 : Option Addr) (b_3n : Nat) (b_3c : Nat) (h : Heap) (K : Value → Heap → Prop) (Kp : List PanicEntry → Heap → Prop) :
    fnD Go.Proofs.Try.prog C hints_burinlaw7_light Go.Proofs.Try.f42 [.agg #[.int .i64 b_1, .int .i64 b_2, .slice b_3 b_3n b_3c]] h K Kp = burinlaw7_light C b_1 b_2 b_3 b_3n b_3c h K Kp := by kernel_rfl

theorem call_burinlaw7_light {b_1 : Int} {b_2 : Int} {b_3 : Option Addr} {b_3n : Nat} {b_3c : Nat} {h : Heap} {K : Value → Heap → Prop} {Kp : List PanicEntry → Heap → Prop} (H : burinlaw7_light (CallsHP Go.Proofs.Try.prog) b_1 b_2 b_3 b_3n b_3c h K Kp) : CallsHP Go.Proofs.Try.prog F_burinlaw7_light #[.agg #[.int .i64 b_1, .int .i64 b_2, .slice b_3 b_3n b_3c]] h K Kp :=
  callsHP_of hints_burinlaw7_light (by kernel_rfl) Go.Proofs.Try.func42 (by kernel_rfl) (by rw [eq_burinlaw7_light]; exact H)

noncomputable def hints_burinlaw7_wakes : Hints := Hints.mk (fun i => none)
  (fun i => none)
  (fun i => none) []
set_option maxRecDepth 100000 in
theorem eq_burinlaw7_wakes (C : CallP)  (h : Heap) (K : Value → Heap → Prop) (Kp : List PanicEntry → Heap → Prop) :
    fnD Go.Proofs.Try.prog C hints_burinlaw7_wakes Go.Proofs.Try.f47 [] h K Kp = burinlaw7_wakes C  h K Kp := by kernel_rfl

theorem call_burinlaw7_wakes  {h : Heap} {K : Value → Heap → Prop} {Kp : List PanicEntry → Heap → Prop} (H : burinlaw7_wakes (CallsHP Go.Proofs.Try.prog)  h K Kp) : CallsHP Go.Proofs.Try.prog F_burinlaw7_wakes #[] h K Kp :=
  callsHP_of hints_burinlaw7_wakes (by kernel_rfl) Go.Proofs.Try.func47 (by kernel_rfl) (by rw [eq_burinlaw7_wakes]; exact H)

end Go.Den.Yteakipgcanafoaa

/- GnK: generic coding: back again, a few rows, wakes, light. -/
set_option linter.unusedVariables false
set_option linter.unusedSimpArgs false
namespace Go.Bm
open Go Go.Den Go.Den.Yteakipgcanafoaa
open Go.Ar (Cod Dec CodOk codN decN newC newC_ok newD idx bytesM flushM putM getD)

theorem GEncR.bytes {w b template : Int} {skip : Bool} {ws : List Nat} {e : Int} {bs : List Nat} (h : GEncR w b ws template skip e bs) : (∀ x ∈ bs, x < 256) ∧ bs.length < 140737488351300 := by
  rcases h with ⟨_, _, rfl⟩ | ⟨_, _, _, rfl⟩ | ⟨_, _, _, G, s', k, _, _, hok, rfl⟩
  · exact ⟨(fun x hx => by cases hx), by decide⟩
  · exact ⟨(fun x hx => by cases hx), by decide⟩
  · refine ⟨Go.Ar.flushM_lt hok.wf, ?_⟩
    have h1 := Go.Ar.flushM_len s'
    have h2 := hok.wf.len
    have h3 := hok.wf.n
    omega
theorem GGetR.len {bytes : List Nat} {m n0 : Nat} {base w b template : Int} {skip : Bool} {s : Dec} {e a c : Int} {bs : List Nat} {s' : Dec} (h : GGetR bytes m n0 base w b template skip s e a c bs s') : bs.length < 140737488351300 := by
  rcases h with ⟨_, _, _, _, rfl, _⟩ | ⟨_, _, _, _, _, rfl, _⟩ | ⟨_, _, _, _, _, _, rfl, _⟩ | ⟨_, p2, _, _, _, _, _, l, _⟩
  · decide
  · decide
  · decide
  · obtain ⟨W, X, rfl, rfl, hW1, hW2, hX1, hX2, hWX⟩ := size_nat p2
    simp only [Int.toNat_natCast] at l
    have := hw_le hW1 hWX
    omega
theorem GEncR.ok {w b template : Int} {skip : Bool} {ws : List Nat} {e : Int} {bs : List Nat} (ht : 0 ≤ template ∧ template < 4) (hm : MayP w b ws) (h : GEncR w b ws template skip e bs) : e = 0 := by
  rcases h with ⟨a, _⟩ | ⟨_, a, _⟩ | ⟨_, _, e, _⟩
  · exact absurd ht a
  · exact absurd hm a
  · exact e
/-- What is coded, said with the list of decisions. -/
theorem GEncR.list {W X t : Nat} {skip : Bool} {ws : List Nat} {e : Int} {bs : List Nat} (ht : t < 4) (hm : MayP (W : Int) (X : Int) ws) (h : GEncR (W : Int) (X : Int) ws (t : Int) skip e bs) :
    e = 0 ∧ (dsG (getP ws W X) W (gsize t + 1) t skip 0 X).length ≤ 16777216 ∧ bs = bytesM (flushM (cdL (gsize t + 1) (dsG (getP ws W X) W (gsize t + 1) t skip 0 X))) := by
  have hpx := size_px1 hm.1
  simp only [Int.toNat_natCast, Nat.zero_add] at hpx
  rcases h with ⟨a, _⟩ | ⟨_, a, _⟩ | ⟨_, _, rfl, Gz, sz, k, hrun, hkk, hok, rfl⟩
  · exact absurd ⟨by omega, by omega⟩ a
  · exact absurd hm a
  simp only [Int.toNat_natCast] at hrun
  have h1 := enc_g (getP ws W X) W (gsize t + 1) t skip 0 (getP_out ws W X) [] X
  rw [List.nil_append] at h1
  have h2 : cdL (gsize t + 1) [] = Go.Ar.newC (gsize t + 1) := rfl
  rw [h2, hrun] at h1
  injection h1 with h1
  injection h1 with _ h1
  subst h1
  exact ⟨rfl, Nat.le_trans (dsG_len _ _ _ _ _ _ _) hpx, rfl⟩
/-- As many rows, or fewer. -/
theorem g_top {W X n t : Nat} {skip : Bool} {ws : List Nat} {e e' w' b' : Int} {bs bs' : List Nat} {s' : Dec} (ht : t < 4) (hn : n ≤ X) (hn1 : 1 ≤ n) (hm : MayP (W : Int) (X : Int) ws)
    (henc : GEncR (W : Int) (X : Int) ws (t : Int) skip e bs) (hget : GGetR bs (gsize t + 1) 0 0 (W : Int) (n : Int) (t : Int) skip (newD bs (gsize t + 1)) e' w' b' bs' s') :
    e = 0 ∧ e' = 0 ∧ w' = (W : Int) ∧ b' = (n : Int) ∧ bs'.length = n * wds W ∧ W64 bs' ∧ PadZ W n bs' ∧ getP bs' W n = fun (x y : Int) => decide (y < n) && getP ws W X x y := by
  obtain ⟨W', X', e1, e2, hW1, hW2, hX1, hX2, hWX⟩ := size_nat hm.1
  obtain rfl : W = W' := by omega
  obtain rfl : X = X' := by omega
  have hWn : W * n ≤ W * X := Nat.mul_le_mul_left _ hn
  have hsz : SizeP (W : Int) (n : Int) := by
    refine ⟨by omega, by omega, by omega, by omega, ?_⟩
    rw [mul_cast]
    omega
  obtain ⟨rfl, hlen, hbs⟩ := henc.list ht hm
  rcases hget with ⟨a, _⟩ | ⟨_, a, _⟩ | ⟨_, _, a, _⟩ | ⟨_, _, _, rfl, rfl, rfl, hrun2, hl, hww, hz, _⟩
  · exact absurd ⟨by omega, by omega⟩ a
  · exact absurd hsz a
  · exact absurd ⟨by omega, by simp only [Int.toNat_natCast]; omega⟩ a
  simp only [Int.toNat_natCast] at hrun2 hl hz
  refine ⟨rfl, rfl, rfl, rfl, hl, hww, hz, ?_⟩
  have hwalk := walk_of (m := gsize t + 1) (dsG_bit (getP ws W X) W (gsize t + 1) t skip 0 X) hlen
  rw [← hbs] at hwalk
  have h1 := dec_g (getP ws W X) W (gsize t + 1) t skip 0 (getP_out ws W X) hwalk (A := []) (C := []) (X := X) ht (by simp) n hn
  have h2 : decN (kOf (dsG (getP ws W X) W (gsize t + 1) t skip 0 X)) bs (gsize t + 1) ([] : List (Nat × Nat)).length = newD bs (gsize t + 1) := rfl
  rw [h2, hrun2, part_rows] at h1
  injection h1 with h1
  injection h1 with h1 _
theorem g_back {W X t : Nat} {skip : Bool} {ws : List Nat} {e e' w' b' : Int} {bs bs' : List Nat} {s' : Dec} (ht : t < 4) (hm : MayP (W : Int) (X : Int) ws) (hw : W64 ws)
    (henc : GEncR (W : Int) (X : Int) ws (t : Int) skip e bs) (hget : GGetR bs (gsize t + 1) 0 0 (W : Int) (X : Int) (t : Int) skip (newD bs (gsize t + 1)) e' w' b' bs' s') :
    e = 0 ∧ e' = 0 ∧ w' = (W : Int) ∧ b' = (X : Int) ∧ bs' = ws := by
  obtain ⟨W', X', e1, e2, hW1, hW2, hX1, hX2, hWX⟩ := size_nat hm.1
  obtain rfl : W = W' := by omega
  obtain rfl : X = X' := by omega
  obtain ⟨h1, h2, h3, h4, h5, h6, h7, h8⟩ := g_top ht (Nat.le_refl X) hX1 hm henc hget
  refine ⟨h1, h2, h3, h4, getP_ext h5 (may_len hm) h6 hw h7 (fun y hy x k1 k2 => pix_of_may hm hy k1 k2) ?_⟩
  rw [h8]
  funext x y
  by_cases hy : y < (X : Int)
  · rw [decide_eq_true hy, Bool.true_and]
  · rw [decide_eq_false hy, Bool.false_and]
    unfold getP
    rw [decide_eq_false (by omega), Bool.false_and]
theorem g_ff {W X t : Nat} {skip : Bool} {ws : List Nat} {e : Int} {bs : List Nat} (ht : t < 4) (hm : MayP (W : Int) (X : Int) ws) (h : GEncR (W : Int) (X : Int) ws (t : Int) skip e bs) :
    ∀ i, bs[i]? = some 255 → ∀ y, bs[i + 1]? = some y → y ≤ 143 := by
  obtain ⟨rfl, hlen, rfl⟩ := h.list ht hm
  generalize hL : dsG (getP ws W X) W (gsize t + 1) t skip 0 X = L at hlen ⊢
  have hb := bOf_le (L := L) (by rw [← hL]; exact dsG_bit _ _ _ _ _ _ _)
  have hwf := Go.Ar.codN_wf (kOf L) (bOf L) (gsize t + 1) L.length hb L.length (Nat.le_refl _) hlen
  have hstf := Go.Ar.stf_flush (Go.Ar.codN_stf (kOf L) (bOf L) (gsize t + 1) L.length hb L.length (Nat.le_refl _) hlen) hwf.1
  exact fun i hi => (Go.Ar.bytes_ff hstf hi).2

theorem light7_ok {hB : Heap} {w b : Int} {q : Option Addr} {c : Nat} {ws : List Nat} (hr : rdO hB q (ws.length * 1) (u64s ws)) (hw : W64 ws) (hl : ws.length < 140737488351300) {K : Value → Heap → Prop} {Kp : List PanicEntry → Heap → Prop}
    (hk : ∀ (bb : Bool) h', (bb = true → ws.length ≤ 1000 ∧ (MayP w b ws → w * b ≤ 6000)) → hext hB h' → K (.bool bb) h') : CP F_burinlaw7_light #[.agg #[.int .i64 w, .int .i64 b, .slice q ws.length c]] hB K Kp := by
  refine call_burinlaw7_light ?_
  unfold burinlaw7_light
  have H := Hp.nil hB []
  refine newC_hp H fun r h H => ?_
  repeat first | with_reducible refine ldI_of (by with_unfolding_all first | exact hpA H 0 rfl rfl | exact Hp.cell H 0 rfl rfl | exact hpB H 0 rfl rfl | exact hpC H 0 rfl rfl) ?_ | with_reducible refine ldS_of (by with_unfolding_all first | exact hpA H 0 rfl rfl | exact Hp.cell H 0 rfl rfl | exact hpB H 0 rfl rfl | exact hpC H 0 rfl rfl) ?_ | with_reducible refine ldP_of (by with_unfolding_all first | exact hpA H 0 rfl rfl | exact Hp.cell H 0 rfl rfl | exact hpB H 0 rfl rfl | exact hpC H 0 rfl rfl) ?_ | with_reducible refine ldB_of (by with_unfolding_all first | exact hpA H 0 rfl rfl | exact Hp.cell H 0 rfl rfl | exact hpB H 0 rfl rfl | exact hpC H 0 rfl rfl) ?_ | with_reducible refine ldT_of (by with_unfolding_all first | exact hpA H 0 rfl rfl | exact Hp.cell H 0 rfl rfl | exact hpB H 0 rfl rfl | exact hpC H 0 rfl rfl) ?_
  refine bcase_dec (fun h1 => ?_) fun h1 => hk false _ (fun h => by cases h) H.hext
  repeat first | with_reducible refine ldI_of (by with_unfolding_all first | exact hpA H 0 rfl rfl | exact Hp.cell H 0 rfl rfl | exact hpB H 0 rfl rfl | exact hpC H 0 rfl rfl) ?_ | with_reducible refine ldS_of (by with_unfolding_all first | exact hpA H 0 rfl rfl | exact Hp.cell H 0 rfl rfl | exact hpB H 0 rfl rfl | exact hpC H 0 rfl rfl) ?_ | with_reducible refine ldP_of (by with_unfolding_all first | exact hpA H 0 rfl rfl | exact Hp.cell H 0 rfl rfl | exact hpB H 0 rfl rfl | exact hpC H 0 rfl rfl) ?_ | with_reducible refine ldB_of (by with_unfolding_all first | exact hpA H 0 rfl rfl | exact Hp.cell H 0 rfl rfl | exact hpB H 0 rfl rfl | exact hpC H 0 rfl rfl) ?_ | with_reducible refine ldT_of (by with_unfolding_all first | exact hpA H 0 rfl rfl | exact Hp.cell H 0 rfl rfl | exact hpB H 0 rfl rfl | exact hpC H 0 rfl rfl) ?_
  refine may_ok (H.rdO hr) hw hl fun bm h2 hbm e2 => ?_
  have H := H.ext e2
  refine ⟨_, rfl, ?_⟩
  refine bcase_not (fun h3 => ?_) fun h3 => ?_
  · exact hk true _ (fun _ => ⟨by omega, fun hm => by rw [hbm.2 hm] at h3; cases h3⟩) H.hext
  · have hm := hbm.1 h3
    obtain ⟨W, X, rfl, rfl, hW1, hW2, hX1, hX2, hWX⟩ := size_nat hm.1
    repeat first | with_reducible refine ldI_of (by with_unfolding_all first | exact hpA H 0 rfl rfl | exact Hp.cell H 0 rfl rfl | exact hpB H 0 rfl rfl | exact hpC H 0 rfl rfl) ?_ | with_reducible refine ldS_of (by with_unfolding_all first | exact hpA H 0 rfl rfl | exact Hp.cell H 0 rfl rfl | exact hpB H 0 rfl rfl | exact hpC H 0 rfl rfl) ?_ | with_reducible refine ldP_of (by with_unfolding_all first | exact hpA H 0 rfl rfl | exact Hp.cell H 0 rfl rfl | exact hpB H 0 rfl rfl | exact hpC H 0 rfl rfl) ?_ | with_reducible refine ldB_of (by with_unfolding_all first | exact hpA H 0 rfl rfl | exact Hp.cell H 0 rfl rfl | exact hpB H 0 rfl rfl | exact hpC H 0 rfl rfl) ?_ | with_reducible refine ldT_of (by with_unfolding_all first | exact hpA H 0 rfl rfl | exact Hp.cell H 0 rfl rfl | exact hpB H 0 rfl rfl | exact hpC H 0 rfl rfl) ?_
    refine bindI_of (((W * X : Nat) : Int)) (by exact i64_at _ _ mul_cast (by omega) (by omega)) ?_
    exact hk _ _ (fun h => ⟨by omega, fun _ => by rw [mul_cast]; exact of_decide_eq_true h⟩) H.hext
theorem wakes7_len : Nat.blt 0 (bytesM (flushM (cdL (gsize 2 + 1) (dsG (getP [12105675798371893248, 12105675798371893248] 5 2) 5 (gsize 2 + 1) 2 true 0 2)))).length = true := by kernel_rfl

set_option maxRecDepth 100000 in
theorem wakes7_ok {hB : Heap} {K : Value → Heap → Prop} {Kp : List PanicEntry → Heap → Prop} (hk : ∀ h', hext hB h' → K (.bool true) h') : CP F_burinlaw7_wakes #[] hB K Kp := by
  refine call_burinlaw7_wakes ?_
  unfold burinlaw7_wakes
  have H := Hp.nil hB []
  refine newC_hp H fun r1 h H => ?_
  refine newC_hp H fun r3 h H => ?_
  repeat first | with_reducible refine stA H 0 (by with_unfolding_all exact rfl) (by with_unfolding_all exact rfl) (by with_unfolding_all exact rfl) fun h H => ?_ | with_reducible refine stA H 1 (by with_unfolding_all exact rfl) (by with_unfolding_all exact rfl) (by with_unfolding_all exact rfl) fun h H => ?_ | with_reducible refine st0 H 0 (by with_unfolding_all exact rfl) (by with_unfolding_all exact rfl) (by with_unfolding_all exact rfl) fun h H => ?_ | with_reducible refine st0 H 1 (by with_unfolding_all exact rfl) (by with_unfolding_all exact rfl) (by with_unfolding_all exact rfl) fun h H => ?_ | with_reducible refine stB H 0 (by with_unfolding_all exact rfl) (by with_unfolding_all exact rfl) (by with_unfolding_all exact rfl) fun h H => ?_ | with_reducible refine stB H 1 (by with_unfolding_all exact rfl) (by with_unfolding_all exact rfl) (by with_unfolding_all exact rfl) fun h H => ?_
  have H : Hp hB [] h [⟨r1, true, T_uint64, u64s [12105675798371893248, 12105675798371893248] ++ []⟩, ⟨r3, true, T_api_Bitmap, [.int .i64 5, .int .i64 2, .slice (some ⟨r1, 0, none⟩) 2 2]⟩] := H
  repeat first | with_reducible refine ldI_of (by with_unfolding_all first | exact hpA H 0 rfl rfl | exact hpA H 1 rfl rfl | exact Hp.cell H 0 rfl rfl | exact Hp.cell H 1 rfl rfl | exact hpB H 0 rfl rfl | exact hpB H 1 rfl rfl | exact hpC H 0 rfl rfl | exact hpC H 1 rfl rfl) ?_ | with_reducible refine ldS_of (by with_unfolding_all first | exact hpA H 0 rfl rfl | exact hpA H 1 rfl rfl | exact Hp.cell H 0 rfl rfl | exact Hp.cell H 1 rfl rfl | exact hpB H 0 rfl rfl | exact hpB H 1 rfl rfl | exact hpC H 0 rfl rfl | exact hpC H 1 rfl rfl) ?_ | with_reducible refine ldP_of (by with_unfolding_all first | exact hpA H 0 rfl rfl | exact hpA H 1 rfl rfl | exact Hp.cell H 0 rfl rfl | exact Hp.cell H 1 rfl rfl | exact hpB H 0 rfl rfl | exact hpB H 1 rfl rfl | exact hpC H 0 rfl rfl | exact hpC H 1 rfl rfl) ?_ | with_reducible refine ldB_of (by with_unfolding_all first | exact hpA H 0 rfl rfl | exact hpA H 1 rfl rfl | exact Hp.cell H 0 rfl rfl | exact Hp.cell H 1 rfl rfl | exact hpB H 0 rfl rfl | exact hpB H 1 rfl rfl | exact hpC H 0 rfl rfl | exact hpC H 1 rfl rfl) ?_ | with_reducible refine ldT_of (by with_unfolding_all first | exact hpA H 0 rfl rfl | exact hpA H 1 rfl rfl | exact Hp.cell H 0 rfl rfl | exact Hp.cell H 1 rfl rfl | exact hpB H 0 rfl rfl | exact hpB H 1 rfl rfl | exact hpC H 0 rfl rfl | exact hpC H 1 rfl rfl) ?_
  have hm1 : MayP ((5 : Nat) : Int) ((2 : Nat) : Int) [12105675798371893248, 12105675798371893248] := ⟨by unfold SizeP; omega, by decide, fun y hy => by
    have : y = 0 ∨ y = 1 := by simp at hy; omega
    rcases this with rfl | rfl <;> decide⟩
  have hw1 : W64 [12105675798371893248, 12105675798371893248] := fun v hv => by simp at hv; rw [hv]; decide
  refine gEnc_ok (ws := [12105675798371893248, 12105675798371893248]) (row_rdO H 0 rfl) hw1 (by decide) fun e bs D qo c h' henc hsl H' => ?_
  replace H := H.join H' hsl.w
  clear H'
  refine ⟨_, _, _, _, rfl, ?_⟩
  refine gDec_ok (bytes := bs) henc.bytes.1 henc.bytes.2 (Slot.rdO' hsl H fun e he => List.mem_append_right _ he) fun e' w' b' bs' s' D2 qo2 c2 h' hget hsl2 H' => ?_
  replace H := H.join H' hsl2.w
  clear H'
  have hpos : 0 < bs.length := by
    obtain ⟨_, _, rfl⟩ := GEncR.list (W := 5) (X := 2) (t := 2) (by decide) hm1 henc
    exact Nat.le_of_ble_eq_true wakes7_len
  obtain ⟨rfl, rfl, rfl, rfl, rfl⟩ := g_back (W := 5) (X := 2) (t := 2) (by decide) hm1 hw1 henc hget
  refine ⟨_, _, _, _, _, _, rfl, ?_⟩
  refine newC_hp H fun r21 h H => ?_
  have H := H.rot
  repeat first | with_reducible refine stA H 0 (by with_unfolding_all exact rfl) (by with_unfolding_all exact rfl) (by with_unfolding_all exact rfl) fun h H => ?_ | with_reducible refine st0 H 0 (by with_unfolding_all exact rfl) (by with_unfolding_all exact rfl) (by with_unfolding_all exact rfl) fun h H => ?_ | with_reducible refine stB H 0 (by with_unfolding_all exact rfl) (by with_unfolding_all exact rfl) (by with_unfolding_all exact rfl) fun h H => ?_
  have H : Hp hB [] h ([⟨r21, true, T_api_Bitmap, [.int .i64 5, .int .i64 2, .slice qo2 2 c2]⟩] ++ ([⟨r1, true, T_uint64, u64s [12105675798371893248, 12105675798371893248] ++ []⟩, ⟨r3, true, T_api_Bitmap, [.int .i64 5, .int .i64 2, .slice (some ⟨r1, 0, none⟩) 2 2]⟩] ++ D ++ D2)) := H
  refine bcase_true (by rfl) ?_
  refine bcase_true (by rfl) ?_
  refine bcase_dec (fun h1 => ?_) fun h1 => absurd (by omega) h1
  repeat first | with_reducible refine ldI_of (by with_unfolding_all first | exact hpA H 0 rfl rfl | exact hpA H 1 rfl rfl | exact hpA H 2 rfl rfl | exact Hp.cell H 0 rfl rfl | exact Hp.cell H 1 rfl rfl | exact Hp.cell H 2 rfl rfl | exact hpB H 0 rfl rfl | exact hpB H 1 rfl rfl | exact hpB H 2 rfl rfl | exact hpC H 0 rfl rfl | exact hpC H 1 rfl rfl | exact hpC H 2 rfl rfl) ?_ | with_reducible refine ldS_of (by with_unfolding_all first | exact hpA H 0 rfl rfl | exact hpA H 1 rfl rfl | exact hpA H 2 rfl rfl | exact Hp.cell H 0 rfl rfl | exact Hp.cell H 1 rfl rfl | exact Hp.cell H 2 rfl rfl | exact hpB H 0 rfl rfl | exact hpB H 1 rfl rfl | exact hpB H 2 rfl rfl | exact hpC H 0 rfl rfl | exact hpC H 1 rfl rfl | exact hpC H 2 rfl rfl) ?_ | with_reducible refine ldP_of (by with_unfolding_all first | exact hpA H 0 rfl rfl | exact hpA H 1 rfl rfl | exact hpA H 2 rfl rfl | exact Hp.cell H 0 rfl rfl | exact Hp.cell H 1 rfl rfl | exact Hp.cell H 2 rfl rfl | exact hpB H 0 rfl rfl | exact hpB H 1 rfl rfl | exact hpB H 2 rfl rfl | exact hpC H 0 rfl rfl | exact hpC H 1 rfl rfl | exact hpC H 2 rfl rfl) ?_ | with_reducible refine ldB_of (by with_unfolding_all first | exact hpA H 0 rfl rfl | exact hpA H 1 rfl rfl | exact hpA H 2 rfl rfl | exact Hp.cell H 0 rfl rfl | exact Hp.cell H 1 rfl rfl | exact Hp.cell H 2 rfl rfl | exact hpB H 0 rfl rfl | exact hpB H 1 rfl rfl | exact hpB H 2 rfl rfl | exact hpC H 0 rfl rfl | exact hpC H 1 rfl rfl | exact hpC H 2 rfl rfl) ?_ | with_reducible refine ldT_of (by with_unfolding_all first | exact hpA H 0 rfl rfl | exact hpA H 1 rfl rfl | exact hpA H 2 rfl rfl | exact Hp.cell H 0 rfl rfl | exact Hp.cell H 1 rfl rfl | exact Hp.cell H 2 rfl rfl | exact hpB H 0 rfl rfl | exact hpB H 1 rfl rfl | exact hpB H 2 rfl rfl | exact hpC H 0 rfl rfl | exact hpC H 1 rfl rfl | exact hpC H 2 rfl rfl) ?_
  refine eqB_ok (xs := [12105675798371893248, 12105675798371893248]) (ys := [12105675798371893248, 12105675798371893248]) (row_rdO H 1 rfl) (Slot.rdO' hsl2 H fun e he => List.mem_append_right _ (List.mem_append_right _ he)) (by decide) fun h' e => ?_
  refine ⟨_, rfl, ?_⟩
  have := hk h' (H.hext.trans e)
  simpa using this
end Go.Bm

/- ShA: decisions that are all alike cost few doublings: the coder's run said by its range alone, reckoned out. No Go, no memory. -/
set_option linter.unusedVariables false
set_option linter.unusedSimpArgs false
namespace Go.Ar

/-- The likelier bit: the range, the row, how many doublings. -/
def mpsA (a r : Nat) : Nat × Nat × Nat :=
  if 0x8000 ≤ a - qOf r then (a - qOf r, r, 0) else (2 * (if a - qOf r < qOf r then qOf r else a - qOf r), mOf r, 1)
/-- The other bit in a new context. -/
def lpsA (a : Nat) : Nat × Nat :=
  if 0x4000 ≤ (if a - 0x5601 < 0x5601 then a - 0x5601 else 0x5601) then (2 * (if a - 0x5601 < 0x5601 then a - 0x5601 else 0x5601), 1)
  else (4 * (if a - 0x5601 < 0x5601 then a - 0x5601 else 0x5601), 2)
def listEq : List Nat → List Nat → Bool
  | [], [] => true
  | x :: l, y :: m => Nat.beq x y && listEq l m
  | _, _ => false
theorem listEq_of : ∀ {l m : List Nat}, listEq l m = true → l = m
  | [], [], _ => rfl
  | x :: l, y :: m, h => by
    simp only [listEq, Bool.and_eq_true] at h
    rw [Nat.eq_of_beq_eq_true h.1, listEq_of h.2]
  | [], _ :: _, h => by cases h
  | _ :: _, [], h => by cases h
/-- One more run, where it is none that is known. -/
def insR (x : Nat × List Nat × Nat) : List (Nat × List Nat × Nat) → List (Nat × List Nat × Nat)
  | [] => [x]
  | y :: l => if Nat.beq y.1 x.1 && listEq y.2.1 x.2.1 then (y.1, y.2.1, max y.2.2 x.2.2) :: l else y :: insR x l
def two (x : Nat × List Nat × Nat) (l : List (Nat × List Nat × Nat)) : List (Nat × List Nat × Nat) :=
  insR ((mpsA x.1 0).1, x.2.1 ++ [(mpsA x.1 0).2.1], x.2.2 + (mpsA x.1 0).2.2) (insR ((lpsA x.1).1, x.2.1 ++ [1], x.2.2 + (lpsA x.1).2) l)
def firstA : Nat → List (Nat × List Nat × Nat)
  | 0 => [(0x8000, [], 0)]
  | k + 1 => (firstA k).foldr two []
def cycA : List Nat → Nat → Nat × List Nat × Nat
  | [], a => (a, [], 0)
  | r :: rs, a => ((cycA rs (mpsA a r).1).1, (mpsA a r).2.1 :: (cycA rs (mpsA a r).1).2.1, (mpsA a r).2.2 + (cycA rs (mpsA a r).1).2.2)
def sumQ : List Nat → Nat
  | [] => 0
  | r :: rs => qOf r + sumQ rs
def runA : Nat → Nat → Nat → List Nat → Nat → Nat
  | 0, _, _, _, _ => 1000000
  | f + 1, R, a, rows, N =>
    if R ≤ (a - 0x8000) / sumQ rows then N
    else runA f (R - (a - 0x8000) / sumQ rows - 1) (cycA rows (a - (a - 0x8000) / sumQ rows * sumQ rows)).1 (cycA rows (a - (a - 0x8000) / sumQ rows * sumQ rows)).2.1
      (N + (cycA rows (a - (a - 0x8000) / sumQ rows * sumQ rows)).2.2)
def allR (n : Nat) : Bool := (firstA n).all fun x => Nat.ble (runA 200 (20000 / n + 1) x.1 x.2.1 x.2.2) (48 + 21 * n)
set_option maxRecDepth 100000 in
theorem all_runs : (allR 1 && allR 2 && allR 3 && allR 4 && allR 5 && allR 6 && allR 7 && allR 8 && allR 9 && allR 10 && allR 11 && allR 12) = true := by kernel_rfl

end Go.Ar

/- ShB: decisions that are all alike: how many bytes. No Go, no memory. -/
set_option linter.unusedVariables false
set_option linter.unusedSimpArgs false
namespace Go.Ar

/-- The first 'c' of 'n' contexts have been met; each has its own bit 'bb'. -/
structure Al (n c : Nat) (bb : Nat → Nat) (s : Cod) (a : Nat) (rows : List Nat) (N : Nat) : Prop where
  wf : Wf s
  a : s.a = a
  len : s.st.length = n
  rlen : rows.length = c
  st : ∀ k r, rows[k]? = some r → s.st[k]? = some (2 * r + bb k)
  new : ∀ k, c ≤ k → k < n → s.st[k]? = some 0
  row : ∀ r ∈ rows, r < 47
  out : 7 * s.bs.length + 12 ≤ N + s.t

section
variable {n c k a r N : Nat} {bb : Nat → Nat} {s : Cod} {rows : List Nat}
theorem shift_out (hm : Mid s) (h : 7 * s.bs.length + 12 ≤ N + s.t) : 7 * (shiftM s).bs.length + 12 ≤ N + 1 + (shiftM s).t := by
  have h1 := hm.t1
  unfold shiftM
  simp only []
  split
  · rename_i h0
    have h0 : s.t - 1 = 0 := h0
    have e1 := (outM_same { s with a := 2 * s.a, c := 2 * s.c, t := s.t - 1 }).2.2.2.2
    have e2 : (outM { s with a := 2 * s.a, c := 2 * s.c, t := s.t - 1 }).t = 7 ∨ (outM { s with a := 2 * s.a, c := 2 * s.c, t := s.t - 1 }).t = 8 := by
      unfold outM outTail
      split <;> split <;> first | exact .inl rfl | exact .inr rfl
    rw [e1]
    show 7 * (s.bs.length + 1) + 12 ≤ _
    omega
  · show 7 * s.bs.length + 12 ≤ N + 1 + (s.t - 1)
    omega
theorem renew_one (hm : Mid s) (h1 : 0x4000 ≤ s.a) (h2 : s.a < 0x8000) : renewM 17 s = shiftM s := by
  have h := (shiftM_mid hm h2).2.1
  rw [renewM_succ, if_pos (by omega)]
theorem renew_two (hm : Mid s) (h1 : 0x2000 ≤ s.a) (h2 : s.a < 0x4000) : renewM 17 s = shiftM (shiftM s) := by
  obtain ⟨g1, h, _⟩ := shiftM_mid hm (by omega)
  have h' := (shiftM_mid g1 (by omega)).2.1
  rw [renewM_succ, if_neg (by omega), renewM_succ, if_pos (by omega)]
theorem st_of {st : List Nat} {k x : Nat} (h : st[k]? = some x) : st.getD k 0 = x := by rw [List.getD_eq_getElem?_getD, h]; rfl

theorem al_mps (h : Al n c bb s a rows N) (hb : bb k ≤ 1) (hk : rows[k]? = some r) (hn : s.n < 16777216) :
    Al n c bb (putM s k (bb k)) (mpsA a r).1 (rows.set k (mpsA a r).2.1) (N + (mpsA a r).2.2) := by
  have hx := h.st k r hk
  have hkc : k < rows.length := (List.getElem?_eq_some_iff.1 hk).1
  have hkl : k < s.st.length := (List.getElem?_eq_some_iff.1 hx).1
  have hr := h.row r (List.mem_of_getElem? hk)
  have hwf := putM_wf h.wf k (bb k) hn
  have hlo := h.wf.lo
  have hhi := h.wf.hi
  have hca := h.wf.ca
  have hq1 := qOf_pos hr
  have hq2 := qOf_le hr
  have hmr := mOf_lt hr
  have ha := h.a
  have hd : (2 * r + bb k) / 2 = r := by omega
  have hm2 : (2 * r + bb k) % 2 = bb k := by omega
  have hrl := h.rlen
  have hup : upM (2 * r + bb k) = 2 * mOf r + bb k := by unfold upM; rw [hd, hm2]
  have hset : ∀ j y, (rows.set k (mOf r))[j]? = some y → (s.st.set k (2 * mOf r + bb k))[j]? = some (2 * y + bb j) := by
    intro j y hy
    by_cases hj : k = j
    · subst hj
      rw [List.getElem?_set_self hkc] at hy
      rw [List.getElem?_set_self hkl]
      have : mOf r = y := by simpa using hy
      rw [this]
    · rw [List.getElem?_set_ne hj] at hy ⊢
      exact h.st j y hy
  have hnew : ∀ j, c ≤ j → j < n → (s.st.set k (2 * mOf r + bb k))[j]? = some 0 := fun j h1 h2 => by
    rw [List.getElem?_set_ne (by omega)]
    exact h.new j h1 h2
  have hrow : ∀ y ∈ rows.set k (mOf r), y < 47 := fun y hy => by
    rcases List.mem_or_eq_of_mem_set hy with h1 | h1
    · exact h.row y h1
    · rw [h1]; exact hmr
  have hput : putM s k (bb k) = if 0x8000 ≤ s.a - qOf r then { s with a := s.a - qOf r, c := s.c + qOf r, n := s.n + 1 }
      else if s.a - qOf r < qOf r then renewM 17 { s with a := qOf r, n := s.n + 1, st := s.st.set k (2 * mOf r + bb k) }
      else renewM 17 { s with a := s.a - qOf r, c := s.c + qOf r, n := s.n + 1, st := s.st.set k (2 * mOf r + bb k) } := by
    unfold putM
    simp only [st_of hx, hd, hm2, hup, if_true]
  rw [hput] at hwf ⊢
  unfold mpsA
  rw [← ha]
  by_cases h8 : 0x8000 ≤ s.a - qOf r
  · rw [if_pos h8] at hwf ⊢
    rw [if_pos h8]
    have e : rows.set k r = rows := by
      apply List.ext_getElem?
      intro j
      by_cases hj : k = j
      · subst hj; rw [List.getElem?_set_self hkc, hk]
      · rw [List.getElem?_set_ne hj]
    exact ⟨hwf, rfl, h.len, by simp only []; rw [e]; exact hrl, by simp only []; rw [e]; exact h.st, h.new, by simp only []; rw [e]; exact h.row, h.out⟩
  · rw [if_neg h8] at hwf ⊢
    rw [if_neg h8]
    have fin : ∀ (c0 : Nat) (a0 : Nat), 0x4000 ≤ a0 → a0 < 0x8000 → c0 + a0 ≤ s.c + s.a → Wf (renewM 17 { s with a := a0, c := c0, n := s.n + 1, st := s.st.set k (2 * mOf r + bb k) }) →
        Al n c bb (renewM 17 { s with a := a0, c := c0, n := s.n + 1, st := s.st.set k (2 * mOf r + bb k) }) (2 * a0) (rows.set k (mOf r)) (N + 1) := by
      intro c0 a0 h1 h2 h3 hw
      have hmid : Mid { s with a := a0, c := c0, n := s.n + 1, st := s.st.set k (2 * mOf r + bb k) } := ⟨h.wf.t1, h.wf.t12, by show c0 + a0 < 2 ^ (28 - s.t); omega, h.wf.l, h.wf.bs, set_lt h.wf.st (by omega)⟩
      rw [renew_one hmid h1 h2] at hw ⊢
      obtain ⟨g1, g2, g3, g4, g5, g6⟩ := shiftM_mid hmid h2
      refine ⟨hw, g2, by rw [g4]; simp [h.len], by simp [hrl], by rw [g4]; exact hset, by rw [g4]; exact hnew, hrow, shift_out hmid h.out⟩
    by_cases hq : s.a - qOf r < qOf r
    · rw [if_pos hq] at hwf ⊢
      rw [if_pos hq]
      exact fin s.c (qOf r) (by omega) (by omega) (by omega) hwf
    · rw [if_neg hq] at hwf ⊢
      rw [if_neg hq]
      exact fin (s.c + qOf r) (s.a - qOf r) (by omega) (by omega) (by omega) hwf

theorem al_new (h : Al n c bb s a rows N) (hc : c < n) (hb : bb c = 0) : Al n (c + 1) bb s a (rows ++ [0]) N := by
  refine ⟨h.wf, h.a, h.len, by simp [h.rlen], fun k r hk => ?_, fun k h1 h2 => h.new k (by omega) h2, fun r hr => ?_, h.out⟩
  · rcases Nat.lt_or_ge k rows.length with h1 | h1
    · rw [List.getElem?_append_left h1] at hk; exact h.st k r hk
    · have h2 := (List.getElem?_eq_some_iff.1 hk).1
      simp at h2
      have : k = c := by have := h.rlen; omega
      subst this
      rw [List.getElem?_append_right h1, h.rlen, Nat.sub_self] at hk
      have : r = 0 := by simpa using hk.symm
      rw [this, hb]
      exact h.new k (Nat.le_refl _) hc
  · rcases List.mem_append.1 hr with h1 | h1
    · exact h.row r h1
    · rw [List.mem_singleton.1 h1]; decide
theorem al_first0 (h : Al n c bb s a rows N) (hc : c < n) (hb : bb c = 0) (hn : s.n < 16777216) : Al n (c + 1) bb (putM s c 0) (mpsA a 0).1 (rows ++ [(mpsA a 0).2.1]) (N + (mpsA a 0).2.2) := by
  have h1 := al_mps (k := c) (r := 0) (al_new h hc hb) (by omega) (by rw [← h.rlen]; simp) hn
  rw [hb] at h1
  have e : (rows ++ [0]).set c (mpsA a 0).2.1 = rows ++ [(mpsA a 0).2.1] := by
    rw [← h.rlen, List.set_append_right _ _ (Nat.le_refl _), Nat.sub_self]; rfl
  rw [e] at h1
  exact h1
theorem al_first1 (h : Al n c bb s a rows N) (hc : c < n) (hb : bb c = 1) (hn : s.n < 16777216) : Al n (c + 1) bb (putM s c 1) (lpsA a).1 (rows ++ [1]) (N + (lpsA a).2) := by
  have hx := h.new c (Nat.le_refl _) hc
  have hwf := putM_wf h.wf c 1 hn
  have hlo := h.wf.lo
  have hhi := h.wf.hi
  have hca := h.wf.ca
  have ha := h.a
  have hcl : c < s.st.length := by rw [h.len]; exact hc
  have hput : putM s c 1 = if s.a - 0x5601 < 0x5601 then renewM 17 { s with a := s.a - 0x5601, c := s.c + 0x5601, n := s.n + 1, st := s.st.set c 3 }
      else renewM 17 { s with a := 0x5601, n := s.n + 1, st := s.st.set c 3 } := by
    have hq0 : qOf (0 / 2) = 0x5601 := rfl
    have hu : upL 0 = 3 := rfl
    unfold putM
    simp only [st_of hx]
    rw [if_neg (show ¬ 1 = 0 % 2 by decide), hq0, hu]
  have hset : ∀ j y, (rows ++ [1])[j]? = some y → (s.st.set c 3)[j]? = some (2 * y + bb j) := by
    intro j y hy
    rcases Nat.lt_or_ge j rows.length with h1 | h1
    · rw [List.getElem?_append_left h1] at hy
      rw [List.getElem?_set_ne (by have := h.rlen; omega)]
      exact h.st j y hy
    · have h2 := (List.getElem?_eq_some_iff.1 hy).1
      simp at h2
      have : j = c := by have := h.rlen; omega
      subst this
      rw [List.getElem?_append_right h1, h.rlen, Nat.sub_self] at hy
      have : y = 1 := by simpa using hy.symm
      rw [this, hb, List.getElem?_set_self hcl]
  have hnew : ∀ j, c + 1 ≤ j → j < n → (s.st.set c 3)[j]? = some 0 := fun j h1 h2 => by
    rw [List.getElem?_set_ne (by omega)]
    exact h.new j (by omega) h2
  have hrow : ∀ y ∈ rows ++ [1], y < 47 := fun y hy => by
    rcases List.mem_append.1 hy with h1 | h1
    · exact h.row y h1
    · rw [List.mem_singleton.1 h1]; decide
  have fin : ∀ (c0 a0 : Nat), 0x2000 ≤ a0 → a0 < 0x8000 → c0 + a0 ≤ s.c + s.a → Wf (renewM 17 { s with a := a0, c := c0, n := s.n + 1, st := s.st.set c 3 }) →
      Al n (c + 1) bb (renewM 17 { s with a := a0, c := c0, n := s.n + 1, st := s.st.set c 3 }) (if 0x4000 ≤ a0 then (2 * a0, 1) else (4 * a0, 2)).1 (rows ++ [1]) (N + (if 0x4000 ≤ a0 then (2 * a0, 1) else (4 * a0, 2)).2) := by
    intro c0 a0 h1 h2 h3 hw
    have hmid : Mid { s with a := a0, c := c0, n := s.n + 1, st := s.st.set c 3 } := ⟨h.wf.t1, h.wf.t12, by show c0 + a0 < 2 ^ (28 - s.t); omega, h.wf.l, h.wf.bs, set_lt h.wf.st (by omega)⟩
    obtain ⟨g1, g2, g3, g4, g5, g6⟩ := shiftM_mid hmid h2
    have o1 := shift_out hmid h.out
    by_cases h4 : 0x4000 ≤ a0
    · rw [if_pos h4]
      rw [renew_one hmid h4 h2] at hw ⊢
      exact ⟨hw, g2, by rw [g4]; simp [h.len], by simp [h.rlen], by rw [g4]; exact hset, by rw [g4]; exact hnew, hrow, o1⟩
    · rw [if_neg h4]
      rw [renew_two hmid h1 (by show a0 < _; omega)] at hw ⊢
      obtain ⟨k1, k2, k3, k4, k5, k6⟩ := shiftM_mid g1 (by rw [g2]; show 2 * a0 < _; omega)
      refine ⟨hw, by rw [k2, g2]; show 2 * (2 * a0) = 4 * a0; omega, by rw [k4, g4]; simp [h.len], by simp [h.rlen], by rw [k4, g4]; exact hset, by rw [k4, g4]; exact hnew, hrow, shift_out g1 o1⟩
  rw [hput] at hwf ⊢
  unfold lpsA
  rw [← ha]
  by_cases hq : s.a - 0x5601 < 0x5601
  · rw [if_pos hq] at hwf ⊢
    simp only [if_pos hq]
    exact fin (s.c + 0x5601) (s.a - 0x5601) (by omega) (by omega) (by omega) hwf
  · rw [if_neg hq] at hwf ⊢
    simp only [if_neg hq]
    exact fin s.c 0x5601 (by omega) (by omega) (by omega) hwf
theorem Al.more (h : Al n c bb s a rows N) {N' : Nat} (hN : N ≤ N') : Al n c bb s a rows N' := ⟨h.wf, h.a, h.len, h.rlen, h.st, h.new, h.row, by have := h.out; omega⟩
end

/-! ### the first round: what may be -/
def Cov (z : Nat × List Nat × Nat) (L : List (Nat × List Nat × Nat)) : Prop := ∃ y ∈ L, y.1 = z.1 ∧ y.2.1 = z.2.1 ∧ z.2.2 ≤ y.2.2
theorem insR_self (x : Nat × List Nat × Nat) : ∀ l, Cov x (insR x l)
  | [] => ⟨x, by simp [insR], rfl, rfl, Nat.le_refl _⟩
  | y :: l => by
    unfold insR
    split
    · rename_i h
      simp only [Bool.and_eq_true] at h
      exact ⟨_, List.mem_cons_self, Nat.eq_of_beq_eq_true h.1, listEq_of h.2, Nat.le_max_right _ _⟩
    · obtain ⟨z, h1, h2⟩ := insR_self x l
      exact ⟨z, List.mem_cons_of_mem _ h1, h2⟩
theorem insR_old (x z : Nat × List Nat × Nat) : ∀ {l}, Cov z l → Cov z (insR x l)
  | [], ⟨y, hy, _⟩ => by cases hy
  | w :: l, ⟨y, hy, h1, h2, h3⟩ => by
    unfold insR
    split
    · rcases List.mem_cons.1 hy with rfl | hy
      · exact ⟨_, List.mem_cons_self, h1, h2, Nat.le_trans h3 (Nat.le_max_left _ _)⟩
      · exact ⟨y, List.mem_cons_of_mem _ hy, h1, h2, h3⟩
    · rcases List.mem_cons.1 hy with rfl | hy
      · exact ⟨_, List.mem_cons_self, h1, h2, h3⟩
      · obtain ⟨v, g1, g2⟩ := insR_old x z (l := l) ⟨y, hy, h1, h2, h3⟩
        exact ⟨v, List.mem_cons_of_mem _ g1, g2⟩
theorem two_cov (l : List (Nat × List Nat × Nat)) : ∀ x ∈ l, Cov ((mpsA x.1 0).1, x.2.1 ++ [(mpsA x.1 0).2.1], x.2.2 + (mpsA x.1 0).2.2) (l.foldr two []) ∧ Cov ((lpsA x.1).1, x.2.1 ++ [1], x.2.2 + (lpsA x.1).2) (l.foldr two []) := by
  induction l with
  | nil => intro x hx; cases hx
  | cons w l ih =>
    intro x hx
    rw [List.foldr_cons]
    show Cov _ (two w (l.foldr two [])) ∧ Cov _ (two w (l.foldr two []))
    unfold two
    rcases List.mem_cons.1 hx with rfl | hx
    · exact ⟨insR_self _ _, insR_old _ _ (insR_self _ _)⟩
    · obtain ⟨h1, h2⟩ := ih x hx
      exact ⟨insR_old _ _ (insR_old _ _ h1), insR_old _ _ (insR_old _ _ h2)⟩

section
variable (n : Nat) (bb : Nat → Nat)
abbrev alk (n : Nat) : Nat → Nat := fun i => i % n
abbrev alb (n : Nat) (bb : Nat → Nat) : Nat → Nat := fun i => bb (i % n)
abbrev alN (i : Nat) : Cod := codN (alk n) (alb n bb) n i
theorem alN_n : ∀ i, (alN n bb i).n = i
  | 0 => rfl
  | i + 1 => by show (putM _ _ _).n = _; rw [(putM_n _ _ _).1]; exact congrArg (· + 1) (alN_n i)
set_option maxRecDepth 50000 in
theorem first_al (hb : ∀ k, k < n → bb k ≤ 1) : ∀ c, c ≤ n → c ≤ 16777216 → ∃ x ∈ firstA c, Al n c bb (alN n bb c) x.1 x.2.1 x.2.2 := by
  intro c
  induction c with
  | zero =>
    intro _ _
    refine ⟨(0x8000, [], 0), by simp [firstA], ?_⟩
    have e : alN n bb 0 = newC n := rfl
    rw [e]
    refine { wf := newC_wf n, a := rfl, len := by simp [newC], rlen := rfl, st := fun k r h => ?_, new := fun k _ h => ?_, row := fun r h => ?_, out := by simp [newC] }
    · simp at h
    · simp [newC, h]
    · simp at h
  | succ c ih =>
    intro hc h2
    obtain ⟨x, hx, h⟩ := ih (by omega) (by omega)
    obtain ⟨g1, g2⟩ := two_cov (firstA c) x hx
    have hcn : c % n = c := Nat.mod_eq_of_lt (by omega)
    have hn : (alN n bb c).n < 16777216 := by rw [alN_n]; omega
    have e : alN n bb (c + 1) = putM (alN n bb c) c (bb c) := by
      show putM (alN n bb c) (c % n) (bb (c % n)) = _
      rw [hcn]
    rw [e]
    rcases (show bb c = 0 ∨ bb c = 1 by have := hb c (by omega); omega) with h0 | h1
    · rw [h0]
      obtain ⟨y, y1, y2, y3, y4⟩ := g1
      dsimp only at y2 y3 y4
      refine ⟨y, y1, ?_⟩
      rw [y2, y3]
      exact (al_first0 h (by omega) h0 hn).more y4
    · rw [h1]
      obtain ⟨y, y1, y2, y3, y4⟩ := g2
      dsimp only at y2 y3 y4
      refine ⟨y, y1, ?_⟩
      rw [y2, y3]
      exact (al_first1 h (by omega) h1 hn).more y4

theorem cyc_len : ∀ (rs : List Nat) (a : Nat), (cycA rs a).2.1.length = rs.length
  | [], _ => rfl
  | r :: rs, a => by show (cycA rs _).2.1.length + 1 = _; rw [cyc_len rs]; rfl
theorem cyc_al (hn1 : 1 ≤ n) (hb : ∀ k, k < n → bb k ≤ 1) : ∀ (rs pre : List Nat) (c a N : Nat), pre.length + rs.length = n → Al n n bb (alN n bb (c * n + pre.length)) a (pre ++ rs) N → c * n + n ≤ 16777216 →
    Al n n bb (alN n bb (c * n + n)) (cycA rs a).1 (pre ++ (cycA rs a).2.1) (N + (cycA rs a).2.2)
  | [], pre, c, a, N, hl, h, hc => by
    have : pre.length = n := by simpa using hl
    rw [this] at h
    exact h
  | r :: rs, pre, c, a, N, hl, h, hc => by
    simp only [List.length_cons] at hl
    have hk : (c * n + pre.length) % n = pre.length := by rw [Nat.add_comm, Nat.add_mul_mod_self_right, Nat.mod_eq_of_lt (by omega)]
    have h1 := al_mps (k := pre.length) (r := r) h (hb _ (by omega)) (by simp) (by rw [alN_n]; omega)
    have e : putM (alN n bb (c * n + pre.length)) pre.length (bb pre.length) = alN n bb (c * n + (pre ++ [(mpsA a r).2.1]).length) := by
      rw [List.length_append, List.length_singleton]
      show _ = putM (alN n bb (c * n + pre.length)) ((c * n + pre.length) % n) (bb ((c * n + pre.length) % n))
      rw [hk]
    have e2 : (pre ++ r :: rs).set pre.length (mpsA a r).2.1 = (pre ++ [(mpsA a r).2.1]) ++ rs := by
      rw [List.set_append_right _ _ (Nat.le_refl _), Nat.sub_self]; simp
    rw [e, e2] at h1
    have h2 := cyc_al hn1 hb rs (pre ++ [(mpsA a r).2.1]) c _ _ (by simp; omega) h1 hc
    have e3 : pre ++ (cycA (r :: rs) a).2.1 = pre ++ [(mpsA a r).2.1] ++ (cycA rs (mpsA a r).1).2.1 := by
      rw [List.append_assoc]; rfl
    rw [e3]
    show Al n n bb _ (cycA rs (mpsA a r).1).1 _ (N + ((mpsA a r).2.2 + (cycA rs (mpsA a r).1).2.2))
    rw [← Nat.add_assoc]
    exact h2
theorem cyc_none : ∀ (rs : List Nat) (a : Nat), 0x8000 + sumQ rs ≤ a → cycA rs a = (a - sumQ rs, rs, 0)
  | [], a, _ => rfl
  | r :: rs, a, h => by
    have hs : sumQ (r :: rs) = qOf r + sumQ rs := rfl
    rw [hs] at h
    have e : mpsA a r = (a - qOf r, r, 0) := by unfold mpsA; rw [if_pos (by omega)]
    have ih := cyc_none rs (a - qOf r) (by omega)
    show ((cycA rs (mpsA a r).1).1, (mpsA a r).2.1 :: (cycA rs (mpsA a r).1).2.1, (mpsA a r).2.2 + (cycA rs (mpsA a r).1).2.2) = _
    rw [e]
    simp only []
    rw [ih, hs]
    simp only [Nat.sub_sub]
theorem skip_al (hn1 : 1 ≤ n) (hb : ∀ k, k < n → bb k ≤ 1) {rows : List Nat} (hrl : rows.length = n) : ∀ (m c a N : Nat), Al n n bb (alN n bb (c * n)) a rows N → 0x8000 + m * sumQ rows ≤ a → (c + m) * n ≤ 16777216 → Al n n bb (alN n bb ((c + m) * n)) (a - m * sumQ rows) rows N
  | 0, c, a, N, h, _, _ => by simpa using h
  | m + 1, c, a, N, h, ha, hc => by
    rw [Nat.add_mul, Nat.one_mul] at ha
    have e : (c + (m + 1)) * n = (c + 1 + m) * n := by congr 1; omega
    rw [e] at hc ⊢
    have hcc : (c + 1) * n ≤ (c + 1 + m) * n := Nat.mul_le_mul_right _ (by omega)
    have h1 := cyc_al n bb hn1 hb rows [] c a N (by simp [hrl]) (by simpa using h) (by rw [Nat.add_mul, Nat.one_mul] at hcc; omega)
    rw [cyc_none rows a (by omega)] at h1
    have e2 : c * n + n = (c + 1) * n := by rw [Nat.add_mul, Nat.one_mul]
    rw [e2] at h1
    have h2 := skip_al hn1 hb hrl m (c + 1) (a - sumQ rows) N h1 (by omega) hc
    have e3 : a - (m + 1) * sumQ rows = a - sumQ rows - m * sumQ rows := by rw [Nat.add_mul, Nat.one_mul]; omega
    rw [e3]
    exact h2
theorem run_al (hn1 : 1 ≤ n) (hb : ∀ k, k < n → bb k ≤ 1) : ∀ (f R c a : Nat) (rows : List Nat) (N : Nat), Al n n bb (alN n bb (c * n)) a rows N → (c + R) * n ≤ 16777216 → runA f R a rows N < 1000000 →
    ∃ a' rows', Al n n bb (alN n bb ((c + R) * n)) a' rows' (runA f R a rows N)
  | 0, R, c, a, rows, N, _, _, hlt => by unfold runA at hlt; omega
  | f + 1, R, c, a, rows, N, h, hc, hlt => by
    have hlo : 0x8000 ≤ a := by rw [← h.a]; exact h.wf.lo
    have hdm := Nat.div_mul_le_self (a - 0x8000) (sumQ rows)
    unfold runA at hlt ⊢
    generalize hm : (a - 0x8000) / sumQ rows = m at hlt hdm ⊢
    split
    · rename_i hR
      have : R * sumQ rows ≤ m * sumQ rows := Nat.mul_le_mul_right _ hR
      exact ⟨_, _, skip_al n bb hn1 hb h.rlen R c a N h (by omega) hc⟩
    · rename_i hR
      rw [if_neg hR] at hlt
      have hcm : (c + m + 1) * n ≤ (c + R) * n := Nat.mul_le_mul_right _ (by omega)
      have hcm2 : (c + m) * n ≤ (c + R) * n := Nat.mul_le_mul_right _ (by omega)
      have h1 := skip_al n bb hn1 hb h.rlen m c a N h (by omega) (by omega)
      have h2 := cyc_al n bb hn1 hb rows [] (c + m) (a - m * sumQ rows) N (by simp [h.rlen]) (by simpa using h1) (by rw [Nat.add_mul (c + m) 1 n, Nat.one_mul] at hcm; omega)
      have e2 : (c + m) * n + n = (c + m + 1) * n := by rw [Nat.add_mul (c + m) 1 n, Nat.one_mul]
      rw [e2] at h2
      have e3 : c + R = c + m + 1 + (R - m - 1) := by omega
      rw [e3] at hc ⊢
      exact run_al hn1 hb f (R - m - 1) (c + m + 1) _ _ _ h2 hc hlt

theorem bs_mono : ∀ i, (alN n bb i).bs.length ≤ (alN n bb (i + 1)).bs.length := by
  have hs : ∀ s : Cod, s.bs.length ≤ (shiftM s).bs.length := fun s => by
    unfold shiftM
    simp only []
    split
    · rw [(outM_same _).2.2.2.2]; exact Nat.le_succ _
    · exact Nat.le_refl _
  have hr : ∀ (j : Nat) (s : Cod), s.bs.length ≤ (renewM j s).bs.length := by
    intro j
    induction j with
    | zero => exact fun s => Nat.le_refl _
    | succ j ih =>
      intro s
      unfold renewM
      simp only []
      split
      · exact hs s
      · exact Nat.le_trans (hs s) (ih _)
  have hr' : ∀ s s' : Cod, s'.bs = s.bs → s.bs.length ≤ (renewM 17 s').bs.length := fun s s' e => by rw [← e]; exact hr 17 s'
  intro i
  show _ ≤ (putM _ _ _).bs.length
  unfold putM
  simp only []
  split
  · split
    · exact Nat.le_refl _
    · split <;> exact hr' _ _ rfl
  · split <;> exact hr' _ _ rfl
theorem bs_le {i j : Nat} (h : i ≤ j) : (alN n bb i).bs.length ≤ (alN n bb j).bs.length := by
  induction j with
  | zero => have : i = 0 := by omega
            subst this; exact Nat.le_refl _
  | succ j ih =>
    rcases Nat.lt_or_ge j i with h1 | h1
    · have : i = j + 1 := by omega
      subst this; exact Nat.le_refl _
    · exact Nat.le_trans (ih h1) (bs_mono n bb j)
theorem allR_of (h1 : 1 ≤ n) (h2 : n ≤ 12) : allR n = true := by
  have := all_runs
  simp only [Bool.and_eq_true] at this
  obtain ⟨⟨⟨⟨⟨⟨⟨⟨⟨⟨⟨g1, g2⟩, g3⟩, g4⟩, g5⟩, g6⟩, g7⟩, g8⟩, g9⟩, g10⟩, g11⟩, g12⟩ := this
  match n, h1, h2 with
  | 1, _, _ => exact g1
  | 2, _, _ => exact g2
  | 3, _, _ => exact g3
  | 4, _, _ => exact g4
  | 5, _, _ => exact g5
  | 6, _, _ => exact g6
  | 7, _, _ => exact g7
  | 8, _, _ => exact g8
  | 9, _, _ => exact g9
  | 10, _, _ => exact g10
  | 11, _, _ => exact g11
  | 12, _, _ => exact g12
theorem short_bs (h1 : 1 ≤ n) (h2 : n ≤ 12) (hb : ∀ k, k < n → bb k ≤ 1) : (alN n bb 20000).bs.length ≤ 6 + 3 * n := by
  obtain ⟨x, hx, h⟩ := first_al n bb hb n (Nat.le_refl _) (by omega)
  have hr := List.all_eq_true.1 (allR_of n h1 h2) x hx
  have hr := Nat.le_of_ble_eq_true hr
  have hdm := Nat.div_add_mod 20000 n
  have hml := Nat.mod_lt 20000 (show n > 0 by omega)
  rw [Nat.mul_comm] at hdm
  have hmul : (1 + (20000 / n + 1)) * n = 20000 / n * n + 2 * n := by rw [Nat.add_comm, Nat.add_assoc, Nat.add_mul]
  obtain ⟨a', rows', h'⟩ := run_al n bb h1 hb 200 (20000 / n + 1) 1 x.1 x.2.1 x.2.2 (by rw [Nat.one_mul]; exact h) (by rw [hmul]; omega) (by omega)
  have hle := bs_le n bb (show 20000 ≤ (1 + (20000 / n + 1)) * n by rw [hmul]; omega)
  have ho := h'.out
  have ht := h'.wf.t12
  omega
end
theorem flush_bs {s : Cod} (hs : Wf s) : (bytesM (flushM s)).length ≤ s.bs.length + 2 := by
  have ho : ∀ s : Cod, (flushS s).bs.length = s.bs.length + 1 := fun s => (outM_same { s with c := s.c * 2 ^ s.t }).2.2.2.2
  have h : (flushM s).bs.length = s.bs.length + 2 := by
    show (flushS (flushS _)).bs.length = _
    rw [ho, ho]
  unfold bytesM
  simp only []
  split
  · simp; omega
  · simp; omega

end Go.Ar

/- ShD: one context, decided many times alike: how many bytes more. No Go, no memory. -/
set_option linter.unusedVariables false
set_option linter.unusedSimpArgs false
namespace Go.Ar

/-- A context stands at 'x'; so many doublings. -/
structure Rs (k x : Nat) (s : Cod) (N : Nat) : Prop where
  wf : Wf s
  st : s.st[k]? = some x
  out : 7 * s.bs.length + 12 ≤ N + s.t
section
variable {k x r b N : Nat} {s : Cod}
theorem rs_mps (h : Rs k (2 * r + b) s N) (hb : b ≤ 1) (hn : s.n < 16777216) :
    Rs k (2 * (mpsA s.a r).2.1 + b) (putM s k b) (N + (mpsA s.a r).2.2) ∧ (putM s k b).a = (mpsA s.a r).1 := by
  have hx := h.st
  have hkl : k < s.st.length := (List.getElem?_eq_some_iff.1 hx).1
  have hr : r < 47 := by have := h.wf.st _ (List.mem_of_getElem? hx); omega
  have hwf := putM_wf h.wf k b hn
  have hlo := h.wf.lo
  have hhi := h.wf.hi
  have hca := h.wf.ca
  have hq1 := qOf_pos hr
  have hq2 := qOf_le hr
  have hmr := mOf_lt hr
  have hd : (2 * r + b) / 2 = r := by omega
  have hm2 : (2 * r + b) % 2 = b := by omega
  have hup : upM (2 * r + b) = 2 * mOf r + b := by unfold upM; rw [hd, hm2]
  have hput : putM s k b = if 0x8000 ≤ s.a - qOf r then { s with a := s.a - qOf r, c := s.c + qOf r, n := s.n + 1 }
      else if s.a - qOf r < qOf r then renewM 17 { s with a := qOf r, n := s.n + 1, st := s.st.set k (2 * mOf r + b) }
      else renewM 17 { s with a := s.a - qOf r, c := s.c + qOf r, n := s.n + 1, st := s.st.set k (2 * mOf r + b) } := by
    unfold putM
    simp only [st_of hx, hd, hm2, hup, if_true]
  rw [hput] at hwf ⊢
  unfold mpsA
  by_cases h8 : 0x8000 ≤ s.a - qOf r
  · rw [if_pos h8] at hwf ⊢
    rw [if_pos h8]
    exact ⟨⟨hwf, hx, h.out⟩, rfl⟩
  · rw [if_neg h8] at hwf ⊢
    rw [if_neg h8]
    have fin : ∀ (c0 : Nat) (a0 : Nat), 0x4000 ≤ a0 → a0 < 0x8000 → c0 + a0 ≤ s.c + s.a → Wf (renewM 17 { s with a := a0, c := c0, n := s.n + 1, st := s.st.set k (2 * mOf r + b) }) →
        Rs k (2 * mOf r + b) (renewM 17 { s with a := a0, c := c0, n := s.n + 1, st := s.st.set k (2 * mOf r + b) }) (N + 1) ∧ (renewM 17 { s with a := a0, c := c0, n := s.n + 1, st := s.st.set k (2 * mOf r + b) }).a = 2 * a0 := by
      intro c0 a0 h1 h2 h3 hw
      have hmid : Mid { s with a := a0, c := c0, n := s.n + 1, st := s.st.set k (2 * mOf r + b) } := ⟨h.wf.t1, h.wf.t12, by show c0 + a0 < 2 ^ (28 - s.t); omega, h.wf.l, h.wf.bs, set_lt h.wf.st (by omega)⟩
      rw [renew_one hmid h1 h2] at hw ⊢
      obtain ⟨g1, g2, g3, g4, g5, g6⟩ := shiftM_mid hmid h2
      exact ⟨⟨hw, by rw [g4]; exact List.getElem?_set_self hkl, shift_out hmid h.out⟩, g2⟩
    by_cases hq : s.a - qOf r < qOf r
    · rw [if_pos hq] at hwf ⊢
      rw [if_pos hq]
      exact fin s.c (qOf r) (by omega) (by omega) (by omega) hwf
    · rw [if_neg hq] at hwf ⊢
      rw [if_neg hq]
      exact fin (s.c + qOf r) (s.a - qOf r) (by omega) (by omega) (by omega) hwf
/-- The other bit, where the range falls below no quarter of a half. -/
theorem rs_lps (h : Rs k x s N) (hb : b ≠ x % 2) (hn : s.n < 16777216) (hq : 0x2000 ≤ qOf (x / 2)) : Rs k (upL x) (putM s k b) (N + 2) := by
  have hx := h.st
  have hkl : k < s.st.length := (List.getElem?_eq_some_iff.1 hx).1
  have hx94 := h.wf.st _ (List.mem_of_getElem? hx)
  have hr : x / 2 < 47 := by omega
  have hwf := putM_wf h.wf k b hn
  have hlo := h.wf.lo
  have hhi := h.wf.hi
  have hca := h.wf.ca
  have hq1 := qOf_pos hr
  have hq2 := qOf_le hr
  have hput : putM s k b = if s.a - qOf (x / 2) < qOf (x / 2) then renewM 17 { s with a := s.a - qOf (x / 2), c := s.c + qOf (x / 2), n := s.n + 1, st := s.st.set k (upL x) }
      else renewM 17 { s with a := qOf (x / 2), n := s.n + 1, st := s.st.set k (upL x) } := by
    unfold putM
    simp only [st_of hx]
    rw [if_neg hb]
  have fin : ∀ (c0 a0 : Nat), 0x2000 ≤ a0 → a0 < 0x8000 → c0 + a0 ≤ s.c + s.a → Wf (renewM 17 { s with a := a0, c := c0, n := s.n + 1, st := s.st.set k (upL x) }) →
      Rs k (upL x) (renewM 17 { s with a := a0, c := c0, n := s.n + 1, st := s.st.set k (upL x) }) (N + 2) := by
    intro c0 a0 h1 h2 h3 hw
    have hmid : Mid { s with a := a0, c := c0, n := s.n + 1, st := s.st.set k (upL x) } := ⟨h.wf.t1, h.wf.t12, by show c0 + a0 < 2 ^ (28 - s.t); omega, h.wf.l, h.wf.bs, set_lt h.wf.st (upL_lt hx94)⟩
    obtain ⟨g1, g2, g3, g4, g5, g6⟩ := shiftM_mid hmid h2
    have o1 := shift_out hmid h.out
    by_cases h4 : 0x4000 ≤ a0
    · rw [renew_one hmid h4 h2] at hw ⊢
      exact ⟨hw, by rw [g4]; exact List.getElem?_set_self hkl, by omega⟩
    · rw [renew_two hmid h1 (by show a0 < _; omega)] at hw ⊢
      obtain ⟨k1, k2, k3, k4, k5, k6⟩ := shiftM_mid g1 (by rw [g2]; show 2 * a0 < _; omega)
      exact ⟨hw, by rw [k4, g4]; exact List.getElem?_set_self hkl, shift_out g1 o1⟩
  rw [hput] at hwf ⊢
  by_cases hq3 : s.a - qOf (x / 2) < qOf (x / 2)
  · rw [if_pos hq3] at hwf ⊢
    exact fin _ _ (by omega) (by omega) (by omega) hwf
  · rw [if_neg hq3] at hwf ⊢
    exact fin _ _ (by omega) (by omega) (by omega) hwf
end
/-- How many rows until a row of small parts. -/
def eTab : List Nat := [2, 1, 0, 0, 0, 0, 6, 5, 4, 3, 2, 1, 0, 0, 10, 9, 8, 7, 6, 5, 4, 3, 2, 1, 0, 0, 0, 0, 0, 0, 0, 0, 0, 0, 0, 0, 0, 0, 0, 0, 0, 0, 0, 0, 0, 0]
def eOf (r : Nat) : Nat := eTab.getD r 0
theorem e_next {r : Nat} (hr : r < 46) : mOf r < 46 ∧ (eOf (mOf r) + 1 ≤ eOf r ∨ qOf r ≤ 0x2000 ∧ eOf r = 0 ∧ eOf (mOf r) = 0) := by
  have : ∀ r ∈ List.range 46, mOf r < 46 ∧ (eOf (mOf r) + 1 ≤ eOf r ∨ qOf r ≤ 0x2000 ∧ eOf r = 0 ∧ eOf (mOf r) = 0) := by decide
  exact this r (List.mem_range.2 hr)
def hiA (a : Nat) : Nat := if 0xC000 ≤ a then 0 else 1
theorem hiA_le (a : Nat) : hiA a ≤ 1 := by unfold hiA; split <;> omega
theorem pot_step {a r : Nat} (h1 : 0x8000 ≤ a) (h2 : a < 0x10000) (hr : r < 46) :
    (mpsA a r).2.1 < 46 ∧ 2 * (mpsA a r).2.2 + 2 * eOf (mpsA a r).2.1 + hiA (mpsA a r).1 ≤ 2 * eOf r + hiA a + 1 := by
  obtain ⟨e1, e2⟩ := e_next hr
  have hq2 := qOf_le (r := r) (by omega)
  unfold mpsA
  by_cases h8 : 0x8000 ≤ a - qOf r
  · rw [if_pos h8]
    have := hiA_le (a - qOf r)
    refine ⟨hr, ?_⟩
    dsimp only
    omega
  · rw [if_neg h8]
    refine ⟨e1, ?_⟩
    dsimp only
    have h9 := hiA_le (2 * if a - qOf r < qOf r then qOf r else a - qOf r)
    rcases e2 with e2 | ⟨e2, e3, e4⟩
    · omega
    · have ha : hiA a = 1 := by unfold hiA; rw [if_neg (by omega)]
      have hb : hiA (2 * if a - qOf r < qOf r then qOf r else a - qOf r) = 0 := by
        unfold hiA
        rw [if_neg (show ¬ a - qOf r < qOf r by omega), if_pos (by omega)]
      rw [ha, hb, e3, e4]
      omega
/-- The same bit in the same context, again and again. -/
def sameM (k b : Nat) (s : Cod) : Nat → Cod
  | 0 => s
  | i + 1 => putM (sameM k b s i) k b
theorem same_run {k r b N : Nat} {s : Cod} (hb : b ≤ 1) (hr : r < 46) (h : Rs k (2 * r + b) s N) : ∀ i, s.n + i ≤ 16777216 → ∃ r' N', r' < 46 ∧ Rs k (2 * r' + b) (sameM k b s i) N' ∧ (sameM k b s i).n = s.n + i ∧ 2 * N' + 2 * eOf r' + hiA (sameM k b s i).a ≤ 2 * N + 2 * eOf r + hiA s.a + i
  | 0, _ => ⟨r, N, hr, h, rfl, Nat.le_refl _⟩
  | i + 1, hn => by
    obtain ⟨r', N', h1, h2, h3, h4⟩ := same_run hb hr h i (by omega)
    obtain ⟨g1, g2⟩ := rs_mps h2 hb (by omega)
    obtain ⟨p1, p2⟩ := pot_step h2.wf.lo h2.wf.hi h1
    refine ⟨_, _, p1, g1, ?_, ?_⟩
    · show (putM _ k b).n = _
      rw [(putM_n _ k b).1, h3]
      omega
    · show 2 * (N' + _) + _ + hiA (putM _ k b).a ≤ _
      rw [g2]
      omega
/-- Forty-nine times a bit, behind a beginning: hardly more bytes. -/
theorem same_49 {k x : Nat} {s : Cod} (hs : Wf s) (hx : s.st[k]? = some x) (hx2 : x = 2 ∨ x = 3) (hn : s.n + 49 ≤ 16777216) : Wf (sameM k 1 s 49) ∧ (sameM k 1 s 49).bs.length ≤ s.bs.length + 6 := by
  have ht1 := hs.t1
  have ht12 := hs.t12
  have h0 : Rs k x s (7 * s.bs.length + 12 - s.t) := ⟨hs, hx, by omega⟩
  have fin : ∀ {r' N' : Nat}, Rs k (2 * r' + 1) (sameM k 1 s 49) N' → N' ≤ 7 * s.bs.length + 12 - s.t + 34 → Wf (sameM k 1 s 49) ∧ (sameM k 1 s 49).bs.length ≤ s.bs.length + 6 := fun {r' N'} h hN => by
    refine ⟨h.wf, ?_⟩
    have h1 := h.out
    have h2 := h.wf.t12
    omega
  rcases hx2 with rfl | rfl
  · have g1 := rs_lps (b := 1) h0 (by decide) (by omega) (by decide)
    have g2 := rs_lps (b := 1) g1 (by decide) (by rw [(putM_n _ k 1).1]; omega) (by decide)
    have e : upL (upL 2) = 2 * 6 + 1 := by decide
    rw [e] at g2
    have n2 : (putM (putM s k 1) k 1).n = s.n + 2 := by rw [(putM_n _ k 1).1, (putM_n _ k 1).1]
    obtain ⟨r', N', q1, q2, q3, q4⟩ := same_run (by decide) (by decide) g2 47 (by omega)
    have hsame : ∀ i, sameM k 1 (putM (putM s k 1) k 1) i = sameM k 1 s (i + 2) := by
      intro i
      induction i with
      | zero => rfl
      | succ i ih => show putM _ k 1 = putM _ k 1; rw [ih]
    rw [hsame 47] at q2 q4
    refine fin q2 ?_
    have h6 : eOf 6 = 6 := by decide
    have h7 := hiA_le (putM (putM s k 1) k 1).a
    rw [h6] at q4
    omega
  · obtain ⟨r', N', q1, q2, q3, q4⟩ := same_run (r := 1) (b := 1) (by decide) (by decide) h0 49 hn
    refine fin q2 ?_
    have h6 : eOf 1 = 1 := by decide
    have h7 := hiA_le s.a
    rw [h6] at q4
    omega
theorem flush_bs_lo {s : Cod} (hs : Wf s) : s.bs.length + 1 ≤ (bytesM (flushM s)).length := by
  have ho : ∀ s : Cod, (flushS s).bs.length = s.bs.length + 1 := fun s => (outM_same { s with c := s.c * 2 ^ s.t }).2.2.2.2
  have h : (flushM s).bs.length = s.bs.length + 2 := by
    show (flushS (flushS _)).bs.length = _
    rw [ho, ho]
  unfold bytesM
  simp only []
  split
  · simp; omega
  · simp; omega
end Go.Ar

/- GnR: a bitmap of fifty rows that are all alike: its bytes, and those of its first row. -/
set_option linter.unusedVariables false
set_option linter.unusedSimpArgs false
namespace Go.Bm
open Go Go.Den Go.Den.Yteakipgcanafoaa
open Go.Ar (Cod CodOk newC newC_ok idx bytesM flushM putM sameM)

theorem putM_far (s : Cod) {k k' b : Nat} (h : k' ≠ k) : (putM s k' b).st[k]? = s.st[k]? := by
  have key : ∀ (s0 : Cod) (v : Nat), s0.st = s.st.set k' v → (Go.Ar.renewM 17 s0).st[k]? = s.st[k]? := fun s0 v e => by
    rw [(Go.Ar.renewM_st 17 s0).1, e, List.getElem?_set_ne h]
  unfold putM
  simp only []
  split
  · split
    · rfl
    · split
      · exact key _ _ rfl
      · exact key _ _ rfl
  · split
    · exact key _ _ rfl
    · exact key _ _ rfl
theorem putM_first {m k b : Nat} (hk : k < m) (hb : b ≤ 1) : ∃ x, (putM (Go.Ar.newC m) k b).st[k]? = some x ∧ (x = 2 ∨ x = 3) := by
  have hx : (Go.Ar.newC m).st.getD k 0 = 0 := by simp [Go.Ar.newC, List.getD_eq_getElem?_getD, hk]
  have hl : k < (Go.Ar.newC m).st.length := by simpa [Go.Ar.newC] using hk
  have ha : (Go.Ar.newC m).a = 0x8000 := rfl
  have hq : Go.Ar.qOf (0 / 2) = 0x5601 := rfl
  have hu : Go.Ar.upM 0 = 2 := by decide
  have hv : Go.Ar.upL 0 = 3 := by decide
  have key : ∀ (s0 : Cod) (v : Nat), s0.st = (Go.Ar.newC m).st.set k v → (Go.Ar.renewM 17 s0).st[k]? = some v := fun s0 v e => by
    rw [(Go.Ar.renewM_st 17 s0).1, e, List.getElem?_set_self hl]
  unfold putM
  simp only [hx, ha, hq, hu, hv]
  have : b = 0 ∨ b = 1 := by omega
  rcases this with rfl | rfl
  · refine ⟨2, ?_, .inl rfl⟩
    rw [if_pos rfl, if_neg (by decide), if_pos (by decide)]
    exact key _ _ rfl
  · refine ⟨3, ?_, .inr rfl⟩
    rw [if_neg (by decide), if_pos (by decide)]
    exact key _ _ rfl
theorem cdL_far {m k : Nat} : ∀ {B L : List (Nat × Nat)}, (∀ d ∈ B, d.1 ≠ k) → (cdL m (L ++ B)).st[k]? = (cdL m L).st[k]?
  | [], L, _ => by rw [List.append_nil]
  | d :: B, L, h => by
    rw [show L ++ d :: B = (L ++ [d]) ++ B by simp, cdL_far (B := B) fun x hx => h x (List.mem_cons_of_mem _ hx), cdL_snoc, putM_far _ (h d (by simp))]
theorem cdL_same {m k : Nat} {L : List (Nat × Nat)} : ∀ j, cdL m (L ++ List.replicate j (k, 1)) = sameM k 1 (cdL m L) j
  | 0 => by
    rw [List.replicate_zero, List.append_nil]
    rfl
  | j + 1 => by
    rw [List.replicate_succ', ← List.append_assoc, cdL_snoc, cdL_same j]
    rfl
/-- The decisions of a bitmap whose rows are alike. -/
theorem ds_alike {G1 GB : Int → Int → Bool} {W m t : Nat} {base : Int} (ht : t < 4) (h0 : ∀ x y : Int, y ≤ 0 → GB x y = G1 x y) (hr : ∀ x y : Int, 0 ≤ y → y < 50 → GB x y = G1 x 0) : ∀ j, j < 50 → dsG GB W m t true base (j + 1) = dsG G1 W m t true base 1 ++ List.replicate j (idx (base + ((gsize t : Nat) : Int)) m, 1)
  | 0, _ => by
    have hc : ∀ x : Int, gctx t GB x ((0 : Nat) : Int) = gctx t G1 x ((0 : Nat) : Int) := fun x => by
      unfold gctx pb
      congr 1
      refine List.map_congr_left fun p hp => ?_
      unfold plcs at hp
      obtain ⟨s, hs, hp⟩ := List.mem_flatMap.1 hp
      have d1 := (spanL_ok ht s hs).d
      unfold spl at hp
      obtain ⟨j, hj, rfl⟩ := List.mem_map.1 hp
      exact h0 _ _ (by dsimp only; omega)
    have hb : ∀ x : Int, GB x ((0 : Nat) : Int) = G1 x ((0 : Nat) : Int) := fun x => h0 _ _ (by omega)
    have hs : sameB GB W 0 = sameB G1 W 0 := by
      unfold sameB
      congr 1
      funext x
      rw [hb, h0 _ _ (by omega)]
    have hrow : dsRow GB m t base 0 W = dsRow G1 m t base 0 W := by
      unfold dsRow
      refine List.map_congr_left fun x _ => ?_
      rw [hc, hb]
    rw [List.replicate_zero, List.append_nil, dsG, dsG, dsG, dsG, dsLine, dsLine, hs, hrow]
  | j + 1, hj => by
    have ih := ds_alike (W := W) (m := m) (base := base) ht h0 hr j (by omega)
    have hs : sameB GB W (j + 1) = true := by
      unfold sameB
      refine List.all_eq_true.2 fun x _ => ?_
      rw [hr _ _ (by omega) (by omega), hr _ _ (by omega) (by omega)]
      simp
    rw [dsG, ih, List.replicate_succ', ← List.append_assoc]
    congr 1
    simp only [dsLine, hs]
    rfl
theorem g_repeats {W t : Nat} {R1 RB bs1 bsB : List Nat} {e1 eB : Int} (ht : t < 4) (hm1 : MayP (W : Int) ((1 : Nat) : Int) R1) (hmB : MayP (W : Int) ((50 : Nat) : Int) RB) (hr : ∀ x y : Int, 0 ≤ y → y < 50 → getP RB W 50 x y = getP R1 W 1 x 0)
    (h1 : GEncR (W : Int) ((1 : Nat) : Int) R1 (t : Int) true e1 bs1) (hB : GEncR (W : Int) ((50 : Nat) : Int) RB (t : Int) true eB bsB) : bsB.length ≤ bs1.length + 8 := by
  obtain ⟨W', X', f1, f2, hW1, hW2, hX1, hX2, hWX⟩ := size_nat hm1.1
  obtain rfl : W = W' := by omega
  obtain ⟨_, hl1, hb1⟩ := h1.list ht hm1
  obtain ⟨_, hlB, hbB⟩ := hB.list ht hmB
  have hgs := gsize_le ht
  have h0 : ∀ x y : Int, y ≤ 0 → getP RB W 50 x y = getP R1 W 1 x y := fun x y hy => by
    by_cases h : y = 0
    · rw [h]
      exact hr x 0 (by omega) (by omega)
    · rw [getP_out _ _ _ _ _ (by omega), getP_out _ _ _ _ _ (by omega)]
  have hds := ds_alike (W := W) (m := gsize t + 1) (base := 0) ht h0 hr 49 (by omega)
  have hkey : idx (0 + ((gsize t : Nat) : Int)) (gsize t + 1) = gsize t := by
    rw [Int.zero_add]
    exact Go.Ar.idx_nat (by omega)
  rw [hkey] at hds
  rw [hds] at hbB
  rw [cdL_same] at hbB
  obtain ⟨L1, hL1⟩ : ∃ L1, L1 = dsG (getP R1 W 1) W (gsize t + 1) t true 0 1 := ⟨_, rfl⟩
  have hlen1 := dsG_len (getP R1 W 1) W (gsize t + 1) t true 0 1
  have hst : ∃ x, (cdL (gsize t + 1) L1).st[gsize t]? = some x ∧ (x = 2 ∨ x = 3) := by
    obtain ⟨x, hx, hx2⟩ := putM_first (m := gsize t + 1) (k := gsize t) (b := (sameB (getP R1 W 1) W 0).toNat) (by omega) (toNat_le _)
    refine ⟨x, ?_, hx2⟩
    rw [← hx, hL1, dsG, dsG, List.nil_append, dsLine, hkey]
    have hd : ∀ B : List (Nat × Nat), (gsize t, (sameB (getP R1 W 1) W 0).toNat) :: B = [(gsize t, (sameB (getP R1 W 1) W 0).toNat)] ++ B := fun B => rfl
    rw [hd, cdL_far]
    · have := cdL_snoc (gsize t + 1) [] (gsize t, (sameB (getP R1 W 1) W 0).toNat)
      rw [List.nil_append] at this
      rw [this]
      rfl
    · intro d hd
      cases hs : sameB (getP R1 W 1) W 0 with
      | true => rw [hs] at hd; cases hd
      | false =>
        rw [hs] at hd
        unfold dsRow at hd
        obtain ⟨x, _, rfl⟩ := List.mem_map.1 hd
        have hlt := gctx_lt t (getP R1 W 1) (x : Int) ((0 : Nat) : Int)
        dsimp only
        rw [Int.zero_add, Go.Ar.idx_nat (by omega)]
        omega
  rw [← hL1] at hb1 hbB hl1 hlen1
  obtain ⟨x, hx, hx2⟩ := hst
  have hco := cdL_ok (m := gsize t + 1) (L := L1) hl1
  have hn : (cdL (gsize t + 1) L1).n + 49 ≤ 16777216 := by
    rw [hco.n]
    omega
  obtain ⟨w49, b49⟩ := Go.Ar.same_49 hco.wf hx hx2 hn
  have lo := Go.Ar.flush_bs_lo hco.wf
  have hi := Go.Ar.flush_bs w49
  rw [← hb1] at lo
  rw [← hbB] at hi
  omega
end Go.Bm

/- RdB: the law ArithReads, said of memory. -/
set_option linter.unusedVariables false
set_option linter.unusedSimpArgs false
namespace Go.Ar
open Go Go.Den Go.Den.Yteakipgcanafoaa

end Go.Ar

/- RdC: a reading as it comes in as an argument: the law ArithReads over it. -/
set_option linter.unusedVariables false
set_option linter.unusedSimpArgs false
namespace Go.Ar
open Go Go.Den Go.Den.Yteakipgcanafoaa

theorem u8s_ints {l : List Int} (h : ∀ x ∈ l, IntKind.u8.min ≤ x ∧ x ≤ IntKind.u8.max) : (l.map fun x => (.int .u8 x : Value)) = u8s (l.map Int.toNat) ∧ ∀ x ∈ l.map Int.toNat, x < 256 := by
  have hb : ∀ x ∈ l, 0 ≤ x ∧ x ≤ 255 := fun x hx => by have := h x hx; simpa [IntKind.min, IntKind.max, IntKind.signed, IntKind.bits] using this
  constructor
  · unfold u8s
    rw [List.map_map]
    refine List.map_congr_left fun x hx => ?_
    have := hb x hx
    show Value.int .u8 x = .int .u8 ((x.toNat : Nat) : Int)
    rw [Int.toNat_of_nonneg this.1]
  · intro y hy
    obtain ⟨x, hx, rfl⟩ := List.mem_map.1 hy
    have := hb x hx
    omega
/-- Bytes that come in. -/
theorem wd_bytes {h : Heap} {cs : List Value} (H : WDx Go.Proofs.Try.prog h T_s_uint8 cs) :
    ∃ q cap, ∃ bs : List Nat, cs = [.slice q bs.length cap] ∧ bs.length ≤ cap ∧ cap < 140737488351300 ∧ (q = none → cap = 0) ∧ rdO h q (bs.length * 1) (u8s bs) ∧ ∀ x ∈ bs, x < 256 := by
  obtain ⟨q, cap, l, rfl, h1, h2, h3, h4, h5⟩ := wd_ints (k := .u8) Go.Proofs.Try.underlying24 Go.Proofs.Try.underlying5 (by kernel_rfl) H
  obtain ⟨e1, e2⟩ := u8s_ints h5
  have k1 : Go.Proofs.Try.prog.bytesOf T_uint8 = 1 := by kernel_rfl
  rw [k1] at h2
  have hr : reachBytes = 140737488351232 := rfl
  rw [e1] at h4
  refine ⟨q, cap, l.map Int.toNat, by simp, by simpa using h1, by omega, h3, by simpa using h4, e2⟩

end Go.Ar

/- Written by gen.py: the conditions of the functions of law7GenericEncodes. -/
set_option linter.unusedVariables false
set_option linter.unusedSimpArgs false
namespace Go.Den.Yteakipgcanafoaa
open Go Go.Den

/- burin/burinlaw7.GenericEncodes -/
set_option maxRecDepth 100000 in
def burinlaw7_GenericEncodes (C : CallP) (a0 : Option Addr) (a0n : Nat) (a0c : Nat) (h : Heap) (K : Value → Heap → Prop) (Kp : List PanicEntry → Heap → Prop) : Prop :=
∃ J_1 : Nat → List Value → Heap → Prop, (∃ n_3, J_1 n_3 [.int .i64 0] h) ∧ ∀ (n_3 : Nat) (h_4 : Heap) (u_5 : Nat → Value) (x_6 : Int), J_1 n_3 [.int .i64 x_6] h_4 → (
bcase (decide (x_6 < (a0n : Int))) (
bcase (decide (x_6 < (6 : Int))) (
needs (0 ≤ x_6 ∧ x_6 < (a0n : Int)) <|
ptr a0 fun a_7 =>
ldI h_4 (((a_7.add (x_6.toNat * 5)).add 0).add 0) .i64 fun x_8 =>
ldI h_4 (((a_7.add (x_6.toNat * 5)).add 0).add 1) .i64 fun x_9 =>
ldS h_4 (((a_7.add (x_6.toNat * 5)).add 0).add 2) fun x_10 x_10n x_10c =>
C F_burinlaw7_light #[.agg #[.int .i64 x_8, .int .i64 x_9, .slice x_10 x_10n x_10c]] h_4 (fun v_11 h_12 =>
∃ (r_13 : Bool), v_11 = .bool r_13 ∧ (
bcase (!r_13) (
bindI (IntKind.i64.wrap (x_6 + (1 : Int))) fun z_14 =>
∃ m_2, m_2 < n_3 ∧ J_1 m_2 [.int .i64 z_14] h_12) <|
needs (0 ≤ x_6 ∧ x_6 < (a0n : Int)) <|
ptr a0 fun a_15 =>
ldI h_12 (((a_15.add (x_6.toNat * 5)).add 0).add 0) .i64 fun x_16 =>
ldI h_12 (((a_15.add (x_6.toNat * 5)).add 0).add 1) .i64 fun x_17 =>
ldS h_12 (((a_15.add (x_6.toNat * 5)).add 0).add 2) fun x_18 x_18n x_18c =>
C F_burinkit_LendBitmap #[.agg #[.int .i64 x_16, .int .i64 x_17, .slice x_18 x_18n x_18c]] h_12 (fun v_19 h_20 =>
∃ (r_21 : Int) (r_22 : Int) (r_23 : Option Addr) (r_23n : Nat) (r_23c : Nat), v_19 = .agg #[.int .i64 r_21, .int .i64 r_22, .slice r_23 r_23n r_23c] ∧ (
newC h_20 [.int .i64 0, .int .i64 0, .slice none 0 0] T_api_Bitmap fun r_24 h_25 =>
stV h_25 ((⟨r_24, 0, none⟩ : Addr).add 0) (.int .i64 r_21) fun h_26 =>
stV h_26 ((⟨r_24, 0, none⟩ : Addr).add 1) (.int .i64 r_22) fun h_27 =>
stV h_27 ((⟨r_24, 0, none⟩ : Addr).add 2) (.slice r_23 r_23n r_23c) fun h_28 =>
needs (0 ≤ x_6 ∧ x_6 < (a0n : Int)) <|
ptr a0 fun a_29 =>
needs (0 ≤ x_6 ∧ x_6 < (a0n : Int)) <|
ptr a0 fun a_30 =>
ldI h_28 ((⟨r_24, 0, none⟩ : Addr).add 0) .i64 fun x_31 =>
ldI h_28 ((⟨r_24, 0, none⟩ : Addr).add 1) .i64 fun x_32 =>
ldS h_28 ((⟨r_24, 0, none⟩ : Addr).add 2) fun x_33 x_33n x_33c =>
ldI h_28 ((a_29.add (x_6.toNat * 5)).add 3) .i64 fun x_34 =>
ldB h_28 ((a_30.add (x_6.toNat * 5)).add 4) fun x_35 =>
C F_generic_Encode #[.agg #[.int .i64 x_31, .int .i64 x_32, .slice x_33 x_33n x_33c], .int .i64 x_34, .bool x_35] h_28 (fun v_36 h_37 =>
∃ (r_38 : Option Addr) (r_38n : Nat) (r_38c : Nat), ∃ (r_39 : Int), v_36 = .tuple #[.slice r_38 r_38n r_38c, .int .i64 r_39] ∧ (
needs (0 ≤ x_6 ∧ x_6 < (a0n : Int)) <|
ptr a0 fun a_40 =>
needs (0 ≤ x_6 ∧ x_6 < (a0n : Int)) <|
ptr a0 fun a_41 =>
needs (0 ≤ x_6 ∧ x_6 < (a0n : Int)) <|
ptr a0 fun a_42 =>
ldI h_37 (((a_40.add (x_6.toNat * 5)).add 0).add 0) .i64 fun x_43 =>
ldI h_37 (((a_40.add (x_6.toNat * 5)).add 0).add 1) .i64 fun x_44 =>
ldS h_37 (((a_40.add (x_6.toNat * 5)).add 0).add 2) fun x_45 x_45n x_45c =>
ldI h_37 ((a_41.add (x_6.toNat * 5)).add 3) .i64 fun x_46 =>
ldB h_37 ((a_42.add (x_6.toNat * 5)).add 4) fun x_47 =>
C F_burinref7_Encode #[.agg #[.int .i64 x_43, .int .i64 x_44, .slice x_45 x_45n x_45c], .int .i64 x_46, .bool x_47] h_37 (fun v_48 h_49 =>
∃ (r_50 : Option Addr) (r_50n : Nat) (r_50c : Nat), ∃ (r_51 : Int), v_48 = .tuple #[.slice r_50 r_50n r_50c, .int .i64 r_51] ∧ (
needs (0 ≤ x_6 ∧ x_6 < (a0n : Int)) <|
ptr a0 fun a_52 =>
ldI h_49 ((⟨r_24, 0, none⟩ : Addr).add 0) .i64 fun x_53 =>
ldI h_49 ((⟨r_24, 0, none⟩ : Addr).add 1) .i64 fun x_54 =>
ldS h_49 ((⟨r_24, 0, none⟩ : Addr).add 2) fun x_55 x_55n x_55c =>
ldI h_49 (((a_52.add (x_6.toNat * 5)).add 0).add 0) .i64 fun x_56 =>
ldI h_49 (((a_52.add (x_6.toNat * 5)).add 0).add 1) .i64 fun x_57 =>
ldS h_49 (((a_52.add (x_6.toNat * 5)).add 0).add 2) fun x_58 x_58n x_58c =>
C F_burinkit_BackBitmap #[.agg #[.int .i64 x_53, .int .i64 x_54, .slice x_55 x_55n x_55c], .agg #[.int .i64 x_56, .int .i64 x_57, .slice x_58 x_58n x_58c]] h_49 (fun v_59 h_60 =>
∃ (r_61 : Bool), v_59 = .bool r_61 ∧ (
bcase (!r_61) (
K (.bool false) h_60) <|
bcase (r_39 != r_51) (
K (.bool false) h_60) <|
C F_burinref0_Eq #[.slice r_38 r_38n r_38c, .slice r_50 r_50n r_50c] h_60 (fun v_62 h_63 =>
∃ (r_64 : Bool), v_62 = .bool r_64 ∧ (
bcase (!r_64) (
K (.bool false) h_63) <|
bindI (IntKind.i64.wrap (x_6 + (1 : Int))) fun z_65 =>
∃ m_2, m_2 < n_3 ∧ J_1 m_2 [.int .i64 z_65] h_63)) (Kp))) (Kp))) (Kp))) (Kp))) (Kp))) (Kp)) <|
C F_burinlaw7_wakes #[] h_4 (fun v_66 h_67 =>
∃ (r_68 : Bool), v_66 = .bool r_68 ∧ (
K (.bool r_68) h_67)) (Kp)) <|
C F_burinlaw7_wakes #[] h_4 (fun v_69 h_70 =>
∃ (r_71 : Bool), v_69 = .bool r_71 ∧ (
K (.bool r_71) h_70)) (Kp))

end Go.Den.Yteakipgcanafoaa

/- Written by gen.py: each condition of the functions of law7GenericEncodes is the one of its body; so it is enough for its call. -/
set_option linter.unusedVariables false
set_option linter.unusedSimpArgs false
namespace Go.Den.Yteakipgcanafoaa
open Go Go.Den

noncomputable def hints_burinlaw7_GenericEncodes : Hints := Hints.mk (fun i => bif Nat.beq i 6 then some ([11], .take 1 <| .take 2 <| .take 3 <| .take 4 <| .take 6 <| .take 7 <| .take 8 <| .take 9 <| .take 0 <| .take 5 <| .take 10 <| .bar 11 [] <| .take 12 <| .take 13 <| .take 14 <| .take 15 <| .take 16 <| .done) else (bif Nat.beq i 7 then some ([15], .take 0 <| .take 1 <| .take 2 <| .take 3 <| .take 5 <| .take 6 <| .take 7 <| .take 8 <| .take 10 <| .take 11 <| .take 12 <| .take 13 <| .take 4 <| .take 9 <| .take 14 <| .bar 15 [] <| .take 16 <| .take 17 <| .take 18 <| .take 19 <| .take 20 <| .done) else (bif Nat.beq i 8 then some ([6, 16], .take 1 <| .take 2 <| .take 3 <| .take 4 <| .take 0 <| .take 5 <| .bar 6 [16] <| .take 7 <| .take 8 <| .take 9 <| .take 10 <| .take 11 <| .take 12 <| .take 13 <| .take 14 <| .take 15 <| .bar 16 [] <| .take 17 <| .take 18 <| .done) else (none))))
  (fun i => bif Nat.beq i 2 then some ([(3, .int .i64)], 38685626227668133590597628) else (none))
  (fun i => none) []
set_option maxRecDepth 100000 in
theorem eq_burinlaw7_GenericEncodes (C : CallP) (a0 : Option Addr) (a0n : Nat) (a0c : Nat) (h : Heap) (K : Value → Heap → Prop) (Kp : List PanicEntry → Heap → Prop) :
    fnD Go.Proofs.Try.prog C hints_burinlaw7_GenericEncodes Go.Proofs.Try.f9 [.slice a0 a0n a0c] h K Kp = burinlaw7_GenericEncodes C a0 a0n a0c h K Kp := by kernel_rfl

theorem call_burinlaw7_GenericEncodes {a0 : Option Addr} {a0n : Nat} {a0c : Nat} {h : Heap} {K : Value → Heap → Prop} {Kp : List PanicEntry → Heap → Prop} (H : burinlaw7_GenericEncodes (CallsHP Go.Proofs.Try.prog) a0 a0n a0c h K Kp) : CallsHP Go.Proofs.Try.prog F_burinlaw7_GenericEncodes #[.slice a0 a0n a0c] h K Kp :=
  callsHP_of hints_burinlaw7_GenericEncodes (by kernel_rfl) Go.Proofs.Try.func9 (by kernel_rfl) (by rw [eq_burinlaw7_GenericEncodes]; exact H)

end Go.Den.Yteakipgcanafoaa

/- GnL: the law GenericEncodes, said of memory; asks as they come in as an argument. -/
set_option linter.unusedVariables false
set_option linter.unusedSimpArgs false
namespace Go.Bm
open Go Go.Den Go.Den.Yteakipgcanafoaa

theorem list5 {α : Type} {l : List α} (h : l.length = 5) : ∃ a b c d e, l = [a, b, c, d, e] := by
  match l, h with
  | [a, b, c, d, e], _ => exact ⟨a, b, c, d, e, rfl⟩
/-- A bitmap, its template and whether rows are skipped, as they lie in memory. -/
structure Ask7V (h : Heap) (a : Addr) (w b : Int) (ws : List Nat) (t : Int) (sk : Bool) : Prop where
  c0 : hcell h (a.add 0) = some (.int .i64 w)
  c1 : hcell h (a.add 1) = some (.int .i64 b)
  c2 : ∃ q c, hcell h (a.add 2) = some (.slice q ws.length c) ∧ rdO h q (ws.length * 1) (u64s ws)
  c3 : hcell h (a.add 3) = some (.int .i64 t)
  c4 : hcell h (a.add 4) = some (.bool sk)
  w1 : W64 ws
  l1 : ws.length < 140737488351300
def Asks7V (h : Heap) (sq : Option Addr) (slen : Nat) : Prop := ∀ i, i < slen → ∃ a w b ws t sk, sq = some a ∧ Ask7V h (a.add (i * 5)) w b ws t sk
theorem add_00 (a : Addr) (j : Nat) : (a.add 0).add j = a.add j := by rw [add_zero']
set_option maxRecDepth 100000 in
set_option maxHeartbeats 2000000 in
theorem gEncodes_law {hB : Heap} {sq : Option Addr} {slen scap : Nat} (hv : Asks7V hB sq slen) {K : Value → Heap → Prop} {Kp : List PanicEntry → Heap → Prop} (hk : ∀ h', hext hB h' → K (.bool true) h') :
    CP F_burinlaw7_GenericEncodes #[.slice sq slen scap] hB K Kp := by
  refine call_burinlaw7_GenericEncodes ?_
  unfold burinlaw7_GenericEncodes
  refine ⟨fun n vs h' => ∃ i : Nat, i + n = 6 ∧ vs = [.int .i64 (i : Int)] ∧ Hp hB [] h' [], ⟨6, 0, rfl, rfl, Hp.nil hB []⟩, ?_⟩
  rintro n h u xx ⟨i, hin, hxx, H⟩
  injection hxx with hxx
  injection hxx with _ hxx
  subst hxx
  refine bcase_dec (fun h3 => ?_) fun h3 => wakes7_ok fun h' e => ⟨_, rfl, hk _ (H.hext.trans e)⟩
  refine bcase_dec (fun h4 => ?_) fun h4 => wakes7_ok fun h' e => ⟨_, rfl, hk _ (H.hext.trans e)⟩
  have h3 : i < slen := by omega
  have h4 : i < 6 := by omega
  obtain ⟨a, w, b, ws, t, sk, hsq, ha⟩ := hv i h3
  subst hsq
  obtain ⟨q1, c1, hc2, hr1⟩ := ha.c2
  have k0 := ha.c0
  have k1 := ha.c1
  have k2 := hc2
  rw [← add_00] at k0 k1 k2
  have fr : ∀ {h : Heap} {L : List Ent} {c : Addr} {v : Value}, Hp hB [] h L → hcell hB c = some v → hcell h c = some v := fun H hc => H.fr.cell (by simp) hc
  have next : ∀ h' L, Hp hB [] h' L → ∃ m, m < n ∧ ∃ i' : Nat, i' + m = 6 ∧ [Value.int .i64 ((i + 1 : Nat) : Int)] = [.int .i64 (i' : Int)] ∧ Hp hB [] h' [] := fun h' L H => ⟨n - 1, by omega, i + 1, by omega, rfl, H.take 0⟩
  have hnd : 0 ≤ (i : Int) ∧ (i : Int) < (slen : Int) := by omega
  refine needs_of hnd (ptr_of (a := a) ?_)
  rw [Int.toNat_natCast]
  refine ldI_of (fr H k0) (ldI_of (fr H k1) (ldS_of (fr H k2) ?_))
  refine light7_ok (H.rdO hr1) ha.w1 ha.l1 fun bb h1 hbb e1 => ?_
  have H := H.ext e1
  refine ⟨_, rfl, ?_⟩
  refine bcase_not (fun h5 => ?_) fun h5 => ?_
  · refine bindI_of (((i + 1 : Nat) : Int)) (by exact i64_at _ _ (by omega) (by omega) (by omega)) ?_
    exact next _ _ H
  have hl1 := (hbb h5).1
  refine needs_of hnd (ptr_of (a := a) ?_)
  refine ldI_of (fr H k0) (ldI_of (fr H k1) (ldS_of (fr H k2) ?_))
  refine lendB_ok (H.rdO hr1) (by omega) fun o1 l1 kk1 h6 hk1 H' => ?_
  replace H := H.join H' rfl
  clear H'
  refine ⟨_, _, _, _, _, rfl, ?_⟩
  refine newC_hp H fun r24 h H => ?_
  repeat first | with_reducible refine stA H 0 (by with_unfolding_all exact rfl) (by with_unfolding_all exact rfl) (by with_unfolding_all exact rfl) fun h H => ?_ | with_reducible refine stA H 1 (by with_unfolding_all exact rfl) (by with_unfolding_all exact rfl) (by with_unfolding_all exact rfl) fun h H => ?_ | with_reducible refine st0 H 0 (by with_unfolding_all exact rfl) (by with_unfolding_all exact rfl) (by with_unfolding_all exact rfl) fun h H => ?_ | with_reducible refine st0 H 1 (by with_unfolding_all exact rfl) (by with_unfolding_all exact rfl) (by with_unfolding_all exact rfl) fun h H => ?_ | with_reducible refine stB H 0 (by with_unfolding_all exact rfl) (by with_unfolding_all exact rfl) (by with_unfolding_all exact rfl) fun h H => ?_ | with_reducible refine stB H 1 (by with_unfolding_all exact rfl) (by with_unfolding_all exact rfl) (by with_unfolding_all exact rfl) fun h H => ?_
  have H : Hp hB [] h [⟨o1, true, T_uint64, u64s ws ++ (u64s (List.replicate 7 42405) ++ l1)⟩, ⟨r24, true, T_api_Bitmap, [.int .i64 w, .int .i64 b, .slice (at0 o1) ws.length kk1]⟩] := H
  refine needs_of hnd (ptr_of (a := a) (needs_of hnd (ptr_of (a := a) ?_)))
  repeat first | with_reducible refine ldI_of (by with_unfolding_all first | exact hpA H 0 rfl rfl | exact hpA H 1 rfl rfl | exact Hp.cell H 0 rfl rfl | exact Hp.cell H 1 rfl rfl | exact hpB H 0 rfl rfl | exact hpB H 1 rfl rfl | exact hpC H 0 rfl rfl | exact hpC H 1 rfl rfl) ?_ | with_reducible refine ldS_of (by with_unfolding_all first | exact hpA H 0 rfl rfl | exact hpA H 1 rfl rfl | exact Hp.cell H 0 rfl rfl | exact Hp.cell H 1 rfl rfl | exact hpB H 0 rfl rfl | exact hpB H 1 rfl rfl | exact hpC H 0 rfl rfl | exact hpC H 1 rfl rfl) ?_ | with_reducible refine ldP_of (by with_unfolding_all first | exact hpA H 0 rfl rfl | exact hpA H 1 rfl rfl | exact Hp.cell H 0 rfl rfl | exact Hp.cell H 1 rfl rfl | exact hpB H 0 rfl rfl | exact hpB H 1 rfl rfl | exact hpC H 0 rfl rfl | exact hpC H 1 rfl rfl) ?_ | with_reducible refine ldB_of (by with_unfolding_all first | exact hpA H 0 rfl rfl | exact hpA H 1 rfl rfl | exact Hp.cell H 0 rfl rfl | exact Hp.cell H 1 rfl rfl | exact hpB H 0 rfl rfl | exact hpB H 1 rfl rfl | exact hpC H 0 rfl rfl | exact hpC H 1 rfl rfl) ?_ | with_reducible refine ldT_of (by with_unfolding_all first | exact hpA H 0 rfl rfl | exact hpA H 1 rfl rfl | exact Hp.cell H 0 rfl rfl | exact Hp.cell H 1 rfl rfl | exact hpB H 0 rfl rfl | exact hpB H 1 rfl rfl | exact hpC H 0 rfl rfl | exact hpC H 1 rfl rfl) ?_
  refine ldI_of (fr H ha.c3) (ldB_of (fr H ha.c4) ?_)
  refine gEnc_ok (row_rdO H 0 rfl) ha.w1 ha.l1 fun e bs D qo c h' henc hsl H' => ?_
  replace H := H.join H' hsl.w
  clear H'
  refine ⟨_, _, _, _, rfl, ?_⟩
  refine needs_of hnd (ptr_of (a := a) (needs_of hnd (ptr_of (a := a) (needs_of hnd (ptr_of (a := a) ?_)))))
  refine ldI_of (fr H k0) (ldI_of (fr H k1) (ldS_of (fr H k2) (ldI_of (fr H ha.c3) (ldB_of (fr H ha.c4) ?_))))
  refine rEnc7_ok (H.rdO hr1) ha.w1 ha.l1 fun e' bs' D2 qo2 c2 h' henc2 hsl2 H' => ?_
  replace H := H.join H' hsl2.w
  clear H'
  obtain ⟨rfl, rfl⟩ := henc.det henc2
  refine ⟨_, _, _, _, rfl, ?_⟩
  refine needs_of hnd (ptr_of (a := a) ?_)
  repeat first | with_reducible refine ldI_of (by with_unfolding_all first | exact hpA H 0 rfl rfl | exact hpA H 1 rfl rfl | exact Hp.cell H 0 rfl rfl | exact Hp.cell H 1 rfl rfl | exact hpB H 0 rfl rfl | exact hpB H 1 rfl rfl | exact hpC H 0 rfl rfl | exact hpC H 1 rfl rfl) ?_ | with_reducible refine ldS_of (by with_unfolding_all first | exact hpA H 0 rfl rfl | exact hpA H 1 rfl rfl | exact Hp.cell H 0 rfl rfl | exact Hp.cell H 1 rfl rfl | exact hpB H 0 rfl rfl | exact hpB H 1 rfl rfl | exact hpC H 0 rfl rfl | exact hpC H 1 rfl rfl) ?_ | with_reducible refine ldP_of (by with_unfolding_all first | exact hpA H 0 rfl rfl | exact hpA H 1 rfl rfl | exact Hp.cell H 0 rfl rfl | exact Hp.cell H 1 rfl rfl | exact hpB H 0 rfl rfl | exact hpB H 1 rfl rfl | exact hpC H 0 rfl rfl | exact hpC H 1 rfl rfl) ?_ | with_reducible refine ldB_of (by with_unfolding_all first | exact hpA H 0 rfl rfl | exact hpA H 1 rfl rfl | exact Hp.cell H 0 rfl rfl | exact Hp.cell H 1 rfl rfl | exact hpB H 0 rfl rfl | exact hpB H 1 rfl rfl | exact hpC H 0 rfl rfl | exact hpC H 1 rfl rfl) ?_ | with_reducible refine ldT_of (by with_unfolding_all first | exact hpA H 0 rfl rfl | exact hpA H 1 rfl rfl | exact Hp.cell H 0 rfl rfl | exact Hp.cell H 1 rfl rfl | exact hpB H 0 rfl rfl | exact hpB H 1 rfl rfl | exact hpC H 0 rfl rfl | exact hpC H 1 rfl rfl) ?_
  refine ldI_of (fr H k0) (ldI_of (fr H k1) (ldS_of (fr H k2) ?_))
  refine backB_ok (H.give [0] (by decide) rfl) (H.rdO hr1) (by omega) hk1 fun cs1 h' H' => ?_
  replace H := H.put [0] (by decide) rfl rfl H' rfl rfl
  clear H'
  refine ⟨_, rfl, ?_⟩
  refine bcase_false (by rfl) ?_
  refine bcase_false (by simp) ?_
  have H : Hp hB [] h' ([⟨o1, true, T_uint64, cs1⟩, ⟨r24, true, T_api_Bitmap, [.int .i64 w, .int .i64 b, .slice (at0 o1) ws.length kk1]⟩] ++ D ++ D2) := H
  refine Go.Ar.eq_ok (xs := bs) (ys := bs) (Slot.rdO' hsl (Hp.pre (Y := D2) H) fun e he => List.mem_append_right _ he) (Slot.rdO' hsl2 H fun e he => List.mem_append_right _ he) henc.bytes.2 ?_
  refine ⟨_, rfl, ?_⟩
  refine bcase_false (by simp) ?_
  refine bindI_of (((i + 1 : Nat) : Int)) (by exact i64_at _ _ (by omega) (by omega) (by omega)) ?_
  exact next _ _ H

theorem wd_ask7 {h : Heap} {cs : List Value} (H : WDx TP h T_burinlaw7_Ask cs) : ∃ w b q1 c1 ws t sk, cs = [.int .i64 w, .int .i64 b, .slice q1 (List.length ws) c1, .int .i64 t, .bool sk] ∧
    rdO h q1 (ws.length * 1) (u64s ws) ∧ W64 ws ∧ ws.length < 140737488351300 ∧ (IntKind.i64.min ≤ t ∧ t ≤ IntKind.i64.max) := by
  obtain ⟨hl, hf⟩ := wd_struct Go.Proofs.Try.underlying87 H
  have k : TP.cellsOf T_burinlaw7_Ask = 5 := by kernel_rfl
  rw [k] at hl
  obtain ⟨v0, v1, v2, v3, v4, rfl⟩ := list5 hl
  have kb : TP.cellsOf T_api_Bitmap = 3 := by kernel_rfl
  have kB : TP.cellsOf T_bool = 1 := by kernel_rfl
  have f0 : WDx TP h T_api_Bitmap (([v0, v1, v2, v3, v4].drop 0).take (TP.cellsOf T_api_Bitmap)) := hf 0 _ rfl
  rw [kb] at f0
  obtain ⟨w, b, q1, cap1, ws, e0, _, _, g1, g2, g3⟩ := wd_bitmap f0
  obtain ⟨x, e2, hx⟩ := wd_int Go.Proofs.Try.underlying3 (one_of k_int (hf 1 _ rfl) (v := v3) rfl)
  obtain ⟨y, e3⟩ := wd_bool Go.Proofs.Try.underlying4 (one_of kB (hf 2 _ rfl) (v := v4) rfl)
  simp only [List.drop_succ_cons, List.drop_zero, List.take_succ_cons, List.take_zero, List.cons.injEq, and_true] at e0 e2 e3
  obtain ⟨e00, e01, e02⟩ := e0
  subst e00 e01 e02 e2 e3
  exact ⟨w, b, q1, cap1, ws, x, y, rfl, g2, g3, g1, hx⟩
theorem asks7_of {h : Heap} {cs : List Value} (H : WDx TP h T_s_burinlaw7_Ask cs) : ∃ q len cap, cs = [.slice q len cap] ∧ Asks7V h q len := by
  obtain ⟨q, len, cap, rfl, _, _, _, h4⟩ := wd_slice Go.Proofs.Try.underlying81 H
  refine ⟨q, len, cap, rfl, fun i hi => ?_⟩
  obtain ⟨a, cs', ha, hr, hd⟩ := h4 i hi
  have k : TP.cellsOf T_burinlaw7_Ask = 5 := by kernel_rfl
  rw [k] at hr
  obtain ⟨w, b, q1, c1, ws, t, sk, rfl, g1, g2, g3, _⟩ := wd_ask7 hd
  have c := fun j v hj => hr.2 j v hj
  exact ⟨a, w, b, ws, t, sk, ha, ⟨c 0 _ rfl, c 1 _ rfl, ⟨q1, c1, c 2 _ rfl, g1⟩, c 3 _ rfl, c 4 _ rfl, g2, g3⟩⟩
end Go.Bm

/- Written by gen.py: the conditions of the functions of law7GenericTop. -/
set_option linter.unusedVariables false
set_option linter.unusedSimpArgs false
namespace Go.Den.Yteakipgcanafoaa
open Go Go.Den

/- burin/burinlaw7.GenericTop -/
set_option maxRecDepth 100000 in
def burinlaw7_GenericTop (C : CallP) (a0_1 : Int) (a0_2 : Int) (a0_3 : Option Addr) (a0_3n : Nat) (a0_3c : Nat) (a0_4 : Int) (a0_5 : Bool) (h : Heap) (K : Value → Heap → Prop) (Kp : List PanicEntry → Heap → Prop) : Prop :=
newC h [.int .i64 a0_1, .int .i64 a0_2, .slice a0_3 a0_3n a0_3c, .int .i64 a0_4, .bool a0_5] T_burinlaw7_Ask fun r_6 h_7 =>
ldI h_7 (((⟨r_6, 0, none⟩ : Addr).add 0).add 0) .i64 fun x_8 =>
ldI h_7 (((⟨r_6, 0, none⟩ : Addr).add 0).add 1) .i64 fun x_9 =>
ldS h_7 (((⟨r_6, 0, none⟩ : Addr).add 0).add 2) fun x_10 x_10n x_10c =>
C F_burinref0_May #[.agg #[.int .i64 x_8, .int .i64 x_9, .slice x_10 x_10n x_10c]] h_7 (fun v_11 h_12 =>
∃ (r_13 : Bool), v_11 = .bool r_13 ∧ (
bcase (!r_13) (
C F_burinlaw7_wakes #[] h_12 (fun v_14 h_15 =>
∃ (r_16 : Bool), v_14 = .bool r_16 ∧ (
K (.bool r_16) h_15)) (Kp)) <|
ldI h_12 (((⟨r_6, 0, none⟩ : Addr).add 0).add 0) .i64 fun x_17 =>
ldI h_12 (((⟨r_6, 0, none⟩ : Addr).add 0).add 1) .i64 fun x_18 =>
ldS h_12 (((⟨r_6, 0, none⟩ : Addr).add 0).add 2) fun x_19 x_19n x_19c =>
C F_burinlaw7_light #[.agg #[.int .i64 x_17, .int .i64 x_18, .slice x_19 x_19n x_19c]] h_12 (fun v_20 h_21 =>
∃ (r_22 : Bool), v_20 = .bool r_22 ∧ (
bcase (!r_22) (
C F_burinlaw7_wakes #[] h_21 (fun v_23 h_24 =>
∃ (r_25 : Bool), v_23 = .bool r_25 ∧ (
K (.bool r_25) h_24)) (Kp)) <|
ldI h_21 ((⟨r_6, 0, none⟩ : Addr).add 3) .i64 fun x_26 =>
bindI (bitI .and .i64 x_26 (3 : Int)) fun z_27 =>
ldI h_21 (((⟨r_6, 0, none⟩ : Addr).add 0).add 0) .i64 fun x_28 =>
ldI h_21 (((⟨r_6, 0, none⟩ : Addr).add 0).add 1) .i64 fun x_29 =>
ldS h_21 (((⟨r_6, 0, none⟩ : Addr).add 0).add 2) fun x_30 x_30n x_30c =>
ldB h_21 ((⟨r_6, 0, none⟩ : Addr).add 4) fun x_31 =>
C F_generic_Encode #[.agg #[.int .i64 x_28, .int .i64 x_29, .slice x_30 x_30n x_30c], .int .i64 z_27, .bool x_31] h_21 (fun v_32 h_33 =>
∃ (r_34 : Option Addr) (r_34n : Nat) (r_34c : Nat), ∃ (r_35 : Int), v_32 = .tuple #[.slice r_34 r_34n r_34c, .int .i64 r_35] ∧ (
bcase (r_35 != (0 : Int)) (
K (.bool false) h_33) <|
∃ J_36 : Nat → List Value → Heap → Prop, (∃ n_38, J_36 n_38 [.int .i64 1] h_33) ∧ ∀ (n_38 : Nat) (h_39 : Heap) (u_40 : Nat → Value) (x_41 : Int), J_36 n_38 [.int .i64 x_41] h_39 → (
ldI h_39 (((⟨r_6, 0, none⟩ : Addr).add 0).add 1) .i64 fun x_42 =>
bcase (decide (x_41 ≤ x_42)) (
ldI h_39 (((⟨r_6, 0, none⟩ : Addr).add 0).add 0) .i64 fun x_43 =>
ldB h_39 ((⟨r_6, 0, none⟩ : Addr).add 4) fun x_44 =>
C F_generic_Decode #[.slice r_34 r_34n r_34c, .int .i64 x_43, .int .i64 x_41, .int .i64 z_27, .bool x_44] h_39 (fun v_45 h_46 =>
∃ (r_47 : Int) (r_48 : Int) (r_49 : Option Addr) (r_49n : Nat) (r_49c : Nat), ∃ (r_50 : Int), v_45 = .tuple #[.agg #[.int .i64 r_47, .int .i64 r_48, .slice r_49 r_49n r_49c], .int .i64 r_50] ∧ (
newC h_46 [.int .i64 0, .int .i64 0, .slice none 0 0] T_api_Bitmap fun r_51 h_52 =>
stV h_52 ((⟨r_51, 0, none⟩ : Addr).add 0) (.int .i64 r_47) fun h_53 =>
stV h_53 ((⟨r_51, 0, none⟩ : Addr).add 1) (.int .i64 r_48) fun h_54 =>
stV h_54 ((⟨r_51, 0, none⟩ : Addr).add 2) (.slice r_49 r_49n r_49c) fun h_55 =>
ldI h_55 (((⟨r_6, 0, none⟩ : Addr).add 0).add 0) .i64 fun x_56 =>
C F_burinref0_White #[.int .i64 x_56, .int .i64 x_41] h_55 (fun v_57 h_58 =>
∃ (r_59 : Int) (r_60 : Int) (r_61 : Option Addr) (r_61n : Nat) (r_61c : Nat), v_57 = .agg #[.int .i64 r_59, .int .i64 r_60, .slice r_61 r_61n r_61c] ∧ (
newC h_58 [.int .i64 0, .int .i64 0, .slice none 0 0] T_api_Bitmap fun r_62 h_63 =>
stV h_63 ((⟨r_62, 0, none⟩ : Addr).add 0) (.int .i64 r_59) fun h_64 =>
stV h_64 ((⟨r_62, 0, none⟩ : Addr).add 1) (.int .i64 r_60) fun h_65 =>
stV h_65 ((⟨r_62, 0, none⟩ : Addr).add 2) (.slice r_61 r_61n r_61c) fun h_66 =>
ldI h_66 ((⟨r_62, 0, none⟩ : Addr).add 0) .i64 fun x_67 =>
ldI h_66 ((⟨r_62, 0, none⟩ : Addr).add 1) .i64 fun x_68 =>
ldS h_66 ((⟨r_62, 0, none⟩ : Addr).add 2) fun x_69 x_69n x_69c =>
ldI h_66 (((⟨r_6, 0, none⟩ : Addr).add 0).add 0) .i64 fun x_70 =>
ldI h_66 (((⟨r_6, 0, none⟩ : Addr).add 0).add 1) .i64 fun x_71 =>
ldS h_66 (((⟨r_6, 0, none⟩ : Addr).add 0).add 2) fun x_72 x_72n x_72c =>
C F_burinref0_Lay #[.agg #[.int .i64 x_67, .int .i64 x_68, .slice x_69 x_69n x_69c], .int .i64 0, .int .i64 0, .int .i64 4, .agg #[.int .i64 x_70, .int .i64 x_71, .slice x_72 x_72n x_72c]] h_66 (fun v_73 h_74 =>
bcase (r_50 != (0 : Int)) (
K (.bool false) h_74) <|
ldI h_74 ((⟨r_51, 0, none⟩ : Addr).add 0) .i64 fun x_75 =>
ldI h_74 ((⟨r_51, 0, none⟩ : Addr).add 1) .i64 fun x_76 =>
ldS h_74 ((⟨r_51, 0, none⟩ : Addr).add 2) fun x_77 x_77n x_77c =>
ldI h_74 ((⟨r_62, 0, none⟩ : Addr).add 0) .i64 fun x_78 =>
ldI h_74 ((⟨r_62, 0, none⟩ : Addr).add 1) .i64 fun x_79 =>
ldS h_74 ((⟨r_62, 0, none⟩ : Addr).add 2) fun x_80 x_80n x_80c =>
C F_burinref0_EqBitmap #[.agg #[.int .i64 x_75, .int .i64 x_76, .slice x_77 x_77n x_77c], .agg #[.int .i64 x_78, .int .i64 x_79, .slice x_80 x_80n x_80c]] h_74 (fun v_81 h_82 =>
∃ (r_83 : Bool), v_81 = .bool r_83 ∧ (
bcase (!r_83) (
K (.bool false) h_82) <|
bindI (IntKind.i64.wrap (x_41 + (1 : Int))) fun z_84 =>
ldI h_82 (((⟨r_6, 0, none⟩ : Addr).add 0).add 1) .i64 fun x_85 =>
bindI (IntKind.i64.wrap (x_85.tdiv (5 : Int))) fun z_86 =>
bindI (IntKind.i64.wrap (z_84 + z_86)) fun z_87 =>
∃ m_37, m_37 < n_38 ∧ J_36 m_37 [.int .i64 z_87] h_82)) (Kp)) (Kp))) (Kp))) (Kp)) <|
C F_burinlaw7_wakes #[] h_39 (fun v_88 h_89 =>
∃ (r_90 : Bool), v_88 = .bool r_90 ∧ (
K (.bool r_90) h_89)) (Kp)))) (Kp))) (Kp))) (Kp)

end Go.Den.Yteakipgcanafoaa

/- Written by gen.py: each condition of the functions of law7GenericTop is the one of its body; so it is enough for its call. -/
set_option linter.unusedVariables false
set_option linter.unusedSimpArgs false
namespace Go.Den.Yteakipgcanafoaa
open Go Go.Den

noncomputable def hints_burinlaw7_GenericTop : Hints := Hints.mk (fun i => none)
  (fun i => bif Nat.beq i 8 then some ([(6, .int .i64)], 75557863725879963681732) else (none))
  (fun i => none) []
set_option maxRecDepth 100000 in
theorem eq_burinlaw7_GenericTop (C : CallP) (a0_1 : Int) (a0_2 : Int) (a0_3 : Option Addr) (a0_3n : Nat) (a0_3c : Nat) (a0_4 : Int) (a0_5 : Bool) (h : Heap) (K : Value → Heap → Prop) (Kp : List PanicEntry → Heap → Prop) :
    fnD Go.Proofs.Try.prog C hints_burinlaw7_GenericTop Go.Proofs.Try.f12 [.agg #[.int .i64 a0_1, .int .i64 a0_2, .slice a0_3 a0_3n a0_3c, .int .i64 a0_4, .bool a0_5]] h K Kp = burinlaw7_GenericTop C a0_1 a0_2 a0_3 a0_3n a0_3c a0_4 a0_5 h K Kp := by kernel_rfl

theorem call_burinlaw7_GenericTop {a0_1 : Int} {a0_2 : Int} {a0_3 : Option Addr} {a0_3n : Nat} {a0_3c : Nat} {a0_4 : Int} {a0_5 : Bool} {h : Heap} {K : Value → Heap → Prop} {Kp : List PanicEntry → Heap → Prop} (H : burinlaw7_GenericTop (CallsHP Go.Proofs.Try.prog) a0_1 a0_2 a0_3 a0_3n a0_3c a0_4 a0_5 h K Kp) : CallsHP Go.Proofs.Try.prog F_burinlaw7_GenericTop #[.agg #[.int .i64 a0_1, .int .i64 a0_2, .slice a0_3 a0_3n a0_3c, .int .i64 a0_4, .bool a0_5]] h K Kp :=
  callsHP_of hints_burinlaw7_GenericTop (by kernel_rfl) Go.Proofs.Try.func12 (by kernel_rfl) (by rw [eq_burinlaw7_GenericTop]; exact H)

end Go.Den.Yteakipgcanafoaa

/- GnO: the law GenericTop, said of memory. -/
set_option linter.unusedVariables false
set_option linter.unusedSimpArgs false
namespace Go.Bm
open Go Go.Den Go.Den.Yteakipgcanafoaa
open Go.Ar (u8s)

theorem and63_3 (x : Int) : ∃ t : Nat, t < 4 ∧ bitI .and .i64 x 3 = (t : Int) := by
  have e : bitI .and .i64 x 3 = IntKind.i64.wrap (((BitVec.ofInt 64 x &&& BitVec.ofInt 64 3).toNat : Nat) : Int) := rfl
  have e3 : (BitVec.ofInt 64 3).toNat = 3 := rfl
  have hle : (BitVec.ofInt 64 x &&& BitVec.ofInt 64 3).toNat ≤ 3 := by
    rw [BitVec.toNat_and, e3]
    exact Nat.and_le_right
  refine ⟨_, Nat.lt_succ_of_le hle, ?_⟩
  rw [e]
  exact wr63 _ (by omega) (by omega)
set_option maxRecDepth 100000 in
set_option maxHeartbeats 4000000 in
theorem gTop_law {hB : Heap} {w b tt : Int} {sk : Bool} {q1 : Option Addr} {c1 : Nat} {ws : List Nat} (hr1 : rdO hB q1 (ws.length * 1) (u64s ws)) (hw1 : W64 ws) (hl1 : ws.length < 140737488351300) (htt : IntKind.i64.min ≤ tt ∧ tt ≤ IntKind.i64.max)
    {K : Value → Heap → Prop} {Kp : List PanicEntry → Heap → Prop} (hk : ∀ h', hext hB h' → K (.bool true) h') :
    CP F_burinlaw7_GenericTop #[.agg #[.int .i64 w, .int .i64 b, .slice q1 ws.length c1, .int .i64 tt, .bool sk]] hB K Kp := by
  refine call_burinlaw7_GenericTop ?_
  unfold burinlaw7_GenericTop
  have H := Hp.nil hB []
  refine newC_hp H fun r6 h H => ?_
  repeat first | with_reducible refine ldI_of (by with_unfolding_all first | exact hpA H 0 rfl rfl | exact Hp.cell H 0 rfl rfl | exact hpB H 0 rfl rfl | exact hpC H 0 rfl rfl) ?_ | with_reducible refine ldS_of (by with_unfolding_all first | exact hpA H 0 rfl rfl | exact Hp.cell H 0 rfl rfl | exact hpB H 0 rfl rfl | exact hpC H 0 rfl rfl) ?_ | with_reducible refine ldP_of (by with_unfolding_all first | exact hpA H 0 rfl rfl | exact Hp.cell H 0 rfl rfl | exact hpB H 0 rfl rfl | exact hpC H 0 rfl rfl) ?_ | with_reducible refine ldB_of (by with_unfolding_all first | exact hpA H 0 rfl rfl | exact Hp.cell H 0 rfl rfl | exact hpB H 0 rfl rfl | exact hpC H 0 rfl rfl) ?_ | with_reducible refine ldT_of (by with_unfolding_all first | exact hpA H 0 rfl rfl | exact Hp.cell H 0 rfl rfl | exact hpB H 0 rfl rfl | exact hpC H 0 rfl rfl) ?_
  refine may_ok (H.rdO hr1) hw1 hl1 fun bm0 h1 hbm0 e1 => ?_
  have H := H.ext e1
  clear e1
  refine ⟨_, rfl, ?_⟩
  refine bcase_not (fun h2 => wakes7_ok fun h' e => ⟨_, rfl, hk _ (H.hext.trans e)⟩) fun hc0 => ?_
  repeat first | with_reducible refine ldI_of (by with_unfolding_all first | exact hpA H 0 rfl rfl | exact Hp.cell H 0 rfl rfl | exact hpB H 0 rfl rfl | exact hpC H 0 rfl rfl) ?_ | with_reducible refine ldS_of (by with_unfolding_all first | exact hpA H 0 rfl rfl | exact Hp.cell H 0 rfl rfl | exact hpB H 0 rfl rfl | exact hpC H 0 rfl rfl) ?_ | with_reducible refine ldP_of (by with_unfolding_all first | exact hpA H 0 rfl rfl | exact Hp.cell H 0 rfl rfl | exact hpB H 0 rfl rfl | exact hpC H 0 rfl rfl) ?_ | with_reducible refine ldB_of (by with_unfolding_all first | exact hpA H 0 rfl rfl | exact Hp.cell H 0 rfl rfl | exact hpB H 0 rfl rfl | exact hpC H 0 rfl rfl) ?_ | with_reducible refine ldT_of (by with_unfolding_all first | exact hpA H 0 rfl rfl | exact Hp.cell H 0 rfl rfl | exact hpB H 0 rfl rfl | exact hpC H 0 rfl rfl) ?_
  refine light7_ok (H.rdO hr1) hw1 hl1 fun bm2 h1 hbm2 e1 => ?_
  have H := H.ext e1
  clear e1
  refine ⟨_, rfl, ?_⟩
  refine bcase_not (fun h2 => wakes7_ok fun h' e => ⟨_, rfl, hk _ (H.hext.trans e)⟩) fun hc2 => ?_
  have hm1 := hbm0.1 hc0
  obtain ⟨W, X, rfl, rfl, hW1, hW2, hX1, hX2, hWX⟩ := size_nat hm1.1
  repeat first | with_reducible refine ldI_of (by with_unfolding_all first | exact hpA H 0 rfl rfl | exact Hp.cell H 0 rfl rfl | exact hpB H 0 rfl rfl | exact hpC H 0 rfl rfl) ?_ | with_reducible refine ldS_of (by with_unfolding_all first | exact hpA H 0 rfl rfl | exact Hp.cell H 0 rfl rfl | exact hpB H 0 rfl rfl | exact hpC H 0 rfl rfl) ?_ | with_reducible refine ldP_of (by with_unfolding_all first | exact hpA H 0 rfl rfl | exact Hp.cell H 0 rfl rfl | exact hpB H 0 rfl rfl | exact hpC H 0 rfl rfl) ?_ | with_reducible refine ldB_of (by with_unfolding_all first | exact hpA H 0 rfl rfl | exact Hp.cell H 0 rfl rfl | exact hpB H 0 rfl rfl | exact hpC H 0 rfl rfl) ?_ | with_reducible refine ldT_of (by with_unfolding_all first | exact hpA H 0 rfl rfl | exact Hp.cell H 0 rfl rfl | exact hpB H 0 rfl rfl | exact hpC H 0 rfl rfl) ?_
  have hand : ∃ t : Nat, t < 4 ∧ bitI .and .i64 tt 3 = (t : Int) := and63_3 tt
  obtain ⟨t, ht, hz⟩ := hand
  refine bindI_of (((t : Nat) : Int)) (by exact hz) ?_
  repeat first | with_reducible refine ldI_of (by with_unfolding_all first | exact hpA H 0 rfl rfl | exact Hp.cell H 0 rfl rfl | exact hpB H 0 rfl rfl | exact hpC H 0 rfl rfl) ?_ | with_reducible refine ldS_of (by with_unfolding_all first | exact hpA H 0 rfl rfl | exact Hp.cell H 0 rfl rfl | exact hpB H 0 rfl rfl | exact hpC H 0 rfl rfl) ?_ | with_reducible refine ldP_of (by with_unfolding_all first | exact hpA H 0 rfl rfl | exact Hp.cell H 0 rfl rfl | exact hpB H 0 rfl rfl | exact hpC H 0 rfl rfl) ?_ | with_reducible refine ldB_of (by with_unfolding_all first | exact hpA H 0 rfl rfl | exact Hp.cell H 0 rfl rfl | exact hpB H 0 rfl rfl | exact hpC H 0 rfl rfl) ?_ | with_reducible refine ldT_of (by with_unfolding_all first | exact hpA H 0 rfl rfl | exact Hp.cell H 0 rfl rfl | exact hpB H 0 rfl rfl | exact hpC H 0 rfl rfl) ?_
  refine gEnc_ok (H.rdO hr1) hw1 hl1 fun e bs D qo c h' henc hsl H' => ?_
  replace H := H.join H' hsl.w
  clear H'
  refine ⟨_, _, _, _, rfl, ?_⟩
  obtain rfl := henc.ok ⟨by omega, by omega⟩ hm1
  refine bcase_false (by rfl) ?_
  refine ⟨fun n vs h' => ∃ i : Nat, 1 ≤ i ∧ i ≤ 2 * X + 2 ∧ i + n = 2 * X + 2 ∧ vs = [.int .i64 (i : Int)] ∧ Hp hB [] h' ([⟨r6, true, T_burinlaw7_Ask, [.int .i64 (W : Nat), .int .i64 (X : Nat), .slice q1 ws.length c1, .int .i64 tt, .bool sk]⟩] ++ D), ⟨2 * X + 1, 1, by omega, by omega, by omega, rfl, H⟩, ?_⟩
  clear H
  rintro n h u xx ⟨i, hi1, hi2, hin, hxx, H⟩
  injection hxx with hxx
  injection hxx with _ hxx
  subst hxx
  repeat first | with_reducible refine ldI_of (by with_unfolding_all first | exact hpA H 0 rfl rfl | exact Hp.cell H 0 rfl rfl | exact hpB H 0 rfl rfl | exact hpC H 0 rfl rfl) ?_ | with_reducible refine ldS_of (by with_unfolding_all first | exact hpA H 0 rfl rfl | exact Hp.cell H 0 rfl rfl | exact hpB H 0 rfl rfl | exact hpC H 0 rfl rfl) ?_ | with_reducible refine ldP_of (by with_unfolding_all first | exact hpA H 0 rfl rfl | exact Hp.cell H 0 rfl rfl | exact hpB H 0 rfl rfl | exact hpC H 0 rfl rfl) ?_ | with_reducible refine ldB_of (by with_unfolding_all first | exact hpA H 0 rfl rfl | exact Hp.cell H 0 rfl rfl | exact hpB H 0 rfl rfl | exact hpC H 0 rfl rfl) ?_ | with_reducible refine ldT_of (by with_unfolding_all first | exact hpA H 0 rfl rfl | exact Hp.cell H 0 rfl rfl | exact hpB H 0 rfl rfl | exact hpC H 0 rfl rfl) ?_
  refine bcase_dec (fun h1 => ?_) fun h1 => wakes7_ok fun h' e => ⟨_, rfl, hk _ (H.hext.trans e)⟩
  have hiX : i ≤ X := by omega
  repeat first | with_reducible refine ldI_of (by with_unfolding_all first | exact hpA H 0 rfl rfl | exact Hp.cell H 0 rfl rfl | exact hpB H 0 rfl rfl | exact hpC H 0 rfl rfl) ?_ | with_reducible refine ldS_of (by with_unfolding_all first | exact hpA H 0 rfl rfl | exact Hp.cell H 0 rfl rfl | exact hpB H 0 rfl rfl | exact hpC H 0 rfl rfl) ?_ | with_reducible refine ldP_of (by with_unfolding_all first | exact hpA H 0 rfl rfl | exact Hp.cell H 0 rfl rfl | exact hpB H 0 rfl rfl | exact hpC H 0 rfl rfl) ?_ | with_reducible refine ldB_of (by with_unfolding_all first | exact hpA H 0 rfl rfl | exact Hp.cell H 0 rfl rfl | exact hpB H 0 rfl rfl | exact hpC H 0 rfl rfl) ?_ | with_reducible refine ldT_of (by with_unfolding_all first | exact hpA H 0 rfl rfl | exact Hp.cell H 0 rfl rfl | exact hpB H 0 rfl rfl | exact hpC H 0 rfl rfl) ?_
  refine gDec_ok (bytes := bs) henc.bytes.1 henc.bytes.2 (Slot.rdO' hsl H fun e he => List.mem_append_right _ he) fun e' w' b' bs' s' D2 qo2 c3 h' hget hsl2 H' => ?_
  replace H := H.join H' hsl2.w
  clear H'
  refine ⟨_, _, _, _, _, _, rfl, ?_⟩
  obtain ⟨_, rfl, rfl, rfl, g1, g2, g3, g4⟩ := g_top ht hiX hi1 hm1 henc hget
  refine newC_hp H fun r51 h H => ?_
  have H := H.rot
  repeat first | with_reducible refine stA H 0 (by with_unfolding_all exact rfl) (by with_unfolding_all exact rfl) (by with_unfolding_all exact rfl) fun h H => ?_ | with_reducible refine st0 H 0 (by with_unfolding_all exact rfl) (by with_unfolding_all exact rfl) (by with_unfolding_all exact rfl) fun h H => ?_ | with_reducible refine stB H 0 (by with_unfolding_all exact rfl) (by with_unfolding_all exact rfl) (by with_unfolding_all exact rfl) fun h H => ?_
  repeat first | with_reducible refine ldI_of (by with_unfolding_all first | exact hpA H 0 rfl rfl | exact hpA H 1 rfl rfl | exact Hp.cell H 0 rfl rfl | exact Hp.cell H 1 rfl rfl | exact hpB H 0 rfl rfl | exact hpB H 1 rfl rfl | exact hpC H 0 rfl rfl | exact hpC H 1 rfl rfl) ?_ | with_reducible refine ldS_of (by with_unfolding_all first | exact hpA H 0 rfl rfl | exact hpA H 1 rfl rfl | exact Hp.cell H 0 rfl rfl | exact Hp.cell H 1 rfl rfl | exact hpB H 0 rfl rfl | exact hpB H 1 rfl rfl | exact hpC H 0 rfl rfl | exact hpC H 1 rfl rfl) ?_ | with_reducible refine ldP_of (by with_unfolding_all first | exact hpA H 0 rfl rfl | exact hpA H 1 rfl rfl | exact Hp.cell H 0 rfl rfl | exact Hp.cell H 1 rfl rfl | exact hpB H 0 rfl rfl | exact hpB H 1 rfl rfl | exact hpC H 0 rfl rfl | exact hpC H 1 rfl rfl) ?_ | with_reducible refine ldB_of (by with_unfolding_all first | exact hpA H 0 rfl rfl | exact hpA H 1 rfl rfl | exact Hp.cell H 0 rfl rfl | exact Hp.cell H 1 rfl rfl | exact hpB H 0 rfl rfl | exact hpB H 1 rfl rfl | exact hpC H 0 rfl rfl | exact hpC H 1 rfl rfl) ?_ | with_reducible refine ldT_of (by with_unfolding_all first | exact hpA H 0 rfl rfl | exact hpA H 1 rfl rfl | exact Hp.cell H 0 rfl rfl | exact Hp.cell H 1 rfl rfl | exact hpB H 0 rfl rfl | exact hpB H 1 rfl rfl | exact hpC H 0 rfl rfl | exact hpC H 1 rfl rfl) ?_
  have hWi : W * i ≤ W * X := Nat.mul_le_mul_left _ hiX
  have hsi : SizeP (W : Int) (i : Int) := by
    refine ⟨by omega, by omega, by omega, by omega, ?_⟩
    rw [mul_cast]
    omega
  refine white_ok hsi fun q h' H' => ?_
  replace H := (H.join H' rfl).rot
  clear H'
  refine ⟨_, _, _, _, _, rfl, ?_⟩
  refine newC_hp H fun r62 h H => ?_
  have H := H.rot
  repeat first | with_reducible refine stA H 0 (by with_unfolding_all exact rfl) (by with_unfolding_all exact rfl) (by with_unfolding_all exact rfl) fun h H => ?_ | with_reducible refine st0 H 0 (by with_unfolding_all exact rfl) (by with_unfolding_all exact rfl) (by with_unfolding_all exact rfl) fun h H => ?_ | with_reducible refine stB H 0 (by with_unfolding_all exact rfl) (by with_unfolding_all exact rfl) (by with_unfolding_all exact rfl) fun h H => ?_
  have H : Hp hB [] h (([⟨r62, true, T_api_Bitmap, [.int .i64 (W : Nat), .int .i64 (i : Nat), .slice (at0 q) (i * wds W) (i * wds W)]⟩, ⟨q, true, T_uint64, u64s (List.replicate (i * wds W) 0) ++ []⟩, ⟨r51, true, T_api_Bitmap, [.int .i64 (W : Nat), .int .i64 (i : Nat), .slice qo2 bs'.length c3]⟩, ⟨r6, true, T_burinlaw7_Ask, [.int .i64 (W : Nat), .int .i64 (X : Nat), .slice q1 ws.length c1, .int .i64 tt, .bool sk]⟩] ++ D) ++ D2) := H.as (by simp)
  repeat first | with_reducible refine ldI_of (by with_unfolding_all first | exact hpA H 0 rfl rfl | exact hpA H 1 rfl rfl | exact hpA H 2 rfl rfl | exact hpA H 3 rfl rfl | exact Hp.cell H 0 rfl rfl | exact Hp.cell H 1 rfl rfl | exact Hp.cell H 2 rfl rfl | exact Hp.cell H 3 rfl rfl | exact hpB H 0 rfl rfl | exact hpB H 1 rfl rfl | exact hpB H 2 rfl rfl | exact hpB H 3 rfl rfl | exact hpC H 0 rfl rfl | exact hpC H 1 rfl rfl | exact hpC H 2 rfl rfl | exact hpC H 3 rfl rfl) ?_ | with_reducible refine ldS_of (by with_unfolding_all first | exact hpA H 0 rfl rfl | exact hpA H 1 rfl rfl | exact hpA H 2 rfl rfl | exact hpA H 3 rfl rfl | exact Hp.cell H 0 rfl rfl | exact Hp.cell H 1 rfl rfl | exact Hp.cell H 2 rfl rfl | exact Hp.cell H 3 rfl rfl | exact hpB H 0 rfl rfl | exact hpB H 1 rfl rfl | exact hpB H 2 rfl rfl | exact hpB H 3 rfl rfl | exact hpC H 0 rfl rfl | exact hpC H 1 rfl rfl | exact hpC H 2 rfl rfl | exact hpC H 3 rfl rfl) ?_ | with_reducible refine ldP_of (by with_unfolding_all first | exact hpA H 0 rfl rfl | exact hpA H 1 rfl rfl | exact hpA H 2 rfl rfl | exact hpA H 3 rfl rfl | exact Hp.cell H 0 rfl rfl | exact Hp.cell H 1 rfl rfl | exact Hp.cell H 2 rfl rfl | exact Hp.cell H 3 rfl rfl | exact hpB H 0 rfl rfl | exact hpB H 1 rfl rfl | exact hpB H 2 rfl rfl | exact hpB H 3 rfl rfl | exact hpC H 0 rfl rfl | exact hpC H 1 rfl rfl | exact hpC H 2 rfl rfl | exact hpC H 3 rfl rfl) ?_ | with_reducible refine ldB_of (by with_unfolding_all first | exact hpA H 0 rfl rfl | exact hpA H 1 rfl rfl | exact hpA H 2 rfl rfl | exact hpA H 3 rfl rfl | exact Hp.cell H 0 rfl rfl | exact Hp.cell H 1 rfl rfl | exact Hp.cell H 2 rfl rfl | exact Hp.cell H 3 rfl rfl | exact hpB H 0 rfl rfl | exact hpB H 1 rfl rfl | exact hpB H 2 rfl rfl | exact hpB H 3 rfl rfl | exact hpC H 0 rfl rfl | exact hpC H 1 rfl rfl | exact hpC H 2 rfl rfl | exact hpC H 3 rfl rfl) ?_ | with_reducible refine ldT_of (by with_unfolding_all first | exact hpA H 0 rfl rfl | exact hpA H 1 rfl rfl | exact hpA H 2 rfl rfl | exact hpA H 3 rfl rfl | exact Hp.cell H 0 rfl rfl | exact Hp.cell H 1 rfl rfl | exact Hp.cell H 2 rfl rfl | exact Hp.cell H 3 rfl rfl | exact hpB H 0 rfl rfl | exact hpB H 1 rfl rfl | exact hpB H 2 rfl rfl | exact hpB H 3 rfl rfl | exact hpC H 0 rfl rfl | exact hpC H 1 rfl rfl | exact hpC H 2 rfl rfl | exact hpC H 3 rfl rfl) ?_
  have hZw : W64 (List.replicate (i * wds W) 0) := W64.zero _
  have hZp : ∀ x y, pix (List.replicate (i * wds W) 0) (wds W) x y = false := fun x y => pix_zero _ _ _ _
  have hrl : (List.replicate (i * wds W) 0).length = i * wds W := List.length_replicate
  generalize List.replicate (i * wds W) 0 = Z at H hZw hZp hrl
  rw [← hrl] at H ⊢
  refine part_ok (ws := Z) (rest := []) (X := X) (j := 0) (op := 4) (ws2 := ws) H 1 rfl hsi hrl hZw hZp (fun h' R H' => H'.rdO hr1) hm1 hw1 (by omega) (.inr rfl) fun R h' k1 k2 k3 k4 H => ?_
  refine bcase_false (by rfl) ?_
  rw [hrl] at H
  have H : Hp hB [] h' (([⟨r62, true, T_api_Bitmap, [.int .i64 (W : Nat), .int .i64 (i : Nat), .slice (at0 q) (i * wds W) (i * wds W)]⟩, ⟨q, true, T_uint64, u64s R ++ []⟩, ⟨r51, true, T_api_Bitmap, [.int .i64 (W : Nat), .int .i64 (i : Nat), .slice qo2 bs'.length c3]⟩, ⟨r6, true, T_burinlaw7_Ask, [.int .i64 (W : Nat), .int .i64 (X : Nat), .slice q1 ws.length c1, .int .i64 tt, .bool sk]⟩] ++ D) ++ D2) := H
  have hRb : bs' = R := by
    refine getP_ext g1 k1 g2 k2 g3 (fun y hy x h1 h2 => pix_of_may k3 hy h1 h2) ?_
    rw [g4]
    funext x y
    unfold getP
    by_cases hh : 0 ≤ x ∧ 0 ≤ y ∧ x < W ∧ y < i
    · rw [decide_eq_true hh, decide_eq_true (show y < i by omega), decide_eq_true (show 0 ≤ x ∧ 0 ≤ y ∧ x < W ∧ y < X by omega)]
      have hx64 : x.toNat < 64 * wds W := by unfold wds; omega
      rw [k4 y.toNat (by omega) x.toNat hx64]
      rfl
    · rw [decide_eq_false hh, Bool.false_and]
      by_cases h5 : y < i
      · rw [decide_eq_false (show ¬ (0 ≤ x ∧ 0 ≤ y ∧ x < W ∧ y < X) by omega)]
        simp
      · rw [decide_eq_false h5, Bool.false_and]
  repeat first | with_reducible refine ldI_of (by with_unfolding_all first | exact hpA H 0 rfl rfl | exact hpA H 1 rfl rfl | exact hpA H 2 rfl rfl | exact hpA H 3 rfl rfl | exact Hp.cell H 0 rfl rfl | exact Hp.cell H 1 rfl rfl | exact Hp.cell H 2 rfl rfl | exact Hp.cell H 3 rfl rfl | exact hpB H 0 rfl rfl | exact hpB H 1 rfl rfl | exact hpB H 2 rfl rfl | exact hpB H 3 rfl rfl | exact hpC H 0 rfl rfl | exact hpC H 1 rfl rfl | exact hpC H 2 rfl rfl | exact hpC H 3 rfl rfl) ?_ | with_reducible refine ldS_of (by with_unfolding_all first | exact hpA H 0 rfl rfl | exact hpA H 1 rfl rfl | exact hpA H 2 rfl rfl | exact hpA H 3 rfl rfl | exact Hp.cell H 0 rfl rfl | exact Hp.cell H 1 rfl rfl | exact Hp.cell H 2 rfl rfl | exact Hp.cell H 3 rfl rfl | exact hpB H 0 rfl rfl | exact hpB H 1 rfl rfl | exact hpB H 2 rfl rfl | exact hpB H 3 rfl rfl | exact hpC H 0 rfl rfl | exact hpC H 1 rfl rfl | exact hpC H 2 rfl rfl | exact hpC H 3 rfl rfl) ?_ | with_reducible refine ldP_of (by with_unfolding_all first | exact hpA H 0 rfl rfl | exact hpA H 1 rfl rfl | exact hpA H 2 rfl rfl | exact hpA H 3 rfl rfl | exact Hp.cell H 0 rfl rfl | exact Hp.cell H 1 rfl rfl | exact Hp.cell H 2 rfl rfl | exact Hp.cell H 3 rfl rfl | exact hpB H 0 rfl rfl | exact hpB H 1 rfl rfl | exact hpB H 2 rfl rfl | exact hpB H 3 rfl rfl | exact hpC H 0 rfl rfl | exact hpC H 1 rfl rfl | exact hpC H 2 rfl rfl | exact hpC H 3 rfl rfl) ?_ | with_reducible refine ldB_of (by with_unfolding_all first | exact hpA H 0 rfl rfl | exact hpA H 1 rfl rfl | exact hpA H 2 rfl rfl | exact hpA H 3 rfl rfl | exact Hp.cell H 0 rfl rfl | exact Hp.cell H 1 rfl rfl | exact Hp.cell H 2 rfl rfl | exact Hp.cell H 3 rfl rfl | exact hpB H 0 rfl rfl | exact hpB H 1 rfl rfl | exact hpB H 2 rfl rfl | exact hpB H 3 rfl rfl | exact hpC H 0 rfl rfl | exact hpC H 1 rfl rfl | exact hpC H 2 rfl rfl | exact hpC H 3 rfl rfl) ?_ | with_reducible refine ldT_of (by with_unfolding_all first | exact hpA H 0 rfl rfl | exact hpA H 1 rfl rfl | exact hpA H 2 rfl rfl | exact hpA H 3 rfl rfl | exact Hp.cell H 0 rfl rfl | exact Hp.cell H 1 rfl rfl | exact Hp.cell H 2 rfl rfl | exact Hp.cell H 3 rfl rfl | exact hpB H 0 rfl rfl | exact hpB H 1 rfl rfl | exact hpB H 2 rfl rfl | exact hpB H 3 rfl rfl | exact hpC H 0 rfl rfl | exact hpC H 1 rfl rfl | exact hpC H 2 rfl rfl | exact hpC H 3 rfl rfl) ?_
  rw [← k1] at H ⊢
  refine eqB_ok (xs := bs') (ys := R) (Slot.rdO' hsl2 H fun e he => List.mem_append_right _ he) (row_rdO H 1 rfl) (by rw [g1, ← k1, k1]; exact Nat.lt_of_le_of_lt (hw_le hW1 (by omega : W * i ≤ 1048576)) (by decide)) fun h' e => ?_
  have H := H.ext e
  refine ⟨_, rfl, ?_⟩
  refine bcase_false (by rw [hRb]; simp) ?_
  refine bindI_of (((i + 1 : Nat) : Int)) (by exact i64_at _ _ (by omega) (by omega) (by omega)) ?_
  repeat first | with_reducible refine ldI_of (by with_unfolding_all first | exact hpA H 0 rfl rfl | exact hpA H 1 rfl rfl | exact hpA H 2 rfl rfl | exact hpA H 3 rfl rfl | exact Hp.cell H 0 rfl rfl | exact Hp.cell H 1 rfl rfl | exact Hp.cell H 2 rfl rfl | exact Hp.cell H 3 rfl rfl | exact hpB H 0 rfl rfl | exact hpB H 1 rfl rfl | exact hpB H 2 rfl rfl | exact hpB H 3 rfl rfl | exact hpC H 0 rfl rfl | exact hpC H 1 rfl rfl | exact hpC H 2 rfl rfl | exact hpC H 3 rfl rfl) ?_ | with_reducible refine ldS_of (by with_unfolding_all first | exact hpA H 0 rfl rfl | exact hpA H 1 rfl rfl | exact hpA H 2 rfl rfl | exact hpA H 3 rfl rfl | exact Hp.cell H 0 rfl rfl | exact Hp.cell H 1 rfl rfl | exact Hp.cell H 2 rfl rfl | exact Hp.cell H 3 rfl rfl | exact hpB H 0 rfl rfl | exact hpB H 1 rfl rfl | exact hpB H 2 rfl rfl | exact hpB H 3 rfl rfl | exact hpC H 0 rfl rfl | exact hpC H 1 rfl rfl | exact hpC H 2 rfl rfl | exact hpC H 3 rfl rfl) ?_ | with_reducible refine ldP_of (by with_unfolding_all first | exact hpA H 0 rfl rfl | exact hpA H 1 rfl rfl | exact hpA H 2 rfl rfl | exact hpA H 3 rfl rfl | exact Hp.cell H 0 rfl rfl | exact Hp.cell H 1 rfl rfl | exact Hp.cell H 2 rfl rfl | exact Hp.cell H 3 rfl rfl | exact hpB H 0 rfl rfl | exact hpB H 1 rfl rfl | exact hpB H 2 rfl rfl | exact hpB H 3 rfl rfl | exact hpC H 0 rfl rfl | exact hpC H 1 rfl rfl | exact hpC H 2 rfl rfl | exact hpC H 3 rfl rfl) ?_ | with_reducible refine ldB_of (by with_unfolding_all first | exact hpA H 0 rfl rfl | exact hpA H 1 rfl rfl | exact hpA H 2 rfl rfl | exact hpA H 3 rfl rfl | exact Hp.cell H 0 rfl rfl | exact Hp.cell H 1 rfl rfl | exact Hp.cell H 2 rfl rfl | exact Hp.cell H 3 rfl rfl | exact hpB H 0 rfl rfl | exact hpB H 1 rfl rfl | exact hpB H 2 rfl rfl | exact hpB H 3 rfl rfl | exact hpC H 0 rfl rfl | exact hpC H 1 rfl rfl | exact hpC H 2 rfl rfl | exact hpC H 3 rfl rfl) ?_ | with_reducible refine ldT_of (by with_unfolding_all first | exact hpA H 0 rfl rfl | exact hpA H 1 rfl rfl | exact hpA H 2 rfl rfl | exact hpA H 3 rfl rfl | exact Hp.cell H 0 rfl rfl | exact Hp.cell H 1 rfl rfl | exact Hp.cell H 2 rfl rfl | exact Hp.cell H 3 rfl rfl | exact hpB H 0 rfl rfl | exact hpB H 1 rfl rfl | exact hpB H 2 rfl rfl | exact hpB H 3 rfl rfl | exact hpC H 0 rfl rfl | exact hpC H 1 rfl rfl | exact hpC H 2 rfl rfl | exact hpC H 3 rfl rfl) ?_
  refine bindI_of (((X / 5 : Nat) : Int)) (by exact i64_at _ _ (tdiv_nat X 5) (by omega) (by omega)) ?_
  refine bindI_of (((i + 1 + X / 5 : Nat) : Int)) (by exact i64_at _ _ (by omega) (by omega) (by omega)) ?_
  refine ⟨n - (1 + X / 5), by omega, i + 1 + X / 5, by omega, by omega, by omega, rfl, ?_⟩
  exact (Hp.pre (Y := D2) H).sub (List.Sublist.append (by simp) (List.Sublist.refl D))
theorem gTop_arg {h : Heap} {cs : Array Value} (hsz : cs.size = TP.cellsOf T_burinlaw7_Ask) (hw : WDx TP h T_burinlaw7_Ask cs.toList) {K : Value → Heap → Prop} {Kp : List PanicEntry → Heap → Prop} (hk : ∀ h', hext h h' → K (.bool true) h') :
    CP F_burinlaw7_GenericTop #[.agg cs] h K Kp := by
  obtain ⟨w, b, q1, c1, ws, t, sk, e, g1, g2, g3, g4⟩ := wd_ask7 hw
  obtain rfl : cs = #[.int .i64 w, .int .i64 b, .slice q1 ws.length c1, .int .i64 t, .bool sk] := by
    apply Array.toList_inj.1
    rw [e]
  exact gTop_law g1 g2 g3 g4 hk
end Go.Bm

/- Written by gen.py: the conditions of the functions of law7GenericRepeats. -/
set_option linter.unusedVariables false
set_option linter.unusedSimpArgs false
namespace Go.Den.Yteakipgcanafoaa
open Go Go.Den

/- burin/burinlaw7.GenericRepeats -/
set_option maxRecDepth 100000 in
def burinlaw7_GenericRepeats (C : CallP) (a0_1 : Int) (a0_2 : Int) (a0_3 : Option Addr) (a0_3n : Nat) (a0_3c : Nat) (a0_4 : Int) (a0_5 : Bool) (h : Heap) (K : Value → Heap → Prop) (Kp : List PanicEntry → Heap → Prop) : Prop :=
newC h [.int .i64 a0_1, .int .i64 a0_2, .slice a0_3 a0_3n a0_3c, .int .i64 a0_4, .bool a0_5] T_burinlaw7_Ask fun r_6 h_7 =>
ldI h_7 (((⟨r_6, 0, none⟩ : Addr).add 0).add 0) .i64 fun x_8 =>
ldI h_7 (((⟨r_6, 0, none⟩ : Addr).add 0).add 1) .i64 fun x_9 =>
ldS h_7 (((⟨r_6, 0, none⟩ : Addr).add 0).add 2) fun x_10 x_10n x_10c =>
C F_burinref0_May #[.agg #[.int .i64 x_8, .int .i64 x_9, .slice x_10 x_10n x_10c]] h_7 (fun v_11 h_12 =>
∃ (r_13 : Bool), v_11 = .bool r_13 ∧ (
bcase (!r_13) (
C F_burinlaw7_wakes #[] h_12 (fun v_14 h_15 =>
∃ (r_16 : Bool), v_14 = .bool r_16 ∧ (
K (.bool r_16) h_15)) (Kp)) <|
ldI h_12 (((⟨r_6, 0, none⟩ : Addr).add 0).add 0) .i64 fun x_17 =>
bcase (decide (x_17 > (1000 : Int))) (
C F_burinlaw7_wakes #[] h_12 (fun v_18 h_19 =>
∃ (r_20 : Bool), v_18 = .bool r_20 ∧ (
K (.bool r_20) h_19)) (Kp)) <|
ldI h_12 (((⟨r_6, 0, none⟩ : Addr).add 0).add 0) .i64 fun x_21 =>
ldI h_12 (((⟨r_6, 0, none⟩ : Addr).add 0).add 1) .i64 fun x_22 =>
ldS h_12 (((⟨r_6, 0, none⟩ : Addr).add 0).add 2) fun x_23 x_23n x_23c =>
newC h_12 [.int .i64 x_21, .int .i64 x_22, .slice x_23 x_23n x_23c] T_api_Bitmap fun r_24 h_25 =>
C F_burinkit_Small #[.slice (some ⟨r_24, 0, none⟩) 1 1, .int .i64 384000] h_25 (fun v_26 h_27 =>
∃ (r_28 : Bool), v_26 = .bool r_28 ∧ (
bcase (!r_28) (
C F_burinlaw7_wakes #[] h_27 (fun v_29 h_30 =>
∃ (r_31 : Bool), v_29 = .bool r_31 ∧ (
K (.bool r_31) h_30)) (Kp)) <|
ldI h_27 ((⟨r_6, 0, none⟩ : Addr).add 3) .i64 fun x_32 =>
bindI (bitI .and .i64 x_32 (3 : Int)) fun z_33 =>
ldI h_27 (((⟨r_6, 0, none⟩ : Addr).add 0).add 0) .i64 fun x_34 =>
C F_burinref0_White #[.int .i64 x_34, .int .i64 1] h_27 (fun v_35 h_36 =>
∃ (r_37 : Int) (r_38 : Int) (r_39 : Option Addr) (r_39n : Nat) (r_39c : Nat), v_35 = .agg #[.int .i64 r_37, .int .i64 r_38, .slice r_39 r_39n r_39c] ∧ (
newC h_36 [.int .i64 0, .int .i64 0, .slice none 0 0] T_api_Bitmap fun r_40 h_41 =>
stV h_41 ((⟨r_40, 0, none⟩ : Addr).add 0) (.int .i64 r_37) fun h_42 =>
stV h_42 ((⟨r_40, 0, none⟩ : Addr).add 1) (.int .i64 r_38) fun h_43 =>
stV h_43 ((⟨r_40, 0, none⟩ : Addr).add 2) (.slice r_39 r_39n r_39c) fun h_44 =>
ldI h_44 ((⟨r_40, 0, none⟩ : Addr).add 0) .i64 fun x_45 =>
ldI h_44 ((⟨r_40, 0, none⟩ : Addr).add 1) .i64 fun x_46 =>
ldS h_44 ((⟨r_40, 0, none⟩ : Addr).add 2) fun x_47 x_47n x_47c =>
ldI h_44 (((⟨r_6, 0, none⟩ : Addr).add 0).add 0) .i64 fun x_48 =>
ldI h_44 (((⟨r_6, 0, none⟩ : Addr).add 0).add 1) .i64 fun x_49 =>
ldS h_44 (((⟨r_6, 0, none⟩ : Addr).add 0).add 2) fun x_50 x_50n x_50c =>
C F_burinref0_Lay #[.agg #[.int .i64 x_45, .int .i64 x_46, .slice x_47 x_47n x_47c], .int .i64 0, .int .i64 0, .int .i64 4, .agg #[.int .i64 x_48, .int .i64 x_49, .slice x_50 x_50n x_50c]] h_44 (fun v_51 h_52 =>
ldI h_52 (((⟨r_6, 0, none⟩ : Addr).add 0).add 0) .i64 fun x_53 =>
C F_burinref0_White #[.int .i64 x_53, .int .i64 50] h_52 (fun v_54 h_55 =>
∃ (r_56 : Int) (r_57 : Int) (r_58 : Option Addr) (r_58n : Nat) (r_58c : Nat), v_54 = .agg #[.int .i64 r_56, .int .i64 r_57, .slice r_58 r_58n r_58c] ∧ (
newC h_55 [.int .i64 0, .int .i64 0, .slice none 0 0] T_api_Bitmap fun r_59 h_60 =>
stV h_60 ((⟨r_59, 0, none⟩ : Addr).add 0) (.int .i64 r_56) fun h_61 =>
stV h_61 ((⟨r_59, 0, none⟩ : Addr).add 1) (.int .i64 r_57) fun h_62 =>
stV h_62 ((⟨r_59, 0, none⟩ : Addr).add 2) (.slice r_58 r_58n r_58c) fun h_63 =>
∃ J_64 : Nat → List Value → Heap → Prop, (∃ n_66, J_64 n_66 [.int .i64 0] h_63) ∧ ∀ (n_66 : Nat) (h_67 : Heap) (u_68 : Nat → Value) (x_69 : Int), J_64 n_66 [.int .i64 x_69] h_67 → (
bcase (decide (x_69 < (50 : Int))) (
ldI h_67 ((⟨r_59, 0, none⟩ : Addr).add 0) .i64 fun x_70 =>
ldI h_67 ((⟨r_59, 0, none⟩ : Addr).add 1) .i64 fun x_71 =>
ldS h_67 ((⟨r_59, 0, none⟩ : Addr).add 2) fun x_72 x_72n x_72c =>
ldI h_67 ((⟨r_40, 0, none⟩ : Addr).add 0) .i64 fun x_73 =>
ldI h_67 ((⟨r_40, 0, none⟩ : Addr).add 1) .i64 fun x_74 =>
ldS h_67 ((⟨r_40, 0, none⟩ : Addr).add 2) fun x_75 x_75n x_75c =>
C F_burinref0_Lay #[.agg #[.int .i64 x_70, .int .i64 x_71, .slice x_72 x_72n x_72c], .int .i64 0, .int .i64 x_69, .int .i64 4, .agg #[.int .i64 x_73, .int .i64 x_74, .slice x_75 x_75n x_75c]] h_67 (fun v_76 h_77 =>
bindI (IntKind.i64.wrap (x_69 + (1 : Int))) fun z_78 =>
∃ m_65, m_65 < n_66 ∧ J_64 m_65 [.int .i64 z_78] h_77) (Kp)) <|
ldI h_67 ((⟨r_40, 0, none⟩ : Addr).add 0) .i64 fun x_79 =>
ldI h_67 ((⟨r_40, 0, none⟩ : Addr).add 1) .i64 fun x_80 =>
ldS h_67 ((⟨r_40, 0, none⟩ : Addr).add 2) fun x_81 x_81n x_81c =>
C F_generic_Encode #[.agg #[.int .i64 x_79, .int .i64 x_80, .slice x_81 x_81n x_81c], .int .i64 z_33, .bool true] h_67 (fun v_82 h_83 =>
∃ (r_84 : Option Addr) (r_84n : Nat) (r_84c : Nat), ∃ (r_85 : Int), v_82 = .tuple #[.slice r_84 r_84n r_84c, .int .i64 r_85] ∧ (
ldI h_83 ((⟨r_59, 0, none⟩ : Addr).add 0) .i64 fun x_86 =>
ldI h_83 ((⟨r_59, 0, none⟩ : Addr).add 1) .i64 fun x_87 =>
ldS h_83 ((⟨r_59, 0, none⟩ : Addr).add 2) fun x_88 x_88n x_88c =>
C F_generic_Encode #[.agg #[.int .i64 x_86, .int .i64 x_87, .slice x_88 x_88n x_88c], .int .i64 z_33, .bool true] h_83 (fun v_89 h_90 =>
∃ (r_91 : Option Addr) (r_91n : Nat) (r_91c : Nat), ∃ (r_92 : Int), v_89 = .tuple #[.slice r_91 r_91n r_91c, .int .i64 r_92] ∧ (
ldI h_90 ((⟨r_59, 0, none⟩ : Addr).add 0) .i64 fun x_93 =>
C F_generic_Decode #[.slice r_91 r_91n r_91c, .int .i64 x_93, .int .i64 50, .int .i64 z_33, .bool true] h_90 (fun v_94 h_95 =>
∃ (r_96 : Int) (r_97 : Int) (r_98 : Option Addr) (r_98n : Nat) (r_98c : Nat), ∃ (r_99 : Int), v_94 = .tuple #[.agg #[.int .i64 r_96, .int .i64 r_97, .slice r_98 r_98n r_98c], .int .i64 r_99] ∧ (
newC h_95 [.int .i64 0, .int .i64 0, .slice none 0 0] T_api_Bitmap fun r_100 h_101 =>
stV h_101 ((⟨r_100, 0, none⟩ : Addr).add 0) (.int .i64 r_96) fun h_102 =>
stV h_102 ((⟨r_100, 0, none⟩ : Addr).add 1) (.int .i64 r_97) fun h_103 =>
stV h_103 ((⟨r_100, 0, none⟩ : Addr).add 2) (.slice r_98 r_98n r_98c) fun h_104 =>
bcase (r_85 == (0 : Int)) (
bcase (r_92 == (0 : Int)) (
bcase (r_99 == (0 : Int)) (
bindI (IntKind.i64.wrap ((r_84n : Int) + (8 : Int))) fun z_105 =>
bcase (decide ((r_91n : Int) ≤ z_105)) (
ldI h_104 ((⟨r_100, 0, none⟩ : Addr).add 0) .i64 fun x_106 =>
ldI h_104 ((⟨r_100, 0, none⟩ : Addr).add 1) .i64 fun x_107 =>
ldS h_104 ((⟨r_100, 0, none⟩ : Addr).add 2) fun x_108 x_108n x_108c =>
ldI h_104 ((⟨r_59, 0, none⟩ : Addr).add 0) .i64 fun x_109 =>
ldI h_104 ((⟨r_59, 0, none⟩ : Addr).add 1) .i64 fun x_110 =>
ldS h_104 ((⟨r_59, 0, none⟩ : Addr).add 2) fun x_111 x_111n x_111c =>
C F_burinref0_EqBitmap #[.agg #[.int .i64 x_106, .int .i64 x_107, .slice x_108 x_108n x_108c], .agg #[.int .i64 x_109, .int .i64 x_110, .slice x_111 x_111n x_111c]] h_104 (fun v_112 h_113 =>
∃ (r_114 : Bool), v_112 = .bool r_114 ∧ (
bcase r_114 (
C F_burinlaw7_wakes #[] h_113 (fun v_115 h_116 =>
∃ (r_117 : Bool), v_115 = .bool r_117 ∧ (
K (.bool r_117) h_116)) (Kp)) <|
K (.bool false) h_113)) (Kp)) <|
K (.bool false) h_104) <|
K (.bool false) h_104) <|
K (.bool false) h_104) <|
K (.bool false) h_104)) (Kp))) (Kp))) (Kp)))) (Kp)) (Kp))) (Kp))) (Kp))) (Kp)

end Go.Den.Yteakipgcanafoaa

/- Written by gen.py: each condition of the functions of law7GenericRepeats is the one of its body; so it is enough for its call. -/
set_option linter.unusedVariables false
set_option linter.unusedSimpArgs false
namespace Go.Den.Yteakipgcanafoaa
open Go Go.Den

noncomputable def hints_burinlaw7_GenericRepeats : Hints := Hints.mk (fun i => none)
  (fun i => bif Nat.beq i 8 then some ([(6, .int .i64)], 17944029765304384) else (none))
  (fun i => none) []
set_option maxRecDepth 100000 in
theorem eq_burinlaw7_GenericRepeats (C : CallP) (a0_1 : Int) (a0_2 : Int) (a0_3 : Option Addr) (a0_3n : Nat) (a0_3c : Nat) (a0_4 : Int) (a0_5 : Bool) (h : Heap) (K : Value → Heap → Prop) (Kp : List PanicEntry → Heap → Prop) :
    fnD Go.Proofs.Try.prog C hints_burinlaw7_GenericRepeats Go.Proofs.Try.f13 [.agg #[.int .i64 a0_1, .int .i64 a0_2, .slice a0_3 a0_3n a0_3c, .int .i64 a0_4, .bool a0_5]] h K Kp = burinlaw7_GenericRepeats C a0_1 a0_2 a0_3 a0_3n a0_3c a0_4 a0_5 h K Kp := by kernel_rfl

theorem call_burinlaw7_GenericRepeats {a0_1 : Int} {a0_2 : Int} {a0_3 : Option Addr} {a0_3n : Nat} {a0_3c : Nat} {a0_4 : Int} {a0_5 : Bool} {h : Heap} {K : Value → Heap → Prop} {Kp : List PanicEntry → Heap → Prop} (H : burinlaw7_GenericRepeats (CallsHP Go.Proofs.Try.prog) a0_1 a0_2 a0_3 a0_3n a0_3c a0_4 a0_5 h K Kp) : CallsHP Go.Proofs.Try.prog F_burinlaw7_GenericRepeats #[.agg #[.int .i64 a0_1, .int .i64 a0_2, .slice a0_3 a0_3n a0_3c, .int .i64 a0_4, .bool a0_5]] h K Kp :=
  callsHP_of hints_burinlaw7_GenericRepeats (by kernel_rfl) Go.Proofs.Try.func13 (by kernel_rfl) (by rw [eq_burinlaw7_GenericRepeats]; exact H)

end Go.Den.Yteakipgcanafoaa

/- GnT: the law GenericRepeats, said of memory. -/
set_option linter.unusedVariables false
set_option linter.unusedSimpArgs false
namespace Go.Bm
open Go Go.Den Go.Den.Yteakipgcanafoaa
open Go.Ar (u8s)

theorem small1_ok {hB : Heap} {a : Addr} {q : Option Addr} {n c : Nat} (hn : n < 140737488351300) (hc : hcell hB (a.add 2) = some (.slice q n c)) {K : Value → Heap → Prop} {Kp : List PanicEntry → Heap → Prop}
    (hk : ∀ bb : Bool, (bb = true → n ≤ 5999) → K (.bool bb) hB) : CP F_burinkit_Small #[.slice (some a) 1 1, .int .i64 384000] hB K Kp := by
  refine call_burinkit_Small ?_
  unfold burinkit_Small
  refine ⟨fun k vs h' => h' = hB ∧ (k = 1 ∧ vs = [.int .i64 ((0 : Nat) : Int), .int .i64 ((0 : Nat) : Int)] ∨ k = 0 ∧ n ≤ 5999 ∧ vs = [.int .i64 ((64 * n + 64 : Nat) : Int), .int .i64 ((1 : Nat) : Int)]), ⟨1, rfl, .inl ⟨rfl, rfl⟩⟩, ?_⟩
  rintro k h u x y ⟨rfl, hh⟩
  rcases hh with ⟨rfl, hxx⟩ | ⟨rfl, hn9, hxx⟩
  · injection hxx with hx1 hxx
    injection hxx with hx2 hxx
    injection hx1 with _ hx1
    injection hx2 with _ hx2
    subst hx1 hx2
    refine bcase_dec (fun _ => ?_) fun h1 => absurd (by decide) h1
    refine needs_of (by decide) (ptr_of (a := a) ?_)
    rw [Int.toNat_natCast, Nat.zero_mul, add_00]
    refine ldS_of hc ?_
    refine bindI_of (((64 * n : Nat) : Int)) (by exact i64_at _ _ (by omega) (by omega) (by omega)) ?_
    refine bindI_of (((64 * n : Nat) : Int)) (by exact i64_at _ _ (by omega) (by omega) (by omega)) ?_
    refine bindI_of (((64 * n + 64 : Nat) : Int)) (by exact i64_at _ _ (by omega) (by omega) (by omega)) ?_
    refine bcase_dec (fun h2 => hk false fun h => by cases h) fun h2 => ?_
    refine bindI_of (((1 : Nat) : Int)) (by exact i64_at _ _ (by omega) (by omega) (by omega)) ?_
    exact ⟨0, by omega, rfl, .inr ⟨rfl, by omega, rfl⟩⟩
  · injection hxx with hx1 hxx
    injection hxx with hx2 hxx
    injection hx2 with _ hx2
    subst hx2
    refine bcase_dec (fun h1 => absurd h1 (by decide)) fun _ => ?_
    exact hk true fun _ => hn9

set_option maxRecDepth 100000 in
set_option maxHeartbeats 4000000 in
theorem gRepeats_law {hB : Heap} {w b tt : Int} {sk : Bool} {q1 : Option Addr} {c1 : Nat} {ws : List Nat} (hr1 : rdO hB q1 (ws.length * 1) (u64s ws)) (hw1 : W64 ws) (hl1 : ws.length < 140737488351300)
    {K : Value → Heap → Prop} {Kp : List PanicEntry → Heap → Prop} (hk : ∀ h', hext hB h' → K (.bool true) h') :
    CP F_burinlaw7_GenericRepeats #[.agg #[.int .i64 w, .int .i64 b, .slice q1 ws.length c1, .int .i64 tt, .bool sk]] hB K Kp := by
  refine call_burinlaw7_GenericRepeats ?_
  unfold burinlaw7_GenericRepeats
  have H := Hp.nil hB []
  refine newC_hp H fun r6 h H => ?_
  repeat first | with_reducible refine ldI_of (by with_unfolding_all first | exact hpA H 0 rfl rfl | exact Hp.cell H 0 rfl rfl | exact hpB H 0 rfl rfl | exact hpC H 0 rfl rfl) ?_ | with_reducible refine ldS_of (by with_unfolding_all first | exact hpA H 0 rfl rfl | exact Hp.cell H 0 rfl rfl | exact hpB H 0 rfl rfl | exact hpC H 0 rfl rfl) ?_ | with_reducible refine ldP_of (by with_unfolding_all first | exact hpA H 0 rfl rfl | exact Hp.cell H 0 rfl rfl | exact hpB H 0 rfl rfl | exact hpC H 0 rfl rfl) ?_ | with_reducible refine ldB_of (by with_unfolding_all first | exact hpA H 0 rfl rfl | exact Hp.cell H 0 rfl rfl | exact hpB H 0 rfl rfl | exact hpC H 0 rfl rfl) ?_ | with_reducible refine ldT_of (by with_unfolding_all first | exact hpA H 0 rfl rfl | exact Hp.cell H 0 rfl rfl | exact hpB H 0 rfl rfl | exact hpC H 0 rfl rfl) ?_
  refine may_ok (H.rdO hr1) hw1 hl1 fun bm0 h1 hbm0 e1 => ?_
  have H := H.ext e1
  clear e1
  refine ⟨_, rfl, ?_⟩
  refine bcase_not (fun h2 => wakes7_ok fun h' e => ⟨_, rfl, hk _ (H.hext.trans e)⟩) fun hc0 => ?_
  have hm := hbm0.1 hc0
  obtain ⟨W, X, rfl, rfl, hW1, hW2, hX1, hX2, hWX⟩ := size_nat hm.1
  repeat first | with_reducible refine ldI_of (by with_unfolding_all first | exact hpA H 0 rfl rfl | exact Hp.cell H 0 rfl rfl | exact hpB H 0 rfl rfl | exact hpC H 0 rfl rfl) ?_ | with_reducible refine ldS_of (by with_unfolding_all first | exact hpA H 0 rfl rfl | exact Hp.cell H 0 rfl rfl | exact hpB H 0 rfl rfl | exact hpC H 0 rfl rfl) ?_ | with_reducible refine ldP_of (by with_unfolding_all first | exact hpA H 0 rfl rfl | exact Hp.cell H 0 rfl rfl | exact hpB H 0 rfl rfl | exact hpC H 0 rfl rfl) ?_ | with_reducible refine ldB_of (by with_unfolding_all first | exact hpA H 0 rfl rfl | exact Hp.cell H 0 rfl rfl | exact hpB H 0 rfl rfl | exact hpC H 0 rfl rfl) ?_ | with_reducible refine ldT_of (by with_unfolding_all first | exact hpA H 0 rfl rfl | exact Hp.cell H 0 rfl rfl | exact hpB H 0 rfl rfl | exact hpC H 0 rfl rfl) ?_
  refine bcase_dec (fun h2 => wakes7_ok fun h' e => ⟨_, rfl, hk _ (H.hext.trans e)⟩) fun hWk => ?_
  repeat first | with_reducible refine ldI_of (by with_unfolding_all first | exact hpA H 0 rfl rfl | exact Hp.cell H 0 rfl rfl | exact hpB H 0 rfl rfl | exact hpC H 0 rfl rfl) ?_ | with_reducible refine ldS_of (by with_unfolding_all first | exact hpA H 0 rfl rfl | exact Hp.cell H 0 rfl rfl | exact hpB H 0 rfl rfl | exact hpC H 0 rfl rfl) ?_ | with_reducible refine ldP_of (by with_unfolding_all first | exact hpA H 0 rfl rfl | exact Hp.cell H 0 rfl rfl | exact hpB H 0 rfl rfl | exact hpC H 0 rfl rfl) ?_ | with_reducible refine ldB_of (by with_unfolding_all first | exact hpA H 0 rfl rfl | exact Hp.cell H 0 rfl rfl | exact hpB H 0 rfl rfl | exact hpC H 0 rfl rfl) ?_ | with_reducible refine ldT_of (by with_unfolding_all first | exact hpA H 0 rfl rfl | exact Hp.cell H 0 rfl rfl | exact hpB H 0 rfl rfl | exact hpC H 0 rfl rfl) ?_
  refine newC_hp H fun r24 h H => ?_
  have H := H.rot
  refine small1_ok (a := ⟨r24, 0, none⟩) hl1 (H.cell 0 rfl rfl) fun bb hbb => ?_
  refine ⟨_, rfl, ?_⟩
  refine bcase_not (fun h2 => wakes7_ok fun h' e => ⟨_, rfl, hk _ (H.hext.trans e)⟩) fun hc2 => ?_
  repeat first | with_reducible refine ldI_of (by with_unfolding_all first | exact hpA H 0 rfl rfl | exact hpA H 1 rfl rfl | exact Hp.cell H 0 rfl rfl | exact Hp.cell H 1 rfl rfl | exact hpB H 0 rfl rfl | exact hpB H 1 rfl rfl | exact hpC H 0 rfl rfl | exact hpC H 1 rfl rfl) ?_ | with_reducible refine ldS_of (by with_unfolding_all first | exact hpA H 0 rfl rfl | exact hpA H 1 rfl rfl | exact Hp.cell H 0 rfl rfl | exact Hp.cell H 1 rfl rfl | exact hpB H 0 rfl rfl | exact hpB H 1 rfl rfl | exact hpC H 0 rfl rfl | exact hpC H 1 rfl rfl) ?_ | with_reducible refine ldP_of (by with_unfolding_all first | exact hpA H 0 rfl rfl | exact hpA H 1 rfl rfl | exact Hp.cell H 0 rfl rfl | exact Hp.cell H 1 rfl rfl | exact hpB H 0 rfl rfl | exact hpB H 1 rfl rfl | exact hpC H 0 rfl rfl | exact hpC H 1 rfl rfl) ?_ | with_reducible refine ldB_of (by with_unfolding_all first | exact hpA H 0 rfl rfl | exact hpA H 1 rfl rfl | exact Hp.cell H 0 rfl rfl | exact Hp.cell H 1 rfl rfl | exact hpB H 0 rfl rfl | exact hpB H 1 rfl rfl | exact hpC H 0 rfl rfl | exact hpC H 1 rfl rfl) ?_ | with_reducible refine ldT_of (by with_unfolding_all first | exact hpA H 0 rfl rfl | exact hpA H 1 rfl rfl | exact Hp.cell H 0 rfl rfl | exact Hp.cell H 1 rfl rfl | exact hpB H 0 rfl rfl | exact hpB H 1 rfl rfl | exact hpC H 0 rfl rfl | exact hpC H 1 rfl rfl) ?_
  obtain ⟨t, ht, hz⟩ := and63_3 tt
  refine bindI_of (((t : Nat) : Int)) (by exact hz) ?_
  repeat first | with_reducible refine ldI_of (by with_unfolding_all first | exact hpA H 0 rfl rfl | exact hpA H 1 rfl rfl | exact Hp.cell H 0 rfl rfl | exact Hp.cell H 1 rfl rfl | exact hpB H 0 rfl rfl | exact hpB H 1 rfl rfl | exact hpC H 0 rfl rfl | exact hpC H 1 rfl rfl) ?_ | with_reducible refine ldS_of (by with_unfolding_all first | exact hpA H 0 rfl rfl | exact hpA H 1 rfl rfl | exact Hp.cell H 0 rfl rfl | exact Hp.cell H 1 rfl rfl | exact hpB H 0 rfl rfl | exact hpB H 1 rfl rfl | exact hpC H 0 rfl rfl | exact hpC H 1 rfl rfl) ?_ | with_reducible refine ldP_of (by with_unfolding_all first | exact hpA H 0 rfl rfl | exact hpA H 1 rfl rfl | exact Hp.cell H 0 rfl rfl | exact Hp.cell H 1 rfl rfl | exact hpB H 0 rfl rfl | exact hpB H 1 rfl rfl | exact hpC H 0 rfl rfl | exact hpC H 1 rfl rfl) ?_ | with_reducible refine ldB_of (by with_unfolding_all first | exact hpA H 0 rfl rfl | exact hpA H 1 rfl rfl | exact Hp.cell H 0 rfl rfl | exact Hp.cell H 1 rfl rfl | exact hpB H 0 rfl rfl | exact hpB H 1 rfl rfl | exact hpC H 0 rfl rfl | exact hpC H 1 rfl rfl) ?_ | with_reducible refine ldT_of (by with_unfolding_all first | exact hpA H 0 rfl rfl | exact hpA H 1 rfl rfl | exact Hp.cell H 0 rfl rfl | exact Hp.cell H 1 rfl rfl | exact hpB H 0 rfl rfl | exact hpB H 1 rfl rfl | exact hpC H 0 rfl rfl | exact hpC H 1 rfl rfl) ?_
  have hs1 : SizeP (W : Int) ((1 : Nat) : Int) := by unfold SizeP; omega
  have hs50 : SizeP (W : Int) ((50 : Nat) : Int) := by unfold SizeP; omega
  refine white_ok' (X := 1) hs1 fun Z q h' hZl hZw hZp H' => ?_
  replace H := (H.join H' rfl).rot
  clear H'
  refine ⟨_, _, _, _, _, rfl, ?_⟩
  refine newC_hp H fun r40 h H => ?_
  have H := H.rot
  repeat first | with_reducible refine stA H 0 (by with_unfolding_all exact rfl) (by with_unfolding_all exact rfl) (by with_unfolding_all exact rfl) fun h H => ?_ | with_reducible refine st0 H 0 (by with_unfolding_all exact rfl) (by with_unfolding_all exact rfl) (by with_unfolding_all exact rfl) fun h H => ?_ | with_reducible refine stB H 0 (by with_unfolding_all exact rfl) (by with_unfolding_all exact rfl) (by with_unfolding_all exact rfl) fun h H => ?_
  have H : Hp hB [] h [⟨r40, true, T_api_Bitmap, [.int .i64 (W : Nat), .int .i64 1, .slice (at0 q) Z.length Z.length]⟩, ⟨q, true, T_uint64, u64s Z ++ []⟩, ⟨r24, true, T_api_Bitmap, [.int .i64 (W : Nat), .int .i64 (X : Nat), .slice q1 ws.length c1]⟩, ⟨r6, true, T_burinlaw7_Ask, [.int .i64 (W : Nat), .int .i64 (X : Nat), .slice q1 ws.length c1, .int .i64 tt, .bool sk]⟩] := H
  repeat first | with_reducible refine ldI_of (by with_unfolding_all first | exact hpA H 0 rfl rfl | exact hpA H 1 rfl rfl | exact hpA H 2 rfl rfl | exact hpA H 3 rfl rfl | exact Hp.cell H 0 rfl rfl | exact Hp.cell H 1 rfl rfl | exact Hp.cell H 2 rfl rfl | exact Hp.cell H 3 rfl rfl | exact hpB H 0 rfl rfl | exact hpB H 1 rfl rfl | exact hpB H 2 rfl rfl | exact hpB H 3 rfl rfl | exact hpC H 0 rfl rfl | exact hpC H 1 rfl rfl | exact hpC H 2 rfl rfl | exact hpC H 3 rfl rfl) ?_ | with_reducible refine ldS_of (by with_unfolding_all first | exact hpA H 0 rfl rfl | exact hpA H 1 rfl rfl | exact hpA H 2 rfl rfl | exact hpA H 3 rfl rfl | exact Hp.cell H 0 rfl rfl | exact Hp.cell H 1 rfl rfl | exact Hp.cell H 2 rfl rfl | exact Hp.cell H 3 rfl rfl | exact hpB H 0 rfl rfl | exact hpB H 1 rfl rfl | exact hpB H 2 rfl rfl | exact hpB H 3 rfl rfl | exact hpC H 0 rfl rfl | exact hpC H 1 rfl rfl | exact hpC H 2 rfl rfl | exact hpC H 3 rfl rfl) ?_ | with_reducible refine ldP_of (by with_unfolding_all first | exact hpA H 0 rfl rfl | exact hpA H 1 rfl rfl | exact hpA H 2 rfl rfl | exact hpA H 3 rfl rfl | exact Hp.cell H 0 rfl rfl | exact Hp.cell H 1 rfl rfl | exact Hp.cell H 2 rfl rfl | exact Hp.cell H 3 rfl rfl | exact hpB H 0 rfl rfl | exact hpB H 1 rfl rfl | exact hpB H 2 rfl rfl | exact hpB H 3 rfl rfl | exact hpC H 0 rfl rfl | exact hpC H 1 rfl rfl | exact hpC H 2 rfl rfl | exact hpC H 3 rfl rfl) ?_ | with_reducible refine ldB_of (by with_unfolding_all first | exact hpA H 0 rfl rfl | exact hpA H 1 rfl rfl | exact hpA H 2 rfl rfl | exact hpA H 3 rfl rfl | exact Hp.cell H 0 rfl rfl | exact Hp.cell H 1 rfl rfl | exact Hp.cell H 2 rfl rfl | exact Hp.cell H 3 rfl rfl | exact hpB H 0 rfl rfl | exact hpB H 1 rfl rfl | exact hpB H 2 rfl rfl | exact hpB H 3 rfl rfl | exact hpC H 0 rfl rfl | exact hpC H 1 rfl rfl | exact hpC H 2 rfl rfl | exact hpC H 3 rfl rfl) ?_ | with_reducible refine ldT_of (by with_unfolding_all first | exact hpA H 0 rfl rfl | exact hpA H 1 rfl rfl | exact hpA H 2 rfl rfl | exact hpA H 3 rfl rfl | exact Hp.cell H 0 rfl rfl | exact Hp.cell H 1 rfl rfl | exact Hp.cell H 2 rfl rfl | exact Hp.cell H 3 rfl rfl | exact hpB H 0 rfl rfl | exact hpB H 1 rfl rfl | exact hpB H 2 rfl rfl | exact hpB H 3 rfl rfl | exact hpC H 0 rfl rfl | exact hpC H 1 rfl rfl | exact hpC H 2 rfl rfl | exact hpC H 3 rfl rfl) ?_
  refine part_ok (n := 1) (ws := Z) (rest := []) (X := X) (j := 0) (op := 4) (ws2 := ws) H 1 rfl hs1 hZl hZw hZp (fun h' R H' => H'.rdO hr1) hm hw1 (by omega) (.inr rfl) fun R1 h' k1 k2 k3 k4 H => ?_
  rw [hZl, ← k1] at H
  have H : Hp hB [] h' [⟨r40, true, T_api_Bitmap, [.int .i64 (W : Nat), .int .i64 1, .slice (at0 q) R1.length R1.length]⟩, ⟨q, true, T_uint64, u64s R1 ++ []⟩, ⟨r24, true, T_api_Bitmap, [.int .i64 (W : Nat), .int .i64 (X : Nat), .slice q1 ws.length c1]⟩, ⟨r6, true, T_burinlaw7_Ask, [.int .i64 (W : Nat), .int .i64 (X : Nat), .slice q1 ws.length c1, .int .i64 tt, .bool sk]⟩] := H
  repeat first | with_reducible refine ldI_of (by with_unfolding_all first | exact hpA H 0 rfl rfl | exact hpA H 1 rfl rfl | exact hpA H 2 rfl rfl | exact hpA H 3 rfl rfl | exact Hp.cell H 0 rfl rfl | exact Hp.cell H 1 rfl rfl | exact Hp.cell H 2 rfl rfl | exact Hp.cell H 3 rfl rfl | exact hpB H 0 rfl rfl | exact hpB H 1 rfl rfl | exact hpB H 2 rfl rfl | exact hpB H 3 rfl rfl | exact hpC H 0 rfl rfl | exact hpC H 1 rfl rfl | exact hpC H 2 rfl rfl | exact hpC H 3 rfl rfl) ?_ | with_reducible refine ldS_of (by with_unfolding_all first | exact hpA H 0 rfl rfl | exact hpA H 1 rfl rfl | exact hpA H 2 rfl rfl | exact hpA H 3 rfl rfl | exact Hp.cell H 0 rfl rfl | exact Hp.cell H 1 rfl rfl | exact Hp.cell H 2 rfl rfl | exact Hp.cell H 3 rfl rfl | exact hpB H 0 rfl rfl | exact hpB H 1 rfl rfl | exact hpB H 2 rfl rfl | exact hpB H 3 rfl rfl | exact hpC H 0 rfl rfl | exact hpC H 1 rfl rfl | exact hpC H 2 rfl rfl | exact hpC H 3 rfl rfl) ?_ | with_reducible refine ldP_of (by with_unfolding_all first | exact hpA H 0 rfl rfl | exact hpA H 1 rfl rfl | exact hpA H 2 rfl rfl | exact hpA H 3 rfl rfl | exact Hp.cell H 0 rfl rfl | exact Hp.cell H 1 rfl rfl | exact Hp.cell H 2 rfl rfl | exact Hp.cell H 3 rfl rfl | exact hpB H 0 rfl rfl | exact hpB H 1 rfl rfl | exact hpB H 2 rfl rfl | exact hpB H 3 rfl rfl | exact hpC H 0 rfl rfl | exact hpC H 1 rfl rfl | exact hpC H 2 rfl rfl | exact hpC H 3 rfl rfl) ?_ | with_reducible refine ldB_of (by with_unfolding_all first | exact hpA H 0 rfl rfl | exact hpA H 1 rfl rfl | exact hpA H 2 rfl rfl | exact hpA H 3 rfl rfl | exact Hp.cell H 0 rfl rfl | exact Hp.cell H 1 rfl rfl | exact Hp.cell H 2 rfl rfl | exact Hp.cell H 3 rfl rfl | exact hpB H 0 rfl rfl | exact hpB H 1 rfl rfl | exact hpB H 2 rfl rfl | exact hpB H 3 rfl rfl | exact hpC H 0 rfl rfl | exact hpC H 1 rfl rfl | exact hpC H 2 rfl rfl | exact hpC H 3 rfl rfl) ?_ | with_reducible refine ldT_of (by with_unfolding_all first | exact hpA H 0 rfl rfl | exact hpA H 1 rfl rfl | exact hpA H 2 rfl rfl | exact hpA H 3 rfl rfl | exact Hp.cell H 0 rfl rfl | exact Hp.cell H 1 rfl rfl | exact Hp.cell H 2 rfl rfl | exact Hp.cell H 3 rfl rfl | exact hpB H 0 rfl rfl | exact hpB H 1 rfl rfl | exact hpB H 2 rfl rfl | exact hpB H 3 rfl rfl | exact hpC H 0 rfl rfl | exact hpC H 1 rfl rfl | exact hpC H 2 rfl rfl | exact hpC H 3 rfl rfl) ?_
  refine white_ok' (X := 50) hs50 fun Y qB h' hYl hYw hYp H' => ?_
  replace H := (H.join H' rfl).rot
  clear H'
  refine ⟨_, _, _, _, _, rfl, ?_⟩
  refine newC_hp H fun r59 h H => ?_
  have H := H.rot
  repeat first | with_reducible refine stA H 0 (by with_unfolding_all exact rfl) (by with_unfolding_all exact rfl) (by with_unfolding_all exact rfl) fun h H => ?_ | with_reducible refine st0 H 0 (by with_unfolding_all exact rfl) (by with_unfolding_all exact rfl) (by with_unfolding_all exact rfl) fun h H => ?_ | with_reducible refine stB H 0 (by with_unfolding_all exact rfl) (by with_unfolding_all exact rfl) (by with_unfolding_all exact rfl) fun h H => ?_
  obtain ⟨N, hN⟩ : ∃ N, N = Y.length := ⟨_, rfl⟩
  rw [← hN] at H
  have H : Hp hB [] h [⟨r59, true, T_api_Bitmap, [.int .i64 (W : Nat), .int .i64 50, .slice (at0 qB) N N]⟩, ⟨qB, true, T_uint64, u64s Y ++ []⟩, ⟨r40, true, T_api_Bitmap, [.int .i64 (W : Nat), .int .i64 1, .slice (at0 q) R1.length R1.length]⟩, ⟨q, true, T_uint64, u64s R1 ++ []⟩, ⟨r24, true, T_api_Bitmap, [.int .i64 (W : Nat), .int .i64 (X : Nat), .slice q1 ws.length c1]⟩, ⟨r6, true, T_burinlaw7_Ask, [.int .i64 (W : Nat), .int .i64 (X : Nat), .slice q1 ws.length c1, .int .i64 tt, .bool sk]⟩] := H
  refine ⟨fun n vs h' => ∃ (i : Nat) (R : List Nat), i + n = 50 ∧ vs = [.int .i64 (i : Nat)] ∧ R.length = N ∧ W64 R ∧ (∀ y, y < 50 → ∀ x, x < 64 * wds W → pix R (wds W) x y = if y < i then pix R1 (wds W) x 0 else false) ∧
    Hp hB [] h' [⟨r59, true, T_api_Bitmap, [.int .i64 (W : Nat), .int .i64 50, .slice (at0 qB) N N]⟩, ⟨qB, true, T_uint64, u64s R ++ []⟩, ⟨r40, true, T_api_Bitmap, [.int .i64 (W : Nat), .int .i64 1, .slice (at0 q) R1.length R1.length]⟩, ⟨q, true, T_uint64, u64s R1 ++ []⟩, ⟨r24, true, T_api_Bitmap, [.int .i64 (W : Nat), .int .i64 (X : Nat), .slice q1 ws.length c1]⟩, ⟨r6, true, T_burinlaw7_Ask, [.int .i64 (W : Nat), .int .i64 (X : Nat), .slice q1 ws.length c1, .int .i64 tt, .bool sk]⟩],
    ⟨50, 0, Y, rfl, rfl, hN.symm, hYw, fun y _ x _ => by rw [hYp, if_neg (Nat.not_lt_zero _)], H⟩, ?_⟩
  clear H
  rintro n h u xx ⟨i, R, hin, hxx, hRl, hRw, hRp, H⟩
  injection hxx with hxx
  injection hxx with _ hxx
  subst hxx
  have hN50 : N = 50 * wds W := hN.trans hYl
  refine bcase_dec (fun hi => ?_) fun hi => ?_
  · have hi : i < 50 := by omega
    repeat first | with_reducible refine ldI_of (by with_unfolding_all first | exact hpA H 0 rfl rfl | exact hpA H 1 rfl rfl | exact hpA H 2 rfl rfl | exact Hp.cell H 0 rfl rfl | exact Hp.cell H 1 rfl rfl | exact Hp.cell H 2 rfl rfl | exact hpB H 0 rfl rfl | exact hpB H 1 rfl rfl | exact hpB H 2 rfl rfl | exact hpC H 0 rfl rfl | exact hpC H 1 rfl rfl | exact hpC H 2 rfl rfl) ?_ | with_reducible refine ldS_of (by with_unfolding_all first | exact hpA H 0 rfl rfl | exact hpA H 1 rfl rfl | exact hpA H 2 rfl rfl | exact Hp.cell H 0 rfl rfl | exact Hp.cell H 1 rfl rfl | exact Hp.cell H 2 rfl rfl | exact hpB H 0 rfl rfl | exact hpB H 1 rfl rfl | exact hpB H 2 rfl rfl | exact hpC H 0 rfl rfl | exact hpC H 1 rfl rfl | exact hpC H 2 rfl rfl) ?_ | with_reducible refine ldP_of (by with_unfolding_all first | exact hpA H 0 rfl rfl | exact hpA H 1 rfl rfl | exact hpA H 2 rfl rfl | exact Hp.cell H 0 rfl rfl | exact Hp.cell H 1 rfl rfl | exact Hp.cell H 2 rfl rfl | exact hpB H 0 rfl rfl | exact hpB H 1 rfl rfl | exact hpB H 2 rfl rfl | exact hpC H 0 rfl rfl | exact hpC H 1 rfl rfl | exact hpC H 2 rfl rfl) ?_ | with_reducible refine ldB_of (by with_unfolding_all first | exact hpA H 0 rfl rfl | exact hpA H 1 rfl rfl | exact hpA H 2 rfl rfl | exact Hp.cell H 0 rfl rfl | exact Hp.cell H 1 rfl rfl | exact Hp.cell H 2 rfl rfl | exact hpB H 0 rfl rfl | exact hpB H 1 rfl rfl | exact hpB H 2 rfl rfl | exact hpC H 0 rfl rfl | exact hpC H 1 rfl rfl | exact hpC H 2 rfl rfl) ?_ | with_reducible refine ldT_of (by with_unfolding_all first | exact hpA H 0 rfl rfl | exact hpA H 1 rfl rfl | exact hpA H 2 rfl rfl | exact Hp.cell H 0 rfl rfl | exact Hp.cell H 1 rfl rfl | exact Hp.cell H 2 rfl rfl | exact hpB H 0 rfl rfl | exact hpB H 1 rfl rfl | exact hpB H 2 rfl rfl | exact hpC H 0 rfl rfl | exact hpC H 1 rfl rfl | exact hpC H 2 rfl rfl) ?_
    have layR : ∀ (K1 : Value → Heap → Prop) (Kp1 : List PanicEntry → Heap → Prop), (∀ R' h', R'.length = 50 * wds W → W64 R' → (∀ Y, Y < 50 → ∀ x', x' < 64 * wds W → pix R' (wds W) x' Y =
        if (0 : Int) ≤ x' ∧ (x' : Int) < 0 + W ∧ x' < W ∧ (i : Int) ≤ Y ∧ (Y : Int) < i + ((1 : Nat) : Int) then opB 4 (pix R (wds W) x' Y) (pix R1 (wds W) ((x' : Int) - 0).toNat ((Y : Int) - i).toNat) else pix R (wds W) x' Y) →
        Hp hB [] h' [⟨r59, true, T_api_Bitmap, [.int .i64 (W : Nat), .int .i64 50, .slice (at0 qB) N N]⟩, ⟨qB, true, T_uint64, u64s R' ++ []⟩, ⟨r40, true, T_api_Bitmap, [.int .i64 (W : Nat), .int .i64 1, .slice (at0 q) R1.length R1.length]⟩, ⟨q, true, T_uint64, u64s R1 ++ []⟩, ⟨r24, true, T_api_Bitmap, [.int .i64 (W : Nat), .int .i64 (X : Nat), .slice q1 ws.length c1]⟩, ⟨r6, true, T_burinlaw7_Ask, [.int .i64 (W : Nat), .int .i64 (X : Nat), .slice q1 ws.length c1, .int .i64 tt, .bool sk]⟩] → K1 (.tuple #[]) h') →
        CP F_burinref0_Lay #[.agg #[.int .i64 (W : Nat), .int .i64 50, .slice (at0 qB) N N], .int .i64 0, .int .i64 (i : Nat), .int .i64 4, .agg #[.int .i64 (W : Nat), .int .i64 1, .slice (at0 q) R1.length R1.length]] h K1 Kp1 := fun K1 Kp1 hk1 => by
      have h5 := lay_ok (Kp := Kp1) (W := W) (X := 50) (W2 := W) (X2 := 1) (c := N) (c2 := R1.length) (ws := R) (rest := []) (q2 := at0 q) (ws2 := R1) (x := 0) (y := (i : Int)) (op := 4) H 1 rfl hs50 (hRl.trans hN50) hRw (fun h' R' H' => row_rdO H' 3 rfl) hs1 k1 k2 ⟨by omega, by omega⟩ ⟨by omega, by omega⟩ (by decide) hk1
      rw [hRl] at h5
      exact h5
    refine layR _ _ fun R' h' j1 j2 j3 H => ?_
    refine bindI_of (((i + 1 : Nat) : Int)) (by exact i64_at _ _ (by omega) (by omega) (by omega)) ?_
    refine ⟨n - 1, by omega, i + 1, R', by omega, rfl, j1.trans hN50.symm, j2, fun y hy x hx => ?_, H⟩
    rw [j3 y hy x hx]
    by_cases hx2 : x < W
    · by_cases hy2 : y = i
      · subst hy2
        rw [if_pos (by omega), if_pos (by omega), show ((x : Int) - 0).toNat = x by omega, show ((y : Int) - (y : Int)).toNat = 0 by omega]
        rfl
      · rw [if_neg (by omega), hRp y hy x hx]
        by_cases hy3 : y < i
        · rw [if_pos hy3, if_pos (by omega)]
        · rw [if_neg hy3, if_neg (by omega)]
    · rw [if_neg (by omega), hRp y hy x hx, pix_of_may k3 (by omega) (by omega) hx]
      simp
  · have hi : i = 50 := by omega
    subst hi
    have hRz : ∀ y, y < 50 → ∀ x, W ≤ x → x < 64 * wds W → pix R (wds W) x y = false := fun y hy x h1 h2 => by
      rw [hRp y hy x h2, if_pos hy]
      exact pix_of_may k3 (by omega) h1 h2
    have hmB : MayP (W : Int) ((50 : Nat) : Int) R := may_of_pix hs50 (hRl.trans hN50) hRw hRz
    have hG : ∀ x y : Int, 0 ≤ y → y < 50 → getP R W 50 x y = getP R1 W 1 x 0 := fun x y h1 h2 => by
      unfold getP
      by_cases hx : 0 ≤ x ∧ x < W
      · rw [decide_eq_true (show 0 ≤ x ∧ 0 ≤ y ∧ x < (W : Int) ∧ y < ((50 : Nat) : Int) by omega), decide_eq_true (show 0 ≤ x ∧ (0 : Int) ≤ 0 ∧ x < (W : Int) ∧ (0 : Int) < ((1 : Nat) : Int) by omega)]
        have hx64 : x.toNat < 64 * wds W := by unfold wds; omega
        rw [hRp y.toNat (by omega) x.toNat hx64, if_pos (by omega)]
        rfl
      · rw [decide_eq_false (by omega), decide_eq_false (by omega)]
        simp
    have hR1l : R1.length < 140737488351300 := by rw [k1]; exact Nat.lt_of_le_of_lt (hw_le hW1 (by omega : W * 1 ≤ 1048576)) (by decide)
    have hRl9 : R.length < 140737488351300 := by rw [hRl, hN50]; exact Nat.lt_of_le_of_lt (hw_le hW1 (by omega : W * 50 ≤ 1048576)) (by decide)
    repeat first | with_reducible refine ldI_of (by with_unfolding_all first | exact hpA H 0 rfl rfl | exact hpA H 1 rfl rfl | exact hpA H 2 rfl rfl | exact Hp.cell H 0 rfl rfl | exact Hp.cell H 1 rfl rfl | exact Hp.cell H 2 rfl rfl | exact hpB H 0 rfl rfl | exact hpB H 1 rfl rfl | exact hpB H 2 rfl rfl | exact hpC H 0 rfl rfl | exact hpC H 1 rfl rfl | exact hpC H 2 rfl rfl) ?_ | with_reducible refine ldS_of (by with_unfolding_all first | exact hpA H 0 rfl rfl | exact hpA H 1 rfl rfl | exact hpA H 2 rfl rfl | exact Hp.cell H 0 rfl rfl | exact Hp.cell H 1 rfl rfl | exact Hp.cell H 2 rfl rfl | exact hpB H 0 rfl rfl | exact hpB H 1 rfl rfl | exact hpB H 2 rfl rfl | exact hpC H 0 rfl rfl | exact hpC H 1 rfl rfl | exact hpC H 2 rfl rfl) ?_ | with_reducible refine ldP_of (by with_unfolding_all first | exact hpA H 0 rfl rfl | exact hpA H 1 rfl rfl | exact hpA H 2 rfl rfl | exact Hp.cell H 0 rfl rfl | exact Hp.cell H 1 rfl rfl | exact Hp.cell H 2 rfl rfl | exact hpB H 0 rfl rfl | exact hpB H 1 rfl rfl | exact hpB H 2 rfl rfl | exact hpC H 0 rfl rfl | exact hpC H 1 rfl rfl | exact hpC H 2 rfl rfl) ?_ | with_reducible refine ldB_of (by with_unfolding_all first | exact hpA H 0 rfl rfl | exact hpA H 1 rfl rfl | exact hpA H 2 rfl rfl | exact Hp.cell H 0 rfl rfl | exact Hp.cell H 1 rfl rfl | exact Hp.cell H 2 rfl rfl | exact hpB H 0 rfl rfl | exact hpB H 1 rfl rfl | exact hpB H 2 rfl rfl | exact hpC H 0 rfl rfl | exact hpC H 1 rfl rfl | exact hpC H 2 rfl rfl) ?_ | with_reducible refine ldT_of (by with_unfolding_all first | exact hpA H 0 rfl rfl | exact hpA H 1 rfl rfl | exact hpA H 2 rfl rfl | exact Hp.cell H 0 rfl rfl | exact Hp.cell H 1 rfl rfl | exact Hp.cell H 2 rfl rfl | exact hpB H 0 rfl rfl | exact hpB H 1 rfl rfl | exact hpB H 2 rfl rfl | exact hpC H 0 rfl rfl | exact hpC H 1 rfl rfl | exact hpC H 2 rfl rfl) ?_
    refine gEnc_ok (ws := R1) (row_rdO H 3 rfl) k2 hR1l fun e bs D qo c h' henc hsl H' => ?_
    replace H := H.join H' hsl.w
    clear H'
    refine ⟨_, _, _, _, rfl, ?_⟩
    repeat first | with_reducible refine ldI_of (by with_unfolding_all first | exact hpA H 0 rfl rfl | exact hpA H 1 rfl rfl | exact hpA H 2 rfl rfl | exact Hp.cell H 0 rfl rfl | exact Hp.cell H 1 rfl rfl | exact Hp.cell H 2 rfl rfl | exact hpB H 0 rfl rfl | exact hpB H 1 rfl rfl | exact hpB H 2 rfl rfl | exact hpC H 0 rfl rfl | exact hpC H 1 rfl rfl | exact hpC H 2 rfl rfl) ?_ | with_reducible refine ldS_of (by with_unfolding_all first | exact hpA H 0 rfl rfl | exact hpA H 1 rfl rfl | exact hpA H 2 rfl rfl | exact Hp.cell H 0 rfl rfl | exact Hp.cell H 1 rfl rfl | exact Hp.cell H 2 rfl rfl | exact hpB H 0 rfl rfl | exact hpB H 1 rfl rfl | exact hpB H 2 rfl rfl | exact hpC H 0 rfl rfl | exact hpC H 1 rfl rfl | exact hpC H 2 rfl rfl) ?_ | with_reducible refine ldP_of (by with_unfolding_all first | exact hpA H 0 rfl rfl | exact hpA H 1 rfl rfl | exact hpA H 2 rfl rfl | exact Hp.cell H 0 rfl rfl | exact Hp.cell H 1 rfl rfl | exact Hp.cell H 2 rfl rfl | exact hpB H 0 rfl rfl | exact hpB H 1 rfl rfl | exact hpB H 2 rfl rfl | exact hpC H 0 rfl rfl | exact hpC H 1 rfl rfl | exact hpC H 2 rfl rfl) ?_ | with_reducible refine ldB_of (by with_unfolding_all first | exact hpA H 0 rfl rfl | exact hpA H 1 rfl rfl | exact hpA H 2 rfl rfl | exact Hp.cell H 0 rfl rfl | exact Hp.cell H 1 rfl rfl | exact Hp.cell H 2 rfl rfl | exact hpB H 0 rfl rfl | exact hpB H 1 rfl rfl | exact hpB H 2 rfl rfl | exact hpC H 0 rfl rfl | exact hpC H 1 rfl rfl | exact hpC H 2 rfl rfl) ?_ | with_reducible refine ldT_of (by with_unfolding_all first | exact hpA H 0 rfl rfl | exact hpA H 1 rfl rfl | exact hpA H 2 rfl rfl | exact Hp.cell H 0 rfl rfl | exact Hp.cell H 1 rfl rfl | exact Hp.cell H 2 rfl rfl | exact hpB H 0 rfl rfl | exact hpB H 1 rfl rfl | exact hpB H 2 rfl rfl | exact hpC H 0 rfl rfl | exact hpC H 1 rfl rfl | exact hpC H 2 rfl rfl) ?_
    rw [← hRl]
    refine gEnc_ok (ws := R) (row_rdO H 1 rfl) hRw hRl9 fun eB bsB D2 qoB cB h' hencB hslB H' => ?_
    replace H := H.join H' hslB.w
    clear H'
    refine ⟨_, _, _, _, rfl, ?_⟩
    repeat first | with_reducible refine ldI_of (by with_unfolding_all first | exact hpA H 0 rfl rfl | exact hpA H 1 rfl rfl | exact hpA H 2 rfl rfl | exact Hp.cell H 0 rfl rfl | exact Hp.cell H 1 rfl rfl | exact Hp.cell H 2 rfl rfl | exact hpB H 0 rfl rfl | exact hpB H 1 rfl rfl | exact hpB H 2 rfl rfl | exact hpC H 0 rfl rfl | exact hpC H 1 rfl rfl | exact hpC H 2 rfl rfl) ?_ | with_reducible refine ldS_of (by with_unfolding_all first | exact hpA H 0 rfl rfl | exact hpA H 1 rfl rfl | exact hpA H 2 rfl rfl | exact Hp.cell H 0 rfl rfl | exact Hp.cell H 1 rfl rfl | exact Hp.cell H 2 rfl rfl | exact hpB H 0 rfl rfl | exact hpB H 1 rfl rfl | exact hpB H 2 rfl rfl | exact hpC H 0 rfl rfl | exact hpC H 1 rfl rfl | exact hpC H 2 rfl rfl) ?_ | with_reducible refine ldP_of (by with_unfolding_all first | exact hpA H 0 rfl rfl | exact hpA H 1 rfl rfl | exact hpA H 2 rfl rfl | exact Hp.cell H 0 rfl rfl | exact Hp.cell H 1 rfl rfl | exact Hp.cell H 2 rfl rfl | exact hpB H 0 rfl rfl | exact hpB H 1 rfl rfl | exact hpB H 2 rfl rfl | exact hpC H 0 rfl rfl | exact hpC H 1 rfl rfl | exact hpC H 2 rfl rfl) ?_ | with_reducible refine ldB_of (by with_unfolding_all first | exact hpA H 0 rfl rfl | exact hpA H 1 rfl rfl | exact hpA H 2 rfl rfl | exact Hp.cell H 0 rfl rfl | exact Hp.cell H 1 rfl rfl | exact Hp.cell H 2 rfl rfl | exact hpB H 0 rfl rfl | exact hpB H 1 rfl rfl | exact hpB H 2 rfl rfl | exact hpC H 0 rfl rfl | exact hpC H 1 rfl rfl | exact hpC H 2 rfl rfl) ?_ | with_reducible refine ldT_of (by with_unfolding_all first | exact hpA H 0 rfl rfl | exact hpA H 1 rfl rfl | exact hpA H 2 rfl rfl | exact Hp.cell H 0 rfl rfl | exact Hp.cell H 1 rfl rfl | exact Hp.cell H 2 rfl rfl | exact hpB H 0 rfl rfl | exact hpB H 1 rfl rfl | exact hpB H 2 rfl rfl | exact hpC H 0 rfl rfl | exact hpC H 1 rfl rfl | exact hpC H 2 rfl rfl) ?_
    refine gDec_ok (bytes := bsB) hencB.bytes.1 hencB.bytes.2 (Slot.rdO' hslB H fun e he => List.mem_append_right _ he) fun e' w' b' bs' s' D3 qo3 c3 h' hget hsl3 H' => ?_
    replace H := H.join H' hsl3.w
    clear H'
    refine ⟨_, _, _, _, _, _, rfl, ?_⟩
    have hsize := g_repeats ht k3 hmB hG henc hencB
    obtain rfl := henc.ok ⟨by omega, by omega⟩ k3
    obtain ⟨rfl, rfl, rfl, rfl, hbs⟩ := g_back (X := 50) ht hmB hRw hencB hget
    refine newC_hp H fun r100 h H => ?_
    have H := H.rot
    repeat first | with_reducible refine stA H 0 (by with_unfolding_all exact rfl) (by with_unfolding_all exact rfl) (by with_unfolding_all exact rfl) fun h H => ?_ | with_reducible refine st0 H 0 (by with_unfolding_all exact rfl) (by with_unfolding_all exact rfl) (by with_unfolding_all exact rfl) fun h H => ?_ | with_reducible refine stB H 0 (by with_unfolding_all exact rfl) (by with_unfolding_all exact rfl) (by with_unfolding_all exact rfl) fun h H => ?_
    refine bcase_true (by rfl) ?_
    refine bcase_true (by rfl) ?_
    refine bcase_true (by rfl) ?_
    have hb1 := henc.bytes.2
    refine bindI_of (((bs.length + 8 : Nat) : Int)) (by exact i64_at _ _ (by omega) (by omega) (by omega)) ?_
    refine bcase_dec (fun _ => ?_) fun h5 => absurd (by omega) h5
    rw [← hRl] at H
    have H : Hp hB [] h ([⟨r100, true, T_api_Bitmap, [.int .i64 (W : Nat), .int .i64 50, .slice qo3 bs'.length c3]⟩] ++ ([⟨r59, true, T_api_Bitmap, [.int .i64 (W : Nat), .int .i64 50, .slice (at0 qB) R.length R.length]⟩, ⟨qB, true, T_uint64, u64s R ++ []⟩, ⟨r40, true, T_api_Bitmap, [.int .i64 (W : Nat), .int .i64 1, .slice (at0 q) R1.length R1.length]⟩, ⟨q, true, T_uint64, u64s R1 ++ []⟩, ⟨r24, true, T_api_Bitmap, [.int .i64 (W : Nat), .int .i64 (X : Nat), .slice q1 ws.length c1]⟩, ⟨r6, true, T_burinlaw7_Ask, [.int .i64 (W : Nat), .int .i64 (X : Nat), .slice q1 ws.length c1, .int .i64 tt, .bool sk]⟩] ++ D ++ D2 ++ D3)) := H
    repeat first | with_reducible refine ldI_of (by with_unfolding_all first | exact hpA H 0 rfl rfl | exact hpA H 1 rfl rfl | exact Hp.cell H 0 rfl rfl | exact Hp.cell H 1 rfl rfl | exact hpB H 0 rfl rfl | exact hpB H 1 rfl rfl | exact hpC H 0 rfl rfl | exact hpC H 1 rfl rfl) ?_ | with_reducible refine ldS_of (by with_unfolding_all first | exact hpA H 0 rfl rfl | exact hpA H 1 rfl rfl | exact Hp.cell H 0 rfl rfl | exact Hp.cell H 1 rfl rfl | exact hpB H 0 rfl rfl | exact hpB H 1 rfl rfl | exact hpC H 0 rfl rfl | exact hpC H 1 rfl rfl) ?_ | with_reducible refine ldP_of (by with_unfolding_all first | exact hpA H 0 rfl rfl | exact hpA H 1 rfl rfl | exact Hp.cell H 0 rfl rfl | exact Hp.cell H 1 rfl rfl | exact hpB H 0 rfl rfl | exact hpB H 1 rfl rfl | exact hpC H 0 rfl rfl | exact hpC H 1 rfl rfl) ?_ | with_reducible refine ldB_of (by with_unfolding_all first | exact hpA H 0 rfl rfl | exact hpA H 1 rfl rfl | exact Hp.cell H 0 rfl rfl | exact Hp.cell H 1 rfl rfl | exact hpB H 0 rfl rfl | exact hpB H 1 rfl rfl | exact hpC H 0 rfl rfl | exact hpC H 1 rfl rfl) ?_ | with_reducible refine ldT_of (by with_unfolding_all first | exact hpA H 0 rfl rfl | exact hpA H 1 rfl rfl | exact Hp.cell H 0 rfl rfl | exact Hp.cell H 1 rfl rfl | exact hpB H 0 rfl rfl | exact hpB H 1 rfl rfl | exact hpC H 0 rfl rfl | exact hpC H 1 rfl rfl) ?_
    refine eqB_ok (xs := bs') (ys := R) (Slot.rdO' hsl3 H fun e he => List.mem_append_right _ (List.mem_append_right _ he)) (row_rdO H 2 rfl) (by rw [hbs]; exact hRl9) fun h' e => ?_
    have H := H.ext e
    refine ⟨_, rfl, ?_⟩
    refine bcase_true (by rw [hbs]; simp) ?_
    exact wakes7_ok fun h' e => ⟨_, rfl, hk _ (H.hext.trans e)⟩
theorem gRepeats_arg {h : Heap} {cs : Array Value} (hsz : cs.size = TP.cellsOf T_burinlaw7_Ask) (hw : WDx TP h T_burinlaw7_Ask cs.toList) {K : Value → Heap → Prop} {Kp : List PanicEntry → Heap → Prop} (hk : ∀ h', hext h h' → K (.bool true) h') :
    CP F_burinlaw7_GenericRepeats #[.agg cs] h K Kp := by
  obtain ⟨w, b, q1, c1, ws, t, sk, e, g1, g2, g3, g4⟩ := wd_ask7 hw
  obtain rfl : cs = #[.int .i64 w, .int .i64 b, .slice q1 ws.length c1, .int .i64 t, .bool sk] := by
    apply Array.toList_inj.1
    rw [e]
  exact gRepeats_law g1 g2 g3 hk
end Go.Bm

/- ArLink2: what a law's walk hands on. -/
namespace Go.Proofs.Yteakipgcanafoaa
open Go.ChangeShapes Go.WideShapes Go.ChangeAt Go.RowKit
set_option linter.unusedVariables false

theorem own : ownKnob Try.prog.godebug = none := by kernel_rfl
theorem laidOut : laidOutB Try.prog = true := by kernel_rfl

/-- What a call that keeps all old rows leaves, as a row's statement asks it. -/
theorem below_of {W W' : World} (hk : Go.Den.keeps W W') (h : Go.Den.hext W.heap W'.heap) : Below W.heap.size W W' :=
  ⟨hk.1, hk.2.1, hk.2.2, h.1, fun k hlt => h.2 k hlt⟩

theorem walk_of {f : FuncId} {args : Array Value} {W : World}
    (h : Calls Try.prog f args W fun e w' => Go.Den.keeps W w' ∧ match e with
      | .returned v => v = .bool true ∧ Go.Den.hext W.heap w'.heap
      | .panicked c => False
      | .outgrown => False) : Calls Try.prog f args W fun e W' => e = .returned (.bool true) ∧ Below W.heap.size W W' := by
  refine h.mono fun e W' he => ?_
  obtain ⟨hk, he⟩ := he
  cases e with
  | returned v => exact ⟨by rw [he.1], below_of hk he.2⟩
  | panicked c => exact he.elim
  | outgrown => exact he.elim

end Go.Proofs.Yteakipgcanafoaa
