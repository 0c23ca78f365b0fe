/- W6: put together by wip/tools/bundle.py: GnG RfR RfS GnH GnI PbH Mburinref1 Bburinref1 PbI PbJ PbJb GnJa GnJ GnK PbC Mlaw15PageEncodes Blaw15PageEncodes PbD PbE RdB RdC RnA RnB RnC Mlaw15PageReads Blaw15PageReads. -/
import Derived.Test.YtfaclehehhgpcaaGreatW1
import Derived.Test.YtfaclehehhgpcaaGreatW2
import Derived.Test.YtfaclehehhgpcaaGreatW3
import Derived.Test.YtfaclehehhgpcaaGreatW4
import Derived.Test.YtfaclehehhgpcaaGreatW5
import Derived.Test.YtfaclehehhgpcaaGreatProg
import Derived.OrdersHeld
import Derived.OrdersIn
import Derived.TacticsIn
import Derived.RangeFuncSeq
import Derived.RangeFuncLeaves

/- GnG: generic.Decode; the document's side of generic coding. -/
set_option linter.unusedVariables false
set_option linter.unusedSimpArgs false
namespace Go.Bm
open Go Go.Den Go.Den.YtfaclehehhgpcaaGreat
open Go.Ar (decL newD newD_ok u8s)

section
variable {hB : Heap} {w b template : Int} {skip : Bool} {K : Value → Heap → Prop} {Kp : List PanicEntry → Heap → Prop}
set_option maxRecDepth 100000 in
set_option maxHeartbeats 1000000 in
theorem gDec_ok {src : Option Addr} {bc0 : Nat} {bytes : List Nat} (hbb : ∀ x ∈ bytes, x < 256) (hbl : bytes.length < 140737488351300) (hr : rdO hB src (bytes.length * 1) (u8s bytes))
    (hk : ∀ e w' b' bs s' D qo c h', GGetR bytes (gsize template.toNat + 1) 0 0 w b template skip (newD bytes (gsize template.toNat + 1)) e w' b' bs s' → Slot T_uint64 1 D qo bs.length c (u64s bs) → Hp hB [] h' D → K (.tuple #[.agg #[.int .i64 w', .int .i64 b', .slice qo bs.length c], .int .i64 e]) h') :
    CP F_generic_Decode #[.slice src bytes.length bc0, .int .i64 w, .int .i64 b, .int .i64 template, .bool skip] hB K Kp := by
  refine call_generic_Decode ?_
  unfold generic_Decode
  have H := Hp.nil hB []
  refine newC_hp H fun r1 h H => ?_
  refine csize_ok (fun t ht et h2 e2 => ?_) fun hn h2 e2 => ?_
  · have H := H.ext e2
    clear e2
    subst et
    have htt : 0 ≤ ((t : Nat) : Int) ∧ ((t : Nat) : Int) < 4 := by omega
    have hgs := gsize_le ht
    simp only [Int.toNat_natCast] at hk
    refine ⟨_, _, rfl, ?_⟩
    refine bcase_false (by rfl) ?_
    refine bindI_of (((gsize t + 1 : Nat) : Int)) (by exact i64_at _ _ (by omega) (by omega) (by omega)) ?_
    refine Go.Ar.newDecoder_ok (n := gsize t + 1) (by omega) (by omega) hbb hbl (H.rdO hr) fun p q e0 bp bc h3 hbok H' => ?_
    have hew := hbok.1
    replace H := H.join H' (by simp [decL, Go.Ar.decE, hbok.1])
    clear H'
    refine ⟨_, _, rfl, ?_⟩
    refine bcase_false (by rfl) ?_
    have hd := newD_ok hbb (gsize t + 1)
    refine gget_ok (bytes := bytes) (base := 0) (n0 := 0) (H.give [1, 2, 3] (by decide) rfl) (by rw [hd.b]; exact hbok) hbl hd (by omega) (by omega) size_px1 fun e w' b' bs s' D qo c h' hg hsl H' => ?_
    have H := Go.Bm.Hp.backD H [1, 2, 3] (by decide) rfl (by simp [decL, Go.Ar.decE, hew]) H' (by simp [decL, Go.Ar.decE, hew]) hsl.w rfl
    clear H'
    refine ⟨_, _, _, _, _, _, rfl, ?_⟩
    repeat first | with_reducible refine stA H 0 (by with_unfolding_all exact rfl) (by with_unfolding_all exact rfl) (by with_unfolding_all exact rfl) fun h H => ?_ | with_reducible refine st0 H 0 (by with_unfolding_all exact rfl) (by with_unfolding_all exact rfl) (by with_unfolding_all exact rfl) fun h H => ?_ | with_reducible refine stB H 0 (by with_unfolding_all exact rfl) (by with_unfolding_all exact rfl) (by with_unfolding_all exact rfl) fun h H => ?_
    have H : Hp hB [] h (([⟨r1, true, T_api_Bitmap, [.int .i64 w', .int .i64 b', .slice qo bs.length c]⟩] ++ decL p q e0 bp bc s') ++ D) := H
    repeat first | with_reducible refine ldI_of (by with_unfolding_all first | exact hpA H 0 rfl rfl | exact Hp.cell H 0 rfl rfl | exact hpB H 0 rfl rfl | exact hpC H 0 rfl rfl) ?_ | with_reducible refine ldS_of (by with_unfolding_all first | exact hpA H 0 rfl rfl | exact Hp.cell H 0 rfl rfl | exact hpB H 0 rfl rfl | exact hpC H 0 rfl rfl) ?_ | with_reducible refine ldP_of (by with_unfolding_all first | exact hpA H 0 rfl rfl | exact Hp.cell H 0 rfl rfl | exact hpB H 0 rfl rfl | exact hpC H 0 rfl rfl) ?_ | with_reducible refine ldB_of (by with_unfolding_all first | exact hpA H 0 rfl rfl | exact Hp.cell H 0 rfl rfl | exact hpB H 0 rfl rfl | exact hpC H 0 rfl rfl) ?_ | with_reducible refine ldT_of (by with_unfolding_all first | exact hpA H 0 rfl rfl | exact Hp.cell H 0 rfl rfl | exact hpB H 0 rfl rfl | exact hpC H 0 rfl rfl) ?_
    exact hk e w' b' bs s' D qo c h hg hsl (Hp.suf H)
  · have H := H.ext e2
    refine ⟨_, _, rfl, ?_⟩
    refine bcase_true (by rfl) ?_
    repeat first | with_reducible refine ldI_of (by with_unfolding_all first | exact hpA H 0 rfl rfl | exact Hp.cell H 0 rfl rfl | exact hpB H 0 rfl rfl | exact hpC H 0 rfl rfl) ?_ | with_reducible refine ldS_of (by with_unfolding_all first | exact hpA H 0 rfl rfl | exact Hp.cell H 0 rfl rfl | exact hpB H 0 rfl rfl | exact hpC H 0 rfl rfl) ?_ | with_reducible refine ldP_of (by with_unfolding_all first | exact hpA H 0 rfl rfl | exact Hp.cell H 0 rfl rfl | exact hpB H 0 rfl rfl | exact hpC H 0 rfl rfl) ?_ | with_reducible refine ldB_of (by with_unfolding_all first | exact hpA H 0 rfl rfl | exact Hp.cell H 0 rfl rfl | exact hpB H 0 rfl rfl | exact hpC H 0 rfl rfl) ?_ | with_reducible refine ldT_of (by with_unfolding_all first | exact hpA H 0 rfl rfl | exact Hp.cell H 0 rfl rfl | exact hpB H 0 rfl rfl | exact hpC H 0 rfl rfl) ?_ | with_reducible refine stA H 0 (by with_unfolding_all exact rfl) (by with_unfolding_all exact rfl) (by with_unfolding_all exact rfl) fun h H => ?_ | with_reducible refine st0 H 0 (by with_unfolding_all exact rfl) (by with_unfolding_all exact rfl) (by with_unfolding_all exact rfl) fun h H => ?_ | with_reducible refine stB H 0 (by with_unfolding_all exact rfl) (by with_unfolding_all exact rfl) (by with_unfolding_all exact rfl) fun h H => ?_
    exact hk 60 0 0 [] _ [] none 0 _ (.inl ⟨hn, rfl, rfl, rfl, rfl, rfl⟩) (Slot.nil _ _) (H.take 0)

/-! ### the document's -/
theorem need7_ok {t : Nat} (ht : t < 4) (hk : ∀ h', hext hB h' → K (.int .i64 (gsize t + 1 : Nat)) h') : CP F_burinref7_Need #[.int .i64 (t : Nat)] hB K Kp := by
  refine call_burinref7_Need ?_
  unfold burinref7_Need
  have hgs := gsize_le ht
  refine rsize6_ok ht fun h' e => ?_
  refine ⟨_, rfl, ?_⟩
  refine bindI_of (((gsize t + 1 : Nat) : Int)) (by exact i64_at _ _ (by omega) (by omega) (by omega)) ?_
  exact hk _ e
end
theorem runG_next {σ : Type} {step : σ → Nat → Bool → (Bool × σ) ⊕ (Int × σ)} {W t y : Nat} {skip : Bool} {g : (Int → Int → Bool) × σ} {G : Int → Int → Bool} {s : σ} (h : runG W t skip step y g = .inl (G, s)) : runG W t skip step (y + 1) g = match skip with
    | false => rowG t step y W (G, s)
    | true => match step s (gsize t) (sameB G W y) with
      | .inr e => .inr e
      | .inl (true, s') => .inl (copyRow G y, s')
      | .inl (false, s') => rowG t step y W (G, s') := by
  rw [runG, h]
  cases skip <;> rfl
theorem copy_same {G : Int → Int → Bool} {W y : Nat} (hG : ∀ a b : Int, ¬ (0 ≤ a ∧ a < W) → G a b = false) (h : sameB G W y = true) : copyRow G y = G := by
  funext a b
  unfold copyRow
  by_cases hc : b = (y : Int) ∧ y ≠ 0
  · rw [if_pos hc]
    by_cases hin : 0 ≤ a ∧ a < W
    · unfold sameB at h
      rw [List.all_eq_true] at h
      have := h a.toNat (List.mem_range.2 (by omega))
      have ea : ((a.toNat : Nat) : Int) = a := by omega
      rw [ea] at this
      rw [hc.1]
      exact (by simpa using this : G a (y : Int) = G a ((y : Int) - 1)).symm
    · rw [hG _ _ hin, hG _ _ hin]
  · rw [if_neg hc]
theorem getP_side (ws : List Nat) (W X : Nat) (a b : Int) (h : ¬ (0 ≤ a ∧ a < W)) : getP ws W X a b = false := by
  unfold getP
  rw [decide_eq_false (by omega), Bool.false_and]

end Go.Bm

/- RfR: refinement, plain laws: what is read is one; a reference that is seen alike; a few rows; many bitmaps one behind the other. -/
set_option linter.unusedVariables false
set_option linter.unusedSimpArgs false
namespace Go.Bm
open Go Go.Den Go.Den.YtfaclehehhgpcaaGreat
open Go.Ar (Dec)

theorem GetR.det {bytes : List Nat} {m n0 : Nat} {base w b w2 b2 : Int} {ws2 : List Nat} {dx dy : Int} {s : Dec} {e1 a1 c1 e2 a2 c2 : Int} {bs1 bs2 : List Nat} {s1 s2 : Dec}
    (h1 : GetR bytes m n0 base w b w2 b2 ws2 dx dy s e1 a1 c1 bs1 s1) (h2 : GetR bytes m n0 base w b w2 b2 ws2 dx dy s e2 a2 c2 bs2 s2) : e1 = e2 ∧ a1 = a2 ∧ c1 = c2 ∧ bs1 = bs2 ∧ s1 = s2 := by
  rcases h1 with ⟨p, q1, q2, q3, q4, q5⟩ | ⟨p, p2, q1, q2, q3, q4, q5⟩ | ⟨p, p2, p3, q1, q2, q3, q4, q5⟩ | ⟨p, p2, p3, p4, q1, q2, q3, q4, q5⟩ | ⟨p, p2, p3, p4, q1, q2, q3, q4, lx, wx, zx, dx'⟩ <;>
  rcases h2 with ⟨p', r1, r2, r3, r4, r5⟩ | ⟨p', p2', r1, r2, r3, r4, r5⟩ | ⟨p', p2', p3', r1, r2, r3, r4, r5⟩ | ⟨p', p2', p3', p4', r1, r2, r3, r4, r5⟩ | ⟨p', p2', p3', p4', r1, r2, r3, r4, ly, wy, zy, dy'⟩ <;>
  first
    | contradiction
    | exact ⟨q1.trans r1.symm, q2.trans r2.symm, q3.trans r3.symm, q4.trans r4.symm, q5.trans r5.symm⟩
    | skip
  rw [q4] at r4
  injection r4 with r4
  injection r4 with r4 r5
  obtain ⟨W, X, rfl, rfl, _⟩ := size_nat p2
  simp only [Int.toNat_natCast] at r4 lx ly zx zy
  exact ⟨q1.trans r1.symm, q2.trans r2.symm, q3.trans r3.symm, getP_ext lx ly wx wy zx zy r4, r5⟩

theorem EncR.ok {w b w2 b2 : Int} {ws ws2 : List Nat} {dx dy e : Int} {bs : List Nat} (hm : MayP w b ws) (hm2 : MayP w2 b2 ws2) (hs : ShiftP dx dy) (h : EncR w b w2 b2 ws ws2 dx dy e bs) : e = 0 := by
  rcases h with ⟨a, _⟩ | ⟨_, a, _⟩ | ⟨_, _, e, _⟩
  · exact absurd ⟨hm, hm2⟩ a
  · exact absurd hs a
  · exact e

section
variable (G R : Int → Int → Bool) (W m : Nat) (dx dy base : Int) {k b : Nat → Nat} {n0 cnt : Nat}
end
end Go.Bm

/- RfS: burinref8.Get and burinref8.Decode. -/
set_option linter.unusedVariables false
set_option linter.unusedSimpArgs false
namespace Go.Bm
open Go Go.Den Go.Den.YtfaclehehhgpcaaGreat
-- (nothing of Go.Ar opened)

end Go.Bm

/- GnH: burinref7.Get, Encode, Decode. -/
set_option linter.unusedVariables false
set_option linter.unusedSimpArgs false
namespace Go.Bm
open Go Go.Den Go.Den.YtfaclehehhgpcaaGreat
open Go.Ar (Dec BOk idx getD_ok getD_bit refD RP)

theorem getD_nat (s : Dec) (k : Nat) : (Go.Ar.getD s k).2 = (decide ((Go.Ar.getD s k).2 = 1)).toNat := by
  have hbit := getD_bit (s := s) k
  by_cases h1 : (Go.Ar.getD s k).2 = 1
  · rw [decide_eq_true h1, h1]; rfl
  · rw [decide_eq_false h1]; show _ = 0; omega

set_option maxRecDepth 100000 in
set_option maxHeartbeats 4000000 in
theorem rGet7_ok {h0 h : Heap} {A : RP} {e0 : Ent} {bp : Option Addr} {bc m n0 : Nat} {s0 : Dec} {bytes : List Nat} {Y : List Ent} (H : Hp h0 [] h (refD A e0 bp bc s0 ++ Y)) (hb : BOk e0 bp bytes) (hbl : bytes.length < 140737488351300) (hc : Go.Ar.DecOk bytes m n0 s0) (hm1 : 1 ≤ m) (hm2 : m ≤ 131072)
    {base : Int} (hbase : 0 ≤ base ∧ base ≤ 131072) {W X t : Nat} {skip : Bool} (ht : t < 4) (hs : SizeP (W : Int) (X : Int)) (hN : n0 + X * (W + 1) ≤ 16777216) {K : Value → Heap → Prop} {Kp : List PanicEntry → Heap → Prop}
    (hk : ∀ bs s' k q h', runG W t skip (stepG m base) X (fun _ _ => false, s0) = .inl (getP bs W X, s') → bs.length = X * wds W → W64 bs → PadZ W X bs → k ≤ X * (W + 1) → Go.Ar.DecOk bytes m (n0 + k) s' →
      Hp h0 [] h' (refD A e0 bp bc s' ++ Y ++ [⟨q, true, T_uint64, u64s bs ++ []⟩]) → K (.tuple #[.agg #[.int .i64 (W : Nat), .int .i64 (X : Nat), .slice (at0 q) bs.length bs.length], .int .i64 0]) h') :
    CP F_burinref7_Get #[.pointer (at0 A.p), .int .i64 base, .int .i64 (W : Nat), .int .i64 (X : Nat), .int .i64 (t : Nat), .bool skip] h K Kp := by
  refine call_burinref7_Get ?_
  unfold burinref7_Get
  obtain ⟨W', X', e1, e2, hW1, hW2, hX1, hX2, hWX⟩ := size_nat hs
  obtain rfl : W = W' := by omega
  obtain rfl : X = X' := by omega
  clear e1 e2
  have hgs := gsize_le ht
  have hb' := hb.1
  refine newC_hp H fun r1 h H => ?_
  have H := H.rot
  refine places_ok ht fun rp h' H' => ?_
  replace H := (H.join H' rfl).rot
  clear H'
  refine ⟨_, _, _, rfl, ?_⟩
  refine white_ok hs fun q h' H' => ?_
  replace H := (H.join H' rfl).rot
  clear H'
  refine ⟨_, _, _, _, _, rfl, ?_⟩
  refine newC_hp H fun r11 h H => ?_
  have H := H.rot
  repeat first | with_reducible refine stA H 0 (by with_unfolding_all exact rfl) (by with_unfolding_all exact rfl) (by with_unfolding_all exact rfl) fun h H => ?_ | with_reducible refine st0 H 0 (by with_unfolding_all exact rfl) (by with_unfolding_all exact rfl) (by with_unfolding_all exact rfl) fun h H => ?_ | with_reducible refine stB H 0 (by with_unfolding_all exact rfl) (by with_unfolding_all exact rfl) (by with_unfolding_all exact rfl) fun h H => ?_
  obtain ⟨N, hNd⟩ : ∃ N, N = X * wds W := ⟨_, rfl⟩
  rw [← hNd] at H
  obtain ⟨P, hP⟩ : ∃ P : List Nat → Dec → List Ent, P = fun ws s => [⟨r11, true, T_api_Bitmap, [.int .i64 (W : Nat), .int .i64 (X : Nat), .slice (at0 q) N N]⟩, ⟨q, true, T_uint64, u64s ws ++ []⟩, ⟨rp, true, T_int, plcI (plcs (spanL t))⟩, ⟨r1, true, T_api_Bitmap, [.int .i64 0, .int .i64 0, .slice none 0 0]⟩] ++ (refD A e0 bp bc s ++ Y) := ⟨_, rfl⟩
  have hPd : ∀ ws s, P ws s = [⟨r11, true, T_api_Bitmap, [.int .i64 (W : Nat), .int .i64 (X : Nat), .slice (at0 q) N N]⟩, ⟨q, true, T_uint64, u64s ws ++ []⟩, ⟨rp, true, T_int, plcI (plcs (spanL t))⟩, ⟨r1, true, T_api_Bitmap, [.int .i64 0, .int .i64 0, .slice none 0 0]⟩] ++ (refD A e0 bp bc s ++ Y) := fun ws s => by rw [hP]
  have H : Hp h0 [] h (P (List.replicate N 0) s0) := by rw [hPd]; exact H.as (by simp)
  have hplr : ∀ {h : Heap} {ws : List Nat} {s : Dec}, Hp h0 [] h (P ws s) → rdO h (at0 rp) (2 * (plcs (spanL t)).length * 1) (plcI (plcs (spanL t))) := fun H => by
    rw [hPd] at H
    have hpl : (plcI (plcs (spanL t))).length = 2 * (plcs (spanL t)).length * 1 := by
      generalize plcs (spanL t) = P
      induction P with
      | nil => rfl
      | cons p P ih =>
        show (_ :: _ :: plcI P).length = _
        simp only [List.length_cons, ih]
        omega
    have := rdO_hp H 2 (b := rp) (o := 0) (n := 2 * (plcs (spanL t)).length * 1) (w := true) (t := T_int) (cs := plcI (plcs (spanL t))) rfl (by omega)
    rw [List.drop_zero, List.take_of_length_le (by omega)] at this
    exact this
  -- one bit out of the decoder
  have gbit : ∀ {h : Heap} {ws : List Nat} {s : Dec} {n : Nat} {ctx : Int} {K1 : Value → Heap → Prop} {Kp1 : List PanicEntry → Heap → Prop}, Hp h0 [] h (P ws s) → Go.Ar.DecOk bytes m n s → n < 16777216 →
      (∀ h', Go.Ar.DecOk bytes m (n + 1) (Go.Ar.getD s (idx ctx m)).1 → Hp h0 [] h' (P ws (Go.Ar.getD s (idx ctx m)).1) → K1 (.tuple #[.int .i64 ((decide ((Go.Ar.getD s (idx ctx m)).2 = 1)).toNat : Nat), .int .i64 0]) h') →
      CP F_burinref4_Decoder_Get #[.pointer (at0 A.p), .int .i64 ctx] h K1 Kp1 := fun {h ws s n ctx K1 Kp1} H hok hn hk1 => by
    rw [hPd] at H
    refine Go.Ar.rget_ok (H.give [4, 5, 6, 7, 8] (by decide) rfl) (by rw [hok.b]; exact hb) hok.wf (by rw [hok.b]; exact hbl) (by rw [hok.n]; exact hn) (by rw [hok.len]; exact hm1) (by rw [hok.len]; exact hm2) fun h' H' => ?_
    replace H := H.put [4, 5, 6, 7, 8] (by decide) rfl (by simp [refD, Go.Ar.sideL, hb']) H' (by simp [refD, Go.Ar.sideL, hb']) rfl
    rw [hok.len] at H ⊢
    rw [getD_nat]
    exact hk1 h' (getD_ok hok _ hn) (by rw [hPd]; exact H)
  -- a pixel into the bitmap
  have gput : ∀ {h : Heap} {ws : List Nat} {s : Dec} {a b : Nat} {bit : Bool} {K1 : Value → Heap → Prop} {Kp1 : List PanicEntry → Heap → Prop}, Hp h0 [] h (P ws s) → ws.length = N → W64 ws → PadZ W X ws → a < W → b < X →
      (∀ R h', R.length = N → W64 R → PadZ W X R → getP R W X = upd (getP ws W X) (a : Int) (b : Int) bit → Hp h0 [] h' (P R s) → K1 (.tuple #[]) h') →
      CP F_burinref0_Put #[.agg #[.int .i64 (W : Nat), .int .i64 (X : Nat), .slice (at0 q) N N], .int .i64 (a : Nat), .int .i64 (b : Nat), .int .i64 (bit.toNat : Nat)] h K1 Kp1 := fun {h ws s a b bit K1 Kp1} H hl hw hz ha hb hk1 => by
    rw [hPd] at H
    rw [← hl]
    refine put_ok (ws := ws) H 1 rfl hw hs (by rw [hl, hNd]) ha hb fun R h' k1 k2 k3 H' => ?_
    exact hk1 R h' (by rw [k1, hl]) k2 (hz.set ha k3) (getP_set ha hb k3) (by rw [hPd]; exact H')
  have gload : ∀ {h : Heap} {ws : List Nat} {s : Dec}, Hp h0 [] h (P ws s) → Hp h0 [] h ([⟨r11, true, T_api_Bitmap, [.int .i64 (W : Nat), .int .i64 (X : Nat), .slice (at0 q) N N]⟩, ⟨q, true, T_uint64, u64s ws ++ []⟩, ⟨rp, true, T_int, plcI (plcs (spanL t))⟩, ⟨r1, true, T_api_Bitmap, [.int .i64 0, .int .i64 0, .slice none 0 0]⟩] ++ (refD A e0 bp bc s ++ Y)) := fun H => by rw [hPd] at H; exact H
  refine ⟨fun n vs h' => ∃ (y : Nat) (ws : List Nat) (s : Dec) (k : Nat), y + n = X ∧ vs = [.int .i64 (y : Nat)] ∧ runG W t skip (stepG m base) y (fun _ _ => false, s0) = .inl (getP ws W X, s) ∧ ws.length = N ∧ W64 ws ∧ PadZ W X ws ∧ (∀ a b : Int, (y : Int) ≤ b → getP ws W X a b = false) ∧ k ≤ y * (W + 1) ∧ Go.Ar.DecOk bytes m (n0 + k) s ∧ Hp h0 [] h' (P ws s),
    ⟨X, 0, List.replicate N 0, s0, 0, by omega, rfl, by rw [getP_zero]; rfl, by simp, W64.zero _, fun y hy x h1 h2 => pix_zero _ _ _ _, fun a b _ => by rw [getP_zero], by omega, hc, H⟩, ?_⟩
  clear H
  rintro n h u xx ⟨y, ws, s, k, hyn, hxx, hrun, hwl, hww, hwz, hzr, hky, hok, H⟩
  injection hxx with hxx
  injection hxx with _ hxx
  subst hxx
  refine bcase_dec (fun h1 => ?_) fun h1 => ?_
  · have hy : y < X := by omega
    have hkX : (y + 1) * (W + 1) ≤ X * (W + 1) := Nat.mul_le_mul_right _ (by omega)
    rw [Nat.add_mul, Nat.one_mul] at hkX
    have hnext := runG_next hrun
    refine ⟨fun _ h' => ∃ s1 k1, runG W t skip (stepG m base) (y + 1) (fun _ _ => false, s0) = rowG t (stepG m base) y W (getP ws W X, s1) ∧ k1 ≤ y * (W + 1) + 1 ∧ Go.Ar.DecOk bytes m (n0 + k1) s1 ∧ Hp h0 [] h' (P ws s1), ?_, ?_⟩
    · cases skip with
      | false =>
        refine bcase_false rfl ?_
        exact ⟨s, k, hnext, by omega, hok, H⟩
      | true =>
        refine bcase_true rfl ?_
        refine need7_ok ht fun h' e => ?_
        have H := H.ext e
        clear e
        refine ⟨_, rfl, ?_⟩
        refine bindI_of ((base + ((gsize t + 1 : Nat) : Int))) (by exact i64_in _ (by omega) (by omega)) ?_
        refine bindI_of ((base + ((gsize t : Nat) : Int))) (by exact i64_at _ _ (by omega) (by omega) (by omega)) ?_
        refine gbit H hok (by omega) fun h' hok2 H => ?_
        refine ⟨_, _, rfl, ?_⟩
        refine bcase_false (by rfl) ?_
        simp only [stepG] at hnext
        generalize (Go.Ar.getD s (idx (base + ((gsize t : Nat) : Int)) m)).1 = s1 at hnext hok2 H
        generalize decide ((Go.Ar.getD s (idx (base + ((gsize t : Nat) : Int)) m)).2 = 1) = bit at hnext ⊢
        cases bit with
        | true =>
          simp only at hnext
          refine bcase_eq (fun _ => ?_) fun h5 => absurd rfl h5
          obtain ⟨G0, hG0⟩ : ∃ G0, G0 = getP ws W X := ⟨_, rfl⟩
          refine ⟨fun n vs h' => ∃ (x : Nat) (R : List Nat), x + n = W ∧ vs = [.int .i64 (x : Nat)] ∧ R.length = N ∧ W64 R ∧ PadZ W X R ∧ (getP R W X = fun a b => if b = (y : Int) ∧ 0 ≤ a ∧ a < (x : Int) then G0 a ((y : Int) - 1) else G0 a b) ∧ Hp h0 [] h' (P R s1),
            ⟨W, 0, ws, by omega, rfl, hwl, hww, hwz, by funext a b; rw [if_neg (by omega), hG0], H⟩, ?_⟩
          clear H
          rintro n2 h u xx ⟨x, R, hxn, hxx, hRl, hRw, hRz, hRG, H⟩
          injection hxx with hxx
          injection hxx with _ hxx
          subst hxx
          refine bcase_dec (fun h2 => ?_) fun h2 => ?_
          · have hx : x < W := by omega
            refine bindI_of (((y : Int) - 1)) (by exact i64_in _ (by omega) (by omega)) ?_
            have H0 := gload H
            refine ldI_of (hpA H0 0 rfl rfl) (ldI_of (hpA H0 0 rfl rfl) (ldS_of (hpA H0 0 rfl rfl) (ldI_of (hpA H0 0 rfl rfl) (ldI_of (hpA H0 0 rfl rfl) (ldS_of (hpA H0 0 rfl rfl) ?_)))))
            have hRN : N = R.length := hRl.symm
            have getR : ∀ {K1 : Value → Heap → Prop} {Kp1 : List PanicEntry → Heap → Prop}, (∀ h', hext h h' → K1 (.int .i64 ((getP R W X (x : Nat) ((y : Int) - 1)).toNat : Nat)) h') → CP F_burinref0_Get #[.agg #[.int .i64 (W : Nat), .int .i64 (X : Nat), .slice (at0 q) N N], .int .i64 (x : Nat), .int .i64 ((y : Int) - 1)] h K1 Kp1 := fun hk1 => by
              rw [hRN]
              exact get_ok (row_rdO H0 1 rfl) hRw hs (by rw [hRl, hNd]) hk1
            refine getR fun h' e => ?_
            have H := H.ext e
            refine ⟨_, rfl, e, ?_⟩
            refine gput H hRl hRw hRz hx hy fun R2 h' k1 k2 k3 k4 H => ?_
            refine bindI_of (((x + 1 : Nat) : Int)) (by exact i64_at _ _ (by omega) (by omega) (by omega)) ?_
            refine ⟨n2 - 1, by omega, x + 1, R2, by omega, rfl, k1, k2, k3, ?_, H⟩
            rw [k4]
            funext a b
            unfold upd
            by_cases hc : a = (x : Int) ∧ b = (y : Int)
            · rw [if_pos hc, if_pos (by omega), hRG]
              simp only
              rw [if_neg (by omega), hc.1]
            · rw [if_neg hc, hRG]
              simp only
              by_cases hd : b = (y : Int) ∧ 0 ≤ a ∧ a < (x : Int)
              · rw [if_pos hd, if_pos (by omega)]
              · rw [if_neg hd, if_neg (by omega)]
          · obtain rfl : W = x := by omega
            have hcopy : getP R W X = copyRow (getP ws W X) y := by
              rw [hRG, ← hG0]
              funext a b
              unfold copyRow
              by_cases hin : 0 ≤ a ∧ a < (W : Int)
              · by_cases hb : b = (y : Int)
                · rw [if_pos ⟨hb, hin⟩]
                  by_cases hy0 : y = 0
                  · rw [if_neg (fun hh => hh.2 hy0), hG0, hzr a b (by omega)]
                    unfold getP
                    rw [decide_eq_false (by omega), Bool.false_and]
                  · rw [if_pos ⟨hb, hy0⟩]
                · rw [if_neg (fun hh => hb hh.1), if_neg (fun hh => hb hh.1)]
              · have e : ∀ b, G0 a b = false := fun b => by rw [hG0]; exact getP_side ws W X a b hin
                rw [e, e]
                simp
            rw [← hcopy] at hnext
            refine bindI_of (((y + 1 : Nat) : Int)) (by exact i64_at _ _ (by omega) (by omega) (by omega)) ?_
            refine ⟨n - 1, by omega, y + 1, R, s1, k + 1, by omega, rfl, hnext, hRl, hRw, hRz, fun a b hb => ?_, by rw [Nat.add_mul, Nat.one_mul]; omega, hok2, H⟩
            rw [hRG]
            simp only
            rw [if_neg (by omega), hG0, hzr a b (by omega)]
        | false =>
          simp only at hnext
          refine bcase_eq (fun h5 => absurd h5 (by decide)) fun h5 => ?_
          exact ⟨s1, k + 1, hnext, by omega, hok2, H⟩
    · clear H hok hnext
      rintro h u ⟨s1, k1, hnext, hk1, hok1, H⟩
      refine ⟨fun n vs h' => ∃ (x : Nat) (R : List Nat) (s : Dec), x + n = W ∧ vs = [.int .i64 (x : Nat)] ∧ rowG t (stepG m base) y x (getP ws W X, s1) = .inl (getP R W X, s) ∧ R.length = N ∧ W64 R ∧ PadZ W X R ∧ (∀ a b : Int, (y + 1 : Nat) ≤ b → getP R W X a b = false) ∧ Go.Ar.DecOk bytes m (n0 + k1 + x) s ∧ Hp h0 [] h' (P R s),
        ⟨W, 0, ws, s1, by omega, rfl, rfl, hwl, hww, hwz, fun a b hb => hzr a b (by omega), hok1, H⟩, ?_⟩
      clear H hok1
      rintro n2 h u xx ⟨x, R, s2, hxn, hxx, hrow, hRl, hRw, hRz, hRr, hok, H⟩
      injection hxx with hxx
      injection hxx with _ hxx
      subst hxx
      refine bcase_dec (fun h2 => ?_) fun h2 => ?_
      · have hx : x < W := by omega
        have H0 := gload H
        refine ldI_of (hpA H0 0 rfl rfl) (ldI_of (hpA H0 0 rfl rfl) (ldS_of (hpA H0 0 rfl rfl) ?_))
        have hRN : N = R.length := hRl.symm
        have atR : ∀ {K1 : Value → Heap → Prop} {Kp1 : List PanicEntry → Heap → Prop}, (∀ h', hext h h' → K1 (.int .i64 (gctx t (getP R W X) x y : Nat)) h') → CP F_burinref6_At #[.agg #[.int .i64 (W : Nat), .int .i64 (X : Nat), .slice (at0 q) N N], .slice (at0 rp) (2 * (plcs (spanL t)).length) (2 * (plcs (spanL t)).length), .int .i64 (x : Nat), .int .i64 (y : Nat)] h K1 Kp1 := fun hk1 => by
          rw [hRN]
          exact at6_ok ht (row_rdO H0 1 rfl) hRw hs (by rw [hRl, hNd]) (hplr H) hx hy hk1
        refine atR fun h' e => ?_
        have H := H.ext e
        clear e
        refine ⟨_, rfl, ?_⟩
        have hcl := gctx_lt t (getP R W X) (x : Nat) (y : Nat)
        have hstep : rowG t (stepG m base) y (x + 1) (getP ws W X, s1) = .inl (upd (getP R W X) (x : Int) (y : Int) (decide ((Go.Ar.getD s2 (idx (base + ((gctx t (getP R W X) (x : Nat) (y : Nat) : Nat) : Int)) m)).2 = 1)), (Go.Ar.getD s2 (idx (base + ((gctx t (getP R W X) (x : Nat) (y : Nat) : Nat) : Int)) m)).1) := by
          rw [rowG, hrow]
          simp only [stepG]
        generalize gctx t (getP R W X) (x : Nat) (y : Nat) = cx at hcl hstep ⊢
        refine bindI_of ((base + (cx : Int))) (by exact i64_in _ (by omega) (by omega)) ?_
        refine gbit H hok (by omega) fun h' hok2 H => ?_
        refine ⟨_, _, rfl, ?_⟩
        refine bcase_false (by rfl) ?_
        have H0 := gload H
        refine ldI_of (hpA H0 0 rfl rfl) (ldI_of (hpA H0 0 rfl rfl) (ldS_of (hpA H0 0 rfl rfl) ?_))
        refine gput H hRl hRw hRz hx hy fun R2 h' k1 k2 k3 k4 H => ?_
        refine bindI_of (((x + 1 : Nat) : Int)) (by exact i64_at _ _ (by omega) (by omega) (by omega)) ?_
        refine ⟨n2 - 1, by omega, x + 1, R2, _, by omega, rfl, by rw [k4]; exact hstep, k1, k2, k3, fun a b hb => ?_, hok2, H⟩
        rw [k4]
        unfold upd
        rw [if_neg (by omega)]
        exact hRr a b hb
      · obtain rfl : W = x := by omega
        rw [hrow] at hnext
        refine bindI_of (((y + 1 : Nat) : Int)) (by exact i64_at _ _ (by omega) (by omega) (by omega)) ?_
        exact ⟨n - 1, by omega, y + 1, R, s2, k1 + W, by omega, rfl, hnext, hRl, hRw, hRz, hRr, by rw [Nat.add_mul, Nat.one_mul]; omega, by rw [← Nat.add_assoc]; exact hok, H⟩
  · obtain rfl : X = y := by omega
    have H := gload H
    repeat first | with_reducible refine ldI_of (by with_unfolding_all first | exact hpA H 0 rfl rfl | exact Hp.cell H 0 rfl rfl | exact hpB H 0 rfl rfl | exact hpC H 0 rfl rfl) ?_ | with_reducible refine ldS_of (by with_unfolding_all first | exact hpA H 0 rfl rfl | exact Hp.cell H 0 rfl rfl | exact hpB H 0 rfl rfl | exact hpC H 0 rfl rfl) ?_ | with_reducible refine ldP_of (by with_unfolding_all first | exact hpA H 0 rfl rfl | exact Hp.cell H 0 rfl rfl | exact hpB H 0 rfl rfl | exact hpC H 0 rfl rfl) ?_ | with_reducible refine ldB_of (by with_unfolding_all first | exact hpA H 0 rfl rfl | exact Hp.cell H 0 rfl rfl | exact hpB H 0 rfl rfl | exact hpC H 0 rfl rfl) ?_ | with_reducible refine ldT_of (by with_unfolding_all first | exact hpA H 0 rfl rfl | exact Hp.cell H 0 rfl rfl | exact hpB H 0 rfl rfl | exact hpC H 0 rfl rfl) ?_
    repeat first | with_reducible refine stA H 3 (by with_unfolding_all exact rfl) (by with_unfolding_all exact rfl) (by with_unfolding_all exact rfl) fun h H => ?_ | with_reducible refine st0 H 3 (by with_unfolding_all exact rfl) (by with_unfolding_all exact rfl) (by with_unfolding_all exact rfl) fun h H => ?_ | with_reducible refine stB H 3 (by with_unfolding_all exact rfl) (by with_unfolding_all exact rfl) (by with_unfolding_all exact rfl) fun h H => ?_
    repeat first | with_reducible refine ldI_of (by with_unfolding_all first | exact hpA H 3 rfl rfl | exact Hp.cell H 3 rfl rfl | exact hpB H 3 rfl rfl | exact hpC H 3 rfl rfl) ?_ | with_reducible refine ldS_of (by with_unfolding_all first | exact hpA H 3 rfl rfl | exact Hp.cell H 3 rfl rfl | exact hpB H 3 rfl rfl | exact hpC H 3 rfl rfl) ?_ | with_reducible refine ldP_of (by with_unfolding_all first | exact hpA H 3 rfl rfl | exact Hp.cell H 3 rfl rfl | exact hpB H 3 rfl rfl | exact hpC H 3 rfl rfl) ?_ | with_reducible refine ldB_of (by with_unfolding_all first | exact hpA H 3 rfl rfl | exact Hp.cell H 3 rfl rfl | exact hpB H 3 rfl rfl | exact hpC H 3 rfl rfl) ?_ | with_reducible refine ldT_of (by with_unfolding_all first | exact hpA H 3 rfl rfl | exact Hp.cell H 3 rfl rfl | exact hpB H 3 rfl rfl | exact hpC H 3 rfl rfl) ?_
    have hRN : N = ws.length := hwl.symm
    have H : Hp h0 [] h (([⟨r11, true, T_api_Bitmap, [.int .i64 (W : Nat), .int .i64 (X : Nat), .slice (at0 q) N N]⟩, ⟨q, true, T_uint64, u64s ws ++ []⟩, ⟨rp, true, T_int, plcI (plcs (spanL t))⟩, ⟨r1, true, T_api_Bitmap, [.int .i64 (W : Nat), .int .i64 (X : Nat), .slice (at0 q) N N]⟩] ++ (refD A e0 bp bc s ++ Y))) := H
    rw [hRN]
    refine hk ws s k q h hrun (by rw [hwl, hNd]) hww hwz hky hok ?_
    have H1 : Hp h0 [] h ([⟨q, true, T_uint64, u64s ws ++ []⟩] ++ (refD A e0 bp bc s ++ Y)) := H.sub (List.Sublist.append (by simp) (List.Sublist.refl _))
    exact H1.rot
end Go.Bm

/- GnI: burinref7.Encode and Decode; the answers are one. -/
set_option linter.unusedVariables false
set_option linter.unusedSimpArgs false
namespace Go.Bm
open Go Go.Den Go.Den.YtfaclehehhgpcaaGreat
open Go.Ar (Dec newD newD_ok u8s refD)

section
variable {hB : Heap} {w b template : Int} {skip : Bool} {K : Value → Heap → Prop} {Kp : List PanicEntry → Heap → Prop}
set_option maxRecDepth 100000 in
set_option maxHeartbeats 2000000 in
theorem rDec7_ok {src : Option Addr} {bc0 : Nat} {bytes : List Nat} (hbb : ∀ x ∈ bytes, x < 256) (hbl : bytes.length < 140737488351300) (hr : rdO hB src (bytes.length * 1) (u8s bytes))
    (hk : ∀ e w' b' bs s' D qo c h', GGetR bytes (gsize template.toNat + 1) 0 0 w b template skip (newD bytes (gsize template.toNat + 1)) e w' b' bs s' → Slot T_uint64 1 D qo bs.length c (u64s bs) → Hp hB [] h' D → K (.tuple #[.agg #[.int .i64 w', .int .i64 b', .slice qo bs.length c], .int .i64 e]) h') :
    CP F_burinref7_Decode #[.slice src bytes.length bc0, .int .i64 w, .int .i64 b, .int .i64 template, .bool skip] hB K Kp := by
  refine call_burinref7_Decode ?_
  unfold burinref7_Decode
  have H := Hp.nil hB []
  refine newC_hp H fun r1 h H => ?_
  refine may6_ok fun bt hbt => ?_
  refine ⟨_, rfl, ?_⟩
  refine bcase_not (fun h2 => ?_) fun h2 => ?_
  · repeat first | with_reducible refine ldI_of (by with_unfolding_all first | exact hpA H 0 rfl rfl | exact Hp.cell H 0 rfl rfl | exact hpB H 0 rfl rfl | exact hpC H 0 rfl rfl) ?_ | with_reducible refine ldS_of (by with_unfolding_all first | exact hpA H 0 rfl rfl | exact Hp.cell H 0 rfl rfl | exact hpB H 0 rfl rfl | exact hpC H 0 rfl rfl) ?_ | with_reducible refine ldP_of (by with_unfolding_all first | exact hpA H 0 rfl rfl | exact Hp.cell H 0 rfl rfl | exact hpB H 0 rfl rfl | exact hpC H 0 rfl rfl) ?_ | with_reducible refine ldB_of (by with_unfolding_all first | exact hpA H 0 rfl rfl | exact Hp.cell H 0 rfl rfl | exact hpB H 0 rfl rfl | exact hpC H 0 rfl rfl) ?_ | with_reducible refine ldT_of (by with_unfolding_all first | exact hpA H 0 rfl rfl | exact Hp.cell H 0 rfl rfl | exact hpB H 0 rfl rfl | exact hpC H 0 rfl rfl) ?_ | with_reducible refine stA H 0 (by with_unfolding_all exact rfl) (by with_unfolding_all exact rfl) (by with_unfolding_all exact rfl) fun h H => ?_ | with_reducible refine st0 H 0 (by with_unfolding_all exact rfl) (by with_unfolding_all exact rfl) (by with_unfolding_all exact rfl) fun h H => ?_ | with_reducible refine stB H 0 (by with_unfolding_all exact rfl) (by with_unfolding_all exact rfl) (by with_unfolding_all exact rfl) fun h H => ?_
    exact hk 60 0 0 [] _ [] none 0 _ (.inl ⟨(fun hh => by rw [hbt.2 hh] at h2; cases h2), rfl, rfl, rfl, rfl, rfl⟩) (Slot.nil _ _) (H.take 0)
  have htt := hbt.1 h2
  obtain ⟨t, rfl⟩ : ∃ t : Nat, template = (t : Int) := ⟨template.toNat, by omega⟩
  have ht : t < 4 := by omega
  have hgs := gsize_le ht
  simp only [Int.toNat_natCast] at hk
  refine rsize_ok fun bs hbs => ?_
  refine ⟨_, rfl, ?_⟩
  refine bcase_not (fun h3 => ?_) fun h3 => ?_
  · repeat first | with_reducible refine ldI_of (by with_unfolding_all first | exact hpA H 0 rfl rfl | exact Hp.cell H 0 rfl rfl | exact hpB H 0 rfl rfl | exact hpC H 0 rfl rfl) ?_ | with_reducible refine ldS_of (by with_unfolding_all first | exact hpA H 0 rfl rfl | exact Hp.cell H 0 rfl rfl | exact hpB H 0 rfl rfl | exact hpC H 0 rfl rfl) ?_ | with_reducible refine ldP_of (by with_unfolding_all first | exact hpA H 0 rfl rfl | exact Hp.cell H 0 rfl rfl | exact hpB H 0 rfl rfl | exact hpC H 0 rfl rfl) ?_ | with_reducible refine ldB_of (by with_unfolding_all first | exact hpA H 0 rfl rfl | exact Hp.cell H 0 rfl rfl | exact hpB H 0 rfl rfl | exact hpC H 0 rfl rfl) ?_ | with_reducible refine ldT_of (by with_unfolding_all first | exact hpA H 0 rfl rfl | exact Hp.cell H 0 rfl rfl | exact hpB H 0 rfl rfl | exact hpC H 0 rfl rfl) ?_ | with_reducible refine stA H 0 (by with_unfolding_all exact rfl) (by with_unfolding_all exact rfl) (by with_unfolding_all exact rfl) fun h H => ?_ | with_reducible refine st0 H 0 (by with_unfolding_all exact rfl) (by with_unfolding_all exact rfl) (by with_unfolding_all exact rfl) fun h H => ?_ | with_reducible refine stB H 0 (by with_unfolding_all exact rfl) (by with_unfolding_all exact rfl) (by with_unfolding_all exact rfl) fun h H => ?_
    exact hk 63 0 0 [] _ [] none 0 _ (.inr (.inl ⟨htt, (fun hh => by rw [hbs.2 hh] at h3; cases h3), rfl, rfl, rfl, rfl, rfl⟩)) (Slot.nil _ _) (H.take 0)
  have hs := hbs.1 h3
  have hpx := size_px1 hs
  obtain ⟨W, X, rfl, rfl, hW1, hW2, hX1, hX2, hWX⟩ := size_nat hs
  simp only [Int.toNat_natCast] at hpx
  refine need7_ok ht fun h' e => ?_
  have H := H.ext e
  clear e
  refine ⟨_, rfl, ?_⟩
  refine Go.Ar.rnewD_ok (n := gsize t + 1) (by omega) hbb hbl (H.rdO hr) fun A eb bp bc h' hbo H' => ?_
  have hw5 := hbo.1
  replace H := H.join H' (by simp [refD, Go.Ar.sideL, hbo.1])
  clear H'
  refine ⟨_, rfl, ?_⟩
  refine rGet7_ok (base := 0) (n0 := 0) (m := gsize t + 1) H.rot hbo hbl (newD_ok hbb _) (by omega) (by omega) (by decide) ht hs hpx fun bs s' k q h' hrun hlen hww hwz hkk hok H => ?_
  refine ⟨_, _, _, _, _, _, rfl, ?_⟩
  have H : Hp hB [] h' ([] ++ refD A eb bp bc s' ++ ([⟨r1, true, T_api_Bitmap, [.int .i64 0, .int .i64 0, .slice none 0 0]⟩, ⟨q, true, T_uint64, u64s bs ++ []⟩])) := H.as (by simp)
  have H := Hp.suf H
  repeat first | with_reducible refine ldI_of (by with_unfolding_all first | exact hpA H 0 rfl rfl | exact hpA H 1 rfl rfl | exact Hp.cell H 0 rfl rfl | exact Hp.cell H 1 rfl rfl | exact hpB H 0 rfl rfl | exact hpB H 1 rfl rfl | exact hpC H 0 rfl rfl | exact hpC H 1 rfl rfl) ?_ | with_reducible refine ldS_of (by with_unfolding_all first | exact hpA H 0 rfl rfl | exact hpA H 1 rfl rfl | exact Hp.cell H 0 rfl rfl | exact Hp.cell H 1 rfl rfl | exact hpB H 0 rfl rfl | exact hpB H 1 rfl rfl | exact hpC H 0 rfl rfl | exact hpC H 1 rfl rfl) ?_ | with_reducible refine ldP_of (by with_unfolding_all first | exact hpA H 0 rfl rfl | exact hpA H 1 rfl rfl | exact Hp.cell H 0 rfl rfl | exact Hp.cell H 1 rfl rfl | exact hpB H 0 rfl rfl | exact hpB H 1 rfl rfl | exact hpC H 0 rfl rfl | exact hpC H 1 rfl rfl) ?_ | with_reducible refine ldB_of (by with_unfolding_all first | exact hpA H 0 rfl rfl | exact hpA H 1 rfl rfl | exact Hp.cell H 0 rfl rfl | exact Hp.cell H 1 rfl rfl | exact hpB H 0 rfl rfl | exact hpB H 1 rfl rfl | exact hpC H 0 rfl rfl | exact hpC H 1 rfl rfl) ?_ | with_reducible refine ldT_of (by with_unfolding_all first | exact hpA H 0 rfl rfl | exact hpA H 1 rfl rfl | exact Hp.cell H 0 rfl rfl | exact Hp.cell H 1 rfl rfl | exact hpB H 0 rfl rfl | exact hpB H 1 rfl rfl | exact hpC H 0 rfl rfl | exact hpC H 1 rfl rfl) ?_ | with_reducible refine stA H 0 (by with_unfolding_all exact rfl) (by with_unfolding_all exact rfl) (by with_unfolding_all exact rfl) fun h H => ?_ | with_reducible refine stA H 1 (by with_unfolding_all exact rfl) (by with_unfolding_all exact rfl) (by with_unfolding_all exact rfl) fun h H => ?_ | with_reducible refine st0 H 0 (by with_unfolding_all exact rfl) (by with_unfolding_all exact rfl) (by with_unfolding_all exact rfl) fun h H => ?_ | with_reducible refine st0 H 1 (by with_unfolding_all exact rfl) (by with_unfolding_all exact rfl) (by with_unfolding_all exact rfl) fun h H => ?_ | with_reducible refine stB H 0 (by with_unfolding_all exact rfl) (by with_unfolding_all exact rfl) (by with_unfolding_all exact rfl) fun h H => ?_ | with_reducible refine stB H 1 (by with_unfolding_all exact rfl) (by with_unfolding_all exact rfl) (by with_unfolding_all exact rfl) fun h H => ?_
  have H : Hp hB [] h ([⟨r1, true, T_api_Bitmap, [.int .i64 (W : Nat), .int .i64 (X : Nat), .slice (at0 q) bs.length bs.length]⟩] ++ [⟨q, true, T_uint64, u64s bs ++ []⟩]) := H
  refine hk 0 _ _ bs s' [⟨q, true, T_uint64, u64s bs ++ []⟩] _ _ h (.inr (.inr (.inr ⟨htt, hs, ⟨by omega, by simp only [Int.toNat_natCast]; omega⟩, rfl, rfl, rfl, by simpa using hrun, by simpa using hlen, hww, by simpa using hwz, k, by simpa using hkk, by simpa using hok⟩))) (Slot.one (by rw [u64s_length, Nat.mul_one]) (by rw [List.length_append, u64s_length, Nat.mul_one]; simp)) (Hp.suf H)
end
theorem GEncR.det {w b template : Int} {skip : Bool} {ws : List Nat} {e1 e2 : Int} {bs1 bs2 : List Nat} (h1 : GEncR w b ws template skip e1 bs1) (h2 : GEncR w b ws template skip e2 bs2) : e1 = e2 ∧ bs1 = bs2 := by
  rcases h1 with ⟨a, b, c⟩ | ⟨a, s, b, c⟩ | ⟨a, s, b, G, s1, k, r, _, _, c⟩ <;> rcases h2 with ⟨a', b', c'⟩ | ⟨a', s', b', c'⟩ | ⟨a', s', b', G', s1', k', r', _, _, c'⟩
  · exact ⟨b.trans b'.symm, c.trans c'.symm⟩
  · exact absurd a' a
  · exact absurd a' a
  · exact absurd a a'
  · exact ⟨b.trans b'.symm, c.trans c'.symm⟩
  · exact absurd s' s
  · exact absurd a a'
  · exact absurd s s'
  · refine ⟨b.trans b'.symm, ?_⟩
    rw [r] at r'
    injection r' with r'
    injection r' with _ r'
    rw [c, c', r']
theorem GGetR.det {bytes : List Nat} {m n0 : Nat} {base w b template : Int} {skip : Bool} {s : Dec} {e1 a1 c1 e2 a2 c2 : Int} {bs1 bs2 : List Nat} {s1 s2 : Dec}
    (h1 : GGetR bytes m n0 base w b template skip s e1 a1 c1 bs1 s1) (h2 : GGetR bytes m n0 base w b template skip s e2 a2 c2 bs2 s2) : e1 = e2 ∧ a1 = a2 ∧ c1 = c2 ∧ bs1 = bs2 ∧ s1 = s2 := by
  rcases h1 with ⟨p, q1, q2, q3, q4, q5⟩ | ⟨p, p2, q1, q2, q3, q4, q5⟩ | ⟨p, p2, p3, q1, q2, q3, q4, q5⟩ | ⟨p, p2, p3, q1, q2, q3, q4, lx, wx, zx, dx'⟩ <;>
  rcases h2 with ⟨p', r1, r2, r3, r4, r5⟩ | ⟨p', p2', r1, r2, r3, r4, r5⟩ | ⟨p', p2', p3', r1, r2, r3, r4, r5⟩ | ⟨p', p2', p3', r1, r2, r3, r4, ly, wy, zy, dy'⟩ <;>
  first
    | contradiction
    | exact ⟨q1.trans r1.symm, q2.trans r2.symm, q3.trans r3.symm, q4.trans r4.symm, q5.trans r5.symm⟩
    | skip
  rw [q4] at r4
  injection r4 with r4
  injection r4 with r4 r5
  obtain ⟨W, X, rfl, rfl, _⟩ := size_nat p2
  simp only [Int.toNat_natCast] at r4 lx ly zx zy
  exact ⟨q1.trans r1.symm, q2.trans r2.symm, q3.trans r3.symm, getP_ext lx ly wx wy zx zy r4, r5⟩
end Go.Bm

/- PbH: page.DecodeRegion. -/
set_option linter.unusedVariables false
set_option linter.unusedSimpArgs false
namespace Go.Bm
open Go Go.Den Go.Den.YtfaclehehhgpcaaGreat
open Go.Ar (u8s u8s_length newD)

def regPR (b : List Nat) : Except Int (Nat × Nat × Nat × Nat × Nat × Nat) := match placeP b 0 with
  | .error e => .error e
  | .ok (x, i1) => match placeP b i1 with
    | .error e => .error e
    | .ok (y, i2) => match sizeP b i2 with
      | .error e => .error e
      | .ok ((w, h), i3) => match byteP b i3 with
        | .error e => .error e
        | .ok (how, i4) => if 63 < how ∨ 4 < how / 8 then .error 150 else .ok (x, y, w, h, how, i4)
/-- What decoding a region answers. -/
def RgR (b : List Nat) (e x y op t : Int) (sk : Bool) (w g : Int) (ys : List Nat) : Prop :=
  (regPR b = .error e ∧ e ≠ 0 ∧ x = 0 ∧ y = 0 ∧ op = 0 ∧ t = 0 ∧ sk = false ∧ w = 0 ∧ g = 0 ∧ ys = []) ∨
  ∃ x0 y0 w0 h0 how i : Nat, regPR b = .ok (x0, y0, w0, h0, how, i) ∧ i ≤ b.length ∧ how < 64 ∧ how / 8 ≤ 4 ∧ SizeP (w0 : Int) (h0 : Int) ∧ e = 0 ∧ x = (x0 : Int) ∧ y = (y0 : Int) ∧ op = ((how / 8 : Nat) : Int) ∧ t = ((how % 4 : Nat) : Int) ∧ sk = Nat.beq (how / 4 % 2) 1 ∧ w = (w0 : Int) ∧ g = (h0 : Int) ∧
    ∃ s', GGetR (b.drop i) (gsize (how % 4) + 1) 0 0 (w0 : Int) (h0 : Int) ((how % 4 : Nat) : Int) (Nat.beq (how / 4 % 2) 1) (newD (b.drop i) (gsize (how % 4) + 1)) 0 (w0 : Int) (h0 : Int) ys s'
theorem RgR.det {b : List Nat} {e x y op t w g e' x' y' op' t' w' g' : Int} {sk sk' : Bool} {ys ys' : List Nat} (h : RgR b e x y op t sk w g ys) (h' : RgR b e' x' y' op' t' sk' w' g' ys') : e = e' ∧ x = x' ∧ y = y' ∧ op = op' ∧ t = t' ∧ sk = sk' ∧ w = w' ∧ g = g' ∧ ys = ys' := by
  rcases h with ⟨h0, _, rfl, rfl, rfl, rfl, rfl, rfl, rfl, rfl⟩ | ⟨x0, y0, w0, h0, how, i, hp, _, _, _, _, rfl, rfl, rfl, rfl, rfl, rfl, rfl, rfl, s1, g1⟩
  · rcases h' with ⟨h0', _, rfl, rfl, rfl, rfl, rfl, rfl, rfl, rfl⟩ | ⟨_, _, _, _, _, _, hp', _⟩
    · rw [h0] at h0'
      injection h0' with h0'
      exact ⟨h0', rfl, rfl, rfl, rfl, rfl, rfl, rfl, rfl⟩
    · rw [h0] at hp'; cases hp'
  · rcases h' with ⟨h0', _⟩ | ⟨x0', y0', w0', h0', how', i', hp', _, _, _, _, rfl, rfl, rfl, rfl, rfl, rfl, rfl, rfl, s1', g1'⟩
    · rw [hp] at h0'; cases h0'
    · rw [hp] at hp'
      injection hp' with hp'
      simp only [Prod.mk.injEq] at hp'
      obtain ⟨rfl, rfl, rfl, rfl, rfl, rfl⟩ := hp'
      obtain ⟨_, _, _, hys, _⟩ := g1.det g1'
      exact ⟨rfl, rfl, rfl, rfl, rfl, rfl, rfl, rfl, hys⟩
theorem rdO_drop {h : Heap} {q : Option Addr} {c i : Nat} {b : List Nat} (hr : rdO h q (b.length * 1) (u8s b)) (hi : i ≤ b.length) (hc : b.length ≤ c) : rdO h (subA q c i 1) ((b.drop i).length * 1) (u8s (b.drop i)) := by
  have hd : u8s (b.drop i) = (u8s b).drop i := by simp [u8s, List.map_drop]
  cases q with
  | none =>
    have h0 : u8s b = [] := hr
    have e : subA none c i 1 = none := by unfold subA; split <;> rfl
    rw [e, hd, h0]
    exact List.drop_nil
  | some a =>
    unfold subA
    by_cases h1 : c = i
    · rw [if_pos h1]
      have : b.drop i = [] := List.drop_eq_nil_of_le (by omega)
      rw [this]
      exact ⟨rfl, fun j v hj => by simp [u8s] at hj⟩
    · rw [if_neg h1]
      refine ⟨by rw [u8s_length, Nat.mul_one], fun j v hj => ?_⟩
      rw [hd, List.getElem?_drop] at hj
      have := hr.2 _ v hj
      show hcell h ((a.add (i * 1)).add j) = _
      rw [Nat.mul_one, Go.Ar.add_add']
      exact this
def how3 : Bool := (List.range 256).all fun x => Nat.beq (x &&& 3) (x % 4) && (Nat.beq (x &&& 4) 0 == !(Nat.beq (x / 4 % 2) 1))
theorem how3_t : how3 = true := by kernel_rfl
theorem how_of {x : Nat} (hx : x < 256) : (x &&& 3) = x % 4 ∧ (((x &&& 4 : Nat) : Int) != 0) = Nat.beq (x / 4 % 2) 1 := by
  have h := List.all_eq_true.1 how3_t x (List.mem_range.2 hx)
  simp only [Bool.and_eq_true] at h
  refine ⟨Nat.eq_of_beq_eq_true h.1, ?_⟩
  have h2 := h.2
  by_cases h0 : (x &&& 4) = 0
  · rw [h0] at h2 ⊢
    have h2 : (true == !(Nat.beq (x / 4 % 2) 1)) = true := h2
    cases hb : Nat.beq (x / 4 % 2) 1 with
    | true => rw [hb] at h2; cases h2
    | false => rfl
  · have hb0 : Nat.beq (x &&& 4) 0 = false := Bool.eq_false_iff.2 fun hh => h0 (Nat.eq_of_beq_eq_true hh)
    rw [hb0] at h2
    have h2 : (false == !(Nat.beq (x / 4 % 2) 1)) = true := h2
    cases hb : Nat.beq (x / 4 % 2) 1 with
    | true => simp; omega
    | false => rw [hb] at h2; cases h2
section
variable {hB : Heap} {K : Value → Heap → Prop} {Kp : List PanicEntry → Heap → Prop} {q : Option Addr} {c : Nat} {b : List Nat}
def zReg : List Value := [.int .i64 0, .int .i64 0, .int .i64 0, .int .i64 0, .bool false, .int .i64 0, .int .i64 0, .slice none 0 0]
set_option maxRecDepth 100000 in
set_option maxHeartbeats 8000000 in
theorem decRegion_ok (hb : RdB b) (hr : rdO hB q (b.length * 1) (u8s b)) (hcap : b.length ≤ c)
    (hk : ∀ e x y op t sk w g ys D qo co h', RgR b e x y op t sk w g ys → Slot T_uint64 1 D qo ys.length co (u64s ys) → Hp hB [] h' D → K (.tuple #[.agg #[.int .i64 x, .int .i64 y, .int .i64 op, .int .i64 t, .bool sk, .int .i64 w, .int .i64 g, .slice qo ys.length co], .int .i64 e]) h') :
    CP F_page_DecodeRegion #[.slice q b.length c] hB K Kp := by
  refine call_page_DecodeRegion ?_
  unfold page_DecodeRegion
  have hbl := hb.bl
  have H := Hp.nil hB []
  refine newC_hp H fun r1 h H => ?_
  refine newC_hp H fun r3 h H => ?_
  refine newC_hp H fun r5 h H => ?_
  have H : Hp hB [] h [⟨r1, true, T_s_uint8, [.slice q b.length c]⟩, ⟨r3, true, T_api_Region, zReg⟩, ⟨r5, true, T_api_Region, zReg⟩] := H
  refine ldS_of (H.cell 0 rfl rfl) ?_
  refine pread_ok (fun L2 => ∃ x y op t sk w g ys D qo co, RgR b 0 x y op t sk w g ys ∧ Slot T_uint64 1 D qo ys.length co (u64s ys) ∧ L2 = [⟨r1, true, T_s_uint8, [.slice q b.length c]⟩, ⟨r3, true, T_api_Region, zReg⟩, ⟨r5, true, T_api_Region, [.int .i64 x, .int .i64 y, .int .i64 op, .int .i64 t, .bool sk, .int .i64 w, .int .i64 g, .slice qo ys.length co]⟩] ++ D)
    (fun e L2 => regPR b = .error e ∧ e ≠ 0 ∧ ∃ cs, L2 = [⟨r1, true, T_s_uint8, [.slice q b.length c]⟩, ⟨r3, true, T_api_Region, zReg⟩, ⟨r5, true, T_api_Region, cs⟩]) hb hr H (fun {r rr q' c' D h1 K1 Kp1} hs H hK hKp => ?_) (fun h' L' hp H => ?_) fun e h' L' hp H => ?_
  · show CP F_page_DecodeRegion_c1 #[.agg #[.pointer (some ⟨rr, 0, none⟩)], .pointer (some ⟨r5, 0, none⟩), .pointer (some ⟨r1, 0, none⟩)] h1 K1 Kp1
    refine call_page_DecodeRegion_c1 (cap0 := ⟨r5, 0, none⟩) (cap1 := ⟨r1, 0, none⟩) ?_
    unfold page_DecodeRegion_c1
    refine newC_hp H fun r2 h H => ?_
    have H := H.rot
    obtain ⟨A, hA⟩ : ∃ A : List Value → List Ent, A = fun cs => [⟨r2, true, T_page_reader, [.pointer (some ⟨rr, 0, none⟩)]⟩, ⟨r, true, T_api_Errno, [.int .i64 0]⟩, ⟨r1, true, T_s_uint8, [.slice q b.length c]⟩, ⟨r3, true, T_api_Region, zReg⟩, ⟨r5, true, T_api_Region, cs⟩] := ⟨_, rfl⟩
    have hAd : ∀ cs, A cs = [⟨r2, true, T_page_reader, [.pointer (some ⟨rr, 0, none⟩)]⟩, ⟨r, true, T_api_Errno, [.int .i64 0]⟩, ⟨r1, true, T_s_uint8, [.slice q b.length c]⟩, ⟨r3, true, T_api_Region, zReg⟩, ⟨r5, true, T_api_Region, cs⟩] := fun cs => by rw [hA]
    have bad : ∀ {e : Int} {i' : Nat} {h : Heap} {cs : List Value}, regPR b = .error e → e ≠ 0 → Hp hB [] h (A cs ++ (rdE rr q' b.length c' i' :: D)) → Kp1 (flt e) h := fun {e i' h cs} he he0 H => by
      refine hKp e h _ i' ⟨he, he0, cs, rfl⟩ ?_
      rw [hAd] at H
      exact Hp.suf (X := [⟨r2, true, T_page_reader, [.pointer (some ⟨rr, 0, none⟩)]⟩]) H
    have H : Hp hB [] h (A zReg ++ (rdE rr q' b.length c' 0 :: D)) := by rw [hAd]; exact H
    have rdp : ∀ {i' : Nat} {h : Heap} {cs : List Value} {K2 : Option Addr → Prop}, Hp hB [] h (A cs ++ (rdE rr q' b.length c' i' :: D)) → K2 (some ⟨rr, 0, none⟩) → ldP h ((⟨r2, 0, none⟩ : Addr).add 0) K2 := fun {i' h cs K2} H hK2 => by
      rw [hAd] at H
      exact ldP_of (hpA H 0 rfl rfl) hK2
    refine rdp H ?_
    refine place_ok (Hp.giveS H) hs hb (Nat.zero_le _) (fun x i1 h hx hi1 hxM H' => ?_) fun i' h hx hi' H' => ?_
    rotate_left
    · exact bad (e := 150) (by unfold regPR; rw [hx]) (by decide) (Hp.putS H (rdw hs _) H' (rdw hs _))
    have H := Hp.putS H (rdw hs _) H' (rdw hs _)
    clear H'
    refine ⟨_, rfl, ?_⟩
    rw [hAd] at H
    refine stA H 4 rfl rfl rfl fun h H => ?_
    have H : Hp hB [] h (A [.int .i64 (x : Nat), .int .i64 0, .int .i64 0, .int .i64 0, .bool false, .int .i64 0, .int .i64 0, .slice none 0 0] ++ (rdE rr q' b.length c' i1 :: D)) := by rw [hAd]; exact H
    refine rdp H ?_
    refine place_ok (Hp.giveS H) hs hb hi1 (fun y i2 h hy hi2 hyM H' => ?_) fun i' h hy hi' H' => ?_
    rotate_left
    · exact bad (e := 150) (by unfold regPR; rw [hx]; dsimp only; rw [hy]) (by decide) (Hp.putS H (rdw hs _) H' (rdw hs _))
    have H := Hp.putS H (rdw hs _) H' (rdw hs _)
    clear H'
    refine ⟨_, rfl, ?_⟩
    rw [hAd] at H
    refine stA H 4 rfl rfl rfl fun h H => ?_
    have H : Hp hB [] h (A [.int .i64 (x : Nat), .int .i64 (y : Nat), .int .i64 0, .int .i64 0, .bool false, .int .i64 0, .int .i64 0, .slice none 0 0] ++ (rdE rr q' b.length c' i2 :: D)) := by rw [hAd]; exact H
    refine rdp H ?_
    refine size_ok (Hp.giveS H) hs hb hi2 (fun w g i3 h hsz hi3 hP H' => ?_) fun e i' h hsz he hi' H' => ?_
    rotate_left
    · exact bad (by unfold regPR; rw [hx]; dsimp only; rw [hy]; dsimp only; rw [hsz]) he (Hp.putS H (rdw hs _) H' (rdw hs _))
    have H := Hp.putS H (rdw hs _) H' (rdw hs _)
    clear H'
    refine ⟨_, _, rfl, ?_⟩
    refine rdp H ?_
    refine pbyte_ok (Hp.giveS H) hs hb hi3 (fun how i4 h hhow hi4 hh8 H' => ?_) fun i' h hhow hi' H' => ?_
    rotate_left
    · exact bad (e := 150) (by unfold regPR; rw [hx]; dsimp only; rw [hy]; dsimp only; rw [hsz]; dsimp only; rw [hhow]) (by decide) (Hp.putS H (rdw hs _) H' (rdw hs _))
    have H := Hp.putS H (rdw hs _) H' (rdw hs _)
    clear H'
    refine ⟨_, rfl, ?_⟩
    have hreg : regPR b = if 63 < how ∨ 4 < how / 8 then .error 150 else .ok (x, y, w, g, how, i4) := by unfold regPR; rw [hx]; dsimp only; rw [hy]; dsimp only; rw [hsz]; dsimp only; rw [hhow]
    refine ⟨fun _ h' => ¬ (63 < how ∨ 4 < how / 8) ∧ h' = h, ?_, ?_⟩
    · refine bcase_dec (fun h1 => ?_) fun h1 => ?_
      · refine wrong_ok (fun h2 => by cases h2) fun _ => ?_
        exact bad (e := 150) (by rw [hreg, if_pos (.inl (by omega))]) (by decide) H
      · refine bindI_of (((how / 8 : Nat) : Int)) (by exact shr_of (i := 3) (by decide)) ?_
        refine operation_ok fun bo hbo => ?_
        refine ⟨_, rfl, ?_⟩
        refine wrong_ok (fun h2 => ?_) fun h2 => ?_
        · have h2 : bo = true := by simpa using h2
          have := hbo.1 h2
          exact ⟨by omega, rfl⟩
        · have h2 : bo = false := by simpa using h2
          have h3 : ¬ (0 ≤ ((how / 8 : Nat) : Int) ∧ ((how / 8 : Nat) : Int) ≤ 4) := fun hh => by rw [hbo.2 hh] at h2; cases h2
          exact bad (e := 150) (by rw [hreg, if_pos (.inr (by omega))]) (by decide) H
    rintro h' u ⟨hok, rfl⟩
    rw [if_neg hok] at hreg
    obtain ⟨hw1, hw2⟩ := how_of hh8
    refine bindI_of (((how / 8 : Nat) : Int)) (by exact shr_of (i := 3) (by decide)) ?_
    refine bindI_of (((how % 4 : Nat) : Int)) (by exact (and63 how 3 (by omega) (by decide)).trans (by rw [hw1])) ?_
    refine bindI_of (((how &&& 4 : Nat) : Int)) (by exact and63 how 4 (by omega) (by decide)) ?_
    rw [hw2]
    generalize hsk : Nat.beq (how / 4 % 2) 1 = sk
    rw [hAd] at H
    refine stA H 4 rfl rfl rfl fun h H => ?_
    refine stA H 4 rfl rfl rfl fun h H => ?_
    refine stA H 4 rfl rfl rfl fun h H => ?_
    have H : Hp hB [] h (A [.int .i64 (x : Nat), .int .i64 (y : Nat), .int .i64 ((how / 8 : Nat) : Int), .int .i64 ((how % 4 : Nat) : Int), .bool sk, .int .i64 0, .int .i64 0, .slice none 0 0] ++ (rdE rr q' b.length c' i4 :: D)) := by rw [hAd]; exact H
    have H2 := H
    rw [hAd] at H2
    refine ldS_of (H2.cell 2 rfl rfl) (ldS_of (H2.cell 2 rfl rfl) ?_)
    refine rdp H ?_
    refine ldI_of (hpA H2 4 rfl rfl) (ldB_of (hpA H2 4 rfl rfl) ?_)
    clear H2
    refine rleft_ok (Hp.suf H) hb hi4 ?_
    refine ⟨_, rfl, hext.refl _, ?_⟩
    refine bindI_of (((b.length - i4 : Nat) : Int)) (by exact i64_at _ _ (by rw [show ((8 * (b.length - i4) : Nat) : Int).tdiv 8 = ((8 * (b.length - i4) / 8 : Nat) : Int) from rfl]; omega) (by omega) (by omega)) ?_
    refine bindI_of (((i4 : Nat) : Int)) (by exact i64_at _ _ (by omega) (by omega) (by omega)) ?_
    refine needs_of (by omega) ?_
    rw [Int.toNat_natCast]
    have hdl : (b.drop i4).length = b.length - i4 := List.length_drop
    have ht4 : (0 : Int) ≤ ((how % 4 : Nat) : Int) ∧ ((how % 4 : Nat) : Int) < 4 := by omega
    rw [← hdl]
    refine gDec_ok (bytes := b.drop i4) (fun z hz => hb.b8 z (List.mem_of_mem_drop hz)) (by omega) (H.rdO (rdO_drop hr hi4 hcap)) fun e1 w1 g1 ys s1 DD qo co h hg hsl H' => ?_
    have hg2 := hg
    have e10 : e1 = 0 ∧ w1 = (w : Int) ∧ g1 = (g : Int) := by
      rcases hg2 with ⟨hh, _⟩ | ⟨_, hh, _⟩ | ⟨_, _, hh, _⟩ | ⟨_, _, _, h1, h2, h3, _⟩
      · exact absurd ht4 hh
      · exact absurd hP hh
      · exact absurd ⟨by omega, by simp only [Int.toNat_natCast]; omega⟩ hh
      · exact ⟨h1, h2, h3⟩
    clear hg2
    obtain ⟨rfl, rfl, rfl⟩ := e10
    replace H := H.join H' hsl.w
    clear H'
    refine ⟨_, _, _, _, _, _, rfl, ?_⟩
    rw [hAd] at H
    refine stB H 4 rfl rfl rfl fun h H => ?_
    refine stB H 4 rfl rfl rfl fun h H => ?_
    refine stB H 4 rfl rfl rfl fun h H => ?_
    refine bcase_false (by rfl) ?_
    have H : Hp hB [] h (([⟨r2, true, T_page_reader, [.pointer (some ⟨rr, 0, none⟩)]⟩, ⟨r, true, T_api_Errno, [.int .i64 0]⟩, ⟨r1, true, T_s_uint8, [.slice q b.length c]⟩, ⟨r3, true, T_api_Region, zReg⟩, ⟨r5, true, T_api_Region, [.int .i64 (x : Nat), .int .i64 (y : Nat), .int .i64 ((how / 8 : Nat) : Int), .int .i64 ((how % 4 : Nat) : Int), .bool sk, .int .i64 (w : Nat), .int .i64 (g : Nat), .slice qo ys.length co]⟩] ++ (rdE rr q' b.length c' i4 :: D)) ++ DD) := H
    refine hK h _ i4 ⟨_, _, _, _, sk, _, _, ys, DD, qo, co, .inr ⟨x, y, w, g, how, i4, hreg, hi4, by omega, by omega, hP, rfl, rfl, rfl, rfl, rfl, hsk.symm, rfl, rfl, s1, by rw [hsk]; simp only [Int.toNat_natCast] at hg; exact hg⟩, hsl, rfl⟩ ?_
    have H3 := Hp.suf (X := [⟨r2, true, T_page_reader, [.pointer (some ⟨rr, 0, none⟩)]⟩]) (Y := ([⟨r, true, T_api_Errno, [.int .i64 0]⟩, ⟨r1, true, T_s_uint8, [.slice q b.length c]⟩, ⟨r3, true, T_api_Region, zReg⟩, ⟨r5, true, T_api_Region, [.int .i64 (x : Nat), .int .i64 (y : Nat), .int .i64 ((how / 8 : Nat) : Int), .int .i64 ((how % 4 : Nat) : Int), .bool sk, .int .i64 (w : Nat), .int .i64 (g : Nat), .slice qo ys.length co]⟩] ++ (rdE rr q' b.length c' i4 :: D)) ++ DD) H
    exact (Hp.swap H3).as (by simp only [List.append_assoc, List.cons_append, List.nil_append])
  · obtain ⟨x, y, op, t, sk, w, g, ys, D, qo, co, hR, hsl, rfl⟩ := hp
    refine ⟨_, rfl, ?_⟩
    refine bcase_false (by rfl) ?_
    refine ldI_of (hpA H 2 rfl rfl) (ldI_of (hpA H 2 rfl rfl) (ldI_of (hpA H 2 rfl rfl) (ldI_of (hpA H 2 rfl rfl) (ldB_of (hpA H 2 rfl rfl) (ldI_of (hpA H 2 rfl rfl) (ldI_of (hpA H 2 rfl rfl) (ldS_of (hpA H 2 rfl rfl) ?_)))))))
    repeat first | with_reducible refine stA H 1 (by with_unfolding_all exact rfl) (by with_unfolding_all exact rfl) (by with_unfolding_all exact rfl) fun h H => ?_ | with_reducible refine st0 H 1 (by with_unfolding_all exact rfl) (by with_unfolding_all exact rfl) (by with_unfolding_all exact rfl) fun h H => ?_ | with_reducible refine stB H 1 (by with_unfolding_all exact rfl) (by with_unfolding_all exact rfl) (by with_unfolding_all exact rfl) fun h H => ?_
    refine ldI_of (hpA H 1 rfl rfl) (ldI_of (hpA H 1 rfl rfl) (ldI_of (hpA H 1 rfl rfl) (ldI_of (hpA H 1 rfl rfl) (ldB_of (hpA H 1 rfl rfl) (ldI_of (hpA H 1 rfl rfl) (ldI_of (hpA H 1 rfl rfl) (ldS_of (hpA H 1 rfl rfl) ?_)))))))
    have H : Hp hB [] h ([⟨r1, true, T_s_uint8, [.slice q b.length c]⟩, ⟨r3, true, T_api_Region, [.int .i64 x, .int .i64 y, .int .i64 op, .int .i64 t, .bool sk, .int .i64 w, .int .i64 g, .slice qo ys.length co]⟩, ⟨r5, true, T_api_Region, [.int .i64 x, .int .i64 y, .int .i64 op, .int .i64 t, .bool sk, .int .i64 w, .int .i64 g, .slice qo ys.length co]⟩] ++ D) := H
    exact hk 0 x y op t sk w g ys D qo co h hR hsl (Hp.suf H)
  · obtain ⟨hsh, he, cs, rfl⟩ := hp
    refine ⟨_, rfl, ?_⟩
    refine bcase_ne (fun _ => ?_) fun hh => absurd hh he
    repeat first | with_reducible refine stA H 1 (by with_unfolding_all exact rfl) (by with_unfolding_all exact rfl) (by with_unfolding_all exact rfl) fun h H => ?_ | with_reducible refine st0 H 1 (by with_unfolding_all exact rfl) (by with_unfolding_all exact rfl) (by with_unfolding_all exact rfl) fun h H => ?_ | with_reducible refine stB H 1 (by with_unfolding_all exact rfl) (by with_unfolding_all exact rfl) (by with_unfolding_all exact rfl) fun h H => ?_
    refine ldI_of (hpA H 1 rfl rfl) (ldI_of (hpA H 1 rfl rfl) (ldI_of (hpA H 1 rfl rfl) (ldI_of (hpA H 1 rfl rfl) (ldB_of (hpA H 1 rfl rfl) (ldI_of (hpA H 1 rfl rfl) (ldI_of (hpA H 1 rfl rfl) (ldS_of (hpA H 1 rfl rfl) ?_)))))))
    exact hk e 0 0 0 0 false 0 0 [] [] none 0 h (.inl ⟨hsh, he, rfl, rfl, rfl, rfl, rfl, rfl, rfl, rfl⟩) (Slot.nil _ _) (H.take 0)
end
end Go.Bm

/- Written by gen.py: the conditions of the functions of burinref1. -/
set_option linter.unusedVariables false
set_option linter.unusedSimpArgs false
namespace Go.Den.YtfaclehehhgpcaaGreat
open Go Go.Den

/- burin/burinref1.Groups -/
/- (*burin/burinref1.Reader).Left -/
set_option maxRecDepth 100000 in
def burinref1_Reader_Left (C : CallP) (r : Option Addr) (h : Heap) (K : Value → Heap → Prop) (Kp : List PanicEntry → Heap → Prop) : Prop :=
ptr r fun a_1 =>
ptr r fun a_2 =>
ldS h (a_1.add 0) fun x_3 x_3n x_3c =>
bindI (IntKind.i64.wrap ((8 : Int) * (x_3n : Int))) fun z_4 =>
ldI h (a_2.add 1) .i64 fun x_5 =>
bindI (IntKind.i64.wrap (z_4 - x_5)) fun z_6 =>
K (.int .i64 z_6) h

/- (*burin/burinref1.Reader).Var -/
set_option maxRecDepth 100000 in
def burinref1_Reader_Var (C : CallP) (r : Option Addr) (h : Heap) (K : Value → Heap → Prop) (Kp : List PanicEntry → Heap → Prop) : Prop :=
ptr r fun a_1 =>
ldI h (a_1.add 1) .i64 fun x_2 =>
∃ J_3 : Nat → List Value → Heap → Prop, (∃ n_5, J_3 n_5 [.int .u64 0, .int .i64 0] h) ∧ ∀ (n_5 : Nat) (h_6 : Heap) (u_7 : Nat → Value) (n_8 : Int) (i_9 : Int), J_3 n_5 [.int .u64 n_8, .int .i64 i_9] h_6 → (
bcase (decide (i_9 < (10 : Int))) (
C F_burinref1_Reader_Take #[.pointer r, .int .i64 8] h_6 (fun v_10 h_11 =>
∃ (r_12 : Int), ∃ (r_13 : Int), v_10 = .tuple #[.int .u64 r_12, .int .i64 r_13] ∧ (
bcase (r_13 != (0 : Int)) (
ptr r fun a_14 =>
stV h_11 (a_14.add 1) (.int .i64 x_2) fun h_15 =>
K (.tuple #[.int .u64 0, .int .i64 14]) h_15) <|
∃ K_16 : List Value → Heap → Prop, (
bcase (i_9 == (9 : Int)) (
bcase (decide (r_12 > (1 : Int))) (
ptr r fun a_19 =>
stV h_11 (a_19.add 1) (.int .i64 x_2) fun h_20 =>
K (.tuple #[.int .u64 0, .int .i64 16]) h_20) <|
bcase (decide (i_9 > (0 : Int))) (
bcase (r_12 == (0 : Int)) (
ptr r fun a_21 =>
stV h_11 (a_21.add 1) (.int .i64 x_2) fun h_22 =>
K (.tuple #[.int .u64 0, .int .i64 16]) h_22) <|
K_16 [] h_11) <|
K_16 [] h_11) <|
bcase (decide (i_9 > (0 : Int))) (
bcase (r_12 == (0 : Int)) (
ptr r fun a_23 =>
stV h_11 (a_23.add 1) (.int .i64 x_2) fun h_24 =>
K (.tuple #[.int .u64 0, .int .i64 16]) h_24) <|
K_16 [] h_11) <|
K_16 [] h_11) ∧ ∀ (h_17 : Heap) (u_18 : Nat → Value) , K_16 [] h_17 → (
bindI (r_12.tmod (128 : Int)) fun z_25 =>
bindI (IntKind.i64.wrap ((7 : Int) * i_9)) fun z_26 =>
bindI (IntKind.u64.wrap z_26) fun z_27 =>
needs (0 ≤ z_27) <|
bindI (shlI .u64 z_25 z_27) fun z_28 =>
bindI (IntKind.u64.wrap (n_8 + z_28)) fun z_29 =>
bcase (decide (r_12 < (128 : Int))) (
K (.tuple #[.int .u64 z_29, .int .i64 0]) h_17) <|
bindI (IntKind.i64.wrap (i_9 + (1 : Int))) fun z_30 =>
∃ m_4, m_4 < n_5 ∧ J_3 m_4 [.int .u64 z_29, .int .i64 z_30] h_17))) (Kp)) <|
ptr r fun a_31 =>
stV h_6 (a_31.add 1) (.int .i64 x_2) fun h_32 =>
K (.tuple #[.int .u64 0, .int .i64 16]) h_32)

/- (*burin/burinref1.Reader).Take -/
set_option maxRecDepth 100000 in
def burinref1_Reader_Take (C : CallP) (r : Option Addr) (width : Int) (h : Heap) (K : Value → Heap → Prop) (Kp : List PanicEntry → Heap → Prop) : Prop :=
bcase (decide (width < (0 : Int))) (
K (.tuple #[.int .u64 0, .int .i64 11]) h) <|
bcase (decide (width > (64 : Int))) (
K (.tuple #[.int .u64 0, .int .i64 11]) h) <|
C F_burinref1_Reader_Left #[.pointer r] h (fun v_1 h_2 =>
∃ (r_3 : Int), v_1 = .int .i64 r_3 ∧ (
bcase (decide (r_3 < width)) (
K (.tuple #[.int .u64 0, .int .i64 14]) h_2) <|
∃ J_4 : Nat → List Value → Heap → Prop, (∃ n_6, J_4 n_6 [.int .u64 0, .int .i64 0] h_2) ∧ ∀ (n_6 : Nat) (h_7 : Heap) (u_8 : Nat → Value) (n_9 : Int) (i_10 : Int), J_4 n_6 [.int .u64 n_9, .int .i64 i_10] h_7 → (
bcase (decide (i_10 < width)) (
bindI (IntKind.u64.wrap ((2 : Int) * n_9)) fun z_11 =>
ptr r fun a_12 =>
ptr r fun a_13 =>
ptr r fun a_14 =>
ldS h_7 (a_12.add 0) fun x_15 x_15n x_15c =>
ldI h_7 (a_13.add 1) .i64 fun x_16 =>
bindI (IntKind.i64.wrap (x_16.tdiv (8 : Int))) fun z_17 =>
needs (0 ≤ z_17 ∧ z_17 < (x_15n : Int)) <|
ptr x_15 fun a_18 =>
ldI h_7 (a_18.add (z_17.toNat * 1)) .u8 fun x_19 =>
ldI h_7 (a_14.add 1) .i64 fun x_20 =>
bindI (x_20.tmod (8 : Int)) fun z_21 =>
bindI (IntKind.i64.wrap ((7 : Int) - z_21)) fun z_22 =>
bindI (IntKind.u64.wrap z_22) fun z_23 =>
needs (0 ≤ z_23) <|
bindI (shrI .u8 x_19 z_23) fun z_24 =>
bindI (bitI .and .u8 z_24 (1 : Int)) fun z_25 =>
bindI (IntKind.u64.wrap z_25) fun z_26 =>
bindI (IntKind.u64.wrap (z_11 + z_26)) fun z_27 =>
ptr r fun a_28 =>
ldI h_7 (a_28.add 1) .i64 fun x_29 =>
bindI (IntKind.i64.wrap (x_29 + (1 : Int))) fun z_30 =>
ptr r fun a_31 =>
stV h_7 (a_31.add 1) (.int .i64 z_30) fun h_32 =>
bindI (IntKind.i64.wrap (i_10 + (1 : Int))) fun z_33 =>
∃ m_5, m_5 < n_6 ∧ J_4 m_5 [.int .u64 z_27, .int .i64 z_33] h_32) <|
K (.tuple #[.int .u64 n_9, .int .i64 0]) h_7))) (Kp)

end Go.Den.YtfaclehehhgpcaaGreat

/- Written by gen.py: each condition of the functions of burinref1 is the one of its body; so it is enough for its call. -/
set_option linter.unusedVariables false
set_option linter.unusedSimpArgs false
namespace Go.Den.YtfaclehehhgpcaaGreat
open Go Go.Den

noncomputable def hints_burinref1_Reader_Left : Hints := Hints.mk (fun i => bif Nat.beq i 1 then some ([], .take 0 <| .take 1 <| .take 2 <| .take 6 <| .take 7 <| .take 8 <| .take 3 <| .take 4 <| .take 5 <| .take 9 <| .take 10 <| .take 11 <| .done) else (none))
  (fun i => none)
  (fun i => none) []
set_option maxRecDepth 100000 in
theorem eq_burinref1_Reader_Left (C : CallP) (r : Option Addr) (h : Heap) (K : Value → Heap → Prop) (Kp : List PanicEntry → Heap → Prop) :
    fnD Go.Proofs.Tryz.prog C hints_burinref1_Reader_Left Go.Proofs.Tryz.f75 [.pointer r] h K Kp = burinref1_Reader_Left C r h K Kp := by kernel_rfl

theorem call_burinref1_Reader_Left {r : Option Addr} {h : Heap} {K : Value → Heap → Prop} {Kp : List PanicEntry → Heap → Prop} (H : burinref1_Reader_Left (CallsHP Go.Proofs.Tryz.prog) r h K Kp) : CallsHP Go.Proofs.Tryz.prog F_burinref1_Reader_Left #[.pointer r] h K Kp :=
  callsHP_of hints_burinref1_Reader_Left (by kernel_rfl) Go.Proofs.Tryz.func75 (by kernel_rfl) (by rw [eq_burinref1_Reader_Left]; exact H)

noncomputable def hints_burinref1_Reader_Var : Hints := Hints.mk (fun i => none)
  (fun i => bif Nat.beq i 4 then some ([(5, .int .u64), (6, .int .i64)], 144115188075848172) else (none))
  (fun i => bif Nat.beq i 13 then some ([], 70368475742220) else (none)) []
set_option maxRecDepth 100000 in
theorem eq_burinref1_Reader_Var (C : CallP) (r : Option Addr) (h : Heap) (K : Value → Heap → Prop) (Kp : List PanicEntry → Heap → Prop) :
    fnD Go.Proofs.Tryz.prog C hints_burinref1_Reader_Var Go.Proofs.Tryz.f115 [.pointer r] h K Kp = burinref1_Reader_Var C r h K Kp := by kernel_rfl

theorem call_burinref1_Reader_Var {r : Option Addr} {h : Heap} {K : Value → Heap → Prop} {Kp : List PanicEntry → Heap → Prop} (H : burinref1_Reader_Var (CallsHP Go.Proofs.Tryz.prog) r h K Kp) : CallsHP Go.Proofs.Tryz.prog F_burinref1_Reader_Var #[.pointer r] h K Kp :=
  callsHP_of hints_burinref1_Reader_Var (by kernel_rfl) Go.Proofs.Tryz.func115 (by kernel_rfl) (by rw [eq_burinref1_Reader_Var]; exact H)

noncomputable def hints_burinref1_Reader_Take : Hints := Hints.mk (fun i => bif Nat.beq i 9 then some ([], .take 0 <| .take 1 <| .take 2 <| .take 3 <| .take 4 <| .take 6 <| .take 7 <| .take 8 <| .take 13 <| .take 14 <| .take 15 <| .take 5 <| .take 9 <| .take 10 <| .take 11 <| .take 12 <| .take 16 <| .take 17 <| .take 18 <| .take 19 <| .take 20 <| .take 21 <| .take 22 <| .take 23 <| .take 24 <| .done) else (none))
  (fun i => bif Nat.beq i 7 then some ([(6, .int .u64), (7, .int .i64)], 18014398509220032) else (none))
  (fun i => none) []
set_option maxRecDepth 100000 in
theorem eq_burinref1_Reader_Take (C : CallP) (r : Option Addr) (width : Int) (h : Heap) (K : Value → Heap → Prop) (Kp : List PanicEntry → Heap → Prop) :
    fnD Go.Proofs.Tryz.prog C hints_burinref1_Reader_Take Go.Proofs.Tryz.f134 [.pointer r, .int .i64 width] h K Kp = burinref1_Reader_Take C r width h K Kp := by kernel_rfl

theorem call_burinref1_Reader_Take {r : Option Addr} {width : Int} {h : Heap} {K : Value → Heap → Prop} {Kp : List PanicEntry → Heap → Prop} (H : burinref1_Reader_Take (CallsHP Go.Proofs.Tryz.prog) r width h K Kp) : CallsHP Go.Proofs.Tryz.prog F_burinref1_Reader_Take #[.pointer r, .int .i64 width] h K Kp :=
  callsHP_of hints_burinref1_Reader_Take (by kernel_rfl) Go.Proofs.Tryz.func134 (by kernel_rfl) (by rw [eq_burinref1_Reader_Take]; exact H)

end Go.Den.YtfaclehehhgpcaaGreat

/- PbI: the document's readers: bits, numbers, sheets. -/
set_option linter.unusedVariables false
set_option linter.unusedSimpArgs false
namespace Go.Bm
open Go Go.Den Go.Den.YtfaclehehhgpcaaGreat
open Go.Ar (u8s)

/-- The two readers' rows. -/
def r1E (ra : Nat) (q : Option Addr) (n c : Nat) (at_ : Nat) : Ent := ⟨ra, true, T_burinref1_Reader, [.slice q n c, .int .i64 (at_ : Nat)]⟩
def rrL (ra rb : Nat) (q : Option Addr) (n c i : Nat) (e : Int) (M : List Ent) : List Ent := r1E ra q n c (8 * i) :: ⟨rb, true, T_burinref15_reader, [.pointer (some ⟨ra, 0, none⟩), .int .i64 e]⟩ :: M
section
variable {hB h : Heap} {K : Value → Heap → Prop} {Kp : List PanicEntry → Heap → Prop} {q : Option Addr} {c i ra rb : Nat} {b : List Nat} {M : List Ent} {e : Int}
theorem left1_ok (H : Hp hB [] h (r1E ra q b.length c i :: M)) (hb : RdB b) (hi : i ≤ 8 * b.length) (hk : K (.int .i64 ((8 * b.length - i : Nat) : Int)) h) : CP F_burinref1_Reader_Left #[.pointer (some ⟨ra, 0, none⟩)] h K Kp := by
  refine call_burinref1_Reader_Left ?_
  unfold burinref1_Reader_Left
  have hbl := hb.bl
  refine ptr_of (a := ⟨ra, 0, none⟩) (ptr_of (a := ⟨ra, 0, none⟩) ?_)
  refine ldS_of (hpA H 0 rfl rfl) ?_
  refine bindI_of (((8 * b.length : Nat) : Int)) (by exact i64_at _ _ (by omega) (by omega) (by omega)) ?_
  refine ldI_of (hpA H 0 rfl rfl) ?_
  refine bindI_of (((8 * b.length - i : Nat) : Int)) (by exact i64_at _ _ (by omega) (by omega) (by omega)) ?_
  exact hk
set_option maxRecDepth 100000 in
set_option maxHeartbeats 2000000 in
theorem take1_ok (H : Hp hB [] h (r1E ra q b.length c (8 * i) :: M)) (hr : rdO hB q (b.length * 1) (u8s b)) (hb : RdB b) (hi : i ≤ b.length)
    (hk0 : b[i]? = none → K (.tuple #[.int .u64 0, .int .i64 14]) h) (hk1 : ∀ x h', b[i]? = some x → Hp hB [] h' (r1E ra q b.length c (8 * (i + 1)) :: M) → K (.tuple #[.int .u64 (x : Nat), .int .i64 0]) h') :
    CP F_burinref1_Reader_Take #[.pointer (some ⟨ra, 0, none⟩), .int .i64 8] h K Kp := by
  refine call_burinref1_Reader_Take ?_
  unfold burinref1_Reader_Take
  have hbl := hb.bl
  refine bcase_dec (fun h1 => absurd h1 (by decide)) fun _ => ?_
  refine bcase_dec (fun h1 => absurd h1 (by decide)) fun _ => ?_
  refine left1_ok H hb (by omega) ?_
  refine ⟨_, rfl, ?_⟩
  refine bcase_dec (fun h1 => hk0 (List.getElem?_eq_none (by omega))) fun h1 => ?_
  obtain ⟨x, hx⟩ : ∃ x, b[i]? = some x := ⟨_, List.getElem?_eq_getElem (by omega)⟩
  have hx8 := hb.b8 x (List.mem_of_getElem? hx)
  refine ⟨fun f vs h' => ∃ j : Nat, j + f = 8 ∧ vs = [.int .u64 ((x / 2 ^ (8 - j) : Nat) : Int), .int .i64 (j : Nat)] ∧ Hp hB [] h' (r1E ra q b.length c (8 * i + j) :: M), ⟨8, 0, rfl, by rw [Nat.sub_zero, Nat.div_eq_of_lt (show x < 2 ^ 8 by omega)]; rfl, H⟩, ?_⟩
  clear H
  rintro f h u xa xb ⟨j, hjf, hxx, H⟩
  injection hxx with hx1 hxx
  injection hxx with hx2 hxx
  injection hx1 with _ hx1
  injection hx2 with _ hx2
  subst xa xb
  refine bcase_dec (fun h2 => ?_) fun h2 => ?_
  · have hj : j < 8 := by omega
    obtain ⟨d1, d2, d3⟩ := dn_step hx8 hj
    have hb2 : x / 2 ^ (7 - j) % 2 < 256 := by omega
    have hxd : x / 2 ^ (7 - j) < 256 := Nat.lt_of_le_of_lt (Nat.div_le_self _ _) hx8
    obtain ⟨a, rfl, hc⟩ := rdO_cell (H.rdO hr) (i := i) (v := .int .u8 (x : Nat)) (by unfold u8s; rw [List.getElem?_map, hx]; rfl)
    refine bindI_of (((x / 2 ^ (8 - j) * 2 : Nat) : Int)) (by exact u64_at _ _ (by omega) (by omega) (by omega)) ?_
    refine ptr_of (a := ⟨ra, 0, none⟩) (ptr_of (a := ⟨ra, 0, none⟩) (ptr_of (a := ⟨ra, 0, none⟩) ?_))
    refine ldS_of (hpA H 0 rfl rfl) (ldI_of (hpA H 0 rfl rfl) ?_)
    refine bindI_of (((i : Nat) : Int)) (by exact i64_at _ _ (by rw [show ((8 * i + j : Nat) : Int).tdiv 8 = (((8 * i + j) / 8 : Nat) : Int) from rfl]; omega) (by omega) (by omega)) ?_
    refine needs_of (by omega) (ptr_of (a := a) ?_)
    rw [Int.toNat_natCast, Nat.mul_one]
    refine ldI_of hc ?_
    refine ldI_of (hpA H 0 rfl rfl) ?_
    refine bindI_of (((j : Nat) : Int)) (by exact (tmod_nat (8 * i + j) 8).trans (by omega)) ?_
    refine bindI_of (((7 - j : Nat) : Int)) (by exact i64_at _ _ (by omega) (by omega) (by omega)) ?_
    refine bindI_of (((7 - j : Nat) : Int)) (by exact u64_in _ (by omega) (by omega)) ?_
    refine needs_of (by omega) ?_
    refine bindI_of (((x / 2 ^ (7 - j) : Nat) : Int)) (by exact shr_of (by show 7 - j ≤ 8; omega)) ?_
    refine bindI_of (((x / 2 ^ (7 - j) % 2 : Nat) : Int)) (by exact (and8 _ 1 hxd (by decide)).trans (by rw [Nat.and_one_is_mod])) ?_
    refine bindI_of (((x / 2 ^ (7 - j) % 2 : Nat) : Int)) (by exact u64_in _ (by omega) (by omega)) ?_
    refine bindI_of (((x / 2 ^ (8 - (j + 1)) : Nat) : Int)) (by exact u64_at _ _ (by omega) (by omega) (by omega)) ?_
    refine ptr_of (a := ⟨ra, 0, none⟩) ?_
    refine ldI_of (hpA H 0 rfl rfl) ?_
    refine bindI_of (((8 * i + (j + 1) : Nat) : Int)) (by exact i64_at _ _ (by omega) (by omega) (by omega)) ?_
    refine ptr_of (a := ⟨ra, 0, none⟩) ?_
    refine stA H 0 rfl rfl rfl fun h H => ?_
    refine bindI_of (((j + 1 : Nat) : Int)) (by exact i64_at _ _ (by omega) (by omega) (by omega)) ?_
    exact ⟨f - 1, by omega, j + 1, by omega, rfl, H⟩
  · have hj : j = 8 := by omega
    subst hj
    rw [Nat.sub_self, Nat.pow_zero, Nat.div_one]
    exact hk1 x h hx H
set_option maxRecDepth 100000 in
set_option maxHeartbeats 4000000 in
theorem var1_ok (H : Hp hB [] h (r1E ra q b.length c (8 * i) :: M)) (hr : rdO hB q (b.length * 1) (u8s b)) (hb : RdB b) (hi : i ≤ b.length)
    (hk : ∀ h', Hp hB [] h' (r1E ra q b.length c (8 * (varP b i).2.2) :: M) → K (.tuple #[.int .u64 ((varP b i).2.1 : Nat), .int .i64 (varP b i).1]) h') :
    CP F_burinref1_Reader_Var #[.pointer (some ⟨ra, 0, none⟩)] h K Kp := by
  refine call_burinref1_Reader_Var ?_
  unfold burinref1_Reader_Var
  have hbl := hb.bl
  refine ptr_of (a := ⟨ra, 0, none⟩) ?_
  refine ldI_of (hpA H 0 rfl rfl) ?_
  refine ⟨fun f vs h' => ∃ (j n : Nat), j + f = 10 ∧ n < 128 ^ j ∧ varF b i f j n = varP b i ∧ i + j ≤ b.length ∧ vs = [.int .u64 (n : Nat), .int .i64 (j : Nat)] ∧ Hp hB [] h' (r1E ra q b.length c (8 * (i + j)) :: M), ⟨10, 0, 0, rfl, by decide, rfl, hi, rfl, H⟩, ?_⟩
  clear H
  rintro f h u xa xb ⟨j, n, hjf, hn, hv, hij, hxx, H⟩
  injection hxx with hx1 hxx
  injection hxx with hx2 hxx
  injection hx1 with _ hx1
  injection hx2 with _ hx2
  subst xa xb
  have back : ∀ {h : Heap} {p : Nat} {e : Int}, varP b i = (e, 0, i) → Hp hB [] h (r1E ra q b.length c p :: M) → ptr (some ⟨ra, 0, none⟩) fun a_14 => stV h (a_14.add 1) (.int .i64 ((8 * i : Nat) : Int)) fun h_15 => K (.tuple #[.int .u64 0, .int .i64 e]) h_15 := fun {h p e} hvp H => by
    refine ptr_of (a := ⟨ra, 0, none⟩) ?_
    refine stA H 0 rfl rfl rfl fun h H => ?_
    rw [hvp] at hk
    exact hk h H
  refine bcase_dec (fun h1 => ?_) fun h1 => ?_
  rotate_left
  · have hf : f = 0 := by omega
    subst hf
    exact back (e := 16) hv.symm H
  obtain ⟨f, rfl⟩ : ∃ g, f = g + 1 := ⟨f - 1, by omega⟩
  refine take1_ok H hr hb hij (fun hnone => ?_) fun y h hy H => ?_
  · refine ⟨_, _, rfl, ?_⟩
    refine bcase_true (by rfl) ?_
    refine back (e := 14) ?_ H
    rw [← hv]
    unfold varF
    rw [hnone]
  have hy8 := hb.b8 y (List.mem_of_getElem? hy)
  have hyl := (List.getElem?_eq_some_iff.1 hy).1
  refine ⟨_, _, rfl, ?_⟩
  refine bcase_false (by rfl) ?_
  have err : (j = 9 ∧ 1 < y ∨ 0 < j ∧ y = 0) → varP b i = (16, 0, i) := fun hc => by
    rw [← hv]
    unfold varF
    rw [hy]
    dsimp only
    rw [if_pos hc]
  refine ⟨fun _ h' => h' = h ∧ ¬ (j = 9 ∧ 1 < y ∨ 0 < j ∧ y = 0), ?_, ?_⟩
  · refine bcase_eq (fun h9 => ?_) fun h9 => ?_
    · refine bcase_dec (fun h10 => back (err (.inl ⟨by omega, by omega⟩)) H) fun h10 => ?_
      refine bcase_dec (fun h11 => ?_) fun h11 => ⟨rfl, by omega⟩
      refine bcase_eq (fun h12 => back (err (.inr ⟨by omega, by omega⟩)) H) fun h12 => ⟨rfl, by omega⟩
    · refine bcase_dec (fun h11 => ?_) fun h11 => ⟨rfl, by omega⟩
      refine bcase_eq (fun h12 => back (err (.inr ⟨by omega, by omega⟩)) H) fun h12 => ⟨rfl, by omega⟩
  rintro h' u ⟨rfl, hnc⟩
  have hm127 : y % 128 * 128 ^ j ≤ 127 * 128 ^ j := Nat.mul_le_mul_right _ (by omega)
  have hp1 : 128 ^ (j + 1) = 128 * 128 ^ j := by rw [Nat.pow_succ, Nat.mul_comm]
  have hz : n + y % 128 * 128 ^ j < 18446744073709551616 := by
    by_cases hj : j = 9
    · have h1 : y % 128 ≤ 1 := by omega
      have h2 : y % 128 * 128 ^ j ≤ 1 * 128 ^ j := Nat.mul_le_mul_right _ h1
      rw [hj] at h2 hn ⊢
      have e9 : (128 : Nat) ^ 9 = 9223372036854775808 := by decide
      omega
    · have h2 : 128 ^ (j + 1) ≤ 128 ^ 9 := Nat.pow_le_pow_right (by decide) (by omega)
      have e9 : (128 : Nat) ^ 9 = 9223372036854775808 := by decide
      omega
  refine bindI_of (((y % 128 : Nat) : Int)) (by exact tmod_nat y 128) ?_
  refine bindI_of (((7 * j : Nat) : Int)) (by exact i64_at _ _ (by omega) (by omega) (by omega)) ?_
  refine bindI_of (((7 * j : Nat) : Int)) (by exact u64_in _ (by omega) (by omega)) ?_
  refine needs_of (by omega) ?_
  refine bindI_of (((y % 128 * 128 ^ j : Nat) : Int)) (by exact shl_of (by show 7 * j ≤ 64; omega) (by rw [pow7]; exact u64_in _ (by omega) (by omega))) ?_
  refine bindI_of (((n + y % 128 * 128 ^ j : Nat) : Int)) (by exact u64_at _ _ (by simp) (by omega) (by omega)) ?_
  refine bcase_dec (fun h13 => ?_) fun h13 => ?_
  · have hvp : varP b i = (0, n + y % 128 * 128 ^ j, i + j + 1) := by
      rw [← hv]
      unfold varF
      rw [hy]
      dsimp only
      rw [if_neg hnc, if_pos (by omega)]
    rw [hvp] at hk
    exact hk _ H
  · refine bindI_of (((j + 1 : Nat) : Int)) (by exact i64_at _ _ (by omega) (by omega) (by omega)) ?_
    refine ⟨f, by omega, j + 1, n + y % 128 * 128 ^ j, by omega, by omega, ?_, by omega, rfl, H⟩
    rw [← hv]
    conv => rhs; unfold varF
    rw [hy]
    dsimp only
    rw [if_neg hnc, if_neg (by omega)]

/-! ### burinref15's reader -/
theorem fault_ok {e2 : Int} (H : Hp hB [] h (rrL ra rb q b.length c i e M)) (hk : ∀ h', Hp hB [] h' (rrL ra rb q b.length c i (if e = 0 then e2 else e) M) → K (.tuple #[]) h') : CP F_burinref15_reader_fault #[.pointer (some ⟨rb, 0, none⟩), .int .i64 e2] h K Kp := by
  refine call_burinref15_reader_fault ?_
  unfold burinref15_reader_fault
  refine ptr_of (a := ⟨rb, 0, none⟩) ?_
  refine ldI_of (hpA H 1 rfl rfl) ?_
  refine bcase_eq (fun h1 => ?_) fun h1 => ?_
  · refine ptr_of (a := ⟨rb, 0, none⟩) ?_
    refine stA H 1 rfl rfl rfl fun h H => ?_
    rw [if_pos h1] at hk
    exact hk h H
  · rw [if_neg h1] at hk
    exact hk h H
/-- What a reading leaves: nothing is read any more, a thing is read, or the fault. -/
def RdO {α : Type} (P : Except Int (α × Nat)) (e : Int) (i : Nat) (z : α) (e' : Int) (n : α) (i' : Nat) : Prop :=
  e ≠ 0 ∧ e' = e ∧ i' = i ∧ n = z ∨ e = 0 ∧ P = .ok (n, i') ∧ e' = 0 ∨ e = 0 ∧ P = .error e' ∧ e' ≠ 0
theorem num_ok (H : Hp hB [] h (rrL ra rb q b.length c i e M)) (hr : rdO hB q (b.length * 1) (u8s b)) (hb : RdB b) (hi : i ≤ b.length)
    (hk : ∀ e' n i' h', RdO (numP b i) e i 0 e' n i' → i' ≤ b.length → n < 18446744073709551616 → Hp hB [] h' (rrL ra rb q b.length c i' e' M) → K (.int .u64 (n : Nat)) h') :
    CP F_burinref15_reader_num #[.pointer (some ⟨rb, 0, none⟩)] h K Kp := by
  refine call_burinref15_reader_num ?_
  unfold burinref15_reader_num
  refine ptr_of (a := ⟨rb, 0, none⟩) ?_
  refine ldI_of (hpA H 1 rfl rfl) ?_
  refine bcase_ne (fun h1 => hk e 0 i h (.inl ⟨h1, rfl, rfl, rfl⟩) hi (by decide) H) fun h1 => ?_
  subst h1
  refine ptr_of (a := ⟨rb, 0, none⟩) ?_
  refine ldP_of (hpA H 1 rfl rfl) ?_
  have hle := varP_le hi
  have hlt := varP_lt b i
  refine var1_ok H hr hb hi fun h H => ?_
  refine ⟨_, _, rfl, ?_⟩
  refine bcase_ne (fun h1 => ?_) fun h1 => ?_
  · have H : Hp hB [] h (rrL ra rb q b.length c (varP b i).2.2 0 M) := H
    refine fault_ok H fun h H => ?_
    rw [if_pos rfl] at H
    exact hk 150 _ _ h (.inr (.inr ⟨rfl, by unfold numP; rw [if_neg h1], by decide⟩)) hle hlt H
  · exact hk 0 _ _ h (.inr (.inl ⟨rfl, by unfold numP; rw [if_pos h1], rfl⟩)) hle hlt H
theorem below_ok (H : Hp hB [] h (rrL ra rb q b.length c i e M)) (hr : rdO hB q (b.length * 1) (u8s b)) (hb : RdB b) (hi : i ≤ b.length)
    (hk : ∀ e' n i' h', RdO (placeP b i) e i 0 e' n i' → i' ≤ b.length → n ≤ 1048576 → Hp hB [] h' (rrL ra rb q b.length c i' e' M) → K (.int .i64 (n : Nat)) h') :
    CP F_burinref15_reader_below #[.pointer (some ⟨rb, 0, none⟩)] h K Kp := by
  refine call_burinref15_reader_below ?_
  unfold burinref15_reader_below
  refine num_ok H hr hb hi fun e' n i' h hO hi' hn H => ?_
  refine ⟨_, rfl, ?_⟩
  refine bcase_dec (fun h1 => ?_) fun h1 => ?_
  · refine fault_ok H fun h H => ?_
    rcases hO with ⟨h2, rfl, rfl, rfl⟩ | ⟨h2, h3, rfl⟩ | ⟨h2, h3, h4⟩
    · omega
    · rw [if_pos rfl] at H
      exact hk 150 0 i' h (.inr (.inr ⟨h2, by unfold placeP; rw [h3]; dsimp only; rw [if_pos (by omega)], by decide⟩)) hi' (by omega) H
    · rw [if_neg h4] at H
      exact hk e' 0 i' h (.inr (.inr ⟨h2, by unfold placeP; rw [h3], h4⟩)) hi' (by omega) H
  · refine bindI_of (((n : Nat) : Int)) (by exact i64_in _ (by omega) (by omega)) ?_
    refine hk e' n i' h ?_ hi' (by omega) H
    rcases hO with ⟨h2, rfl, rfl, rfl⟩ | ⟨h2, h3, rfl⟩ | ⟨h2, h3, h4⟩
    · exact .inl ⟨h2, rfl, rfl, rfl⟩
    · exact .inr (.inl ⟨h2, by unfold placeP; rw [h3]; dsimp only; rw [if_neg (by omega)], rfl⟩)
    · exact .inr (.inr ⟨h2, by unfold placeP; rw [h3], h4⟩)
def byteM (b : List Nat) (i most : Nat) : Except Int (Nat × Nat) := match byteP b i with
  | .error e => .error e
  | .ok (n, j) => if most < n then .error 150 else .ok (n, j)
theorem rbyte_ok {most : Nat} (H : Hp hB [] h (rrL ra rb q b.length c i e M)) (hr : rdO hB q (b.length * 1) (u8s b)) (hb : RdB b) (hi : i ≤ b.length)
    (hk : ∀ e' n i' h', RdO (byteM b i most) e i 0 e' n i' → i' ≤ b.length → n < 256 → Hp hB [] h' (rrL ra rb q b.length c i' e' M) → K (.int .i64 (n : Nat)) h') :
    CP F_burinref15_reader_byte #[.pointer (some ⟨rb, 0, none⟩), .int .u64 (most : Nat)] h K Kp := by
  refine call_burinref15_reader_byte ?_
  unfold burinref15_reader_byte
  refine ptr_of (a := ⟨rb, 0, none⟩) ?_
  refine ldI_of (hpA H 1 rfl rfl) ?_
  refine bcase_ne (fun h1 => hk e 0 i h (.inl ⟨h1, rfl, rfl, rfl⟩) hi (by decide) H) fun h1 => ?_
  subst h1
  refine ptr_of (a := ⟨rb, 0, none⟩) ?_
  refine ldP_of (hpA H 1 rfl rfl) ?_
  refine take1_ok H hr hb hi (fun hn => ?_) fun x h hx H => ?_
  · refine ⟨_, _, rfl, ?_⟩
    refine bcase_true (by rfl) ?_
    refine fault_ok H fun h H => ?_
    rw [if_pos rfl] at H
    exact hk 150 0 i h (.inr (.inr ⟨rfl, by unfold byteM byteP; rw [hn], by decide⟩)) hi (by decide) H
  · have hx8 := hb.b8 x (List.mem_of_getElem? hx)
    have hxl := (List.getElem?_eq_some_iff.1 hx).1
    have H : Hp hB [] h (rrL ra rb q b.length c (i + 1) 0 M) := H
    refine ⟨_, _, rfl, ?_⟩
    refine bcase_false (by rfl) ?_
    refine bcase_dec (fun h1 => ?_) fun h1 => ?_
    · refine fault_ok H fun h H => ?_
      rw [if_pos rfl] at H
      exact hk 150 0 (i + 1) h (.inr (.inr ⟨rfl, by unfold byteM byteP; rw [hx]; dsimp only; rw [if_pos (by omega)], by decide⟩)) hxl (by decide) H
    · refine bindI_of (((x : Nat) : Int)) (by exact i64_in _ (by omega) (by omega)) ?_
      exact hk 0 x (i + 1) h (.inr (.inl ⟨rfl, by unfold byteM byteP; rw [hx]; dsimp only; rw [if_neg (by omega)], rfl⟩)) hxl hx8 H
set_option maxRecDepth 100000 in
set_option maxHeartbeats 2000000 in
theorem rsize15_ok (H : Hp hB [] h (rrL ra rb q b.length c i e M)) (hr : rdO hB q (b.length * 1) (u8s b)) (hb : RdB b) (hi : i ≤ b.length)
    (hk : ∀ e' w g i' h', RdO (sizeP b i) e i (0, 0) e' (w, g) i' → i' ≤ b.length → (e' = 0 → SizeP (w : Int) (g : Int)) → Hp hB [] h' (rrL ra rb q b.length c i' e' M) → K (.tuple #[.int .i64 (w : Nat), .int .i64 (g : Nat)]) h') :
    CP F_burinref15_reader_size #[.pointer (some ⟨rb, 0, none⟩)] h K Kp := by
  refine call_burinref15_reader_size ?_
  unfold burinref15_reader_size
  refine num_ok H hr hb hi fun e1 w i1 h hO1 hi1 hw H => ?_
  refine ⟨_, rfl, ?_⟩
  refine ⟨fun _ h' => Hp hB [] h' (rrL ra rb q b.length c i1 (if e1 = 0 ∧ w = 0 then 150 else e1) M), ?_, ?_⟩
  · refine ptr_of (a := ⟨rb, 0, none⟩) ?_
    refine ldI_of (hpA H 1 rfl rfl) ?_
    refine bcase_eq (fun h1 => ?_) fun h1 => ?_
    · refine bcase_eq (fun h2 => ?_) fun h2 => ?_
      · refine fault_ok H fun h H => ?_
        rw [if_pos h1] at H
        rw [if_pos ⟨h1, by omega⟩]
        exact H
      · rw [if_neg (fun hh => h2 (by omega))]
        exact H
    · rw [if_neg (fun hh => h1 hh.1)]
      exact H
  clear H
  intro h u H
  obtain ⟨e2, he2⟩ : ∃ e2, e2 = (if e1 = 0 ∧ w = 0 then 150 else e1) := ⟨_, rfl⟩
  rw [← he2] at H
  refine num_ok H hr hb hi1 fun e3 g i2 h hO2 hi2 hg H => ?_
  refine ⟨_, rfl, ?_⟩
  refine ⟨fun _ h' => Hp hB [] h' (rrL ra rb q b.length c i2 (if e3 = 0 ∧ g = 0 then 150 else e3) M), ?_, ?_⟩
  · refine ptr_of (a := ⟨rb, 0, none⟩) ?_
    refine ldI_of (hpA H 1 rfl rfl) ?_
    refine bcase_eq (fun h1 => ?_) fun h1 => ?_
    · refine bcase_eq (fun h2 => ?_) fun h2 => ?_
      · refine fault_ok H fun h H => ?_
        rw [if_pos h1] at H
        rw [if_pos ⟨h1, by omega⟩]
        exact H
      · rw [if_neg (fun hh => h2 (by omega))]
        exact H
    · rw [if_neg (fun hh => h1 hh.1)]
      exact H
  clear H
  intro h u H
  obtain ⟨e4, he4⟩ : ∃ e4, e4 = (if e3 = 0 ∧ g = 0 then 150 else e3) := ⟨_, rfl⟩
  rw [← he4] at H
  have hw0 : e4 = 0 → w ≠ 0 ∧ g ≠ 0 ∧ e3 = 0 ∧ e2 = 0 ∧ e1 = 0 ∧ e = 0 := fun h4 => by
    have h3 : e3 = 0 ∧ g ≠ 0 := by
      by_cases hh : e3 = 0 ∧ g = 0
      · rw [if_pos hh] at he4; omega
      · rw [if_neg hh] at he4; omega
    have h2 : e2 = 0 := by rcases hO2 with ⟨a, b', _⟩ | ⟨a, _⟩ | ⟨a, _⟩ <;> first | exact a | omega
    have h1 : e1 = 0 ∧ w ≠ 0 := by
      by_cases hh : e1 = 0 ∧ w = 0
      · rw [if_pos hh] at he2; omega
      · rw [if_neg hh] at he2; omega
    have h0 : e = 0 := by rcases hO1 with ⟨a, b', _⟩ | ⟨a, _⟩ | ⟨a, _⟩ <;> first | exact a | omega
    exact ⟨h1.2, h3.2, h3.1, h2, h1.1, h0⟩
  refine ⟨fun _ h' => Hp hB [] h' (rrL ra rb q b.length c i2 (if e4 = 0 ∧ (1048576 < w ∨ 1048576 < g ∨ 1048576 < w * g) then 120 else e4) M), ?_, ?_⟩
  · refine ptr_of (a := ⟨rb, 0, none⟩) ?_
    refine ldI_of (hpA H 1 rfl rfl) ?_
    refine bcase_eq (fun h1 => ?_) fun h1 => ?_
    · obtain ⟨hwn, hgn, _⟩ := hw0 h1
      refine bcase_dec (fun h2 => ?_) fun h2 => ?_
      · refine fault_ok H fun h H => ?_
        rw [if_pos h1] at H
        rw [if_pos ⟨h1, .inl (by omega)⟩]
        exact H
      · refine needs_of ⟨rfl, by omega⟩ ?_
        have hdl : 1048576 / w ≤ 1048576 := Nat.div_le_self _ _
        have hdi : 1048576 / w < g ↔ 1048576 < w * g := by
          rw [Nat.div_lt_iff_lt_mul (by omega), Nat.mul_comm]
        obtain ⟨dv, hdv⟩ : ∃ dv, dv = 1048576 / w := ⟨_, rfl⟩
        rw [← hdv] at hdl hdi
        have hgg : 1048576 < g → 1048576 < w * g := fun hh => Nat.lt_of_lt_of_le hh (Nat.le_mul_of_pos_left g (by omega))
        refine bindI_of (((dv : Nat) : Int)) (by exact u64_at _ _ (by rw [hdv]; exact (Int.ofNat_tdiv 1048576 w).symm) (by omega) (by omega)) ?_
        refine bcase_dec (fun h3 => ?_) fun h3 => ?_
        · refine fault_ok H fun h H => ?_
          rw [if_pos h1] at H
          rw [if_pos ⟨h1, .inr (.inr (hdi.1 (by omega)))⟩]
          exact H
        · rw [if_neg (fun hh => by
            rcases hh.2 with hh | hh | hh
            · omega
            · have := hdi.2 (hgg hh); omega
            · have := hdi.2 hh; omega)]
          exact H
    · rw [if_neg (fun hh => h1 hh.1)]
      exact H
  clear H
  intro h u H
  obtain ⟨e5, he5⟩ : ∃ e5, e5 = (if e4 = 0 ∧ (1048576 < w ∨ 1048576 < g ∨ 1048576 < w * g) then 120 else e4) := ⟨_, rfl⟩
  rw [← he5] at H
  have hO : ∀ {w' g' : Nat}, (e5 = 0 → w' = w ∧ g' = g) → (e5 ≠ 0 → w' = 0 ∧ g' = 0) → RdO (sizeP b i) e i (0, 0) e5 (w', g') i2 := fun {w' g'} hz hz0 => by
    by_cases h0 : e = 0
    rotate_left
    · rcases hO1 with ⟨_, rfl, rfl, rfl⟩ | ⟨a, _⟩ | ⟨a, _⟩
      · have e2e : e2 = e1 := by rw [he2, if_neg (fun hh => h0 hh.1)]
        rw [e2e] at hO2
        rcases hO2 with ⟨_, rfl, rfl, rfl⟩ | ⟨a, _⟩ | ⟨a, _⟩
        · have e4e : e4 = e3 := by rw [he4, if_neg (fun hh => h0 hh.1)]
          have e5e : e5 = e3 := by rw [he5, e4e, if_neg (fun hh => h0 hh.1)]
          obtain ⟨rfl, rfl⟩ := hz0 (by rw [e5e]; exact h0)
          exact .inl ⟨h0, e5e, rfl, rfl⟩
        · exact absurd a h0
        · exact absurd a h0
      · exact absurd a h0
      · exact absurd a h0
    · rcases hO1 with ⟨a, _⟩ | ⟨_, hn1, rfl⟩ | ⟨_, hn1, hne⟩
      · exact absurd h0 a
      · by_cases hw1 : w = 0
        · have e2e : e2 = 150 := by rw [he2, if_pos ⟨rfl, hw1⟩]
          rw [e2e] at hO2
          rcases hO2 with ⟨_, rfl, rfl, rfl⟩ | ⟨a, _⟩ | ⟨a, _⟩
          · have e4e : e4 = 150 := by rw [he4, if_neg (fun hh => by have := hh.1; omega)]
            have e5e : e5 = 150 := by rw [he5, e4e, if_neg (fun hh => by have := hh.1; omega)]
            exact .inr (.inr ⟨h0, by unfold sizeP; rw [hn1]; dsimp only; rw [if_pos hw1, e5e], by omega⟩)
          · omega
          · omega
        · have e2e : e2 = 0 := by rw [he2, if_neg (fun hh => hw1 hh.2)]
          rw [e2e] at hO2
          rcases hO2 with ⟨a, _⟩ | ⟨_, hn2, rfl⟩ | ⟨_, hn2, hne⟩
          · omega
          · by_cases hg1 : g = 0
            · have e4e : e4 = 150 := by rw [he4, if_pos ⟨rfl, hg1⟩]
              have e5e : e5 = 150 := by rw [he5, e4e, if_neg (fun hh => by have := hh.1; omega)]
              exact .inr (.inr ⟨h0, by unfold sizeP; rw [hn1]; dsimp only; rw [if_neg hw1, hn2]; dsimp only; rw [if_pos hg1, e5e], by omega⟩)
            · have e4e : e4 = 0 := by rw [he4, if_neg (fun hh => hg1 hh.2)]
              by_cases hbig : 1048576 < w ∨ 1048576 < g ∨ 1048576 < w * g
              · have e5e : e5 = 120 := by rw [he5, if_pos ⟨e4e, hbig⟩]
                exact .inr (.inr ⟨h0, by unfold sizeP; rw [hn1]; dsimp only; rw [if_neg hw1, hn2]; dsimp only; rw [if_neg hg1, if_pos hbig, e5e], by omega⟩)
              · have e5e : e5 = 0 := by rw [he5, if_neg (fun hh => hbig hh.2)]; exact e4e
                obtain ⟨rfl, rfl⟩ := hz e5e
                exact .inr (.inl ⟨h0, by unfold sizeP; rw [hn1]; dsimp only; rw [if_neg hw1, hn2]; dsimp only; rw [if_neg hg1, if_neg hbig], e5e⟩)
          · have e4e : e4 = e3 := by rw [he4, if_neg (fun hh => hne hh.1)]
            have e5e : e5 = e3 := by rw [he5, e4e, if_neg (fun hh => hne hh.1)]
            exact .inr (.inr ⟨h0, by unfold sizeP; rw [hn1]; dsimp only; rw [if_neg hw1, hn2, e5e], by rw [e5e]; exact hne⟩)
      · have e2e : e2 = e1 := by rw [he2, if_neg (fun hh => hne hh.1)]
        rw [e2e] at hO2
        rcases hO2 with ⟨_, rfl, rfl, rfl⟩ | ⟨a, _⟩ | ⟨a, _⟩
        · have e4e : e4 = e3 := by rw [he4, if_neg (fun hh => hne hh.1)]
          have e5e : e5 = e3 := by rw [he5, e4e, if_neg (fun hh => hne hh.1)]
          exact .inr (.inr ⟨h0, by unfold sizeP; rw [hn1, e5e], by rw [e5e]; exact hne⟩)
        · exact absurd a hne
        · exact absurd a hne
  refine ptr_of (a := ⟨rb, 0, none⟩) ?_
  refine ldI_of (hpA H 1 rfl rfl) ?_
  refine bcase_ne (fun h1 => ?_) fun h1 => ?_
  · exact hk e5 0 0 i2 h (hO (fun hh => absurd hh h1) fun _ => ⟨rfl, rfl⟩) hi2 (fun hh => absurd hh h1) H
  · have hbig : e4 = 0 ∧ ¬ (1048576 < w ∨ 1048576 < g ∨ 1048576 < w * g) := by
      by_cases hh : e4 = 0 ∧ (1048576 < w ∨ 1048576 < g ∨ 1048576 < w * g)
      · rw [if_pos hh] at he5; omega
      · rw [if_neg hh] at he5
        have e40 : e4 = 0 := by omega
        exact ⟨e40, fun h9 => hh ⟨e40, h9⟩⟩
    obtain ⟨hwn, hgn, _⟩ := hw0 hbig.1
    refine bindI_of (((w : Nat) : Int)) (by exact i64_in _ (by omega) (by omega)) ?_
    refine bindI_of (((g : Nat) : Int)) (by exact i64_in _ (by omega) (by omega)) ?_
    refine hk e5 w g i2 h (hO (fun _ => ⟨rfl, rfl⟩) fun hh => absurd h1 hh) hi2 (fun _ => ?_) H
    unfold SizeP
    have : (w : Int) * (g : Int) = ((w * g : Nat) : Int) := by simp
    rw [this]
    omega
end
end Go.Bm

/- PbJ: the document's DecodeSheet and DecodeRegion. -/
set_option linter.unusedVariables false
set_option linter.unusedSimpArgs false
namespace Go.Bm
open Go Go.Den Go.Den.YtfaclehehhgpcaaGreat
open Go.Ar (u8s)

theorem hset_same {h : Heap} {a : Addr} {v : Value} (hc : hcell h a = some v) : hset h a v = h := by
  apply Array.ext_getElem?
  intro i
  unfold hset
  rw [Array.getElem?_modify]
  split
  · rename_i hi
    subst hi
    unfold hcell at hc
    cases ho : h[a.block]? with
    | none => rfl
    | some o =>
      rw [ho] at hc
      cases o with
      | cells c el fz =>
        dsimp only at hc
        by_cases hs : a.spot.isSome
        · rw [if_pos hs] at hc; cases hc
        · rw [if_neg hs] at hc
          have hc' : c.setIfInBounds a.off v = c := by
            apply Array.ext_getElem?
            intro j
            rw [Array.getElem?_setIfInBounds]
            split
            · rename_i hj
              subst hj
              split
              · exact hc.symm
              · rename_i hj
                rw [Array.getElem?_eq_none (by omega)]
            · rfl
          show some (Obj.cells (if a.spot.isSome then c else c.setIfInBounds a.off v) el fz) = some (Obj.cells c el fz)
          rw [if_neg hs, hc']
      | _ => cases hc
  · rfl
/-- What stands there is stored again: nothing changes. -/
theorem stS {h0 h : Heap} {FF : List Nat} {L : List Ent} (H : Hp h0 FF h L) (k : Nat) {b o i : Nat} {t : TypeId} {cs : List Value} {v : Value} {K : Heap → Prop} (he : L[k]? = some ⟨b, true, t, cs⟩) (hc : cs[o + i]? = some v) (hv : v.oneCell' = true) (hk : K h) : stV h ((⟨b, o, none⟩ : Addr).add i) v K := by
  rw [add_mk]
  refine stV_of hv (H.cell k he hc) ((H.bl k _ he).frozen _) ?_
  rw [hset_same (H.cell k he hc)]
  exact hk
theorem byteM_ok {b : List Nat} {i m n j : Nat} (h : byteM b i m = .ok (n, j)) : byteP b i = .ok (n, j) ∧ n ≤ m := by
  unfold byteM at h
  cases hb : byteP b i with
  | error e => rw [hb] at h; cases h
  | ok x =>
    obtain ⟨n', j'⟩ := x
    rw [hb] at h
    dsimp only at h
    split at h
    · cases h
    · injection h with h
      injection h with h1 h2
      subst h1 h2
      exact ⟨rfl, by omega⟩
theorem byteM_err {b : List Nat} {i m : Nat} {e : Int} (h : byteM b i m = .error e) : byteP b i = .error e ∨ ∃ n j, byteP b i = .ok (n, j) ∧ m < n ∧ e = 150 := by
  unfold byteM at h
  cases hb : byteP b i with
  | error e' =>
    rw [hb] at h
    dsimp only at h
    exact .inl h
  | ok x =>
    obtain ⟨n', j'⟩ := x
    rw [hb] at h
    dsimp only at h
    split at h
    · rename_i h1
      injection h with h
      exact .inr ⟨n', j', rfl, h1, h.symm⟩
    · cases h
theorem sh_pure {b : List Nat} {e1 e2 e3 e4 : Int} {w g d s i1 i2 i3 : Nat} (h1 : RdO (sizeP b 0) 0 0 (0, 0) e1 (w, g) i1) (h2 : RdO (byteM b i1 1) e1 i1 0 e2 d i2) (h3 : RdO (placeP b i2) e2 i2 0 e3 s i3)
    (h4 : e4 = if i3 < b.length then (if e3 = 0 then 150 else e3) else e3) : (e4 = 0 → sheetPR b = .ok (w, g, d, s)) ∧ (e4 ≠ 0 → sheetPR b = .error e4) := by
  have stay : ∀ {e : Int}, e ≠ 0 → sheetPR b = .error e → e3 = e → (e4 = 0 → sheetPR b = .ok (w, g, d, s)) ∧ (e4 ≠ 0 → sheetPR b = .error e4) := fun {e} he hs h3e => by
    have : e4 = e := by
      rw [h4, h3e]
      by_cases hl : i3 < b.length
      · rw [if_pos hl, if_neg he]
      · rw [if_neg hl]
    rw [this]
    exact ⟨fun hh => absurd hh he, fun _ => hs⟩
  have st3 : ∀ {e : Int}, e ≠ 0 → e2 = e → e3 = e := fun {e} he h2e => by
    rcases h3 with ⟨_, h, _⟩ | ⟨h, _⟩ | ⟨h, _⟩
    · rw [h, h2e]
    · exact absurd (h2e.symm.trans h) he
    · exact absurd (h2e.symm.trans h) he
  have st2 : ∀ {e : Int}, e ≠ 0 → e1 = e → e2 = e := fun {e} he h1e => by
    rcases h2 with ⟨_, h, _⟩ | ⟨h, _⟩ | ⟨h, _⟩
    · rw [h, h1e]
    · exact absurd (h1e.symm.trans h) he
    · exact absurd (h1e.symm.trans h) he
  rcases h1 with ⟨a, _⟩ | ⟨_, p1, hz1⟩ | ⟨_, p1, hz1⟩
  · exact absurd rfl a
  · rcases h2 with ⟨a, _⟩ | ⟨_, p2, hz2⟩ | ⟨_, p2, hz2⟩
    · exact absurd hz1 a
    · obtain ⟨q2, q2'⟩ := byteM_ok p2
      rcases h3 with ⟨a, _⟩ | ⟨_, p3, hz3⟩ | ⟨_, p3, hz3⟩
      · exact absurd hz2 a
      · by_cases hl : i3 < b.length
        · have : e4 = 150 := by rw [h4, if_pos hl, if_pos hz3]
          rw [this]
          exact ⟨fun hh => absurd hh (by decide), fun _ => by unfold sheetPR; rw [p1]; dsimp only; rw [q2]; dsimp only; rw [if_neg (by omega), p3]; dsimp only; rw [if_pos hl]⟩
        · have : e4 = 0 := by rw [h4, if_neg hl]; exact hz3
          rw [this]
          exact ⟨fun _ => by unfold sheetPR; rw [p1]; dsimp only; rw [q2]; dsimp only; rw [if_neg (by omega), p3]; dsimp only; rw [if_neg hl], fun hh => absurd rfl hh⟩
      · exact stay hz3 (by unfold sheetPR; rw [p1]; dsimp only; rw [q2]; dsimp only; rw [if_neg (by omega), p3]) rfl
    · refine stay hz2 ?_ (st3 hz2 rfl)
      rcases byteM_err p2 with q2 | ⟨n, j, q2, q3, rfl⟩
      · unfold sheetPR; rw [p1]; dsimp only; rw [q2]
      · unfold sheetPR; rw [p1]; dsimp only; rw [q2]; dsimp only; rw [if_pos q3]
  · exact stay hz1 (by unfold sheetPR; rw [p1]) (st3 hz1 (st2 hz1 rfl))
theorem rg_pure {b : List Nat} {e1 e2 e3 e4 e5 : Int} {x y w g how i1 i2 i3 i4 : Nat} (h1 : RdO (placeP b 0) 0 0 0 e1 x i1) (h2 : RdO (placeP b i1) e1 i1 0 e2 y i2) (h3 : RdO (sizeP b i2) e2 i2 (0, 0) e3 (w, g) i3) (h4 : RdO (byteM b i3 63) e3 i3 0 e4 how i4)
    (h5 : e5 = if e4 = 0 ∧ 4 < how / 8 then 150 else e4) : (e5 = 0 → regPR b = .ok (x, y, w, g, how, i4) ∧ how ≤ 63 ∧ how / 8 ≤ 4 ∧ e3 = 0) ∧ (e5 ≠ 0 → regPR b = .error e5) := by
  have stay : ∀ {e : Int}, e ≠ 0 → regPR b = .error e → e4 = e → (e5 = 0 → regPR b = .ok (x, y, w, g, how, i4) ∧ how ≤ 63 ∧ how / 8 ≤ 4 ∧ e3 = 0) ∧ (e5 ≠ 0 → regPR b = .error e5) := fun {e} he hs h3e => by
    have : e5 = e := by
      rw [h5, h3e, if_neg (fun hh => he hh.1)]
    rw [this]
    exact ⟨fun hh => absurd hh he, fun _ => hs⟩
  have st4 : ∀ {e : Int}, e ≠ 0 → e3 = e → e4 = e := fun {e} he h2e => by
    rcases h4 with ⟨_, h, _⟩ | ⟨h, _⟩ | ⟨h, _⟩
    · rw [h, h2e]
    · exact absurd (h2e.symm.trans h) he
    · exact absurd (h2e.symm.trans h) he
  have st3 : ∀ {e : Int}, e ≠ 0 → e2 = e → e3 = e := fun {e} he h2e => by
    rcases h3 with ⟨_, h, _⟩ | ⟨h, _⟩ | ⟨h, _⟩
    · rw [h, h2e]
    · exact absurd (h2e.symm.trans h) he
    · exact absurd (h2e.symm.trans h) he
  have st2 : ∀ {e : Int}, e ≠ 0 → e1 = e → e2 = e := fun {e} he h1e => by
    rcases h2 with ⟨_, h, _⟩ | ⟨h, _⟩ | ⟨h, _⟩
    · rw [h, h1e]
    · exact absurd (h1e.symm.trans h) he
    · exact absurd (h1e.symm.trans h) he
  rcases h1 with ⟨a, _⟩ | ⟨_, p1, hz1⟩ | ⟨_, p1, hz1⟩
  · exact absurd rfl a
  · rcases h2 with ⟨a, _⟩ | ⟨_, p2, hz2⟩ | ⟨_, p2, hz2⟩
    · exact absurd hz1 a
    · rcases h3 with ⟨a, _⟩ | ⟨_, p3, hz3⟩ | ⟨_, p3, hz3⟩
      · exact absurd hz2 a
      · rcases h4 with ⟨a, _⟩ | ⟨_, p4, hz4⟩ | ⟨_, p4, hz4⟩
        · exact absurd hz3 a
        · obtain ⟨q4, q4'⟩ := byteM_ok p4
          have hreg : regPR b = if 63 < how ∨ 4 < how / 8 then .error 150 else .ok (x, y, w, g, how, i4) := by unfold regPR; rw [p1]; dsimp only; rw [p2]; dsimp only; rw [p3]; dsimp only; rw [q4]
          by_cases hl : 4 < how / 8
          · have : e5 = 150 := by rw [h5, if_pos ⟨hz4, hl⟩]
            rw [this, hreg, if_pos (.inr hl)]
            exact ⟨fun hh => absurd hh (by decide), fun _ => rfl⟩
          · have : e5 = 0 := by rw [h5, if_neg (fun hh => hl hh.2)]; exact hz4
            rw [this, hreg, if_neg (by omega)]
            exact ⟨fun _ => ⟨rfl, q4', by omega, hz3⟩, fun hh => absurd rfl hh⟩
        · refine stay hz4 ?_ rfl
          rcases byteM_err p4 with q4 | ⟨n, j, q4, q5, rfl⟩
          · unfold regPR; rw [p1]; dsimp only; rw [p2]; dsimp only; rw [p3]; dsimp only; rw [q4]
          · unfold regPR; rw [p1]; dsimp only; rw [p2]; dsimp only; rw [p3]; dsimp only; rw [q4]; dsimp only; rw [if_pos (.inl q5)]
      · exact stay hz3 (by unfold regPR; rw [p1]; dsimp only; rw [p2]; dsimp only; rw [p3]) (st4 hz3 rfl)
    · exact stay hz2 (by unfold regPR; rw [p1]; dsimp only; rw [p2]) (st4 hz2 (st3 hz2 rfl))
  · exact stay hz1 (by unfold regPR; rw [p1]) (st4 hz1 (st3 hz1 (st2 hz1 rfl)))
section
variable {hB : Heap} {K : Value → Heap → Prop} {Kp : List PanicEntry → Heap → Prop} {q : Option Addr} {c : Nat} {b : List Nat}
set_option maxRecDepth 100000 in
set_option maxHeartbeats 4000000 in
theorem rdecSheet_ok (hb : RdB b) (hr : rdO hB q (b.length * 1) (u8s b)) (hk : ∀ h', hext hB h' → K (shV (shRes b)) h') :
    CP F_burinref15_DecodeSheet #[.slice q b.length c] hB K Kp := by
  refine call_burinref15_DecodeSheet ?_
  unfold burinref15_DecodeSheet
  have hbl := hb.bl
  have H := Hp.nil hB []
  refine newC_hp H fun r1 h H => ?_
  refine newC_hp H fun r3 h H => ?_
  refine newC_hp H fun r5 h H => ?_
  refine newC_hp H fun r7 h H => ?_
  have H : Hp hB [] h (rrL r3 r5 q b.length c 0 0 [⟨r1, true, T_api_Sheet, [.int .i64 0, .int .i64 0, .int .i64 0, .int .i64 0]⟩, ⟨r7, true, T_api_Sheet, [.int .i64 0, .int .i64 0, .int .i64 0, .int .i64 0]⟩]) := H.pick [1, 2, 0, 3] (by decide) rfl
  refine rsize15_ok H hr hb (Nat.zero_le _) fun e1 w g i1 h hO1 hi1 hP H => ?_
  refine ⟨_, _, rfl, ?_⟩
  refine stA H 3 rfl rfl rfl fun h H => ?_
  refine stA H 3 rfl rfl rfl fun h H => ?_
  have H : Hp hB [] h (rrL r3 r5 q b.length c i1 e1 [⟨r1, true, T_api_Sheet, [.int .i64 0, .int .i64 0, .int .i64 0, .int .i64 0]⟩, ⟨r7, true, T_api_Sheet, [.int .i64 (w : Nat), .int .i64 (g : Nat), .int .i64 0, .int .i64 0]⟩]) := H
  refine rbyte_ok (most := 1) H hr hb hi1 fun e2 d i2 h hO2 hi2 hd8 H => ?_
  refine ⟨_, rfl, ?_⟩
  refine stA H 3 rfl rfl rfl fun h H => ?_
  have H : Hp hB [] h (rrL r3 r5 q b.length c i2 e2 [⟨r1, true, T_api_Sheet, [.int .i64 0, .int .i64 0, .int .i64 0, .int .i64 0]⟩, ⟨r7, true, T_api_Sheet, [.int .i64 (w : Nat), .int .i64 (g : Nat), .int .i64 (d : Nat), .int .i64 0]⟩]) := H
  refine below_ok H hr hb hi2 fun e3 s i3 h hO3 hi3 hsM H => ?_
  refine ⟨_, rfl, ?_⟩
  refine stA H 3 rfl rfl rfl fun h H => ?_
  have H : Hp hB [] h (rrL r3 r5 q b.length c i3 e3 [⟨r1, true, T_api_Sheet, [.int .i64 0, .int .i64 0, .int .i64 0, .int .i64 0]⟩, ⟨r7, true, T_api_Sheet, [.int .i64 (w : Nat), .int .i64 (g : Nat), .int .i64 (d : Nat), .int .i64 (s : Nat)]⟩]) := H
  obtain ⟨e4, he4⟩ : ∃ e4, e4 = (if i3 < b.length then (if e3 = 0 then 150 else e3) else e3) := ⟨_, rfl⟩
  obtain ⟨pu1, pu2⟩ := sh_pure hO1 hO2 hO3 he4
  refine ⟨fun _ h' => Hp hB [] h' (rrL r3 r5 q b.length c i3 e4 [⟨r1, true, T_api_Sheet, [.int .i64 0, .int .i64 0, .int .i64 0, .int .i64 0]⟩, ⟨r7, true, T_api_Sheet, [.int .i64 (w : Nat), .int .i64 (g : Nat), .int .i64 (d : Nat), .int .i64 (s : Nat)]⟩]), ?_, ?_⟩
  · refine ldP_of (hpA H 1 rfl rfl) ?_
    refine left1_ok H hb (by omega) ?_
    refine ⟨_, rfl, ?_⟩
    refine bcase_dec (fun h1 => ?_) fun h1 => ?_
    · refine fault_ok H fun h H => ?_
      rw [he4, if_pos (by omega)]
      exact H
    · rw [he4, if_neg (by omega)]
      exact H
  clear H
  intro h u H
  refine ldI_of (hpA H 1 rfl rfl) ?_
  refine bcase_ne (fun h1 => ?_) fun h1 => ?_
  · have hres : shRes b = (e4, 0, 0, 0, 0) := by unfold shRes; rw [pu2 h1]
    rw [hres] at hk
    refine ldI_of (hpA H 1 rfl rfl) ?_
    refine stS H 2 rfl rfl rfl (stS H 2 rfl rfl rfl (stS H 2 rfl rfl rfl (stS H 2 rfl rfl rfl ⟨hext.refl _, ?_⟩)))
    refine ldI_of (hpA H 2 rfl rfl) (ldI_of (hpA H 2 rfl rfl) (ldI_of (hpA H 2 rfl rfl) (ldI_of (hpA H 2 rfl rfl) ?_)))
    exact hk _ H.hext
  · have hres : shRes b = (0, w, g, d, s) := by unfold shRes; rw [pu1 h1]
    rw [hres] at hk
    refine ldI_of (hpA H 3 rfl rfl) (ldI_of (hpA H 3 rfl rfl) (ldI_of (hpA H 3 rfl rfl) (ldI_of (hpA H 3 rfl rfl) ?_)))
    refine stA H 2 rfl rfl rfl fun h H => ?_
    refine stA H 2 rfl rfl rfl fun h H => ?_
    refine stA H 2 rfl rfl rfl fun h H => ?_
    refine stA H 2 rfl rfl rfl fun h H => ?_
    refine ldI_of (hpA H 2 rfl rfl) (ldI_of (hpA H 2 rfl rfl) (ldI_of (hpA H 2 rfl rfl) (ldI_of (hpA H 2 rfl rfl) ?_)))
    exact hk _ H.hext
end
end Go.Bm

/- PbJb: the document's DecodeRegion. -/
set_option linter.unusedVariables false
set_option linter.unusedSimpArgs false
namespace Go.Bm
open Go Go.Den Go.Den.YtfaclehehhgpcaaGreat
open Go.Ar (u8s newD)
section
variable {hB : Heap} {K : Value → Heap → Prop} {Kp : List PanicEntry → Heap → Prop} {q : Option Addr} {c : Nat} {b : List Nat}
set_option maxRecDepth 100000 in
set_option maxHeartbeats 8000000 in
theorem rdecRegion_ok (hb : RdB b) (hr : rdO hB q (b.length * 1) (u8s b)) (hcap : b.length ≤ c)
    (hk : ∀ e x y op t sk w g ys D qo co h', RgR b e x y op t sk w g ys → Slot T_uint64 1 D qo ys.length co (u64s ys) → Hp hB [] h' D → K (.tuple #[.agg #[.int .i64 x, .int .i64 y, .int .i64 op, .int .i64 t, .bool sk, .int .i64 w, .int .i64 g, .slice qo ys.length co], .int .i64 e]) h') :
    CP F_burinref15_DecodeRegion #[.slice q b.length c] hB K Kp := by
  refine call_burinref15_DecodeRegion ?_
  unfold burinref15_DecodeRegion
  have hbl := hb.bl
  have H := Hp.nil hB []
  refine newC_hp H fun r1 h H => ?_
  refine newC_hp H fun r3 h H => ?_
  refine newC_hp H fun r5 h H => ?_
  refine newC_hp H fun r7 h H => ?_
  have H : Hp hB [] h (rrL r3 r5 q b.length c 0 0 [⟨r1, true, T_api_Region, zReg⟩, ⟨r7, true, T_api_Region, zReg⟩]) := H.pick [1, 2, 0, 3] (by decide) rfl
  refine below_ok H hr hb (Nat.zero_le _) fun e1 x i1 h hO1 hi1 hxM H => ?_
  refine ⟨_, rfl, ?_⟩
  refine stA H 3 rfl rfl rfl fun h H => ?_
  have H : Hp hB [] h (rrL r3 r5 q b.length c i1 e1 [⟨r1, true, T_api_Region, zReg⟩, ⟨r7, true, T_api_Region, [.int .i64 (x : Nat), .int .i64 0, .int .i64 0, .int .i64 0, .bool false, .int .i64 0, .int .i64 0, .slice none 0 0]⟩]) := H
  refine below_ok H hr hb hi1 fun e2 y i2 h hO2 hi2 hyM H => ?_
  refine ⟨_, rfl, ?_⟩
  refine stA H 3 rfl rfl rfl fun h H => ?_
  have H : Hp hB [] h (rrL r3 r5 q b.length c i2 e2 [⟨r1, true, T_api_Region, zReg⟩, ⟨r7, true, T_api_Region, [.int .i64 (x : Nat), .int .i64 (y : Nat), .int .i64 0, .int .i64 0, .bool false, .int .i64 0, .int .i64 0, .slice none 0 0]⟩]) := H
  refine rsize15_ok H hr hb hi2 fun e3 w g i3 h hO3 hi3 hP H => ?_
  refine ⟨_, _, rfl, ?_⟩
  refine rbyte_ok (most := 63) H hr hb hi3 fun e4 how i4 h hO4 hi4 hh8 H => ?_
  refine ⟨_, rfl, ?_⟩
  obtain ⟨e5, he5⟩ : ∃ e5, e5 = (if e4 = 0 ∧ 4 < how / 8 then 150 else e4) := ⟨_, rfl⟩
  obtain ⟨pu1, pu2⟩ := rg_pure hO1 hO2 hO3 hO4 he5
  refine ⟨fun _ h' => Hp hB [] h' (rrL r3 r5 q b.length c i4 e5 [⟨r1, true, T_api_Region, zReg⟩, ⟨r7, true, T_api_Region, [.int .i64 (x : Nat), .int .i64 (y : Nat), .int .i64 0, .int .i64 0, .bool false, .int .i64 0, .int .i64 0, .slice none 0 0]⟩]), ?_, ?_⟩
  · refine ldI_of (hpA H 1 rfl rfl) ?_
    refine bcase_eq (fun h1 => ?_) fun h1 => ?_
    · refine bindI_of (((how / 8 : Nat) : Int)) (by exact i64_at _ _ rfl (by omega) (by omega)) ?_
      refine bcase_dec (fun h2 => ?_) fun h2 => ?_
      · refine fault_ok H fun h H => ?_
        rw [if_pos h1] at H
        rw [he5, if_pos ⟨h1, by omega⟩]
        exact H
      · rw [he5, if_neg (fun hh => h2 (by omega))]
        exact H
    · rw [he5, if_neg (fun hh => h1 hh.1)]
      exact H
  clear H
  intro h u H
  refine ldI_of (hpA H 1 rfl rfl) ?_
  refine bcase_ne (fun h1 => ?_) fun h1 => ?_
  · refine ldI_of (hpA H 1 rfl rfl) ?_
    refine stS H 2 rfl rfl rfl (stS H 2 rfl rfl rfl (stS H 2 rfl rfl rfl (stS H 2 rfl rfl rfl (stS H 2 rfl rfl rfl (stS H 2 rfl rfl rfl (stS H 2 rfl rfl rfl (stS H 2 rfl rfl rfl ⟨hext.refl _, ?_⟩)))))))
    refine (ldI_of (hpA H 2 rfl rfl) (ldI_of (hpA H 2 rfl rfl) (ldI_of (hpA H 2 rfl rfl) (ldI_of (hpA H 2 rfl rfl) (ldB_of (hpA H 2 rfl rfl) (ldI_of (hpA H 2 rfl rfl) (ldI_of (hpA H 2 rfl rfl) (ldS_of (hpA H 2 rfl rfl) ?_))))))))
    exact hk e5 0 0 0 0 false 0 0 [] [] none 0 h (.inl ⟨pu2 h1, h1, rfl, rfl, rfl, rfl, rfl, rfl, rfl, rfl⟩) (Slot.nil _ _) (H.take 0)
  · obtain ⟨hreg, hhow, hop, he3⟩ := pu1 h1
    have hP := hP he3
    refine bindI_of (((how % 4 : Nat) : Int)) (by exact rfl) ?_
    refine stA H 3 rfl rfl rfl fun h H => ?_
    refine bindI_of (((how / 4 : Nat) : Int)) (by exact i64_at _ _ rfl (by omega) (by omega)) ?_
    refine bindI_of (((how / 4 % 2 : Nat) : Int)) (by exact rfl) ?_
    rw [show (((how / 4 % 2 : Nat) : Int) == (1 : Int)) = Nat.beq (how / 4 % 2) 1 from ?_]
    rotate_left
    · by_cases hh : how / 4 % 2 = 1
      · rw [hh]; rfl
      · have : how / 4 % 2 = 0 := by omega
        rw [this]; rfl
    generalize hsk : Nat.beq (how / 4 % 2) 1 = sk
    refine stA H 3 rfl rfl rfl fun h H => ?_
    refine bindI_of (((how / 8 : Nat) : Int)) (by exact i64_at _ _ rfl (by omega) (by omega)) ?_
    refine stA H 3 rfl rfl rfl fun h H => ?_
    have H : Hp hB [] h (rrL r3 r5 q b.length c i4 e5 [⟨r1, true, T_api_Region, zReg⟩, ⟨r7, true, T_api_Region, [.int .i64 (x : Nat), .int .i64 (y : Nat), .int .i64 ((how / 8 : Nat) : Int), .int .i64 ((how % 4 : Nat) : Int), .bool sk, .int .i64 0, .int .i64 0, .slice none 0 0]⟩]) := H
    refine ldP_of (hpA H 1 rfl rfl) ?_
    refine ptr_of (a := ⟨r3, 0, none⟩) ?_
    refine ldI_of (hpA H 0 rfl rfl) ?_
    refine bindI_of (((i4 : Nat) : Int)) (by exact i64_at _ _ (by rw [show ((8 * i4 : Nat) : Int).tdiv 8 = ((8 * i4 / 8 : Nat) : Int) from rfl]; omega) (by omega) (by omega)) ?_
    refine needs_of (by omega) ?_
    rw [Int.toNat_natCast]
    refine ldI_of (hpA H 3 rfl rfl) (ldB_of (hpA H 3 rfl rfl) ?_)
    have hdl : (b.drop i4).length = b.length - i4 := List.length_drop
    have ht4 : (0 : Int) ≤ ((how % 4 : Nat) : Int) ∧ ((how % 4 : Nat) : Int) < 4 := by omega
    have hb8 : ∀ z ∈ b.drop i4, z < 256 := fun z hz => hb.b8 z (List.mem_of_mem_drop hz)
    have hgz : ∀ {ee w' g' : Int} {ys s'}, GGetR (b.drop i4) (gsize (how % 4) + 1) 0 0 (w : Int) (g : Int) ((how % 4 : Nat) : Int) sk (newD (b.drop i4) (gsize (how % 4) + 1)) ee w' g' ys s' → ee = 0 ∧ w' = (w : Int) ∧ g' = (g : Int) := fun {ee w' g' ys s'} hg2 => by
      rcases hg2 with ⟨hh, _⟩ | ⟨_, hh, _⟩ | ⟨_, _, hh, _⟩ | ⟨_, _, _, h1, h2, h3, _⟩
      · exact absurd ht4 hh
      · exact absurd hP hh
      · exact absurd ⟨by omega, by simp only [Int.toNat_natCast]; omega⟩ hh
      · exact ⟨h1, h2, h3⟩
    rw [← hdl]
    refine ⟨?_, ?_⟩
    · refine rDec7_ok (bytes := b.drop i4) hb8 (by omega) (H.rdO (rdO_drop hr hi4 hcap)) fun ee w1 g1 ys s1 DD qo co h hg hsl H' => ?_
      rw [Int.toNat_natCast] at hg
      obtain ⟨rfl, rfl, rfl⟩ := hgz hg
      refine ⟨_, _, _, _, _, _, rfl, H'.hext, ?_⟩
      replace H := H.join H' hsl.w
      clear H'
      refine newC_hp H fun r68 h H => ?_
      have H := H.rot
      refine stA H 0 rfl rfl rfl fun h H => ?_
      refine stA H 0 rfl rfl rfl fun h H => ?_
      refine stA H 0 rfl rfl rfl fun h H => ?_
      have H : Hp hB [] h ([⟨r68, true, T_api_Bitmap, [.int .i64 (w : Nat), .int .i64 (g : Nat), .slice qo ys.length co]⟩, ⟨r3, true, T_burinref1_Reader, [.slice q b.length c, .int .i64 (8 * i4 : Nat)]⟩, ⟨r5, true, T_burinref15_reader, [.pointer (some ⟨r3, 0, none⟩), .int .i64 e5]⟩, ⟨r1, true, T_api_Region, zReg⟩, ⟨r7, true, T_api_Region, [.int .i64 (x : Nat), .int .i64 (y : Nat), .int .i64 ((how / 8 : Nat) : Int), .int .i64 ((how % 4 : Nat) : Int), .bool sk, .int .i64 0, .int .i64 0, .slice none 0 0]⟩] ++ DD) := H
      refine bcase_false (by rfl) ?_
      refine ldI_of (hpA H 0 rfl rfl) (ldI_of (hpA H 0 rfl rfl) (ldS_of (hpA H 0 rfl rfl) ?_))
      refine stB H 4 rfl rfl rfl fun h H => ?_
      refine stB H 4 rfl rfl rfl fun h H => ?_
      refine stB H 4 rfl rfl rfl fun h H => ?_
      have H : Hp hB [] h ([⟨r68, true, T_api_Bitmap, [.int .i64 (w : Nat), .int .i64 (g : Nat), .slice qo ys.length co]⟩, ⟨r3, true, T_burinref1_Reader, [.slice q b.length c, .int .i64 (8 * i4 : Nat)]⟩, ⟨r5, true, T_burinref15_reader, [.pointer (some ⟨r3, 0, none⟩), .int .i64 e5]⟩, ⟨r1, true, T_api_Region, zReg⟩, ⟨r7, true, T_api_Region, [.int .i64 (x : Nat), .int .i64 (y : Nat), .int .i64 ((how / 8 : Nat) : Int), .int .i64 ((how % 4 : Nat) : Int), .bool sk, .int .i64 (w : Nat), .int .i64 (g : Nat), .slice qo ys.length co]⟩] ++ DD) := H
      refine (ldI_of (hpA H 4 rfl rfl) (ldI_of (hpA H 4 rfl rfl) (ldI_of (hpA H 4 rfl rfl) (ldI_of (hpA H 4 rfl rfl) (ldB_of (hpA H 4 rfl rfl) (ldI_of (hpA H 4 rfl rfl) (ldI_of (hpA H 4 rfl rfl) (ldS_of (hpA H 4 rfl rfl) ?_))))))))
      repeat first | with_reducible refine stA H 3 (by with_unfolding_all exact rfl) (by with_unfolding_all exact rfl) (by with_unfolding_all exact rfl) fun h H => ?_ | with_reducible refine st0 H 3 (by with_unfolding_all exact rfl) (by with_unfolding_all exact rfl) (by with_unfolding_all exact rfl) fun h H => ?_ | with_reducible refine stB H 3 (by with_unfolding_all exact rfl) (by with_unfolding_all exact rfl) (by with_unfolding_all exact rfl) fun h H => ?_
      have H : Hp hB [] h ([⟨r68, true, T_api_Bitmap, [.int .i64 (w : Nat), .int .i64 (g : Nat), .slice qo ys.length co]⟩, ⟨r3, true, T_burinref1_Reader, [.slice q b.length c, .int .i64 (8 * i4 : Nat)]⟩, ⟨r5, true, T_burinref15_reader, [.pointer (some ⟨r3, 0, none⟩), .int .i64 e5]⟩, ⟨r1, true, T_api_Region, [.int .i64 (x : Nat), .int .i64 (y : Nat), .int .i64 ((how / 8 : Nat) : Int), .int .i64 ((how % 4 : Nat) : Int), .bool sk, .int .i64 (w : Nat), .int .i64 (g : Nat), .slice qo ys.length co]⟩, ⟨r7, true, T_api_Region, [.int .i64 (x : Nat), .int .i64 (y : Nat), .int .i64 ((how / 8 : Nat) : Int), .int .i64 ((how % 4 : Nat) : Int), .bool sk, .int .i64 (w : Nat), .int .i64 (g : Nat), .slice qo ys.length co]⟩] ++ DD) := H
      refine (ldI_of (hpA H 3 rfl rfl) (ldI_of (hpA H 3 rfl rfl) (ldI_of (hpA H 3 rfl rfl) (ldI_of (hpA H 3 rfl rfl) (ldB_of (hpA H 3 rfl rfl) (ldI_of (hpA H 3 rfl rfl) (ldI_of (hpA H 3 rfl rfl) (ldS_of (hpA H 3 rfl rfl) ?_))))))))
      exact hk 0 _ _ _ _ sk _ _ ys DD qo co h (.inr ⟨x, y, w, g, how, i4, hreg, hi4, by omega, by omega, hP, rfl, rfl, rfl, rfl, rfl, hsk.symm, rfl, rfl, s1, by rw [hsk]; exact hg⟩) hsl (Hp.suf (X := [_, _, _, _, _]) H)
    · refine newC_hp H fun r119 h H => ?_
      refine rDec7_ok (bytes := b.drop i4) hb8 (by omega) (H.rdO (rdO_drop hr hi4 hcap)) fun ee w1 g1 ys s1 DD qo co h hg hsl H' => ?_
      rw [Int.toNat_natCast] at hg
      obtain ⟨rfl, rfl, rfl⟩ := hgz hg
      refine ⟨_, _, _, _, _, _, rfl, H'.hext, ?_⟩
      replace H := H.join H' hsl.w
      clear H'
      refine stA H 4 rfl rfl rfl fun h H => ?_
      refine stA H 4 rfl rfl rfl fun h H => ?_
      refine stA H 4 rfl rfl rfl fun h H => ?_
      have H : Hp hB [] h ([⟨r3, true, T_burinref1_Reader, [.slice q b.length c, .int .i64 (8 * i4 : Nat)]⟩, ⟨r5, true, T_burinref15_reader, [.pointer (some ⟨r3, 0, none⟩), .int .i64 e5]⟩, ⟨r1, true, T_api_Region, zReg⟩, ⟨r7, true, T_api_Region, [.int .i64 (x : Nat), .int .i64 (y : Nat), .int .i64 ((how / 8 : Nat) : Int), .int .i64 ((how % 4 : Nat) : Int), .bool sk, .int .i64 0, .int .i64 0, .slice none 0 0]⟩, ⟨r119, true, T_api_Bitmap, [.int .i64 (w : Nat), .int .i64 (g : Nat), .slice qo ys.length co]⟩] ++ DD) := H
      refine bcase_false (by rfl) ?_
      refine ldI_of (hpA H 4 rfl rfl) (ldI_of (hpA H 4 rfl rfl) (ldS_of (hpA H 4 rfl rfl) ?_))
      refine stB H 3 rfl rfl rfl fun h H => ?_
      refine stB H 3 rfl rfl rfl fun h H => ?_
      refine stB H 3 rfl rfl rfl fun h H => ?_
      have H : Hp hB [] h ([⟨r3, true, T_burinref1_Reader, [.slice q b.length c, .int .i64 (8 * i4 : Nat)]⟩, ⟨r5, true, T_burinref15_reader, [.pointer (some ⟨r3, 0, none⟩), .int .i64 e5]⟩, ⟨r1, true, T_api_Region, zReg⟩, ⟨r7, true, T_api_Region, [.int .i64 (x : Nat), .int .i64 (y : Nat), .int .i64 ((how / 8 : Nat) : Int), .int .i64 ((how % 4 : Nat) : Int), .bool sk, .int .i64 (w : Nat), .int .i64 (g : Nat), .slice qo ys.length co]⟩, ⟨r119, true, T_api_Bitmap, [.int .i64 (w : Nat), .int .i64 (g : Nat), .slice qo ys.length co]⟩] ++ DD) := H
      refine (ldI_of (hpA H 3 rfl rfl) (ldI_of (hpA H 3 rfl rfl) (ldI_of (hpA H 3 rfl rfl) (ldI_of (hpA H 3 rfl rfl) (ldB_of (hpA H 3 rfl rfl) (ldI_of (hpA H 3 rfl rfl) (ldI_of (hpA H 3 rfl rfl) (ldS_of (hpA H 3 rfl rfl) ?_))))))))
      repeat first | with_reducible refine stA H 2 (by with_unfolding_all exact rfl) (by with_unfolding_all exact rfl) (by with_unfolding_all exact rfl) fun h H => ?_ | with_reducible refine st0 H 2 (by with_unfolding_all exact rfl) (by with_unfolding_all exact rfl) (by with_unfolding_all exact rfl) fun h H => ?_ | with_reducible refine stB H 2 (by with_unfolding_all exact rfl) (by with_unfolding_all exact rfl) (by with_unfolding_all exact rfl) fun h H => ?_
      have H : Hp hB [] h ([⟨r3, true, T_burinref1_Reader, [.slice q b.length c, .int .i64 (8 * i4 : Nat)]⟩, ⟨r5, true, T_burinref15_reader, [.pointer (some ⟨r3, 0, none⟩), .int .i64 e5]⟩, ⟨r1, true, T_api_Region, [.int .i64 (x : Nat), .int .i64 (y : Nat), .int .i64 ((how / 8 : Nat) : Int), .int .i64 ((how % 4 : Nat) : Int), .bool sk, .int .i64 (w : Nat), .int .i64 (g : Nat), .slice qo ys.length co]⟩, ⟨r7, true, T_api_Region, [.int .i64 (x : Nat), .int .i64 (y : Nat), .int .i64 ((how / 8 : Nat) : Int), .int .i64 ((how % 4 : Nat) : Int), .bool sk, .int .i64 (w : Nat), .int .i64 (g : Nat), .slice qo ys.length co]⟩, ⟨r119, true, T_api_Bitmap, [.int .i64 (w : Nat), .int .i64 (g : Nat), .slice qo ys.length co]⟩] ++ DD) := H
      refine (ldI_of (hpA H 2 rfl rfl) (ldI_of (hpA H 2 rfl rfl) (ldI_of (hpA H 2 rfl rfl) (ldI_of (hpA H 2 rfl rfl) (ldB_of (hpA H 2 rfl rfl) (ldI_of (hpA H 2 rfl rfl) (ldI_of (hpA H 2 rfl rfl) (ldS_of (hpA H 2 rfl rfl) ?_))))))))
      exact hk 0 _ _ _ _ sk _ _ ys DD qo co h (.inr ⟨x, y, w, g, how, i4, hreg, hi4, by omega, by omega, hP, rfl, rfl, rfl, rfl, rfl, hsk.symm, rfl, rfl, s1, by rw [hsk]; exact hg⟩) hsl (Hp.suf (X := [_, _, _, _, _]) H)
end
end Go.Bm

/- GnJa: decisions as a list; the decoder's walk over them. -/
set_option linter.unusedVariables false
set_option linter.unusedSimpArgs false
namespace Go.Bm
open Go Go.Den Go.Den.YtfaclehehhgpcaaGreat
open Go.Ar (Cod Dec CodOk codN decN newC_ok bytesM flushM putM getD)

/-! ### decisions as a list -/
def kOf (L : List (Nat × Nat)) (i : Nat) : Nat := (L[i]?.getD (0, 0)).1
def bOf (L : List (Nat × Nat)) (i : Nat) : Nat := (L[i]?.getD (0, 0)).2
def cdL (m : Nat) (L : List (Nat × Nat)) : Cod := codN (kOf L) (bOf L) m L.length
theorem codN_cong {k b k' b' : Nat → Nat} {m : Nat} : ∀ {n : Nat}, (∀ j, j < n → k j = k' j ∧ b j = b' j) → codN k b m n = codN k' b' m n
  | 0, _ => rfl
  | n + 1, h => by
    have := codN_cong (m := m) (n := n) fun j hj => h j (by omega)
    unfold codN
    rw [this, (h n (by omega)).1, (h n (by omega)).2]
theorem cdL_snoc (m : Nat) (L : List (Nat × Nat)) (d : Nat × Nat) : cdL m (L ++ [d]) = putM (cdL m L) d.1 d.2 := by
  have e : codN (kOf (L ++ [d])) (bOf (L ++ [d])) m L.length = cdL m L := codN_cong fun j hj => by
    unfold kOf bOf
    rw [List.getElem?_append_left hj]
    exact ⟨rfl, rfl⟩
  unfold cdL at e ⊢
  rw [List.length_append, List.length_singleton, codN, e]
  unfold kOf bOf
  rw [List.getElem?_append_right (Nat.le_refl _), Nat.sub_self]
  rfl
theorem cdL_ok {m : Nat} {L : List (Nat × Nat)} (h : L.length ≤ 16777216) : CodOk m L.length (cdL m L) := by
  have key : ∀ i, i ≤ 16777216 → CodOk m i (codN (kOf L) (bOf L) m i) := by
    intro i
    induction i with
    | zero => exact fun _ => newC_ok m
    | succ i ih => exact fun hi => Go.Ar.putM_ok (ih (by omega)) _ _ (by omega)
  exact key _ h
theorem bOf_le {L : List (Nat × Nat)} (h : ∀ d ∈ L, d.2 ≤ 1) : ∀ i, i < L.length → bOf L i ≤ 1 := fun i hi => by
  unfold bOf
  rw [List.getElem?_eq_getElem hi]
  exact h _ (List.getElem_mem hi)
theorem kOf_at {L A B : List (Nat × Nat)} {d : Nat × Nat} (h : L = A ++ d :: B) : kOf L A.length = d.1 ∧ bOf L A.length = d.2 := by
  subst h
  unfold kOf bOf
  rw [List.getElem?_append_right (Nat.le_refl _), Nat.sub_self]
  exact ⟨rfl, rfl⟩
/-- The decoder's walk over the decisions. -/
structure Walk (L : List (Nat × Nat)) (D : Nat → Dec) : Prop where
  step : ∀ i, i < L.length → getD (D i) (kOf L i) = (D (i + 1), bOf L i)
theorem Walk.at {L A B : List (Nat × Nat)} {D : Nat → Dec} {d : Nat × Nat} (h : Walk L D) (e : L = A ++ d :: B) : getD (D A.length) d.1 = (D (A.length + 1), d.2) := by
  obtain ⟨h1, h2⟩ := kOf_at e
  have := h.step A.length (by rw [e]; simp)
  rw [h1, h2] at this
  exact this
theorem walk_of {m : Nat} {L : List (Nat × Nat)} (h1 : ∀ d ∈ L, d.2 ≤ 1) (hc : L.length ≤ 16777216) : Walk L (decN (kOf L) (bytesM (flushM (cdL m L))) m) := by
  refine ⟨fun i hi => Prod.ext rfl ?_⟩
  have hlt : ∀ x ∈ bytesM (flushM (cdL m L)), x < 256 := Go.Ar.flushM_lt (cdL_ok hc).wf
  exact Go.Ar.back_bit (kOf L) (bOf L) m L.length (bOf_le h1) hc hlt hi

end Go.Bm

/- GnJ: generic coding, plain law: what is coded is decoded as the same bitmap, row by row. -/
set_option linter.unusedVariables false
set_option linter.unusedSimpArgs false
namespace Go.Bm
open Go Go.Den Go.Den.YtfaclehehhgpcaaGreat
open Go.Ar (Dec idx)

/-! ### the decisions of a bitmap -/
section
variable (G : Int → Int → Bool) (W m t : Nat) (skip : Bool) (base : Int)
def dsRow (y k : Nat) : List (Nat × Nat) := (List.range k).map fun (x : Nat) => (idx (base + ((gctx t G (x : Int) (y : Int) : Nat) : Int)) m, (G (x : Int) (y : Int)).toNat)
def dsLine (y : Nat) : List (Nat × Nat) := match skip with
  | false => dsRow G m t base y W
  | true => (idx (base + ((gsize t : Nat) : Int)) m, (sameB G W y).toNat) :: (match sameB G W y with
    | true => []
    | false => dsRow G m t base y W)
def dsG : Nat → List (Nat × Nat)
  | 0 => []
  | y + 1 => dsG y ++ dsLine G W m t skip base y
theorem dsRow_succ (y k : Nat) : dsRow G m t base y (k + 1) = dsRow G m t base y k ++ [(idx (base + ((gctx t G (k : Int) (y : Int) : Nat) : Int)) m, (G (k : Int) (y : Int)).toNat)] := by
  unfold dsRow
  rw [List.range_succ, List.map_append]
  rfl
theorem dsRow_len (y k : Nat) : (dsRow G m t base y k).length = k := by simp [dsRow]
theorem dsLine_len (y : Nat) : (dsLine G W m t skip base y).length ≤ W + 1 := by
  unfold dsLine
  cases skip with
  | false =>
    simp only [dsRow_len]
    omega
  | true =>
    cases sameB G W y <;> simp [dsRow_len]
theorem dsG_len : ∀ y, (dsG G W m t skip base y).length ≤ y * (W + 1)
  | 0 => by simp [dsG]
  | y + 1 => by
    have h1 := dsG_len y
    have h2 := dsLine_len G W m t skip base y
    unfold dsG
    rw [List.length_append, Nat.add_mul, Nat.one_mul]
    omega
/-! ### coding -/
theorem enc_row (L : List (Nat × Nat)) (y : Nat) : ∀ k, rowG t (stepP m base) y k (G, cdL m L) = .inl (G, cdL m (L ++ dsRow G m t base y k))
  | 0 => by simp [rowG, dsRow]
  | k + 1 => by
    unfold rowG
    rw [enc_row L y k]
    simp only [stepP, upd_self]
    rw [dsRow_succ, ← List.append_assoc, cdL_snoc]
variable (hG : ∀ x y : Int, ¬ (0 ≤ x ∧ x < W ∧ 0 ≤ y) → G x y = false)
include hG
theorem enc_g (L : List (Nat × Nat)) : ∀ y, runG W t skip (stepP m base) y (G, cdL m L) = .inl (G, cdL m (L ++ dsG G W m t skip base y))
  | 0 => by simp [runG, dsG]
  | y + 1 => by
    unfold runG
    rw [enc_g L y]
    cases skip with
    | false =>
      simp only []
      rw [enc_row, dsG, dsLine, List.append_assoc]
    | true =>
      simp only [stepP]
      rw [← cdL_snoc m _ (idx (base + ((gsize t : Nat) : Int)) m, (sameB G W y).toNat)]
      cases hs : sameB G W y with
      | true =>
        simp only []
        rw [copy_same (fun a b h => hG a b fun hh => h ⟨hh.1, hh.2.1⟩) hs, dsG]
        simp only [dsLine, hs]
        simp
      | false =>
        simp only []
        rw [enc_row, dsG]
        simp only [dsLine, hs]
        simp

/-! ### decoding -/
variable {L : List (Nat × Nat)} {D : Nat → Dec} (hW : Walk L D)
include hW
end
end Go.Bm

/- GnK: generic coding: back again, a few rows, wakes, light. -/
set_option linter.unusedVariables false
set_option linter.unusedSimpArgs false
namespace Go.Bm
open Go Go.Den Go.Den.YtfaclehehhgpcaaGreat
open Go.Ar (Dec newC bytesM flushM)

theorem GEncR.bytes {w b template : Int} {skip : Bool} {ws : List Nat} {e : Int} {bs : List Nat} (h : GEncR w b ws template skip e bs) : (∀ x ∈ bs, x < 256) ∧ bs.length < 140737488351300 := by
  rcases h with ⟨_, _, rfl⟩ | ⟨_, _, _, rfl⟩ | ⟨_, _, _, G, s', k, _, _, hok, rfl⟩
  · exact ⟨(fun x hx => by cases hx), by decide⟩
  · exact ⟨(fun x hx => by cases hx), by decide⟩
  · refine ⟨Go.Ar.flushM_lt hok.wf, ?_⟩
    have h1 := Go.Ar.flushM_len s'
    have h2 := hok.wf.len
    have h3 := hok.wf.n
    omega
theorem GGetR.len {bytes : List Nat} {m n0 : Nat} {base w b template : Int} {skip : Bool} {s : Dec} {e a c : Int} {bs : List Nat} {s' : Dec} (h : GGetR bytes m n0 base w b template skip s e a c bs s') : bs.length < 140737488351300 := by
  rcases h with ⟨_, _, _, _, rfl, _⟩ | ⟨_, _, _, _, _, rfl, _⟩ | ⟨_, _, _, _, _, _, rfl, _⟩ | ⟨_, p2, _, _, _, _, _, l, _⟩
  · decide
  · decide
  · decide
  · obtain ⟨W, X, rfl, rfl, hW1, hW2, hX1, hX2, hWX⟩ := size_nat p2
    simp only [Int.toNat_natCast] at l
    have := hw_le hW1 hWX
    omega
theorem GEncR.ok {w b template : Int} {skip : Bool} {ws : List Nat} {e : Int} {bs : List Nat} (ht : 0 ≤ template ∧ template < 4) (hm : MayP w b ws) (h : GEncR w b ws template skip e bs) : e = 0 := by
  rcases h with ⟨a, _⟩ | ⟨_, a, _⟩ | ⟨_, _, e, _⟩
  · exact absurd ht a
  · exact absurd hm a
  · exact e
/-- What is coded, said with the list of decisions. -/
theorem GEncR.list {W X t : Nat} {skip : Bool} {ws : List Nat} {e : Int} {bs : List Nat} (ht : t < 4) (hm : MayP (W : Int) (X : Int) ws) (h : GEncR (W : Int) (X : Int) ws (t : Int) skip e bs) :
    e = 0 ∧ (dsG (getP ws W X) W (gsize t + 1) t skip 0 X).length ≤ 16777216 ∧ bs = bytesM (flushM (cdL (gsize t + 1) (dsG (getP ws W X) W (gsize t + 1) t skip 0 X))) := by
  have hpx := size_px1 hm.1
  simp only [Int.toNat_natCast, Nat.zero_add] at hpx
  rcases h with ⟨a, _⟩ | ⟨_, a, _⟩ | ⟨_, _, rfl, Gz, sz, k, hrun, hkk, hok, rfl⟩
  · exact absurd ⟨by omega, by omega⟩ a
  · exact absurd hm a
  simp only [Int.toNat_natCast] at hrun
  have h1 := enc_g (getP ws W X) W (gsize t + 1) t skip 0 (getP_out ws W X) [] X
  rw [List.nil_append] at h1
  have h2 : cdL (gsize t + 1) [] = Go.Ar.newC (gsize t + 1) := rfl
  rw [h2, hrun] at h1
  injection h1 with h1
  injection h1 with _ h1
  subst h1
  exact ⟨rfl, Nat.le_trans (dsG_len _ _ _ _ _ _ _) hpx, rfl⟩
end Go.Bm

/- PbC: sheets and regions as bytes, both sides. -/
set_option linter.unusedVariables false
set_option linter.unusedSimpArgs false
namespace Go.Bm
open Go Go.Den Go.Den.YtfaclehehhgpcaaGreat
-- (nothing of Go.Ar opened)

section
variable {h0 h : Heap} {F : List Nat} {A B D : List Ent}
end
/-- Bytes of numbers; a byte as one below 0, less one. -/
def wrB (v : Int) : List Nat := if v < 0 then [(-v - 1).toNat] else grp v.toNat
def wrt (l : List Int) : List Nat := l.flatMap wrB
theorem wrB_len (v : Int) : (wrB v).length ≤ 11 := by
  unfold wrB
  split
  · show 1 ≤ 11; omega
  · exact (grp_len _).2
theorem wrt_len : ∀ l : List Int, (wrt l).length ≤ 11 * l.length
  | [] => Nat.le_refl _
  | v :: l => by
    have h1 := wrt_len l
    have h2 := wrB_len v
    show (wrB v ++ wrt l).length ≤ _
    rw [List.length_append, List.length_cons]
    omega
section
variable {hB : Heap} {q : Option Addr} {c : Nat} {l : List Int} {K : Value → Heap → Prop} {Kp : List PanicEntry → Heap → Prop}
end

/-! ### sheets -/
section
variable {hB : Heap} {w g d s : Int} {K : Value → Heap → Prop} {Kp : List PanicEntry → Heap → Prop}
def EncSh (w g d s : Int) (e : Int) (bs : List Nat) : Prop := ¬ SheetP w g d s ∧ e = 150 ∧ bs = [] ∨ SheetP w g d s ∧ e = 0 ∧ bs = wrt [w, g, -d - 1, s]
theorem EncSh.det {e e' : Int} {bs bs' : List Nat} (h : EncSh w g d s e bs) (h' : EncSh w g d s e' bs') : e = e' ∧ bs = bs' := by
  rcases h with ⟨h1, rfl, rfl⟩ | ⟨h1, rfl, rfl⟩ <;> rcases h' with ⟨h2, rfl, rfl⟩ | ⟨h2, rfl, rfl⟩
  · exact ⟨rfl, rfl⟩
  · exact absurd h2 h1
  · exact absurd h1 h2
  · exact ⟨rfl, rfl⟩
theorem EncSh.len {e : Int} {bs : List Nat} (h : EncSh w g d s e bs) : bs.length ≤ 44 := by
  rcases h with ⟨_, _, rfl⟩ | ⟨_, _, rfl⟩
  · exact Nat.zero_le _
  · exact wrt_len _
end
end Go.Bm

/- Written by gen.py: the conditions of the functions of law15PageEncodes. -/
set_option linter.unusedVariables false
set_option linter.unusedSimpArgs false
namespace Go.Den.YtfaclehehhgpcaaGreat
open Go Go.Den

/- burin/burinlaw15.PageEncodes -/
end Go.Den.YtfaclehehhgpcaaGreat

/- Written by gen.py: each condition of the functions of law15PageEncodes is the one of its body; so it is enough for its call. -/
set_option linter.unusedVariables false
set_option linter.unusedSimpArgs false
namespace Go.Den.YtfaclehehhgpcaaGreat
open Go Go.Den

end Go.Den.YtfaclehehhgpcaaGreat

/- PbD: regions as bytes, both sides; the law PageEncodes, said of memory. -/
set_option linter.unusedVariables false
set_option linter.unusedSimpArgs false
namespace Go.Bm
open Go Go.Den Go.Den.YtfaclehehhgpcaaGreat
-- (nothing of Go.Ar opened)

def RegP (x y op t w b : Int) (ws : List Nat) : Prop := (0 ≤ x ∧ x ≤ 1048576) ∧ (0 ≤ y ∧ y ≤ 1048576) ∧ (0 ≤ op ∧ op ≤ 4) ∧ (0 ≤ t ∧ t < 4) ∧ MayP w b ws
def howR (op t : Int) (sk : Bool) : Int := t + 8 * op + (if sk = true then 4 else 0)
def EncRg (x y op t : Int) (sk : Bool) (w b : Int) (ws : List Nat) (e : Int) (bs : List Nat) : Prop :=
  ¬ RegP x y op t w b ws ∧ e = 150 ∧ bs = [] ∨ RegP x y op t w b ws ∧ e = 0 ∧ ∃ ds, GEncR w b ws t sk 0 ds ∧ bs = wrt [x, y, w, b, -(howR op t sk) - 1] ++ ds
theorem GEncR.len2 {w b template : Int} {skip : Bool} {ws : List Nat} {e : Int} {bs : List Nat} (h : GEncR w b ws template skip e bs) : bs.length ≤ 70000000000000 := by
  rcases h with ⟨_, _, rfl⟩ | ⟨_, _, _, rfl⟩ | ⟨_, _, _, G, s', k, _, _, hok, rfl⟩
  · exact Nat.zero_le _
  · exact Nat.zero_le _
  · have h1 := Go.Ar.flushM_len s'
    have h2 := hok.wf.len
    have h3 := hok.wf.n
    omega
section
variable {x y op t w b : Int} {sk : Bool} {ws : List Nat}
theorem EncRg.det {e e' : Int} {bs bs' : List Nat} (h : EncRg x y op t sk w b ws e bs) (h' : EncRg x y op t sk w b ws e' bs') : e = e' ∧ bs = bs' := by
  rcases h with ⟨h1, rfl, rfl⟩ | ⟨h1, rfl, ds, g, rfl⟩ <;> rcases h' with ⟨h2, rfl, rfl⟩ | ⟨h2, rfl, ds', g', rfl⟩
  · exact ⟨rfl, rfl⟩
  · exact absurd h2 h1
  · exact absurd h1 h2
  · exact ⟨rfl, by rw [(g.det g').2]⟩
theorem EncRg.len {e : Int} {bs : List Nat} (h : EncRg x y op t sk w b ws e bs) : bs.length < 140737488351300 := by
  rcases h with ⟨_, _, rfl⟩ | ⟨_, _, ds, g, rfl⟩
  · decide
  · have h1 := g.len2
    have h2 := wrt_len [x, y, w, b, -(howR op t sk) - 1]
    have h3 : ([x, y, w, b, -(howR op t sk) - 1] : List Int).length = 5 := rfl
    rw [List.length_append]
    omega
variable {hB : Heap} {q1 : Option Addr} {c1 : Nat} {K : Value → Heap → Prop} {Kp : List PanicEntry → Heap → Prop}
end
end Go.Bm

/- PbE: the law PageEncodes, said of memory. -/
set_option linter.unusedVariables false
set_option linter.unusedSimpArgs false
namespace Go.Bm
open Go Go.Den Go.Den.YtfaclehehhgpcaaGreat
-- (nothing of Go.Ar opened)

theorem ptr_atB {q : Option Addr} {a : Addr} {K : Addr → Prop} (h : q = some a) (H : K a) : ptr q K := by subst h; exact H
structure SheetC (h : Heap) (a : Addr) (w g d s : Int) : Prop where
  c0 : hcell h (a.add 0) = some (.int .i64 w)
  c1 : hcell h (a.add 1) = some (.int .i64 g)
  c2 : hcell h (a.add 2) = some (.int .i64 d)
  c3 : hcell h (a.add 3) = some (.int .i64 s)
def SheetsV (h : Heap) (q : Option Addr) (n : Nat) : Prop := ∀ i, i < n → ∃ a w g d s, q = some a ∧ SheetC h (a.add (i * 4)) w g d s
structure RegC (h : Heap) (a : Addr) (x y op t : Int) (sk : Bool) (w b : Int) (ws : List Nat) (q1 : Option Addr) (cc : Nat) : Prop where
  c0 : hcell h (a.add 0) = some (.int .i64 x)
  c1 : hcell h (a.add 1) = some (.int .i64 y)
  c2 : hcell h (a.add 2) = some (.int .i64 op)
  c3 : hcell h (a.add 3) = some (.int .i64 t)
  c4 : hcell h (a.add 4) = some (.bool sk)
  c5 : hcell h (a.add 5) = some (.int .i64 w)
  c6 : hcell h (a.add 6) = some (.int .i64 b)
  c7 : hcell h (a.add 7) = some (.slice q1 ws.length cc)
  r1 : rdO h q1 (ws.length * 1) (u64s ws)
  w1 : W64 ws
  l1 : ws.length < 140737488351300
def RegsV (h : Heap) (q : Option Addr) (n : Nat) : Prop := ∀ i, i < n → ∃ a x y op t sk w b ws q1 c1, q = some a ∧ RegC h (a.add (i * 8)) x y op t sk w b ws q1 c1

set_option maxRecDepth 100000 in
/-- A region that comes in. -/
theorem wd_region {h : Heap} {cs : List Value} (H : WDx TP h T_api_Region cs) : ∃ x y op t sk w b q1 c1 ws, cs = [.int .i64 x, .int .i64 y, .int .i64 op, .int .i64 t, .bool sk, .int .i64 w, .int .i64 b, .slice q1 (List.length ws) c1] ∧ rdO h q1 (ws.length * 1) (u64s ws) ∧ W64 ws ∧ ws.length < 140737488351300 := by
  obtain ⟨hl, hf⟩ := wd_struct Go.Proofs.Tryz.underlying38 H
  have k : TP.cellsOf T_api_Region = 8 := by kernel_rfl
  rw [k] at hl
  obtain ⟨v0, v1, v2, v3, v4, v5, v6, v7, rfl⟩ : ∃ a b c d e f g i, cs = [a, b, c, d, e, f, g, i] := by
    match cs, hl with
    | [a, b, c, d, e, f, g, i], _ => exact ⟨a, b, c, d, e, f, g, i, rfl⟩
  have kb : TP.cellsOf T_api_Bitmap = 3 := by kernel_rfl
  have kB : TP.cellsOf T_bool = 1 := by kernel_rfl
  obtain ⟨x, e0, _⟩ := wd_int Go.Proofs.Tryz.underlying3 (one_of k_int (hf 0 _ rfl) (v := v0) rfl)
  obtain ⟨y, e1, _⟩ := wd_int Go.Proofs.Tryz.underlying3 (one_of k_int (hf 1 _ rfl) (v := v1) rfl)
  obtain ⟨op, e2, _⟩ := wd_int Go.Proofs.Tryz.underlying3 (one_of k_int (hf 2 _ rfl) (v := v2) rfl)
  obtain ⟨t, e3, _⟩ := wd_int Go.Proofs.Tryz.underlying3 (one_of k_int (hf 3 _ rfl) (v := v3) rfl)
  obtain ⟨sk, e4⟩ := wd_bool Go.Proofs.Tryz.underlying4 (one_of kB (hf 4 _ rfl) (v := v4) rfl)
  have f5 : WDx TP h T_api_Bitmap (([v0, v1, v2, v3, v4, v5, v6, v7].drop 5).take (TP.cellsOf T_api_Bitmap)) := hf 5 _ rfl
  rw [kb] at f5
  obtain ⟨w, b, q1, cap1, ws, e5, _, _, g1, g2, g3⟩ := wd_bitmap f5
  simp only [List.drop_succ_cons, List.drop_zero, List.take_succ_cons, List.take_zero, List.cons.injEq, and_true] at e0 e1 e2 e3 e4 e5
  obtain ⟨e50, e51, e52⟩ := e5
  subst e0 e1 e2 e3 e4 e50 e51 e52
  exact ⟨x, y, op, t, sk, w, b, q1, cap1, ws, rfl, g2, g3, g1⟩
theorem sheets_of {h : Heap} {cs : List Value} (H : WDx TP h T_s_api_Sheet cs) : ∃ q len cap, cs = [.slice q len cap] ∧ SheetsV h q len := by
  obtain ⟨q, len, cap, rfl, _, _, _, h4⟩ := wd_slice Go.Proofs.Tryz.underlying22 H
  refine ⟨q, len, cap, rfl, fun i hi => ?_⟩
  obtain ⟨a, cs', ha, hr, hd⟩ := h4 i hi
  have k : TP.cellsOf T_api_Sheet = 4 := by kernel_rfl
  rw [k] at hr
  obtain ⟨w, g, d, s, rfl, _⟩ := wd_sheet hd
  have c := fun j v hj => hr.2 j v hj
  exact ⟨a, w, g, d, s, ha, ⟨c 0 _ rfl, c 1 _ rfl, c 2 _ rfl, c 3 _ rfl⟩⟩
theorem regs_of {h : Heap} {cs : List Value} (H : WDx TP h T_s_api_Region cs) : ∃ q len cap, cs = [.slice q len cap] ∧ RegsV h q len := by
  obtain ⟨q, len, cap, rfl, _, _, _, h4⟩ := wd_slice Go.Proofs.Tryz.underlying23 H
  refine ⟨q, len, cap, rfl, fun i hi => ?_⟩
  obtain ⟨a, cs', ha, hr, hd⟩ := h4 i hi
  have k : TP.cellsOf T_api_Region = 8 := by kernel_rfl
  rw [k] at hr
  obtain ⟨x, y, op, t, sk, w, b, q1, c1, ws, rfl, g1, g2, g3⟩ := wd_region hd
  have c := fun j v hj => hr.2 j v hj
  exact ⟨a, x, y, op, t, sk, w, b, ws, q1, c1, ha, ⟨c 0 _ rfl, c 1 _ rfl, c 2 _ rfl, c 3 _ rfl, c 4 _ rfl, c 5 _ rfl, c 6 _ rfl, c 7 _ rfl, g1, g2, g3⟩⟩
end Go.Bm

/- RdB: the law ArithReads, said of memory. -/
set_option linter.unusedVariables false
set_option linter.unusedSimpArgs false
namespace Go.Ar
open Go Go.Den Go.Den.YtfaclehehhgpcaaGreat

end Go.Ar

/- RdC: a reading as it comes in as an argument: the law ArithReads over it. -/
set_option linter.unusedVariables false
set_option linter.unusedSimpArgs false
namespace Go.Ar
open Go Go.Den Go.Den.YtfaclehehhgpcaaGreat

theorem u8s_ints {l : List Int} (h : ∀ x ∈ l, IntKind.u8.min ≤ x ∧ x ≤ IntKind.u8.max) : (l.map fun x => (.int .u8 x : Value)) = u8s (l.map Int.toNat) ∧ ∀ x ∈ l.map Int.toNat, x < 256 := by
  have hb : ∀ x ∈ l, 0 ≤ x ∧ x ≤ 255 := fun x hx => by have := h x hx; simpa [IntKind.min, IntKind.max, IntKind.signed, IntKind.bits] using this
  constructor
  · unfold u8s
    rw [List.map_map]
    refine List.map_congr_left fun x hx => ?_
    have := hb x hx
    show Value.int .u8 x = .int .u8 ((x.toNat : Nat) : Int)
    rw [Int.toNat_of_nonneg this.1]
  · intro y hy
    obtain ⟨x, hx, rfl⟩ := List.mem_map.1 hy
    have := hb x hx
    omega
/-- Bytes that come in. -/
theorem wd_bytes {h : Heap} {cs : List Value} (H : WDx Go.Proofs.Tryz.prog h T_s_uint8 cs) :
    ∃ q cap, ∃ bs : List Nat, cs = [.slice q bs.length cap] ∧ bs.length ≤ cap ∧ cap < 140737488351300 ∧ (q = none → cap = 0) ∧ rdO h q (bs.length * 1) (u8s bs) ∧ ∀ x ∈ bs, x < 256 := by
  obtain ⟨q, cap, l, rfl, h1, h2, h3, h4, h5⟩ := wd_ints (k := .u8) Go.Proofs.Tryz.underlying27 Go.Proofs.Tryz.underlying5 (by kernel_rfl) H
  obtain ⟨e1, e2⟩ := u8s_ints h5
  have k1 : Go.Proofs.Tryz.prog.bytesOf T_uint8 = 1 := by kernel_rfl
  rw [k1] at h2
  have hr : reachBytes = 140737488351232 := rfl
  rw [e1] at h4
  refine ⟨q, cap, l.map Int.toNat, by simp, by simpa using h1, by omega, h3, by simpa using h4, e2⟩

end Go.Ar

/- RnA: as DenH, DenI, DenJ, inside a fence: code that ranges over functions, and functions that are ranged over. No program in sight. -/
set_option linter.unusedVariables false
set_option linter.unusedSimpArgs false
namespace Go.Den

/-- What is known of calls of yield: at a heap, what follows a return. -/
abbrev YP := Nat → List Value → Heap → (Value → Heap → Prop) → Prop
def YieldsHP (P : Program) : YP := fun l args h K => ∀ w : World, w.heap = h → YieldAt Fence.wide 0 P l args.toArray w fun e w' => keeps w w' ∧ ∃ v, e = .returned v ∧ K v w'.heap
def yieldOf : Value → Option Nat
  | .func (.yield l) f c => (match f.toList, c.toList with
    | [], [] => some l
    | _, _ => none)
  | _ => none
theorem yieldOf_spec {v : Value} {l : Nat} (h : yieldOf v = some l) : v = .func (.yield l) #[] #[] := by
  unfold yieldOf at h
  split at h
  · rename_i l' f c
    split at h
    · rename_i hf hc
      obtain rfl := Option.some.inj h
      have e1 : f = #[] := by apply Array.toList_inj.1; rw [hf]
      have e2 : c = #[] := by apply Array.toList_inj.1; rw [hc]
      rw [e1, e2]
    · cases h
  · cases h
/-! ### structs of numbers and truths held against one another -/
def eqCellsD (P : Program) : List Field → List Value → List Value → (Bool → Prop) → Prop
  | [], _, _, K => K true
  | f :: fs, cs, ds, K => match f.name != "_", P.underlying f.type, cs[f.offset]?, ds[f.offset]? with
    | true, some (.int _), some (.int k x), some (.int k' y) => needs (k = k') (eqCellsD P fs cs ds fun r => K ((x == y) && r))
    | true, some .bool, some (.bool x), some (.bool y) => eqCellsD P fs cs ds fun r => K ((x == y) && r)
    | _, _, _, _ => False
def structEqD (P : Program) (op : BinOp) (t : TypeId) (cs ds : List Value) (K : Value → Prop) : Prop := match op, P.underlying t, P.eqGuardType P.depth t, P.stoodInHeld t with
  | .eql, some (.struct fs), false, false => eqCellsD P fs.toList cs ds fun r => K (.bool r)
  | .neq, some (.struct fs), false, false => eqCellsD P fs.toList cs ds fun r => K (.bool (!r))
  | _, _, _, _ => False
section
variable {P : Program} {qt : Bool}
theorem wpS_partCell {t : TypeId} {d : TypeDesc} {cs : Array Value} {off : Nat} {v : Value} {h : Heap} {K : Value → Heap → Prop} (hu : P.underlying t = some d) (hd : isAggT P t = false) (hv : cs.toList[off]? = some v) (H : K v h) : wpS P qt (part t cs off) h K := by
  unfold part
  rw [wpS_bind, isAggT_spec t hu, hd]
  simp only [Bool.false_eq_true, if_false]
  have : cs[off]? = some v := by simpa using hv
  simp only [this]
  exact H
theorem equalIn_int {t : TypeId} {k0 : IntKind} (hu : P.underlying t = some (.int k0)) (k : IntKind) (a b : Int) (h : Heap) (K : Bool → Heap → Prop) (d : Nat) : wpS P qt (Op.equalIn (d + 1) t (.int k a) (.int k b)) h K = K (a == b) h := by
  unfold Op.equalIn
  rw [wpS_bind, wpS_underlying hu]
  simp [wpS_pure]
theorem eqCells_const {p : Prop} {cs ds : List Value} : ∀ {fs : List Field}, eqCellsD P fs cs ds (fun _ => p) → p
  | [], H => H
  | f :: fs, H => by
    unfold eqCellsD at H
    split at H
    · exact eqCells_const (needs_iff.1 H).2
    · exact eqCells_const H
    · exact H.elim
def eqBody (d : Nat) (xs ys : Array Value) (f : Field) : Sem (ForInStep (Option Bool × Unit)) := do
  if f.name ≠ "_" then
    if !(← Op.equalIn (d + 1) f.type (← part f.type xs f.offset) (← part f.type ys f.offset)) then pure (ForInStep.done (some false, ())) else pure (ForInStep.yield (none, ()))
  else pure (ForInStep.yield (none, ()))
theorem eqBody_ok {d : Nat} {xs ys : Array Value} {f : Field} {v w : Value} {r : Bool} {dd : TypeDesc} {h : Heap} {K : ForInStep (Option Bool × Unit) → Heap → Prop} (hn : f.name ≠ "_") (hu : P.underlying f.type = some dd) (ha : isAggT P f.type = false)
    (hv : xs.toList[f.offset]? = some v) (hw : ys.toList[f.offset]? = some w) (he : ∀ K' : Bool → Heap → Prop, wpS P qt (Op.equalIn (d + 1) f.type v w) h K' = K' r h) (h1 : r = true → K (.yield (none, ())) h) (h2 : r = false → K (.done (some false, ())) h) : wpS P qt (eqBody d xs ys f) h K := by
  unfold eqBody
  rw [if_pos hn, wpS_bind]
  refine wpS_partCell hu ha hv ?_
  rw [wpS_bind]
  refine wpS_partCell hu ha hw ?_
  rw [wpS_bind, he]
  cases r with
  | true => exact h1 rfl
  | false => exact h2 rfl
theorem loop_eq {d : Nat} {xs ys : Array Value} {h : Heap} : ∀ {fs : List Field} {K : Bool → Prop}, eqCellsD P fs xs.toList ys.toList K →
    wpS P qt (forIn fs ((none, ()) : Option Bool × Unit) fun f _ => eqBody d xs ys f) h (fun r h' => h' = h ∧ ((r.1 = none ∧ K true) ∨ (r.1 = some false ∧ K false))) := by
  intro fs
  induction fs with
  | nil => intro K H; rw [List.forIn_nil]; exact ⟨rfl, .inl ⟨rfl, H⟩⟩
  | cons f fs ih =>
    intro K H
    rw [List.forIn_cons, wpS_bind]
    unfold eqCellsD at H
    split at H
    · rename_i k0 k x k' y hn hu hv hw
      obtain ⟨hk, H2⟩ := needs_iff.1 H
      subst hk
      exact eqBody_ok (by simpa using hn) hu (by unfold isAggT; rw [hu]) hv hw (fun K' => equalIn_int hu k x y h K' d) (fun hr => by rw [hr] at H2; simp only [Bool.true_and] at H2; exact ih H2) (fun hr => by rw [hr] at H2; simp only [Bool.false_and] at H2; exact ⟨rfl, .inr ⟨rfl, eqCells_const H2⟩⟩)
    · rename_i x y hn hu hv hw
      exact eqBody_ok (by simpa using hn) hu (by unfold isAggT; rw [hu]) hv hw (fun K' => equalIn_bool hu x y h K' d) (fun hr => by rw [hr] at H; simp only [Bool.true_and] at H; exact ih H) (fun hr => by rw [hr] at H; simp only [Bool.false_and] at H; exact ⟨rfl, .inr ⟨rfl, eqCells_const H⟩⟩)
    · exact H.elim
theorem equalIn_struct {t : TypeId} {fs : Array Field} {xs ys : Array Value} {h : Heap} {K : Bool → Heap → Prop} {d : Nat} (hu : P.underlying t = some (.struct fs)) (hst : P.stoodInHeld t = false) (H : eqCellsD P fs.toList xs.toList ys.toList fun r => K r h) :
    wpS P qt (Op.equalIn (d + 2) t (.agg xs) (.agg ys)) h K := by
  unfold Op.equalIn
  rw [wpS_bind, wpS_underlying hu]
  simp only
  rw [wpS_bind, wpS_program, hst]
  simp only [Bool.false_eq_true, if_false]
  rw [wpS_bind, ← Array.forIn_toList]
  refine wpS_mono _ (loop_eq (d := d) H) ?_
  rintro r h' ⟨rfl, ⟨h1, h2⟩ | ⟨h1, h2⟩⟩
  · rw [h1]; exact h2
  · rw [h1]; exact h2
theorem structEqD_sound {op : BinOp} {t : TypeId} {xs ys : Array Value} {X Y : Operand} {h : Heap} {K : Value → Heap → Prop} (H : structEqD P op t xs.toList ys.toList fun v => K v h) :
    wpS P qt (do eqGuard op t X Y (.agg xs) (.agg ys); binOp op t (.agg xs) (.agg ys)) h K := by
  have hm : Op.maxDepth = 9998 + 2 := rfl
  have guard : ∀ op, (op = .eql ∨ op = .neq) → P.eqGuardType P.depth t = false → ∀ K' : Unit → Heap → Prop, K' () h → wpS P qt (eqGuard op t X Y (.agg xs) (.agg ys)) h K' := fun op ho hg K' hk => by
    unfold eqGuard
    rcases ho with rfl | rfl
    · simp only
      rw [if_neg (by simp)]
      simp only [wpS_bind, wpS_program, hg]
      exact hk
    · simp only
      rw [if_neg (by simp)]
      simp only [wpS_bind, wpS_program, hg]
      exact hk
  unfold structEqD at H
  split at H
  · rename_i fs hu hg hst
    rw [wpS_bind]
    refine guard _ (.inl rfl) hg _ ?_
    show wpS P qt (do pure (.bool (← Op.equal t (.agg xs) (.agg ys)))) h K
    rw [wpS_bind]
    unfold Op.equal
    rw [hm]
    exact equalIn_struct hu hst H
  · rename_i fs hu hg hst
    rw [wpS_bind]
    refine guard _ (.inr rfl) hg _ ?_
    show wpS P qt (do pure (.bool (!(← Op.equal t (.agg xs) (.agg ys))))) h K
    rw [wpS_bind]
    unfold Op.equal
    rw [hm]
    exact equalIn_struct hu hst H
  · exact H.elim
end
def stepY (P : Program) (C : CallP) (Y : YP) (Q : PostD) (o : Oper) (a : Act) (h : Heap) (K : Act → Heap → Prop) : Prop := match o.op with
  | .call c => (match c.callee with
    | .value f => (match yieldOf (a.eval f) with
      | some l => Y l (c.args.toList.map a.eval) h fun v h' => asResT P o.type v fun v' => K (a.put o.dst v') h'
      | none => stepD P C Q o a h K)
    | _ => stepD P C Q o a h K)
  | .binOp op t x y _ => (match a.eval x, a.eval y with
    | .agg cs, .agg ds => structEqD P op t cs.toList ds.toList fun v => K (a.put o.dst v) h
    | _, _ => stepD P C Q o a h K)
  | _ => stepD P C Q o a h K
theorem stepY_eq {P : Program} {C : CallP} {Y : YP} {Q : PostD} {o : Oper} {a : Act} {h : Heap} {K : Act → Heap → Prop} (hn : ∀ c, o.op ≠ .call c) (hb : ∀ op t x y yt, o.op ≠ .binOp op t x y yt) : stepY P C Y Q o a h K = stepD P C Q o a h K := by
  unfold stepY
  split
  · rename_i c ho; exact absurd ho (hn c)
  · rename_i op t x y yt ho; exact absurd ho (hb op t x y yt)
  · rfl

section
variable {P : Program} {C : CallP} {Q : PostD} {ops : Array Oper}
theorem oper_wide {o : Oper} {a : Act} {w : World} {n : Nat} {next : Act → World → Prop} {Q' : Exit → Act → World → Prop} (h : o.wp P a w next Q') : o.wpIn Fence.wide n P a w next Q' := by
  unfold Oper.wp at h
  refine ⟨fun _ _ => trivial, ?_⟩
  have e : o.semAt Fence.wide.round a.eval = execOp a.eval o := Oper.semAt_none _ _
  rw [e]
  generalize (execOp a.eval o).run P w = r at h
  cases r with
  | ok x w' =>
    cases x <;> simp only [Oper.upon] at h <;> simp only [Oper.uponIn]
    case value u => exact h
    case skip => exact h
    case defer d => exact h
    case enter f args => exact ⟨fun hh => by simp [Fence.wide] at hh, callsIn_wide.2 h⟩
    case row row args => exact ⟨fun hh => by simp [Fence.wide] at hh, fun c cs _ => let ⟨v, w', r, s⟩ := h c cs; ⟨v, w', r, stepsIn_wide.2 s⟩⟩
  | halt x w' =>
    cases x <;> simp only [Oper.upon] at h <;> simp only [Oper.uponIn]
    case panic u => exact h

theorem stepY_wpIn (hC : CallOK P C) {o : Oper} {a : Act} {K : Act → Heap → Prop} {next : Act → World → Prop} {Q' : Exit → Act → World → Prop} {w : World}
    (H : stepY P C (YieldsHP P) Q o a w.heap K) (hK : ∀ a' w', keeps w w' → ((∃ v, a' = a.put o.dst v) ∨ (∃ c, o.op = .defer c)) → K a' w'.heap → next a' w')
    (hp : ∀ c w', keeps w w' → Q (.panic c) a w'.heap → Q' (.panic c) a w') : o.wpIn Fence.wide 0 P a w next Q' := by
  unfold stepY at H
  split at H
  · rename_i c ho
    split at H
    · rename_i f hf
      split at H
      · rename_i l hl
        obtain ⟨fn, tmps, assign, body, hy, hround⟩ := H w rfl
        refine ⟨fun _ _ => trivial, ?_⟩
        have e : o.semAt Fence.wide.round a.eval = execOp a.eval o := Oper.semAt_none _ _
        have hargs : (c.args.toList.map a.eval).toArray = c.args.map a.eval := by apply Array.toList_inj.1; simp
        rw [hargs] at hy
        have hrun : (execOp a.eval o).run P w = .ok (.round l fn tmps assign body) w := by
          unfold execOp
          simp only [ho, resolve, hf, yieldOf_spec hl, Deferred.ofValue]
          simp only [Sem.run_bind, Sem.run_pure, Result.andThen, invoke]
          rw [show (#[] : Array Value) ++ c.args.map a.eval = c.args.map a.eval by simp]
          exact hy
        rw [e, hrun]
        simp only [Oper.uponIn]
        refine ⟨fun hh => by simp [Fence.wide] at hh, hround.mono fun e w' he => ?_⟩
        obtain ⟨hk, v, rfl, hv⟩ := he
        exact hK _ _ hk (.inl ⟨_, rfl⟩) (asResT_sound hv)
      · exact oper_wide (stepD_wp hC H hK hp)
    · exact oper_wide (stepD_wp hC H hK hp)
  · rename_i op t x y yt ho
    split at H
    · rename_i cs ds hx hy
      refine oper_wide ?_
      have h1 : wpS P false (execOp a.eval o) w.heap (nextOK false (fun _ _ _ _ _ => False) (fun _ _ => False) fun v h' => K (a.put o.dst v) h') := by
        unfold execOp
        simp only [ho, hx, hy]
        exact wpS_v (structEqD_sound H)
      obtain ⟨n, w', hr, hk, _, hn⟩ := wpS_run _ h1 rfl
      unfold Oper.wp
      rw [hr]
      cases n <;> simp only [nextOK] at hn <;> simp only [Oper.upon]
      · exact hK _ _ hk (.inl ⟨_, rfl⟩) hn
      · exact hK _ _ hk (.inl ⟨_, rfl⟩) hn.2
      · exact hn.2.elim
    · exact oper_wide (stepD_wp hC H hK hp)
  · exact oper_wide (stepD_wp hC H hK hp)
end

def seqY (P : Program) (C : CallP) (Y : YP) (Q : PostD) (ops : Array Oper) : List Oper → Act → Heap → (Act → Heap → Prop) → Prop
  | [], a, h, K => K a h
  | o :: rest, a, h, K => guardD ops o a (fun a => stepY P C Y Q o a h fun a' h' => seqY P C Y Q ops rest a' h' K) (fun a => seqY P C Y Q ops rest (a.put o.dst undef) h K)
def withY (P : Program) (C : CallP) (Y : YP) (Q : PostD) (ops : Array Oper) (i : Nat) (a : Act) (h : Heap) (k : Act → Heap → Prop) : Prop := match ops[i]? with
  | none => False
  | some o => guardD ops o a (fun a => stepY P C Y Q o a h k) (fun a => k (a.put o.dst undef) h)
def goY (P : Program) (C : CallP) (Y : YP) (Q : PostD) (ops : Array Oper) (ro : Option (Nat → Prop)) (i : Nat) (a : Act) (h : Heap) (k : Act → Heap → Prop) : Prop := match newB ops i with
  | true => withD P C Q ops i a h k
  | false => withY P C Y Q ops i a h fun a' h' => relH ro h h' ∧ k a' h'
def planY (P : Program) (C : CallP) (Y : YP) (Q : PostD) (ops : Array Oper) (ro : Option (Nat → Prop)) : Plan → Act → Heap → (Act → Heap → Prop) → Prop
  | .done, a, h, K => K a h
  | .take i p, a, h, K => withT P C Q ops ro i a h fun a' h' => planY P C Y Q ops ro p a' h' K
  | .go i p, a, h, K => goY P C Y Q ops ro i a h fun a' h' => planY P C Y Q ops ro p a' h' K
  | .alt i p q, a, h, K => goY P C Y Q ops ro i a h (fun a' h' => planY P C Y Q ops ro p a' h' K) ∧ planY P C Y Q ops ro q a h K
  | .bar i _ p, a, h, K => withY P C Y Q ops i a h fun a' h' => planY P C Y Q ops ro p a' h' K
  | .keep _, _, _, _ => False

/-! ### any order, fenced -/
section
variable {P : Program} {md : Region.Mode} {ops : Array Oper} {Q : Exit → Act → World → Prop} {bar : Nat → Bool} {S : World → Prop}
theorem yieldsW {i : Nat} {o : Oper} {v : Value} {a : Act} (hi : ops[i]? = some o) (hy : YieldsIf P ops S o v a) {K : Act → World → Prop} {w : World} (hS : S w) (h : K (a.put o.dst v) w) : wpOpIn Fence.wide 0 P ops Q i K a w := by
  unfold wpOpIn
  simp only [hi]
  rcases hy with ⟨hw, hv⟩ | ⟨hw, rfl⟩
  · rw [if_pos hw]
    refine ⟨fun _ _ => trivial, ?_⟩
    have e : o.semAt Fence.wide.round a.eval = execOp a.eval o := Oper.semAt_none _ _
    rw [e, hv w hS]
    exact h
  · rw [if_neg (by rw [hw]; simp)]
    exact ⟨fun _ _ => trivial, h⟩
theorem putW {j : Nat} {oi oj : Oper} {v : Value} (hj : ops[j]? = some oj) (hap : oi.apart ops oj = true) (hsi : ∀ cs b, oi.op ≠ .select cs b) (hsj : ∀ cs b, oj.op ≠ .select cs b)
    (hQ : ∀ c a w, Q (.panic c) (a.put oi.dst v) w → Q (.panic c) a w) {K : Act → World → Prop} {a : Act} {w : World} (hy : YieldsIf P ops S oi v a) (h : wpOpIn Fence.wide 0 P ops Q j K (a.put oi.dst v) w) :
    wpOpIn Fence.wide 0 P ops Q j (fun a' w' => YieldsIf P ops S oi v a' ∧ K (a'.put oi.dst v) w') a w := by
  obtain ⟨h1, h2, h3⟩ := Oper.apart_spec hap
  have keep : ∀ (a : Act), YieldsIf P ops S oi v a → ∀ u, YieldsIf P ops S oi v (a.put oj.dst u) := fun a hy u => hy.of_same (execOp_put oi hsi a oj.dst u h3) (wanted_put oi a oj.dst u h3)
  have swap : ∀ (a : Act) u, (a.put oi.dst v).put oj.dst u = (a.put oj.dst u).put oi.dst v := fun a u => Act.put_comm a v u h2
  unfold wpOpIn at h ⊢
  simp only [hj] at h ⊢
  rw [wanted_put oj a oi.dst v h1] at h
  by_cases hw : Region.wanted oj (yielded ops a.tmps) = true
  · rw [if_pos hw] at h ⊢
    obtain ⟨_, h⟩ := h
    refine ⟨fun _ _ => trivial, ?_⟩
    have e : ∀ ρ, oj.semAt Fence.wide.round ρ = execOp ρ oj := fun ρ => Oper.semAt_none _ _
    rw [e, execOp_put oj hsj a oi.dst v h1] at h
    rw [e]
    generalize (execOp a.eval oj).run P w = r at h
    cases r with
    | ok x w' =>
      cases x <;> simp only [Oper.uponIn] at h ⊢
      case value u => rw [swap] at h; exact ⟨keep a hy u, h⟩
      case skip => rw [swap] at h; exact ⟨keep a hy _, h⟩
      case defer d =>
        have hy' : YieldsIf P ops S oi v { a with defers := d :: a.defers } := hy.of_same rfl rfl
        refine ⟨keep _ hy' _, ?_⟩
        rw [← swap, ← Act.put_defers]
        exact h
      case enter f args =>
        refine ⟨h.1, h.2.mono fun e w'' he => ?_⟩
        cases e with
        | returned u => simp only [swap] at he; exact ⟨keep a hy u, he⟩
        | panicked c => exact hQ _ _ _ he
        | outgrown => exact he
      case row row args => exact ⟨h.1, h.2.mono fun u w'' he => by rw [swap] at he; exact ⟨keep a hy u, he⟩⟩
      case round l f tmps assign body =>
        refine ⟨h.1, h.2.mono fun e w'' he => ?_⟩
        cases e with
        | returned u => simp only [swap] at he; exact ⟨keep a hy u, he⟩
        | panicked c => exact hQ _ _ _ he
        | outgrown => exact he
    | halt x w' =>
      cases x <;> simp only [Oper.uponIn] at h ⊢
      case panic u => exact hQ _ _ _ h
  · rw [if_neg hw] at h ⊢
    rw [swap] at h
    exact ⟨fun _ _ => trivial, keep a hy _, h.2⟩
def wpAnyEW (P : Program) (md : Region.Mode) (ops : Array Oper) (Q : Exit → Act → World → Prop) (bar : Nat → Bool) (S : World → Prop) : Nat → Array Bool → Act → World → Prop
  | 0, listed, a, w => Region.ready md ops listed = [] ∧ Q .normal a w
  | fuel + 1, listed, a, w =>
    (Region.ready md ops listed = [] → Q .normal a w) ∧
    ∀ i ∈ Region.ready md ops listed, wpOpIn Fence.wide 0 P ops Q i (fun a' w' => (bar i = true → wpAnyIn Fence.wide 0 P md ops Q fuel (listed.setIfInBounds i true) a' w') ∧
      (bar i = false → S w' ∧ wpAnyEW P md ops Q bar S fuel (listed.setIfInBounds i true) a' w')) a w

theorem wpAnyW_of_E : ∀ (fuel : Nat) (listed : Array Bool) (a : Act) (w : World), wpAnyEW P md ops Q bar S fuel listed a w → wpAnyIn Fence.wide 0 P md ops Q fuel listed a w
  | 0, _, _, _, h => h
  | fuel + 1, _, _, _, h => ⟨h.1, fun i hi => wpOpIn_mono (fun a' w' h' => by
      cases hb : bar i with
      | true => exact h'.1 hb
      | false => exact wpAnyW_of_E fuel _ a' w' (h'.2 hb).2) (h.2 i hi)⟩

theorem wpAnyEW_mono {S' : World → Prop} (hS : ∀ w, S w → S' w) : ∀ (fuel : Nat) (listed : Array Bool) (a : Act) (w : World), wpAnyEW P md ops Q bar S fuel listed a w → wpAnyEW P md ops Q bar S' fuel listed a w
  | 0, _, _, _, h => h
  | fuel + 1, _, _, _, h => ⟨h.1, fun i hi => wpOpIn_mono (fun a' w' h' => ⟨h'.1, fun hb => ⟨hS _ (h'.2 hb).1, wpAnyEW_mono hS fuel _ a' w' (h'.2 hb).2⟩⟩) (h.2 i hi)⟩

theorem wpAnyEW_first {i : Nat} {oi : Oper} {v : Value} (Yl : Act → Prop) (hi : ops[i]? = some oi)
    (hY1 : ∀ a w, S w → Yl a → ∀ K : Act → World → Prop, K (a.put oi.dst v) w → wpOpIn Fence.wide 0 P ops Q i K a w)
    (hY2 : ∀ j oj, ops[j]? = some oj → oi.apart ops oj = true → ∀ (K : Act → World → Prop) a w, Yl a → wpOpIn Fence.wide 0 P ops Q j K (a.put oi.dst v) w → wpOpIn Fence.wide 0 P ops Q j (fun a' w' => Yl a' ∧ K (a'.put oi.dst v) w') a w)
    (hB : ∀ j (listed : Array Bool) fuel a' w', bar j = true → ClosedL md ops listed → j ∈ Region.ready md ops listed → i ∈ Region.ready md ops (listed.setIfInBounds j true) →
      (∀ k ok, ops[k]? = some ok → k ≠ i → (listed.setIfInBounds j true).getD k true = false → (∀ e ∈ ok.after, Region.binds md e = true → e.on ≠ i) → oi.apart ops ok = true) →
      Yl a' → wpAnyIn Fence.wide 0 P md ops Q fuel ((listed.setIfInBounds j true).setIfInBounds i true) (a'.put oi.dst v) w' → wpAnyIn Fence.wide 0 P md ops Q (fuel + 1) (listed.setIfInBounds j true) a' w') :
    ∀ (fuel : Nat) (listed : Array Bool) (a : Act) (w : World), ClosedL md ops listed →
      (∀ j oj, ops[j]? = some oj → j ≠ i → listed.getD j true = false → (∀ e ∈ oj.after, Region.binds md e = true → e.on ≠ i) → oi.apart ops oj = true) →
      i ∈ Region.ready md ops listed → bar i = false → Yl a → S w →
      wpAnyEW P md ops Q bar S fuel (listed.setIfInBounds i true) (a.put oi.dst v) w → wpAnyEW P md ops Q bar S (fuel + 1) listed a w := by
  intro fuel
  induction fuel with
  | zero =>
    intro listed a w _ _ hr hbi hy hS H
    refine ⟨fun h => (by rw [h] at hr; cases hr), fun j hj => ?_⟩
    by_cases hji : j = i
    · subst hji
      exact hY1 a w hS hy _ ⟨fun e => (by rw [hbi] at e; cases e), fun _ => ⟨hS, H⟩⟩
    · have := ready_mono hj hji
      rw [H.1] at this
      cases this
  | succ fuel ih =>
    intro listed a w hcl hfree hr hbi hy hS H
    refine ⟨fun h => (by rw [h] at hr; cases hr), fun j hj => ?_⟩
    by_cases hji : j = i
    · subst hji
      exact hY1 a w hS hy _ ⟨fun e => (by rw [hbi] at e; cases e), fun _ => ⟨hS, H⟩⟩
    · have h1 := H.2 j (ready_mono hj hji)
      obtain ⟨hjun, oj, hoj, hall⟩ := mem_ready.1 hj
      have hnot : ∀ e ∈ oj.after, Region.binds md e = true → e.on ≠ i := fun e he hb heq => by
        have h1 := hall e he hb
        have h0 := (mem_ready.1 hr).1
        rw [heq] at h1
        rcases Nat.lt_or_ge i listed.size with h' | h'
        · simp [h'] at h0 h1; rw [h0] at h1; cases h1
        · simp [Array.getElem?_eq_none h'] at h1
      have h2 := hY2 j oj hoj (hfree j oj hoj hji hjun hnot) _ a w hy h1
      have hfree' : ∀ k ok, ops[k]? = some ok → k ≠ i → (listed.setIfInBounds j true).getD k true = false →
          (∀ e ∈ ok.after, Region.binds md e = true → e.on ≠ i) → oi.apart ops ok = true := fun k ok hk hki hun hno => by
        refine hfree k ok hk hki ?_ hno
        by_cases hjk : j = k
        · subst hjk; exact hjun
        · rw [getD_set_ne true hjk] at hun; exact hun
      refine wpOpIn_mono (fun a' w' h3 => ?_) h2
      obtain ⟨hy', h4, h5⟩ := h3
      refine ⟨fun hb => ?_, fun hb => ?_⟩
      · have h6 := h4 hb
        rw [Array.setIfInBounds_comm _ _ (Ne.symm hji)] at h6
        exact hB j listed fuel a' w' hb hcl hj (ready_mono hr (Ne.symm hji)) hfree' hy' h6
      · obtain ⟨hS', h6⟩ := h5 hb
        rw [Array.setIfInBounds_comm _ _ (Ne.symm hji)] at h6
        exact ⟨hS', ih (listed.setIfInBounds j true) a' w' (hcl.set hj) hfree' (ready_mono hr (Ne.symm hji)) hbi hy' hS' h6⟩


theorem anyEW_of : ∀ (fuel : Nat) (listed : Array Bool) (a : Act) (w : World), wpAnyIn Fence.wide 0 P md ops Q fuel listed a w → wpAnyEW P md ops Q (fun _ => false) (fun _ => True) fuel listed a w
  | 0, _, _, _, h => h
  | fuel + 1, _, _, _, h => ⟨h.1, fun i hi => wpOpIn_mono (fun a' w' h' => ⟨fun e => (by cases e), fun _ => ⟨trivial, anyEW_of fuel _ a' w' h'⟩⟩) (h.2 i hi)⟩
theorem anyW_first {i : Nat} {oi : Oper} {v : Value} (hi : ops[i]? = some oi) (hsel : ∀ (j : Nat) (o : Oper) cs b, ops[j]? = some o → o.op ≠ .select cs b) (hQ : ∀ c a w, Q (.panic c) (a.put oi.dst v) w → Q (.panic c) a w)
    (fuel : Nat) (listed : Array Bool) (a : Act) (w : World) (hcl : ClosedL md ops listed)
    (hfree : ∀ j oj, ops[j]? = some oj → j ≠ i → listed.getD j true = false → (∀ e ∈ oj.after, Region.binds md e = true → e.on ≠ i) → oi.apart ops oj = true) (hr : i ∈ Region.ready md ops listed)
    (hy : YieldsIf P ops (fun _ => True) oi v a) (H : wpAnyIn Fence.wide 0 P md ops Q fuel (listed.setIfInBounds i true) (a.put oi.dst v) w) : wpAnyIn Fence.wide 0 P md ops Q (fuel + 1) listed a w :=
  wpAnyW_of_E _ _ _ _ (wpAnyEW_first (bar := fun _ => false) (S := fun _ => True) (fun a' => YieldsIf P ops (fun _ => True) oi v a') hi (fun a' w' hS hy' K hK => yieldsW hi hy' hS hK)
    (fun j oj hj hap K a' w' hy' hh => putW hj hap (fun cs b => hsel i oi cs b hi) (fun cs b => hsel j oj cs b hj) hQ hy' hh) (fun j listed' fuel' a' w' hb => by cases hb) fuel listed a w hcl hfree hr rfl hy trivial (anyEW_of _ _ _ _ H))
end

/-! ### soundness -/
section
variable {P : Program} {C : CallP} {Q : PostD} {ops : Array Oper}
theorem seqY_sound (hC : CallOK P C) (w₀ : World) (Fr : Act → Prop) : ∀ (l : List Oper) (a : Act) (w : World) (K : Act → Heap → Prop), keeps w₀ w → seqY P C (YieldsHP P) Q ops l a w.heap K →
    (∀ a' w', keeps w₀ w' → FrL l a a' → K a' w'.heap → Q .normal a' w'.heap) → (∀ a', FrL l a a' → Fr a') → wpListIn Fence.wide 0 P ops (postOf w₀ Fr Q) l a w
  | [], a, w, K, hk, H, hQ, hF => ⟨hk, hF a (fun W _ => agree.refl W a), hQ a w hk (fun W _ => agree.refl W a) H⟩
  | o :: rest, a, w, K, hk, H, hQ, hF => by
    have hcons : ∀ a1, (∀ W, dstIn W o = true → agree W a a1) → ∀ a', FrL rest a1 a' → FrL (o :: rest) a a' := fun a1 h1 a' h2 W hW => by
      simp only [List.all_cons, Bool.and_eq_true] at hW
      exact (h1 W hW.1).trans (h2 W hW.2)
    have hrec : ∀ a1 w1, keeps w₀ w1 → (∀ W, dstIn W o = true → agree W a a1) → seqY P C (YieldsHP P) Q ops rest a1 w1.heap K → wpListIn Fence.wide 0 P ops (postOf w₀ Fr Q) rest a1 w1 := fun a1 w1 hk1 h1 H1 =>
      seqY_sound hC w₀ Fr rest a1 w1 K hk1 H1 (fun a' w' hk' hf => hQ a' w' hk' (hcons a1 h1 a' hf)) (fun a' hf => hF a' (hcons a1 h1 a' hf))
    unfold wpListIn
    rcases guardD_spec H with ⟨hw, H⟩ | ⟨hw, H⟩
    · rw [if_pos hw]
      exact (stepY_wpIn hC H (fun a' w' hk' hs h => hrec a' w' (hk.trans hk') (fun W hW => step_agree hs hW) h) (fun c w' hk' h => ⟨hk.trans hk', h⟩))
    · rw [if_neg (by rw [hw]; simp)]
      exact ⟨fun _ _ => trivial, hrec _ w hk (fun W hW => (agree.refl W a).put hW undef) H⟩

theorem withY_wpOp (hC : CallOK P C) {w₀ : World} {Fr : Act → Prop} {i : Nat} {a : Act} {w : World} {k : Act → Heap → Prop} {next : Act → World → Prop} (hk : keeps w₀ w) (H : withY P C (YieldsHP P) Q ops i a w.heap k)
    (hnext : ∀ a' w', keeps w₀ w' → (∀ W, ops.toList.all (dstIn W) = true → agree W a a') → k a' w'.heap → next a' w') : wpOpIn Fence.wide 0 P ops (postOf w₀ Fr Q) i next a w := by
  unfold withY at H
  split at H
  · exact H.elim
  · rename_i o ho
    unfold wpOpIn
    simp only [ho]
    have hin : ∀ W, ops.toList.all (dstIn W) = true → dstIn W o = true := fun W hW => List.all_eq_true.1 hW o (by
      have := Array.mem_of_getElem? ho
      simpa using this)
    rcases guardD_spec H with ⟨hw, H⟩ | ⟨hw, H⟩
    · rw [if_pos hw]
      exact (stepY_wpIn hC H (fun a' w' hk' hs h => hnext a' w' (hk.trans hk') (fun W hW => step_agree hs (hin W hW)) h) (fun c w' hk' h => ⟨hk.trans hk', h⟩))
    · rw [if_neg (by rw [hw]; simp)]
      exact ⟨fun _ _ => trivial, hnext _ w hk (fun W hW => (agree.refl W a).put (hin W hW) undef) H⟩

theorem withY_of_new {Y : YP} {i : Nat} {a : Act} {h : Heap} {k : Act → Heap → Prop} (hn : newB ops i = true) (H : withD P C Q ops i a h k) : withY P C Y Q ops i a h k := by
  unfold newB at hn
  unfold withD at H
  unfold withY
  split at hn
  · rename_i o ho
    simp only [ho] at H ⊢
    have hc : ∀ c, o.op ≠ .call c := fun c e => by rw [e] at hn; cases hn
    have hb : ∀ op t x y yt, o.op ≠ .binOp op t x y yt := fun op t x y yt e => by rw [e] at hn; cases hn
    simp only [stepY_eq hc hb]
    exact H
  · cases hn
theorem goY_wpOp (hC : CallOK P C) {ro : Option (Nat → Prop)} {w₀ : World} {Fr : Act → Prop} {i : Nat} {a : Act} {w : World} {k : Act → Heap → Prop} {next : Act → World → Prop} (hk : keeps w₀ w) (H : goY P C (YieldsHP P) Q ops ro i a w.heap k)
    (hnext : ∀ a' w', keeps w₀ w' → (∀ W, ops.toList.all (dstIn W) = true → agree W a a') → relH ro w.heap w'.heap → k a' w'.heap → next a' w') : wpOpIn Fence.wide 0 P ops (postOf w₀ Fr Q) i next a w := by
  unfold goY at H
  split at H
  · rename_i hn; exact withY_wpOp hC hk (withY_of_new hn (new_withD hn H)) fun a' w' h1 h2 h => hnext a' w' h1 h2 (h.1.rel ro) h.2
  · exact withY_wpOp hC hk H fun a' w' h1 h2 h => hnext a' w' h1 h2 h.1 h.2

theorem planY_sound (ro : Option (Nat → Prop)) (hC : CallOK P C) {R : List Tmp} (hQp : PanicOK R Q) (hR : avoidR R ops = true) (w₀ : World) (a₀ : Act) (Fr : Act → Prop) (hs : Region.noSelect ops = true)
    (hF : ∀ a', (∀ W, ops.toList.all (dstIn W) = true → agree W a₀ a') → Fr a') :
    ∀ (p : Plan) (n : Nat) (bars : List Nat) (listed : Array Bool) (a : Act) (w : World), ClosedL .any ops listed → keeps w₀ w →
      (∀ W, ops.toList.all (dstIn W) = true → agree W a₀ a) → planY P C (YieldsHP P) Q ops ro p a w.heap (fun a' h' => Q .normal a' h') →
      (okPlan ops true bars n listed p = true → wpAnyEW P .any ops (postOf w₀ Fr Q) (fun i => bars.contains i) (fun w' => relH ro w.heap w'.heap) n listed a w) ∧
      (∀ m n', n = n' + 1 → okPlan ops false bars n listed p = true → m ∈ headsP p → m ∈ Region.ready .any ops listed →
        wpOpIn Fence.wide 0 P ops (postOf w₀ Fr Q) m (fun a' w' => (bars.contains m = true → wpAnyIn Fence.wide 0 P .any ops (postOf w₀ Fr Q) n' (listed.setIfInBounds m true) a' w') ∧
          (bars.contains m = false → relH ro w.heap w'.heap ∧ wpAnyEW P .any ops (postOf w₀ Fr Q) (fun i => bars.contains i) (fun w' => relH ro w.heap w'.heap) n' (listed.setIfInBounds m true) a' w')) a w) := by
  have hsel := Region.noSelect_spec hs
  have hQ' : ∀ (i : Nat) (o : Oper), ops[i]? = some o → ∀ (v : Value) c a w, postOf w₀ Fr Q (.panic c) (a.put o.dst v) w → postOf w₀ Fr Q (.panic c) a w := fun i o ho v c a w h => ⟨h.1, hQp c a o.dst v _ (avoidR_spec hR ho) h.2⟩
  intro p
  induction p with
  | done =>
    intro n bars listed a w hcl hk hag H
    refine ⟨fun hok => ?_, fun m n' _ _ hm => by cases hm⟩
    have hr : Region.ready .any ops listed = [] := by
      have : (readyL ops listed).isEmpty = true := by cases n <;> exact hok
      simpa [readyL] using this
    cases n with
    | zero => exact ⟨hr, hk, hF a hag, H⟩
    | succ n => exact ⟨fun _ => ⟨hk, hF a hag, H⟩, by rw [hr]; simp⟩
  | take i p ih =>
    intro n bars listed a w hcl hk hag H
    refine ⟨fun hok => ?_, fun m n' _ _ hm => by cases hm⟩
    cases n with
    | zero => cases hok
    | succ n =>
      simp only [okPlan, Bool.and_eq_true] at hok
      obtain ⟨⟨_, ht⟩, hok⟩ := hok
      unfold okTake at ht
      cases ho : ops[i]? with
      | none => rw [ho] at ht; cases ht
      | some o =>
        rw [ho] at ht
        simp only [Bool.and_eq_true, Bool.not_eq_true', List.contains_eq_mem, decide_eq_true_eq, decide_eq_false_iff_not, Bool.or_eq_true] at ht
        obtain ⟨⟨⟨⟨hf, hr⟩, hfree⟩, hbi⟩, hload⟩ := ht
        obtain ⟨v, hv, hy, hyp⟩ := float_take hC ho hf H
        have hbi' : (fun i => bars.contains i) i = false := by simpa using hbi
        have hin : ∀ W, ops.toList.all (dstIn W) = true → agree W a₀ (a.put o.dst v) := fun W hW => (hag W hW).put (List.all_eq_true.1 hW o (by
          have := Array.mem_of_getElem? ho
          simpa using this)) v
        have hrec := (ih n bars (listed.setIfInBounds i true) (a.put o.dst v) w (hcl.set hr) hk hin hv).1 hok
        cases hl : isLoad o.op with
        | false =>
          refine wpAnyEW_first (fun a' => YieldsIf P ops (fun _ => True) o v a') ho (fun a' w' _ hy' K hK => yieldsW ho hy' trivial hK)
            (fun j oj hj hap K a' w' hy' hh => putW hj hap (fun cs b => hsel i o cs b ho) (fun cs b => hsel j oj cs b hj) (hQ' i o ho v) hy' hh)
            (fun j listed' fuel a' w' _ hcl' hrj hri hfr hy' hh => anyW_first ho hsel (hQ' i o ho v) fuel _ a' w' (hcl'.set hrj) hfr hri hy' hh)
            n listed a w hcl (Region.free_spec ho hfree) hr hbi' (hyp hl).yieldsIf (relH.refl ro _) hrec
        | true =>
          refine wpAnyEW_first (fun a' => YieldsIf P ops (fun w' => relH ro w.heap w'.heap) o v a') ho (fun a' w' hS hy' K hK => yieldsW ho hy' hS hK)
            (fun j oj hj hap K a' w' hy' hh => putW hj hap (fun cs b => hsel i o cs b ho) (fun cs b => hsel j oj cs b hj) (hQ' i o ho v) hy' hh)
            (fun j listed' fuel a' w' hb hcl' hrj hri _ _ _ => by
              rcases hload with h | h
              · rw [hl] at h; cases h
              · have hd := depB_spec (List.all_eq_true.1 h j (by simpa using hb))
                have h1 := hcl'.ready hd hrj
                have h2 := (mem_ready.1 hri).1
                have hji : j ≠ i := fun e => by subst e; exact hbi (by simpa using hb)
                rw [getD_set_ne true hji] at h2
                rcases Nat.lt_or_ge i listed'.size with h' | h'
                · simp [h'] at h1 h2; rw [h1] at h2; cases h2
                · simp [Array.getElem?_eq_none h'] at h1)
            n listed a w hcl (Region.free_spec ho hfree) hr hbi' hy (relH.refl ro _) hrec
  | keep p ih =>
    intro n bars listed a w hcl hk hag H
    exact H.elim
  | go i p ih =>
    intro n bars listed a w hcl hk hag H
    have one : ∀ n', okPlan ops true bars n' (listed.setIfInBounds i true) p = true → bars.contains i = false → i ∈ Region.ready .any ops listed →
        wpOpIn Fence.wide 0 P ops (postOf w₀ Fr Q) i (fun a' w' => (bars.contains i = true → wpAnyIn Fence.wide 0 P .any ops (postOf w₀ Fr Q) n' (listed.setIfInBounds i true) a' w') ∧
          (bars.contains i = false → relH ro w.heap w'.heap ∧ wpAnyEW P .any ops (postOf w₀ Fr Q) (fun i => bars.contains i) (fun w' => relH ro w.heap w'.heap) n' (listed.setIfInBounds i true) a' w')) a w := fun n' hok hbi hr => by
      refine goY_wpOp hC hk H fun a' w' hk' hin he h => ⟨fun hb => (by rw [hbi] at hb; cases hb), fun _ => ⟨he, ?_⟩⟩
      exact wpAnyEW_mono (fun w'' hw => he.trans hw) n' _ a' w' ((ih n' bars _ a' w' (hcl.set hr) hk' (fun W hW => (hag W hW).trans (hin W hW)) h).1 hok)
    refine ⟨fun hok => ?_, fun m n' hn hok hm hr => ?_⟩
    · cases n with
      | zero => cases hok
      | succ n =>
        simp only [okPlan, Bool.and_eq_true, Bool.or_eq_true, decide_eq_true_eq, Bool.not_eq_true'] at hok
        obtain ⟨⟨hr, hbi⟩, hok⟩ := hok
        have hr' : Region.ready .any ops listed = [i] := by
          rcases hr with h | h
          · cases h
          · exact h
        refine ⟨fun h => (by rw [hr'] at h; cases h), fun j hj => ?_⟩
        rw [hr'] at hj
        obtain rfl := List.mem_singleton.1 hj
        exact one n hok hbi (by rw [hr']; simp)
    · subst hn
      simp only [okPlan, Bool.and_eq_true, Bool.or_eq_true, decide_eq_true_eq, Bool.not_eq_true'] at hok
      obtain ⟨⟨_, hbi⟩, hok⟩ := hok
      obtain rfl : m = i := List.mem_singleton.1 hm
      exact one n' hok hbi hr
  | alt i p q ihp ihq =>
    intro n bars listed a w hcl hk hag H
    have one : ∀ n', okPlan ops true bars n' (listed.setIfInBounds i true) p = true → bars.contains i = false → i ∈ Region.ready .any ops listed →
        wpOpIn Fence.wide 0 P ops (postOf w₀ Fr Q) i (fun a' w' => (bars.contains i = true → wpAnyIn Fence.wide 0 P .any ops (postOf w₀ Fr Q) n' (listed.setIfInBounds i true) a' w') ∧
          (bars.contains i = false → relH ro w.heap w'.heap ∧ wpAnyEW P .any ops (postOf w₀ Fr Q) (fun i => bars.contains i) (fun w' => relH ro w.heap w'.heap) n' (listed.setIfInBounds i true) a' w')) a w := fun n' hok hbi hr => by
      refine goY_wpOp hC hk H.1 fun a' w' hk' hin he h => ⟨fun hb => (by rw [hbi] at hb; cases hb), fun _ => ⟨he, ?_⟩⟩
      exact wpAnyEW_mono (fun w'' hw => he.trans hw) n' _ a' w' ((ihp n' bars _ a' w' (hcl.set hr) hk' (fun W hW => (hag W hW).trans (hin W hW)) h).1 hok)
    have both : ∀ m n', okPlan ops false bars (n' + 1) listed q = true → okPlan ops true bars n' (listed.setIfInBounds i true) p = true → bars.contains i = false → m ∈ i :: headsP q → m ∈ Region.ready .any ops listed →
        wpOpIn Fence.wide 0 P ops (postOf w₀ Fr Q) m (fun a' w' => (bars.contains m = true → wpAnyIn Fence.wide 0 P .any ops (postOf w₀ Fr Q) n' (listed.setIfInBounds m true) a' w') ∧
          (bars.contains m = false → relH ro w.heap w'.heap ∧ wpAnyEW P .any ops (postOf w₀ Fr Q) (fun i => bars.contains i) (fun w' => relH ro w.heap w'.heap) n' (listed.setIfInBounds m true) a' w')) a w := fun m n' hq hp hbi hm hr => by
      rcases List.mem_cons.1 hm with rfl | hm
      · exact one n' hp hbi hr
      · exact (ihq (n' + 1) bars listed a w hcl hk hag H.2).2 m n' rfl hq hm hr
    refine ⟨fun hok => ?_, fun m n' hn hok hm hr => ?_⟩
    · cases n with
      | zero => cases hok
      | succ n =>
        simp only [okPlan, Bool.and_eq_true, Bool.or_eq_true, decide_eq_true_eq, Bool.not_eq_true'] at hok
        obtain ⟨⟨⟨hr, hbi⟩, hok1⟩, hok2⟩ := hok
        have hr' : Region.ready .any ops listed = i :: headsP q := by
          rcases hr with h | h
          · cases h
          · exact h
        refine ⟨fun h => (by rw [hr'] at h; cases h), fun j hj => ?_⟩
        exact both j n hok2 hok1 hbi (by rw [hr'] at hj; exact hj) hj
    · subst hn
      simp only [okPlan, Bool.and_eq_true, Bool.or_eq_true, decide_eq_true_eq, Bool.not_eq_true'] at hok
      obtain ⟨⟨⟨_, hbi⟩, hok1⟩, hok2⟩ := hok
      exact both m n' hok2 hok1 hbi hm hr
  | bar i bars' p ih =>
    intro n bars listed a w hcl hk hag H
    refine ⟨fun hok => ?_, fun m n' _ _ hm => by cases hm⟩
    cases n with
    | zero => cases hok
    | succ n =>
      simp only [okPlan, Bool.and_eq_true, decide_eq_true_eq] at hok
      obtain ⟨⟨⟨_, hr⟩, hbi⟩, hok⟩ := hok
      have hr' : Region.ready .any ops listed = [i] := hr
      refine ⟨fun h => (by rw [hr'] at h; cases h), fun j hj => ?_⟩
      rw [hr'] at hj
      obtain rfl := List.mem_singleton.1 hj
      refine withY_wpOp hC hk H fun a' w' hk' hin h => ⟨fun _ => ?_, fun hb => (by have hb : bars.contains j = false := hb; rw [hbi] at hb; cases hb)⟩
      exact wpAnyW_of_E n _ a' w' ((ih n bars' _ a' w' (hcl.set (by rw [hr']; simp)) hk' (fun W hW => (hag W hW).trans (hin W hW)) h).1 hok)

end
end Go.Den

/- RnB: as DenJ and DenK, inside a fence: whole bodies that range over functions. No program in sight. -/
set_option linter.unusedVariables false
set_option linter.unusedSimpArgs false
namespace Go.Den

structure HintsY extends Hints where
  rng : Nat → Option (List CT) := fun _ => none

/-! ### leaving a round -/
/-- The ways out of a round: 0 is a return; an exit; a goto. -/
def keyX : Exit → Option Nat
  | .ret => some 0
  | .exit id => some (2 * id + 1)
  | .goto t => some (2 * t + 2)
  | _ => none
def jumpsOf : Code → List Nat
  | .ret => [0]
  | .exit id => [2 * id + 1]
  | .goto t => [2 * t + 2]
  | .seq a b => jumpsOf a ++ jumpsOf b
  | .cond _ a b => jumpsOf a ++ jumpsOf b
  | .block id c => (jumpsOf c).filter fun k => !(Nat.beq k (2 * id + 1))
  | .loop c => jumpsOf c
  | _ => []
def exitK : Nat → Exit
  | 0 => .ret
  | n + 1 => match Nat.beq (n % 2) 0 with
    | true => .exit (n / 2)
    | false => .goto (n / 2)
def codeK : Nat → Code
  | 0 => .ret
  | n + 1 => match Nat.beq (n % 2) 0 with
    | true => .exit (n / 2)
    | false => .goto (n / 2)
theorem exitK_key {e : Exit} {k : Nat} (h : keyX e = some k) : exitK k = e ∧ ((e = .ret ∧ codeK k = .ret) ∨ (∃ id, e = .exit id ∧ codeK k = .exit id) ∨ ∃ t, e = .goto t ∧ codeK k = .goto t) := by
  cases e with
  | ret =>
    obtain rfl := Option.some.inj h
    exact ⟨rfl, .inl ⟨rfl, rfl⟩⟩
  | exit id =>
    obtain rfl := Option.some.inj h
    have h1 : Nat.beq (2 * id % 2) 0 = true := by rw [Nat.mul_mod_right]; rfl
    have h2 : 2 * id / 2 = id := by omega
    refine ⟨?_, .inr (.inl ⟨id, rfl, ?_⟩)⟩
    · show (match Nat.beq (2 * id % 2) 0 with | true => Exit.exit (2 * id / 2) | false => .goto (2 * id / 2)) = _
      rw [h1, h2]
    · show (match Nat.beq (2 * id % 2) 0 with | true => Code.exit (2 * id / 2) | false => .goto (2 * id / 2)) = _
      rw [h1, h2]
  | goto t =>
    obtain rfl := Option.some.inj h
    have h1 : Nat.beq ((2 * t + 1) % 2) 0 = false := by rw [show (2 * t + 1) % 2 = 1 by omega]; rfl
    have h2 : (2 * t + 1) / 2 = t := by omega
    refine ⟨?_, .inr (.inr ⟨t, rfl, ?_⟩)⟩
    · show (match Nat.beq ((2 * t + 1) % 2) 0 with | true => Exit.exit ((2 * t + 1) / 2) | false => .goto ((2 * t + 1) / 2)) = _
      rw [h1, h2]
    · show (match Nat.beq ((2 * t + 1) % 2) 0 with | true => Code.exit ((2 * t + 1) / 2) | false => .goto ((2 * t + 1) / 2)) = _
      rw [h1, h2]
  | normal => cases h
  | panic c => cases h
  | outgrown => cases h

def objAt (h : Heap) (l : Nat) (o : Obj) : Prop := h[l]? = some o
def putO (h : Heap) (l : Nat) (o : Obj) : Heap := h.setIfInBounds l o
def mark (D : Nat) (a : Act) : Act := { a with defers := { target := .collected D, args := #[] } :: a.defers }
/-- A function's value, with what it has captured. -/
def funD (v : Value) (K : FuncId → List Value → Prop) : Prop := match v with
  | .func (.func g) first lb => (match first.toList with
    | [] => K g lb.toList
    | _ => False)
  | _ => False
theorem funD_spec {v : Value} {K : FuncId → List Value → Prop} (H : funD v K) : ∃ g lb, v = .func (.func g) #[] lb ∧ K g lb.toList := by
  unfold funD at H
  split at H
  · rename_i g first lb
    split at H
    · rename_i hf
      have e : first = #[] := by apply Array.toList_inj.1; rw [hf]
      exact ⟨g, lb, by rw [e], H⟩
    · exact H.elim
  · exact H.elim
def roundQ (l : Nat) (oR oB : Obj) (oJ : Nat → Obj) (js : List Nat) (K : Value → Heap → Prop) : PostD := fun e _ h => match e with
  | .normal => objAt h l oB ∧ K (.bool true) (putO h l oR)
  | e => (match keyX e with
    | some k => (match js.contains k with
      | true => objAt h l oB ∧ K (.bool false) (putO h l (oJ k))
      | false => False)
    | none => False)
def assignQ (l : Nat) (oR oB : Obj) (next : Act → Heap → Prop) : PostD := fun e a h => match e with
  | .normal => objAt h l oR ∧ next a (putO h l oB)
  | _ => False
def afterQ (l : Nat) (oJ oXJ : Nat → Obj) (Q : PostD) (a : Act) (h : Heap) : List Nat → Prop
  | [] => False
  | k :: js => (objAt h l (oJ k) ∧ Q (exitK k) a (putO h l (oXJ k))) ∨ afterQ l oJ oXJ Q a h js
def allTs : List CT → (List Value → Prop) → Prop
  | [], p => p []
  | t :: ts, p => allC t fun v => allTs ts fun vs => p (v :: vs)
def putTs : List Tmp → List Value → Act → Act
  | p :: ps, v :: vs, a => putTs ps vs (a.put (some p) v)
  | _, _, a => a
def noDefB (ops : Array Oper) : Bool := ops.toList.all fun o => match o.op with
  | .defer _ => false
  | _ => true

def denY (P : Program) (C : CallP) (Y : YP) (H : HintsY) : Bool → Code → PostD → Act → Heap → Prop
  | _, .skip, Q, a, h => Q .normal a h
  | top, .region id ops draw, Q, a, h => (match top || noDefB ops with
    | true => (match draw with
      | false => seqY P C Y Q ops ops.toList a h fun a' h' => Q .normal a' h'
      | true => (match H.plan id with
        | some (bars, p) => (match checkPlan ops bars (stripK p) && avoidR H.keep ops with
          | true => keepD (fun ro p => planY P C Y Q ops ro p a h fun a' h' => Q .normal a' h') p
          | false => False)
        | none => False))
    | false => False)
  | top, .seq x y, Q, a, h => (match hintAt H.join y with
    | none => denY P C Y H top x (seqQ (fun a' h' => denY P C Y H top y Q a' h') Q) a h
    | some (S, W) => (match okW W x && inS W S with
      | true => joinD S W (fun Q' a' h' => denY P C Y H top x Q' a' h') (fun Q' a' h' => denY P C Y H top y Q' a' h') Q a h
      | false => False))
  | top, .cond c x y, Q, a, h => (match a.eval c with
    | .bool b => bcase b (denY P C Y H top x Q a h) (denY P C Y H top y Q a h)
    | _ => False)
  | top, .block id c, Q, a, h => denY P C Y H top c (blockQ id Q) a h
  | top, .loop c, Q, a, h => (match hintAt H.loop c with
    | none => False
    | some (S, W) => (match okW W c && inS W S with
      | true => loopD S W (fun Q' a' h' => denY P C Y H top c Q' a' h') Q a h
      | false => False))
  | _, .exit id, Q, a, h => Q (.exit id) a h
  | _, .label _, Q, a, h => Q .normal a h
  | _, .goto l, Q, a, h => Q (.goto l) a h
  | _, .ret, Q, a, h => Q .ret a h
  | true, .rangeFunc g ps x y, Q, a, h => (match (headId y).bind H.rng with
    | some ts => (match Nat.beq ts.length ps.toList.length with
      | true => funD (a.eval g) fun gf lb => ∀ (oR oB oX : Obj) (oJ oXJ : Nat → Obj),
          (∀ (h' : Heap) (K : Value → Heap → Prop), objAt h' (h.size + 1) oR → allTs ts fun vs =>
            denY P C Y H false x (assignQ (h.size + 1) oR oB fun a1 h1 => denY P C Y H false y (roundQ (h.size + 1) oR oB oJ (jumpsOf y) K) a1 h1) (putTs ps.toList vs { a with defers := [] }) h' → Y (h.size + 1) vs h' K) →
          C gf (.func (.yield (h.size + 1)) #[] #[] :: lb).toArray ((h.push (.deferred (some []))).push oR)
            (fun _ h2 => (objAt h2 (h.size + 1) oR ∧ Q .normal (mark h.size a) (putO h2 (h.size + 1) oX)) ∨ afterQ (h.size + 1) oJ oXJ Q (mark h.size a) h2 (jumpsOf y)) (fun c h2 => Q (.panic c) (mark h.size a) h2)
      | false => False)
    | none => False)
  | _, _, _, _, _ => False

/-! ### soundness -/
/-- The fence of a function's own frame, and of a round's. -/
def FR : Option Nat → Fence
  | none => Fence.wide
  | some l => Fence.wide.inRound l

section
variable {P : Program} {ops : Array Oper} {Q : Exit → Act → World → Prop} {r : Nat}
theorem oper_round {o : Oper} {a : Act} {w : World} {next : Act → World → Prop} (hd : ∀ c, o.op ≠ .defer c) (h : o.wpIn Fence.wide 0 P a w next Q) : o.wpIn (Fence.wide.inRound r) 0 P a w next Q := by
  refine ⟨fun _ _ => trivial, ?_⟩
  have h := h.2
  have e1 : o.semAt Fence.wide.round a.eval = execOp a.eval o := Oper.semAt_none _ _
  have e2 : o.semAt (Fence.wide.inRound r).round a.eval = execOp a.eval o := Oper.semAt_eq _ _ _ hd
  rw [e1] at h
  rw [e2]
  exact h
theorem no_def {ops : Array Oper} (h : noDefB ops = true) {o : Oper} (ho : o ∈ ops.toList) : ∀ c, o.op ≠ .defer c := fun c e => by
  have := List.all_eq_true.1 h o ho
  rw [e] at this
  cases this
theorem list_round : ∀ (l : List Oper) (a : Act) (w : World), (∀ o ∈ l, ∀ c, o.op ≠ .defer c) → wpListIn Fence.wide 0 P ops Q l a w → wpListIn (Fence.wide.inRound r) 0 P ops Q l a w
  | [], a, w, _, h => h
  | o :: rest, a, w, hd, h => by
    unfold wpListIn at h ⊢
    by_cases hw : Region.wanted o (yielded ops a.tmps) = true
    · rw [if_pos hw] at h ⊢
      exact Oper.wpIn_mono (fun a' w' h' => list_round rest a' w' (fun o ho => hd o (List.mem_cons_of_mem _ ho)) h') (oper_round (hd o (List.mem_cons_self ..)) h)
    · rw [if_neg hw] at h ⊢
      exact ⟨fun _ _ => trivial, list_round rest _ w (fun o ho => hd o (List.mem_cons_of_mem _ ho)) h.2⟩
theorem op_round {i : Nat} {a : Act} {w : World} {K : Act → World → Prop} (hd : ∀ o ∈ ops.toList, ∀ c, o.op ≠ .defer c) (h : wpOpIn Fence.wide 0 P ops Q i K a w) : wpOpIn (Fence.wide.inRound r) 0 P ops Q i K a w := by
  unfold wpOpIn at h ⊢
  cases ho : ops[i]? with
  | none => simp only [ho] at h ⊢; exact h
  | some o =>
    simp only [ho] at h ⊢
    have hm : o ∈ ops.toList := by have := Array.mem_of_getElem? ho; simpa using this
    by_cases hw : Region.wanted o (yielded ops a.tmps) = true
    · rw [if_pos hw] at h ⊢
      exact oper_round (hd o hm) h
    · rw [if_neg hw] at h ⊢
      exact ⟨fun _ _ => trivial, h.2⟩
theorem any_round {md : Region.Mode} (hd : ∀ o ∈ ops.toList, ∀ c, o.op ≠ .defer c) : ∀ (fuel : Nat) (listed : Array Bool) (a : Act) (w : World), wpAnyIn Fence.wide 0 P md ops Q fuel listed a w → wpAnyIn (Fence.wide.inRound r) 0 P md ops Q fuel listed a w
  | 0, _, _, _, h => h
  | fuel + 1, _, _, _, h => ⟨h.1, fun i hi => wpOpIn_mono (fun a' w' h' => any_round hd fuel _ a' w' h') (op_round hd (h.2 i hi))⟩
end

section
variable {P : Program} {H : HintsY} {F : Fence} {n : Nat}
theorem wpIn_loop_ex {c : Code} {Q : Exit → Act → World → Prop} {a : Act} {w : World} (I : Nat → Act → World → Prop) (h₀ : ∃ n, I n a w)
    (round : ∀ m a w, I m a w → c.wpIn F n P (Exit.then (fun a' w' => ∃ m', m' < m ∧ I m' a' w') Q) a w) : (Code.loop c).wpIn F n P Q a w := by
  classical
  let μ : Act → World → Nat := fun a w => if h : ∃ n, I n a w then Classical.choose (least h) else 0
  refine wpIn_loop (fun a w => ∃ n, I n a w) μ h₀ fun a w hI => ?_
  have hs := Classical.choose_spec (least hI)
  refine wpIn_mono (round _ a w hs.1) fun e a' w' h => ?_
  cases e with
  | normal =>
    obtain ⟨m, hlt, hm⟩ := h
    refine ⟨⟨m, hm⟩, ?_⟩
    have h1 : μ a' w' = Classical.choose (least ⟨m, hm⟩) := dif_pos ⟨m, hm⟩
    have h2 : μ a w = Classical.choose (least hI) := dif_pos hI
    rw [h1, h2]
    exact Nat.lt_of_le_of_lt ((Classical.choose_spec (least ⟨m, hm⟩)).2 m hm) hlt
  | _ => exact h

theorem allC_of {t : CT} {p : Value → Prop} (h : ∀ v, p v) : allC t p := by
  cases t <;> first
    | exact fun x => h _
    | exact fun q n c => h _
theorem allTs_of : ∀ {ts : List CT} {q : List Value → Prop}, (∀ vs, vs.length = ts.length → q vs) → allTs ts q
  | [], q, h => h [] rfl
  | t :: ts, q, h => allC_of fun v => allTs_of fun vs hl => h (v :: vs) (by simp [hl])
theorem putTs_zip : ∀ (ps : List Tmp) (vs : List Value) (a : Act), putTs ps vs a = { a with tmps := (ps.zip vs).foldl (fun t (p, v) => t.setIfInBounds p v) a.tmps }
  | [], vs, a => by simp [putTs]
  | p :: ps, [], a => by simp [putTs]
  | p :: ps, v :: vs, a => by
    rw [putTs, putTs_zip ps vs]
    rfl
theorem afterQ_spec {l : Nat} {oJ oXJ : Nat → Obj} {Q : PostD} {a : Act} {h : Heap} : ∀ {js : List Nat}, afterQ l oJ oXJ Q a h js → ∃ k, objAt h l (oJ k) ∧ Q (exitK k) a (putO h l (oXJ k))
  | k :: js, H => by
    rcases H with H | H
    · exact ⟨k, H⟩
    · exact afterQ_spec H

theorem denY_sound (hm : P.follows .mixedOrders = true) : ∀ (c : Code) (ro : Option Nat) (w₀ : World) (Q : PostD) (a : Act) (w : World), keeps w₀ w → PanicOK H.keep Q → denY P (CallsHP P) (YieldsHP P) H ro.isNone c Q a w.heap →
    c.wpIn (FR ro) 0 P (postC w₀ c a Q) a w := by
  have hC := callsHP_ok P
  intro c
  induction c with
  | skip => intro ro w₀ Q a w hk hp h; exact wpIn_skip ⟨hk, fun W _ => agree.refl W a, h⟩
  | region id ops draw =>
    intro ro w₀ Q a w hk hp h
    simp only [denY] at h
    split at h
    · rename_i hok
      have hdef : ∀ l, ro = some l → ∀ o ∈ ops.toList, ∀ c, o.op ≠ .defer c := fun l hl o ho => by
        rw [hl] at hok
        exact no_def (by simpa using hok) ho
      split at h
      · have h1 := seqY_sound hC w₀ _ ops.toList a w _ hk h (fun _ _ _ _ h => h) (fun a' hf W hW => hf W hW)
        refine wpIn_region_list ?_
        cases ro with
        | none => exact h1
        | some l => exact list_round _ _ _ (hdef l rfl) h1
      · split at h
        · rename_i bars p hpl
          split at h
          · rename_i hc
            simp only [checkPlan, noSel, Bool.and_eq_true] at hc
            obtain ⟨hc, hav⟩ := hc
            refine wpIn_region_any hm ?_
            obtain ⟨ro', h⟩ := keepD_spec h
            have h1 := wpAnyW_of_E _ _ _ _ ((planY_sound ro' hC hp hav w₀ a _ hc.1 (fun a' hf W hW => hf W hW) (stripK p) _ bars _ a { w with drawn := w.drawn + 1 } (ClosedL.start _) ⟨hk.1, hk.2.1, hk.2.2⟩ (fun W _ => agree.refl W a) h).1 hc.2)
            cases ro with
            | none => exact h1
            | some l => exact any_round (hdef l rfl) _ _ _ _ h1
          · exact h.elim
        · exact h.elim
    · exact h.elim
  | seq x y ihx ihy =>
    intro ro w₀ Q a w hk hp h
    have hseq : ∀ a1 w1, frC x a a1 → keeps w₀ w1 → denY P (CallsHP P) (YieldsHP P) H ro.isNone y Q a1 w1.heap → y.wpIn (FR ro) 0 P (postC w₀ (.seq x y) a Q) a1 w1 := fun a1 w1 hf hk1 h1 => by
      refine wpIn_mono (ihy ro w₀ Q a1 w1 hk1 hp h1) fun e a' w' h2 => ?_
      have hfr : frC y a1 a' → frC (.seq x y) a a' := fun hf2 W hW => by
        simp only [okW, Bool.and_eq_true] at hW
        exact (hf W hW.1).trans (hf2 W hW.2)
      cases e <;> first | exact h2 | exact ⟨h2.1, hfr h2.2.1, h2.2.2⟩
    have hfx : ∀ a', frC x a a' → frC (.seq x y) a a' := fun a' hf W hW => by
      simp only [okW, Bool.and_eq_true] at hW
      exact hf W hW.1
    simp only [denY] at h
    split at h
    · refine wpIn_seq (wpIn_mono (ihx ro w₀ _ a w hk (hp.seqQ _) h) fun e a1 w1 h1 => ?_)
      cases e with
      | normal => exact hseq a1 w1 h1.2.1 h1.1 h1.2.2
      | panic c => exact h1
      | outgrown => exact h1
      | exit id => exact ⟨h1.1, hfx _ h1.2.1, h1.2.2⟩
      | goto l => exact ⟨h1.1, hfx _ h1.2.1, h1.2.2⟩
      | ret => exact ⟨h1.1, hfx _ h1.2.1, h1.2.2⟩
    · rename_i S W hj
      split at h
      · rename_i hok
        simp only [Bool.and_eq_true] at hok
        obtain ⟨K, h1, h2⟩ := h
        refine wpIn_seq (wpIn_mono (ihx ro w₀ _ a w hk (hp.joinQ S K) h1) fun e a1 w1 h1 => ?_)
        cases e with
        | normal =>
          obtain ⟨ht, hK⟩ := headOK_spec h1.2.2
          have h3 := allCs_spec (h2 w1.heap (fun i => a1.tmps.getD i undef)) ht hK
          rw [← patch_self (h1.2.1 W hok.1)] at h3
          exact hseq a1 w1 h1.2.1 h1.1 h3
        | panic c => exact h1
        | outgrown => exact h1
        | exit id => exact ⟨h1.1, hfx _ h1.2.1, h1.2.2⟩
        | goto l => exact ⟨h1.1, hfx _ h1.2.1, h1.2.2⟩
        | ret => exact ⟨h1.1, hfx _ h1.2.1, h1.2.2⟩
      · exact h.elim
  | cond c x y ihx ihy =>
    intro ro w₀ Q a w hk hp h
    simp only [denY] at h
    split at h
    · rename_i b hb
      unfold bcase at h
      cases b with
      | true =>
        refine wpIn_cond_true hb (wpIn_mono (ihx ro w₀ Q a w hk hp h) fun e a' w' h2 => ?_)
        have hfr : frC x a a' → frC (.cond c x y) a a' := fun hf W hW => by
          simp only [okW, Bool.and_eq_true] at hW
          exact hf W hW.1
        cases e <;> first | exact h2 | exact ⟨h2.1, hfr h2.2.1, h2.2.2⟩
      | false =>
        refine wpIn_cond_false hb (wpIn_mono (ihy ro w₀ Q a w hk hp h) fun e a' w' h2 => ?_)
        have hfr : frC y a a' → frC (.cond c x y) a a' := fun hf W hW => by
          simp only [okW, Bool.and_eq_true] at hW
          exact hf W hW.2
        cases e <;> first | exact h2 | exact ⟨h2.1, hfr h2.2.1, h2.2.2⟩
    · exact h.elim
  | block id c ih =>
    intro ro w₀ Q a w hk hp h
    refine wpIn_block (wpIn_mono (ih ro w₀ _ a w hk (hp.blockQ id) h) fun e a' w' h2 => ?_)
    cases e with
    | exit id' =>
      obtain ⟨h1, h3, h4⟩ := h2
      simp only [blockQ] at h4
      simp only [Exit.inBlock]
      split at h4
      · rename_i hb
        rw [if_pos (Nat.eq_of_beq_eq_true hb)]
        exact ⟨h1, h3, h4⟩
      · rename_i hb
        rw [if_neg (fun e => by subst e; rw [Nat.beq_refl] at hb; cases hb)]
        exact ⟨h1, h3, h4⟩
    | normal => exact h2
    | goto l => exact h2
    | ret => exact h2
    | panic c => exact h2
    | outgrown => exact h2
  | loop c ih =>
    intro ro w₀ Q a w hk hp h
    simp only [denY] at h
    split at h
    · exact h.elim
    · rename_i S W hj
      split at h
      · rename_i hok
        simp only [Bool.and_eq_true] at hok
        obtain ⟨J, ⟨n, h0⟩, hround⟩ := h
        obtain ⟨ht, hJ⟩ := headOK_spec h0
        refine wpIn_loop_ex (fun n a' w' => keeps w₀ w' ∧ frC c a a' ∧ ∃ vs u, typBs S vs = true ∧ a' = patch a S vs W u ∧ J n vs w'.heap)
          ⟨n, hk, fun W' _ => agree.refl W' a, valsOf S a, (fun i => a.tmps.getD i undef), ht, patch_self (agree.refl W a), hJ⟩ ?_
        rintro n a' w' ⟨hk', hf', vs, u, htv, rfl, hJn⟩
        have h1 := allCs_spec (hround n w'.heap u) htv hJn
        refine wpIn_mono (ih ro w₀ _ _ w' hk' (hp.loopQ S J n) h1) fun e a'' w'' h2 => ?_
        have hfr : frC c (patch a S vs W u) a'' → frC c a a'' := fun hf2 W' hW => (hf' W' hW).trans (hf2 W' hW)
        cases e with
        | normal =>
          obtain ⟨h3, h4, m, hlt, h5⟩ := h2
          obtain ⟨ht2, hJ2⟩ := headOK_spec h5
          exact ⟨m, hlt, h3, hfr h4, valsOf S a'', (fun i => a''.tmps.getD i undef), ht2, patch_self (hfr h4 W hok.1), hJ2⟩
        | panic c => exact h2
        | outgrown => exact h2
        | exit id => exact ⟨h2.1, hfr h2.2.1, h2.2.2⟩
        | goto l => exact ⟨h2.1, hfr h2.2.1, h2.2.2⟩
        | ret => exact ⟨h2.1, hfr h2.2.1, h2.2.2⟩
      · exact h.elim
  | rangeFunc g ps x y ihx ihy =>
    intro ro w₀ Q a w hk hp h
    cases ro with
    | some l => exact h.elim
    | none =>
      simp only [Option.isNone_none, denY] at h
      split at h
      · rename_i ts hts
        split at h
        · rename_i hlen
          have hlen := Nat.eq_of_beq_eq_true hlen
          obtain ⟨gf, lb, hg, h⟩ := funD_spec h
          refine wpIn_rangeFunc fun fn hfn => ?_
          obtain ⟨rec, hrec⟩ : ∃ rec : LoopState → Option Code → Loop, rec = fun st pe => { state := st, pending := pe, fn, tmps := a.tmps, params := ps, assign := x, body := y, defers := w.heap.size } := ⟨_, rfl⟩
          obtain ⟨W1, hW1⟩ : ∃ W1, (w.alloc (.deferred (some []))).alloc (.loop (rec .ready none)) = W1 := ⟨_, rfl⟩
          have hh1 : W1.heap = (w.heap.push (.deferred (some []))).push (.loop (rec .ready none)) := by rw [← hW1]; rfl
          have hk1 : keeps w W1 := by rw [← hW1]; exact keeps.refl w
          have H1 := h (.loop (rec .ready none)) (.loop (rec .busy none)) (.loop (rec .exhausted none)) (fun k => .loop (rec .done (some (codeK k)))) (fun k => .loop (rec .exhausted (some (codeK k)))) ?_
          · rw [← hh1] at H1
            obtain ⟨fn', h1, h2, h3⟩ := H1.1
            have hargs : (.func (.yield (w.heap.size + 1)) #[] #[] :: lb.toList).toArray = #[.func (.yield (w.heap.size + 1)) #[] #[]] ++ lb := by apply Array.toList_inj.1; simp
            rw [hargs] at H1
            refine ⟨w.heap.size + 1, [{ target := .collected w.heap.size, args := #[] }], W1, { target := .fn (.func gf) lb, args := #[.func (.yield (w.heap.size + 1)) #[] #[]] }, W1, gf,
              #[.func (.yield (w.heap.size + 1)) #[] #[]] ++ lb, W1, ?_, ?_, fun _ _ => trivial, ?_, fun hh => by simp [FR, Fence.wide] at hh, ?_⟩
            · rw [← hW1, hrec]; exact run_enterLoop_outer _ _ _ _ _
            · simp only [resolve, hg]
              simp [go_sem]
            · unfold invoke callFunc
              simp only [Sem.run_bind, run_program, Result.andThen, h1, h2, h3, Bool.false_eq_true, if_false, Sem.run_pure]
            · refine (callsIn_wide.2 (H1.2 W1 rfl)).mono fun e w3 he => ?_
              obtain ⟨hk3, he⟩ := he
              have hk3 := hk.trans (hk1.trans hk3)
              cases e with
              | outgrown => exact he.elim
              | panicked c => exact ⟨hk3, he⟩
              | returned v =>
                rcases he with ⟨hl, hq⟩ | hq
                · refine ⟨none, w3.putObj (w.heap.size + 1) (.loop (rec .exhausted none)), ?_, ?_⟩
                  · have := run_endLoop (P := P) hl (by rw [hrec]; simp)
                    rw [hrec] at this ⊢
                    exact this
                  · exact ⟨hk3, (fun W hW => by cases hW), hq⟩
                · obtain ⟨k, hl, hq⟩ := afterQ_spec hq
                  refine ⟨some (codeK k), w3.putObj (w.heap.size + 1) (.loop (rec .exhausted (some (codeK k)))), ?_, ?_⟩
                  · have := run_endLoop (P := P) hl (by rw [hrec]; simp)
                    rw [hrec] at this ⊢
                    exact this
                  · have hq : Q (exitK k) (mark w.heap.size a) (w3.putObj (w.heap.size + 1) (.loop (rec .exhausted (some (codeK k))))).heap := hq
                    generalize w3.putObj (w.heap.size + 1) (.loop (rec .exhausted (some (codeK k)))) = w4, hw4 : w3.putObj (w.heap.size + 1) (.loop (rec .exhausted (some (codeK k)))) = w4 at hq ⊢
                    have hk4 : keeps w₀ w4 := by rw [← hw4]; exact hk3
                    unfold exitK at hq
                    unfold codeK
                    split at hq
                    · exact wpIn_ret ⟨hk4, (fun W hW => by cases hW), hq⟩
                    · split at hq
                      · rename_i hb
                        simp only [hb]
                        exact wpIn_exit ⟨hk4, (fun W hW => by cases hW), hq⟩
                      · rename_i hb
                        simp only [hb]
                        exact wpIn_goto ⟨hk4, (fun W hW => by cases hW), hq⟩
          · intro h' K hready
            refine allTs_of fun vs hvl hd w' hw' => ?_
            subst hw'
            have hsz : vs.toArray.size = (rec .ready none).params.size := by
              rw [hrec]
              simp only [List.size_toArray, hvl]
              simpa using hlen
            have hy := run_yield (P := P) (args := vs.toArray) hready hsz
            refine ⟨_, _, _, _, hy, roundIn_of_wpIn trivial ?_⟩
            have hact : ({ tmps := ((rec .ready none).params.zip vs.toArray).foldl (fun tmps (t, a) => tmps.setIfInBounds t a) (rec .ready none).tmps, defers := [] } : Act) = putTs ps.toList vs { a with defers := [] } := by
              rw [putTs_zip, hrec]
              congr 1
              rw [← Array.foldl_toList]
              simp
            rw [hact]
            have hx := ihx (some (w.heap.size + 1)) w' _ _ w' (keeps.refl w') (fun c a d v h _ hh => hh.elim) hd
            rw [show (rec .ready none).assign = x by rw [hrec]]
            refine wpIn_mono hx fun e a1 w1 h1 => ?_
            cases e with
            | normal =>
              obtain ⟨k1, _, hl1, hb⟩ := h1
              refine ⟨w1.putObj (w.heap.size + 1) (.loop (rec .busy none)), ?_, ?_⟩
              · have := run_beginRound (P := P) hl1 (by rw [hrec])
                rw [hrec] at this ⊢
                exact this
              · rw [show (rec .ready none).body = y by rw [hrec]]
                refine wpIn_mono (ihy (some (w.heap.size + 1)) w' _ a1 (w1.putObj (w.heap.size + 1) (.loop (rec .busy none))) k1 (fun c a d v h _ hh => hh.elim) hb) fun e a2 w2 h2 => ?_
                have out : ∀ e, keyX e ≠ none → keeps w' w2 ∧ roundQ (w.heap.size + 1) (.loop (rec .ready none)) (.loop (rec .busy none)) (fun k => .loop (rec .done (some (codeK k)))) (jumpsOf y) K e a2 w2.heap → ∃ k, keyX e = some k ∧
                    (Instr.endRound (w.heap.size + 1) (some (codeK k))).run P w2 = .ok (.bool false) (w2.putObj (w.heap.size + 1) (.loop (rec .done (some (codeK k))))) ∧ keeps w' (w2.putObj (w.heap.size + 1) (.loop (rec .done (some (codeK k))))) ∧
                    K (.bool false) (w2.putObj (w.heap.size + 1) (.loop (rec .done (some (codeK k))))).heap := fun e hne he => by
                  obtain ⟨k2, he⟩ := he
                  cases hke : keyX e with
                  | none => exact absurd hke hne
                  | some k =>
                    have he' : objAt w2.heap (w.heap.size + 1) (.loop (rec .busy none)) ∧ K (.bool false) (putO w2.heap (w.heap.size + 1) (.loop (rec .done (some (codeK k))))) := by
                      cases e <;> simp only [roundQ, hke] at he <;> first
                        | (cases hke; done)
                        | (split at he
                           · exact he
                           · exact he.elim)
                    refine ⟨k, rfl, ?_, k2, he'.2⟩
                    have := run_endRound (P := P) (some (codeK k)) he'.1
                    rw [hrec] at this ⊢
                    exact this
                cases e with
                | normal =>
                  obtain ⟨k2, _, hl2, hK⟩ := h2
                  refine ⟨.bool true, w2.putObj (w.heap.size + 1) (.loop (rec .ready none)), ?_, k2, _, rfl, hK⟩
                  have := run_endRound (P := P) none hl2
                  rw [hrec] at this ⊢
                  exact this
                | ret =>
                  obtain ⟨k, hk', h3, h4, h5⟩ := out .ret (by simp [keyX]) ⟨h2.1, h2.2.2⟩
                  obtain rfl := Option.some.inj hk'
                  exact ⟨.bool false, _, h3, h4, _, rfl, h5⟩
                | exit id =>
                  obtain ⟨k, hk', h3, h4, h5⟩ := out (.exit id) (by simp [keyX]) ⟨h2.1, h2.2.2⟩
                  have hc : codeK k = .exit id := by
                    rcases (exitK_key hk').2 with ⟨e1, _⟩ | ⟨id', e1, e2⟩ | ⟨t', e1, _⟩
                    · cases e1
                    · rw [e2]; cases e1; rfl
                    · cases e1
                  rw [hc] at h3 h4 h5
                  exact ⟨.bool false, _, h3, h4, _, rfl, h5⟩
                | goto t =>
                  obtain ⟨k, hk', h3, h4, h5⟩ := out (.goto t) (by simp [keyX]) ⟨h2.1, h2.2.2⟩
                  have hc : codeK k = .goto t := by
                    rcases (exitK_key hk').2 with ⟨e1, _⟩ | ⟨id', e1, e2⟩ | ⟨t', e1, e2⟩
                    · cases e1
                    · cases e1
                    · rw [e2]; cases e1; rfl
                  rw [hc] at h3 h4 h5
                  exact ⟨.bool false, _, h3, h4, _, rfl, h5⟩
                | panic c => exact h2.2.elim
                | outgrown => exact h2.elim
            | panic c => exact h1.2.elim
            | outgrown => exact h1.elim
            | ret => exact h1.2.2.elim
            | exit id => exact h1.2.2.elim
            | goto t => exact h1.2.2.elim
        · exact h.elim
      · exact h.elim
  | exit id => intro ro w₀ Q a w hk hp h; exact wpIn_exit ⟨hk, fun W _ => agree.refl W a, h⟩
  | scope c ih => intro ro w₀ Q a w hk hp h; cases ro <;> exact h.elim
  | label l => intro ro w₀ Q a w hk hp h; exact wpIn_label ⟨hk, fun W _ => agree.refl W a, h⟩
  | goto l => intro ro w₀ Q a w hk hp h; exact wpIn_goto ⟨hk, fun W _ => agree.refl W a, h⟩
  | ret => intro ro w₀ Q a w hk hp h; exact wpIn_ret ⟨hk, fun W _ => agree.refl W a, h⟩
  | refuse why => intro ro w₀ Q a w hk hp h; cases ro <;> exact h.elim

end
end Go.Den

/- RnC: a function that ranges over functions, or is ranged over: the condition of its body is enough for its call. No program in sight. -/
set_option linter.unusedVariables false
set_option linter.unusedSimpArgs false
namespace Go.Den

/-- Behind a body: with nothing deferred, or with the mark of one range over a function. -/
def endY (Res : Heap → Prop) (ds : List Deferred) (h : Heap) : Prop := match ds with
  | [] => Res h
  | [d] => (match d.target with
    | .collected D => objAt h D (.deferred (some [])) ∧ Res (putO h D (.deferred none))
    | _ => False)
  | _ => False
def fnQY (P : Program) (rs : List ResultVar) (K : Value → Heap → Prop) (Kp : List PanicEntry → Heap → Prop) : PostD := fun e a h => match e with
  | .normal => endY (fun h' => resD P a h' rs fun vs => K (retV vs) h') a.defers h
  | .ret => endY (fun h' => resD P a h' rs fun vs => K (retV vs) h') a.defers h
  | .panic c => endY (fun h' => Kp c h') a.defers h
  | _ => False
def fnY (P : Program) (C : CallP) (Y : YP) (H : HintsY) (fn : Func) (args : List Value) (h : Heap) (K : Value → Heap → Prop) (Kp : List PanicEntry → Heap → Prop) : Prop :=
  match fn.body with
  | some c => denY P C Y H true c (fnQY P fn.results.toList K Kp) ⟨(args ++ List.replicate (fn.ntmps - args.length) undef).toArray, []⟩ h
  | none => False

section
variable {P : Program}
theorem fnQY_panic (rs : List ResultVar) (K : Value → Heap → Prop) (Kp : List PanicEntry → Heap → Prop) (R : List Tmp) : PanicOK R (fnQY P rs K Kp) := fun c a d v h _ hh => by
  simp only [fnQY, put_defers] at hh ⊢
  exact hh
theorem endY_leaves {fn : Func} {tmps : Array Value} {R : Ending → World → Prop} {Res : Heap → Prop} {ds : List Deferred} {w w0 : World} {u : FrameMode} (hu : u ≠ .run) (hk : keeps w0 w) (H : endY Res ds w.heap)
    (hR : ∀ w', keeps w0 w' → Res w'.heap → LeavesIn Fence.wide 0 P fn tmps R [] u w') : LeavesInM Fence.wide 0 P fn tmps R ds u w := by
  unfold endY at H
  split at H
  · exact hR w hk H
  · rename_i d
    split at H
    · rename_i D hd
      refine ⟨hu, .inl ⟨D, w.putObj D (.deferred none), hd, run_takeDeferred H.1, hR _ hk H.2⟩⟩
    · exact H.elim
  · exact H.elim
theorem callsHP_ofY {f : FuncId} {fn : Func} {args : List Value} {h : Heap} {K : Value → Heap → Prop} {Kp : List PanicEntry → Heap → Prop} (Hn : HintsY) (hm : P.follows .mixedOrders = true)
    (hf : P.funcs[f]? = some fn) (hn : (fn.name == "runtime.NumGoroutine") = false) (H : fnY P (CallsHP P) (YieldsHP P) Hn fn args h K Kp) : CallsHP P f args.toArray h K Kp := by
  unfold fnY at H
  split at H
  · rename_i c hb
    refine ⟨⟨fn, hf, hn, by rw [hb]; rfl⟩, fun w hw => ?_⟩
    subst hw
    refine callsIn_wide.1 (callsIn_of_wp_marks (n := 0) hf hb trivial ?_)
    have hact : (⟨args.toArray ++ Array.replicate (fn.ntmps - args.toArray.size) undef, []⟩ : Act) = ⟨(args ++ List.replicate (fn.ntmps - args.length) undef).toArray, []⟩ := by
      congr 1
      apply Array.toList_inj.1
      simp
    rw [hact]
    have h1 := denY_sound hm c none w _ _ w (keeps.refl w) (fnQY_panic _ K Kp _) H
    refine wpIn_mono (F := Fence.wide) (n := 0) h1 fun e a w' he => ?_
    have res : ∀ w'', keeps w w'' → resD P a w''.heap fn.results.toList (fun vs => K (retV vs) w''.heap) → LeavesIn Fence.wide 0 P fn a.tmps (fun e w' => keeps w w' ∧ match e with
        | .returned v => K v w'.heap
        | .panicked c => Kp c w'.heap
        | .outgrown => False) [] .returning w'' := fun w'' hk hr => by
      obtain ⟨v, hv, hkv⟩ := results_run hr
      exact ⟨v, hv, hk, hkv⟩
    cases e with
    | normal =>
      obtain ⟨h2, _, h3⟩ := he
      exact endY_leaves (Res := fun h' => resD P a h' fn.results.toList fun vs => K (retV vs) h') (by simp) h2 h3 res
    | ret =>
      obtain ⟨h2, _, h3⟩ := he
      exact endY_leaves (Res := fun h' => resD P a h' fn.results.toList fun vs => K (retV vs) h') (by simp) h2 h3 res
    | panic c =>
      obtain ⟨h2, h3⟩ := he
      exact endY_leaves (Res := fun h' => Kp c h') (by simp) h2 h3 fun w'' hk hr => ⟨hk, hr⟩
    | outgrown => exact he.elim
    | exit id => exact he.2.2.elim
    | goto l => exact he.2.2.elim
  · exact H.elim
end
end Go.Den

/- Written by gen.py: the conditions of the functions of law15PageReads. -/
set_option linter.unusedVariables false
set_option linter.unusedSimpArgs false
namespace Go.Den.YtfaclehehhgpcaaGreat
open Go Go.Den

/- burin/burinlaw15.PageReads -/
set_option maxRecDepth 100000 in
def burinlaw15_PageReads (C : CallP) (Y : YP) (a0_1 : Option Addr) (a0_1n : Nat) (a0_1c : Nat) (a0_2 : Option Addr) (a0_2n : Nat) (a0_2c : Nat) (a0_3 : Option Addr) (a0_3n : Nat) (a0_3c : Nat) (h : Heap) (K : Value → Heap → Prop) (Kp : List PanicEntry → Heap → Prop) : Prop :=
newC h [.slice a0_1 a0_1n a0_1c, .slice a0_2 a0_2n a0_2c, .slice a0_3 a0_3n a0_3c] T_burinlaw15_Forms fun r_4 h_5 =>
∃ J_6 : Nat → List Value → Heap → Prop, (∃ n_8, J_6 n_8 [.int .i64 0] h_5) ∧ ∀ (n_8 : Nat) (h_9 : Heap) (u_10 : Nat → Value) (x_11 : Int), J_6 n_8 [.int .i64 x_11] h_9 → (
ldS h_9 ((⟨r_4, 0, none⟩ : Addr).add 2) fun x_12 x_12n x_12c =>
bcase (decide (x_11 < (x_12n : Int))) (
bcase (decide (x_11 < (10 : Int))) (
ldS h_9 ((⟨r_4, 0, none⟩ : Addr).add 2) fun x_13 x_13n x_13c =>
needs (0 ≤ x_11 ∧ x_11 < (x_13n : Int)) <|
ptr x_13 fun a_14 =>
ldS h_9 (a_14.add (x_11.toNat * 1)) fun x_15 x_15n x_15c =>
bcase (decide ((x_15n : Int) > (4000 : Int))) (
bindI (IntKind.i64.wrap (x_11 + (1 : Int))) fun z_16 =>
∃ m_7, m_7 < n_8 ∧ J_6 m_7 [.int .i64 z_16] h_9) <|
ldS h_9 ((⟨r_4, 0, none⟩ : Addr).add 2) fun x_17 x_17n x_17c =>
needs (0 ≤ x_11 ∧ x_11 < (x_17n : Int)) <|
ptr x_17 fun a_18 =>
ldS h_9 (a_18.add (x_11.toNat * 1)) fun x_19 x_19n x_19c =>
C F_burinkit_Lend #[.slice x_19 x_19n x_19c] h_9 (fun v_20 h_21 =>
∃ (r_22 : Option Addr) (r_22n : Nat) (r_22c : Nat), v_20 = .slice r_22 r_22n r_22c ∧ (
C F_page_DecodeSheet #[.slice r_22 r_22n r_22c] h_21 (fun v_23 h_24 =>
∃ (r_25 : Int) (r_26 : Int) (r_27 : Int) (r_28 : Int), ∃ (r_29 : Int), v_23 = .tuple #[.agg #[.int .i64 r_25, .int .i64 r_26, .int .i64 r_27, .int .i64 r_28], .int .i64 r_29] ∧ (
newC h_24 [.int .i64 0, .int .i64 0, .int .i64 0, .int .i64 0] T_api_Sheet fun r_30 h_31 =>
stV h_31 ((⟨r_30, 0, none⟩ : Addr).add 0) (.int .i64 r_25) fun h_32 =>
stV h_32 ((⟨r_30, 0, none⟩ : Addr).add 1) (.int .i64 r_26) fun h_33 =>
stV h_33 ((⟨r_30, 0, none⟩ : Addr).add 2) (.int .i64 r_27) fun h_34 =>
stV h_34 ((⟨r_30, 0, none⟩ : Addr).add 3) (.int .i64 r_28) fun h_35 =>
ldS h_35 ((⟨r_4, 0, none⟩ : Addr).add 2) fun x_36 x_36n x_36c =>
needs (0 ≤ x_11 ∧ x_11 < (x_36n : Int)) <|
ptr x_36 fun a_37 =>
ldS h_35 (a_37.add (x_11.toNat * 1)) fun x_38 x_38n x_38c =>
C F_burinref15_DecodeSheet #[.slice x_38 x_38n x_38c] h_35 (fun v_39 h_40 =>
∃ (r_41 : Int) (r_42 : Int) (r_43 : Int) (r_44 : Int), ∃ (r_45 : Int), v_39 = .tuple #[.agg #[.int .i64 r_41, .int .i64 r_42, .int .i64 r_43, .int .i64 r_44], .int .i64 r_45] ∧ (
newC h_40 [.int .i64 0, .int .i64 0, .int .i64 0, .int .i64 0] T_api_Sheet fun r_46 h_47 =>
stV h_47 ((⟨r_46, 0, none⟩ : Addr).add 0) (.int .i64 r_41) fun h_48 =>
stV h_48 ((⟨r_46, 0, none⟩ : Addr).add 1) (.int .i64 r_42) fun h_49 =>
stV h_49 ((⟨r_46, 0, none⟩ : Addr).add 2) (.int .i64 r_43) fun h_50 =>
stV h_50 ((⟨r_46, 0, none⟩ : Addr).add 3) (.int .i64 r_44) fun h_51 =>
ldS h_51 ((⟨r_4, 0, none⟩ : Addr).add 2) fun x_52 x_52n x_52c =>
needs (0 ≤ x_11 ∧ x_11 < (x_52n : Int)) <|
ptr x_52 fun a_53 =>
ldS h_51 (a_53.add (x_11.toNat * 1)) fun x_54 x_54n x_54c =>
C F_burinkit_Back #[.slice r_22 r_22n r_22c, .slice x_54 x_54n x_54c] h_51 (fun v_55 h_56 =>
∃ (r_57 : Bool), v_55 = .bool r_57 ∧ (
bcase (!r_57) (
K (.bool false) h_56) <|
bcase (r_29 != r_45) (
K (.bool false) h_56) <|
ldI h_56 ((⟨r_30, 0, none⟩ : Addr).add 0) .i64 fun x_58 =>
ldI h_56 ((⟨r_30, 0, none⟩ : Addr).add 1) .i64 fun x_59 =>
ldI h_56 ((⟨r_30, 0, none⟩ : Addr).add 2) .i64 fun x_60 =>
ldI h_56 ((⟨r_30, 0, none⟩ : Addr).add 3) .i64 fun x_61 =>
ldI h_56 ((⟨r_46, 0, none⟩ : Addr).add 0) .i64 fun x_62 =>
ldI h_56 ((⟨r_46, 0, none⟩ : Addr).add 1) .i64 fun x_63 =>
ldI h_56 ((⟨r_46, 0, none⟩ : Addr).add 2) .i64 fun x_64 =>
ldI h_56 ((⟨r_46, 0, none⟩ : Addr).add 3) .i64 fun x_65 =>
needs (IntKind.i64 = IntKind.i64) <|
needs (IntKind.i64 = IntKind.i64) <|
needs (IntKind.i64 = IntKind.i64) <|
needs (IntKind.i64 = IntKind.i64) <|
bcase (!((x_58 == x_62) && ((x_59 == x_63) && ((x_60 == x_64) && ((x_61 == x_65) && true))))) (
K (.bool false) h_56) <|
ldS h_56 ((⟨r_4, 0, none⟩ : Addr).add 2) fun x_66 x_66n x_66c =>
needs (0 ≤ x_11 ∧ x_11 < (x_66n : Int)) <|
ptr x_66 fun a_67 =>
ldS h_56 (a_67.add (x_11.toNat * 1)) fun x_68 x_68n x_68c =>
C F_burinlaw15_great #[.slice x_68 x_68n x_68c] h_56 (fun v_69 h_70 =>
∃ (r_71 : Bool), v_69 = .bool r_71 ∧ (
bcase r_71 (
bindI (IntKind.i64.wrap (x_11 + (1 : Int))) fun z_72 =>
∃ m_7, m_7 < n_8 ∧ J_6 m_7 [.int .i64 z_72] h_70) <|
ldS h_70 ((⟨r_4, 0, none⟩ : Addr).add 2) fun x_73 x_73n x_73c =>
needs (0 ≤ x_11 ∧ x_11 < (x_73n : Int)) <|
ptr x_73 fun a_74 =>
ldS h_70 (a_74.add (x_11.toNat * 1)) fun x_75 x_75n x_75c =>
C F_burinkit_Lend #[.slice x_75 x_75n x_75c] h_70 (fun v_76 h_77 =>
∃ (r_78 : Option Addr) (r_78n : Nat) (r_78c : Nat), v_76 = .slice r_78 r_78n r_78c ∧ (
C F_page_DecodeRegion #[.slice r_78 r_78n r_78c] h_77 (fun v_79 h_80 =>
∃ (r_81 : Int) (r_82 : Int) (r_83 : Int) (r_84 : Int) (r_85 : Bool) (r_86 : Int) (r_87 : Int) (r_88 : Option Addr) (r_88n : Nat) (r_88c : Nat), ∃ (r_89 : Int), v_79 = .tuple #[.agg #[.int .i64 r_81, .int .i64 r_82, .int .i64 r_83, .int .i64 r_84, .bool r_85, .int .i64 r_86, .int .i64 r_87, .slice r_88 r_88n r_88c], .int .i64 r_89] ∧ (
newC h_80 [.int .i64 0, .int .i64 0, .int .i64 0, .int .i64 0, .bool false, .int .i64 0, .int .i64 0, .slice none 0 0] T_api_Region fun r_90 h_91 =>
stV h_91 ((⟨r_90, 0, none⟩ : Addr).add 0) (.int .i64 r_81) fun h_92 =>
stV h_92 ((⟨r_90, 0, none⟩ : Addr).add 1) (.int .i64 r_82) fun h_93 =>
stV h_93 ((⟨r_90, 0, none⟩ : Addr).add 2) (.int .i64 r_83) fun h_94 =>
stV h_94 ((⟨r_90, 0, none⟩ : Addr).add 3) (.int .i64 r_84) fun h_95 =>
stV h_95 ((⟨r_90, 0, none⟩ : Addr).add 4) (.bool r_85) fun h_96 =>
stV h_96 ((⟨r_90, 0, none⟩ : Addr).add 5) (.int .i64 r_86) fun h_97 =>
stV h_97 ((⟨r_90, 0, none⟩ : Addr).add 6) (.int .i64 r_87) fun h_98 =>
stV h_98 ((⟨r_90, 0, none⟩ : Addr).add 7) (.slice r_88 r_88n r_88c) fun h_99 =>
ldS h_99 ((⟨r_4, 0, none⟩ : Addr).add 2) fun x_100 x_100n x_100c =>
needs (0 ≤ x_11 ∧ x_11 < (x_100n : Int)) <|
ptr x_100 fun a_101 =>
ldS h_99 (a_101.add (x_11.toNat * 1)) fun x_102 x_102n x_102c =>
C F_burinref15_DecodeRegion #[.slice x_102 x_102n x_102c] h_99 (fun v_103 h_104 =>
∃ (r_105 : Int) (r_106 : Int) (r_107 : Int) (r_108 : Int) (r_109 : Bool) (r_110 : Int) (r_111 : Int) (r_112 : Option Addr) (r_112n : Nat) (r_112c : Nat), ∃ (r_113 : Int), v_103 = .tuple #[.agg #[.int .i64 r_105, .int .i64 r_106, .int .i64 r_107, .int .i64 r_108, .bool r_109, .int .i64 r_110, .int .i64 r_111, .slice r_112 r_112n r_112c], .int .i64 r_113] ∧ (
newC h_104 [.int .i64 0, .int .i64 0, .int .i64 0, .int .i64 0, .bool false, .int .i64 0, .int .i64 0, .slice none 0 0] T_api_Region fun r_114 h_115 =>
stV h_115 ((⟨r_114, 0, none⟩ : Addr).add 0) (.int .i64 r_105) fun h_116 =>
stV h_116 ((⟨r_114, 0, none⟩ : Addr).add 1) (.int .i64 r_106) fun h_117 =>
stV h_117 ((⟨r_114, 0, none⟩ : Addr).add 2) (.int .i64 r_107) fun h_118 =>
stV h_118 ((⟨r_114, 0, none⟩ : Addr).add 3) (.int .i64 r_108) fun h_119 =>
stV h_119 ((⟨r_114, 0, none⟩ : Addr).add 4) (.bool r_109) fun h_120 =>
stV h_120 ((⟨r_114, 0, none⟩ : Addr).add 5) (.int .i64 r_110) fun h_121 =>
stV h_121 ((⟨r_114, 0, none⟩ : Addr).add 6) (.int .i64 r_111) fun h_122 =>
stV h_122 ((⟨r_114, 0, none⟩ : Addr).add 7) (.slice r_112 r_112n r_112c) fun h_123 =>
ldS h_123 ((⟨r_4, 0, none⟩ : Addr).add 2) fun x_124 x_124n x_124c =>
needs (0 ≤ x_11 ∧ x_11 < (x_124n : Int)) <|
ptr x_124 fun a_125 =>
ldS h_123 (a_125.add (x_11.toNat * 1)) fun x_126 x_126n x_126c =>
C F_burinkit_Back #[.slice r_78 r_78n r_78c, .slice x_126 x_126n x_126c] h_123 (fun v_127 h_128 =>
∃ (r_129 : Bool), v_127 = .bool r_129 ∧ (
bcase (!r_129) (
K (.bool false) h_128) <|
bcase (r_89 != r_113) (
K (.bool false) h_128) <|
ldI h_128 ((⟨r_90, 0, none⟩ : Addr).add 0) .i64 fun x_130 =>
ldI h_128 ((⟨r_90, 0, none⟩ : Addr).add 1) .i64 fun x_131 =>
ldI h_128 ((⟨r_90, 0, none⟩ : Addr).add 2) .i64 fun x_132 =>
ldI h_128 ((⟨r_90, 0, none⟩ : Addr).add 3) .i64 fun x_133 =>
ldB h_128 ((⟨r_90, 0, none⟩ : Addr).add 4) fun x_134 =>
ldI h_128 ((⟨r_90, 0, none⟩ : Addr).add 5) .i64 fun x_135 =>
ldI h_128 ((⟨r_90, 0, none⟩ : Addr).add 6) .i64 fun x_136 =>
ldS h_128 ((⟨r_90, 0, none⟩ : Addr).add 7) fun x_137 x_137n x_137c =>
ldI h_128 ((⟨r_114, 0, none⟩ : Addr).add 0) .i64 fun x_138 =>
ldI h_128 ((⟨r_114, 0, none⟩ : Addr).add 1) .i64 fun x_139 =>
ldI h_128 ((⟨r_114, 0, none⟩ : Addr).add 2) .i64 fun x_140 =>
ldI h_128 ((⟨r_114, 0, none⟩ : Addr).add 3) .i64 fun x_141 =>
ldB h_128 ((⟨r_114, 0, none⟩ : Addr).add 4) fun x_142 =>
ldI h_128 ((⟨r_114, 0, none⟩ : Addr).add 5) .i64 fun x_143 =>
ldI h_128 ((⟨r_114, 0, none⟩ : Addr).add 6) .i64 fun x_144 =>
ldS h_128 ((⟨r_114, 0, none⟩ : Addr).add 7) fun x_145 x_145n x_145c =>
C F_burinref0_EqRegion #[.agg #[.int .i64 x_130, .int .i64 x_131, .int .i64 x_132, .int .i64 x_133, .bool x_134, .int .i64 x_135, .int .i64 x_136, .slice x_137 x_137n x_137c], .agg #[.int .i64 x_138, .int .i64 x_139, .int .i64 x_140, .int .i64 x_141, .bool x_142, .int .i64 x_143, .int .i64 x_144, .slice x_145 x_145n x_145c]] h_128 (fun v_146 h_147 =>
∃ (r_148 : Bool), v_146 = .bool r_148 ∧ (
bcase (!r_148) (
K (.bool false) h_147) <|
bindI (IntKind.i64.wrap (x_11 + (1 : Int))) fun z_149 =>
∃ m_7, m_7 < n_8 ∧ J_6 m_7 [.int .i64 z_149] h_147)) (Kp))) (Kp))) (Kp))) (Kp))) (Kp))) (Kp))) (Kp))) (Kp))) (Kp))) (Kp)) <|
C F_burinlaw15_wakes #[] h_9 (fun v_150 h_151 =>
∃ (r_152 : Bool), v_150 = .bool r_152 ∧ (
K (.bool r_152) h_151)) (Kp)) <|
C F_burinlaw15_wakes #[] h_9 (fun v_153 h_154 =>
∃ (r_155 : Bool), v_153 = .bool r_155 ∧ (
K (.bool r_155) h_154)) (Kp))

end Go.Den.YtfaclehehhgpcaaGreat

/- Written by gen.py: each condition of the functions of law15PageReads is the one of its body; so it is enough for its call. -/
set_option linter.unusedVariables false
set_option linter.unusedSimpArgs false
namespace Go.Den.YtfaclehehhgpcaaGreat
open Go Go.Den

noncomputable def hints_burinlaw15_PageReads : HintsY := HintsY.mk (Hints.mk (fun i => none)
  (fun i => bif Nat.beq i 2 then some ([(3, .int .i64)], 5192296858534827628530496329220092) else (none))
  (fun i => none) []) (fun i => none)
set_option maxRecDepth 100000 in
theorem eq_burinlaw15_PageReads (C : CallP) (Y : YP) (a0_1 : Option Addr) (a0_1n : Nat) (a0_1c : Nat) (a0_2 : Option Addr) (a0_2n : Nat) (a0_2c : Nat) (a0_3 : Option Addr) (a0_3n : Nat) (a0_3c : Nat) (h : Heap) (K : Value → Heap → Prop) (Kp : List PanicEntry → Heap → Prop) :
    fnY Go.Proofs.Tryz.prog C Y hints_burinlaw15_PageReads Go.Proofs.Tryz.f4 [.agg #[.slice a0_1 a0_1n a0_1c, .slice a0_2 a0_2n a0_2c, .slice a0_3 a0_3n a0_3c]] h K Kp = burinlaw15_PageReads C Y a0_1 a0_1n a0_1c a0_2 a0_2n a0_2c a0_3 a0_3n a0_3c h K Kp := by kernel_rfl

theorem call_burinlaw15_PageReads {a0_1 : Option Addr} {a0_1n : Nat} {a0_1c : Nat} {a0_2 : Option Addr} {a0_2n : Nat} {a0_2c : Nat} {a0_3 : Option Addr} {a0_3n : Nat} {a0_3c : Nat} {h : Heap} {K : Value → Heap → Prop} {Kp : List PanicEntry → Heap → Prop} (H : burinlaw15_PageReads (CallsHP Go.Proofs.Tryz.prog) (YieldsHP Go.Proofs.Tryz.prog) a0_1 a0_1n a0_1c a0_2 a0_2n a0_2c a0_3 a0_3n a0_3c h K Kp) : CallsHP Go.Proofs.Tryz.prog F_burinlaw15_PageReads #[.agg #[.slice a0_1 a0_1n a0_1c, .slice a0_2 a0_2n a0_2c, .slice a0_3 a0_3n a0_3c]] h K Kp :=
  callsHP_ofY hints_burinlaw15_PageReads (by kernel_rfl) Go.Proofs.Tryz.func4 (by kernel_rfl) (by rw [eq_burinlaw15_PageReads]; exact H)

end Go.Den.YtfaclehehhgpcaaGreat
