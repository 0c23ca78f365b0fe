/- W4: put together by wip/tools/bundle.py: GnB GnC GnS GnD GnE GnF RdA Mburinref7 Bburinref7 GnG RfR RfS GnH GnI GnJa GnJ Mlaw7x Blaw7x GnK ShA ShB ShD GnR ShE ShF GnU GnV Mlaw7GenericSmall Blaw7GenericSmall. -/
import Derived.Test.YteakipgcanafoaaW1
import Derived.Test.YteakipgcanafoaaW2
import Derived.Test.YteakipgcanafoaaW3
import Derived.Test.YteakipgcanafoaaProg

/- GnB: windows that are shifted along a row, and the walk over a row: plain law. -/
set_option linter.unusedVariables false
set_option linter.unusedSimpArgs false
namespace Go.Bm
open Go Go.Den Go.Den.Yteakipgcanafoaa

structure Wn where
  s : Sp
  b : Nat
def maskW (s : Sp) : Nat := 2 ^ spanW s - 1
def wnC (w : Wn) : List Value := [.int .i64 w.s.1, .int .i64 w.s.2.1, .int .i64 w.s.2.2, .int .i64 (w.b : Nat), .int .i64 (maskW w.s : Nat)]
def wnsC : List Wn → List Value
  | [] => []
  | w :: l => wnC w ++ wnsC l
theorem wnsC_app : ∀ (l l' : List Wn), wnsC (l ++ l') = wnsC l ++ wnsC l'
  | [], _ => rfl
  | w :: l, l' => by
    show wnC w ++ wnsC (l ++ l') = (wnC w ++ wnsC l) ++ wnsC l'
    rw [wnsC_app l l', List.append_assoc]
theorem wnsC_len : ∀ l : List Wn, (wnsC l).length = l.length * 5
  | [] => rfl
  | w :: l => by
    show (wnC w ++ wnsC l).length = _
    rw [List.length_append, wnsC_len l, List.length_cons]
    show 5 + _ = _
    omega
theorem wnsC_get : ∀ {l : List Wn} {i : Nat} {w : Wn}, l[i]? = some w → ∀ j v, (wnC w)[j]? = some v → (wnsC l)[i * 5 + j]? = some v
  | [], i, w, h => by simp at h
  | a :: l, 0, w, h => fun j v hv => by
    simp at h
    subst h
    rw [Nat.zero_mul, Nat.zero_add]
    exact Go.Ar.get_app hv
  | a :: l, i + 1, w, h => fun j v hv => by
    have := wnsC_get (l := l) (i := i) (w := w) (by simpa using h) j v hv
    show (wnC a ++ wnsC l)[(i + 1) * 5 + j]? = some v
    rw [show (i + 1) * 5 + j = (wnC a).length + (i * 5 + j) by show _ = 5 + _; omega, List.getElem?_append_right (by omega), Nat.add_sub_cancel_left]
    exact this
theorem wnsC_set : ∀ {l : List Wn} {i : Nat} {w : Wn} (b : Nat), l[i]? = some w → (wnsC l).set (i * 5 + 3) (.int .i64 (b : Nat)) = wnsC (l.set i ⟨w.s, b⟩)
  | [], i, w, b, h => by simp at h
  | a :: l, 0, w, b, h => by
    simp at h
    subst h
    rfl
  | a :: l, i + 1, w, b, h => by
    have := wnsC_set (l := l) (i := i) (w := w) b (by simpa using h)
    show (wnC a ++ wnsC l).set ((i + 1) * 5 + 3) _ = wnC a ++ wnsC (l.set i ⟨w.s, b⟩)
    rw [← this, show (i + 1) * 5 + 3 = (wnC a).length + (i * 5 + 3) by show _ = 5 + _; omega, List.set_append_right _ _ (by omega), Nat.add_sub_cancel_left]

/-! ### bits -/
theorem bitsN_val : ∀ (l : List Bool) (n : Nat), bitsN n l = n * 2 ^ l.length + bitsN 0 l
  | [], n => by simp [bitsN]
  | b :: l, n => by
    have h1 := bitsN_val l (2 * n + b.toNat)
    have h2 := bitsN_val l (2 * 0 + b.toNat)
    show bitsN (2 * n + b.toNat) l = n * 2 ^ (l.length + 1) + bitsN (2 * 0 + b.toNat) l
    have e : (2 * n + b.toNat) * 2 ^ l.length = n * 2 ^ (l.length + 1) + b.toNat * 2 ^ l.length := by
      rw [Nat.add_mul, Nat.pow_succ, Nat.mul_comm (2 ^ l.length) 2, ← Nat.mul_assoc, Nat.mul_comm 2 n]
    rw [h1, h2, Nat.mul_zero, Nat.zero_add, e, Nat.add_assoc]
theorem bits0_lt (l : List Bool) : bitsN 0 l < 2 ^ l.length := by
  have := bitsN_lt l 0 0 (by decide)
  rwa [Nat.zero_add] at this
theorem bits_head (b : Bool) (l : List Bool) : bitsN 0 (b :: l) % 2 ^ l.length = bitsN 0 l := by
  show bitsN (2 * 0 + b.toNat) l % _ = _
  rw [bitsN_val, Nat.mul_comm, Nat.mul_add_mod]
  exact Nat.mod_eq_of_lt (bits0_lt l)
theorem spl_len (s : Sp) (k : Nat) : (spl s k).length = k := by simp [spl]
theorem pb_len (G : Int → Int → Bool) (x y : Int) (l : List (Int × Int)) : (pb G x y l).length = l.length := by simp [pb]
theorem pb_snoc (G : Int → Int → Bool) (x y : Int) (s : Sp) (k : Nat) : pb G x y (spl s (k + 1)) = pb G x y (spl s k) ++ [G (x + (s.2.1 + (k : Int))) (y + s.1)] := by
  unfold pb spl
  rw [List.range_succ, List.map_append, List.map_append]
  rfl
theorem bits_snoc (G : Int → Int → Bool) (x y : Int) (s : Sp) (k : Nat) : bitsN 0 (pb G x y (spl s (k + 1))) = 2 * bitsN 0 (pb G x y (spl s k)) + (G (x + (s.2.1 + (k : Int))) (y + s.1)).toNat := by
  rw [pb_snoc, bitsN_app]
  rfl
theorem pb_head (G : Int → Int → Bool) (x y : Int) (s : Sp) (k : Nat) : pb G x y (spl s (k + 1)) = G (x + s.2.1) (y + s.1) :: pb G (x + 1) y (spl s k) := by
  unfold pb spl
  rw [List.range_succ_eq_map, List.map_cons, List.map_cons, List.map_map, List.map_map, List.map_map]
  congr 1
  · simp
  · refine List.map_congr_left fun j _ => ?_
    simp only [Function.comp]
    congr 1
    push_cast
    omega
theorem spanW_pos {s : Sp} (h : SpOk s) : 1 ≤ spanW s ∧ spanW s ≤ 8 ∧ ((spanW s : Nat) : Int) = s.2.2 - s.2.1 + 1 := by
  have h1 := h.f
  have h2 := h.t
  unfold spanW
  omega
theorem mask_add (s : Sp) : maskW s + 1 = 2 ^ spanW s := by
  unfold maskW
  have := Nat.two_pow_pos (spanW s)
  omega
/-- One step along: a new bit comes in, the highest one falls out. -/
theorem win_step {G : Int → Int → Bool} {x y : Int} {s : Sp} {b : Nat} (h : SpOk s) (hb : b % 2 ^ (spanW s - 1) = bitsN 0 (pb G x y (spl s (spanW s - 1)))) :
    (2 * b + (G (x + s.2.2) (y + s.1)).toNat) % 2 ^ spanW s = bitsN 0 (pb G x y (spl s (spanW s))) := by
  obtain ⟨h1, h2, h3⟩ := spanW_pos h
  obtain ⟨k, hk⟩ : ∃ k, spanW s = k + 1 := ⟨spanW s - 1, by omega⟩
  rw [hk, Nat.add_sub_cancel] at hb
  have hg := toNat_le (G (x + s.2.2) (y + s.1))
  have e : (s.2.1 + (k : Int)) = s.2.2 := by omega
  rw [hk, bits_snoc, e, ← hb, Nat.pow_succ, Nat.mul_comm _ 2]
  have hp := Nat.two_pow_pos k
  have hd := Nat.div_add_mod b (2 ^ k)
  have hm := Nat.mod_lt b hp
  generalize hq : b / 2 ^ k = q at hd
  generalize hr : b % 2 ^ k = r at hd hm ⊢
  rw [← hd]
  have e2 : 2 * (2 ^ k * q + r) + (G (x + s.2.2) (y + s.1)).toNat = 2 * 2 ^ k * q + (2 * r + (G (x + s.2.2) (y + s.1)).toNat) := by
    rw [Nat.mul_add, Nat.mul_assoc, Nat.add_assoc]
  rw [e2, Nat.mul_add_mod]
  exact Nat.mod_eq_of_lt (by omega)
/-- Behind a pixel: what is known at the next one. -/
theorem win_next {G : Int → Int → Bool} {x y : Int} {s : Sp} (h : SpOk s) (bit : Bool) : bitsN 0 (pb G x y (spl s (spanW s))) % 2 ^ (spanW s - 1) = bitsN 0 (pb (upd G x y bit) (x + 1) y (spl s (spanW s - 1))) := by
  obtain ⟨h1, h2, h3⟩ := spanW_pos h
  obtain ⟨k, hk⟩ : ∃ k, spanW s = k + 1 := ⟨spanW s - 1, by omega⟩
  rw [hk, Nat.add_sub_cancel, pb_head]
  have hl : (pb G (x + 1) y (spl s k)).length = k := by rw [pb_len, spl_len]
  have hb := bits_head (G (x + s.2.1) (y + s.1)) (pb G (x + 1) y (spl s k))
  rw [hl] at hb
  rw [hb]
  congr 1
  unfold pb spl
  rw [List.map_map, List.map_map]
  refine List.map_congr_left fun j hj => ?_
  have hj := List.mem_range.1 hj
  simp only [Function.comp]
  unfold upd
  rw [if_neg]
  rintro ⟨e1, e2⟩
  have h4 := h.z (by omega)
  omega
def WinOk (G : Int → Int → Bool) (x y : Int) (S : List Sp) (i : Nat) (wl : List Wn) : Prop := wl.length = S.length ∧ ∀ j s, S[j]? = some s → ∃ b, wl[j]? = some ⟨s, b⟩ ∧ b < 2 ^ spanW s ∧
  (j < i → b = bitsN 0 (pb G x y (spl s (spanW s)))) ∧ (i ≤ j → b % 2 ^ (spanW s - 1) = bitsN 0 (pb G x y (spl s (spanW s - 1))))
theorem WinOk.step {G : Int → Int → Bool} {x y : Int} {S : List Sp} {i : Nat} {wl : List Wn} {s : Sp} (h : WinOk G x y S i wl) (hs : S[i]? = some s) : WinOk G x y S (i + 1) (wl.set i ⟨s, bitsN 0 (pb G x y (spl s (spanW s)))⟩) := by
  refine ⟨by rw [List.length_set]; exact h.1, fun j s' hj => ?_⟩
  by_cases hji : i = j
  · subst hji
    obtain rfl : s = s' := Option.some.inj (hs.symm.trans hj)
    have hi : i < wl.length := by rw [h.1]; exact (List.getElem?_eq_some_iff.1 hs).1
    refine ⟨_, List.getElem?_set_self hi, ?_, fun _ => rfl, fun h => by omega⟩
    have := bits0_lt (pb G x y (spl s (spanW s)))
    rwa [pb_len, spl_len] at this
  · obtain ⟨b, h1, h2, h3, h4⟩ := h.2 j s' hj
    exact ⟨b, by rw [List.getElem?_set_ne hji]; exact h1, h2, fun h5 => h3 (by omega), fun h5 => h4 (by omega)⟩
theorem WinOk.next {G : Int → Int → Bool} {x y : Int} {S : List Sp} {wl : List Wn} (h : WinOk G x y S S.length wl) (hS : ∀ s ∈ S, SpOk s) (bit : Bool) : WinOk (upd G x y bit) (x + 1) y S 0 wl := by
  refine ⟨h.1, fun j s hj => ?_⟩
  obtain ⟨b, h1, h2, h3, h4⟩ := h.2 j s hj
  have hjl := (List.getElem?_eq_some_iff.1 hj).1
  refine ⟨b, h1, h2, fun h5 => absurd h5 (Nat.not_lt_zero _), fun _ => ?_⟩
  rw [h3 hjl]
  exact win_next (hS s (List.mem_of_getElem? hj)) bit
theorem ctx_step (G : Int → Int → Bool) (x y : Int) {S : List Sp} {i : Nat} {s : Sp} (hs : S[i]? = some s) : bitsN 0 (pb G x y (plcs (S.take (i + 1)))) = bitsN 0 (pb G x y (plcs (S.take i))) * 2 ^ spanW s + bitsN 0 (pb G x y (spl s (spanW s))) := by
  have hi := (List.getElem?_eq_some_iff.1 hs).1
  have e := (List.getElem?_eq_some_iff.1 hs).2
  rw [List.take_succ_eq_append_getElem hi, e]
  have e2 : pb G x y (plcs (S.take i ++ [s])) = pb G x y (plcs (S.take i)) ++ pb G x y (spl s (spanW s)) := by
    unfold plcs pb
    rw [List.flatMap_append, List.map_append]
    simp
  rw [e2, bitsN_app, bitsN_val, pb_len, spl_len]

/-! ### the walk -/
section
variable {σ : Type}
/-- So many pixels of a row. -/
def rowG (t : Nat) (step : σ → Nat → Bool → (Bool × σ) ⊕ (Int × σ)) (y : Nat) : Nat → (Int → Int → Bool) × σ → ((Int → Int → Bool) × σ) ⊕ (Int × σ)
  | 0, g => .inl g
  | k + 1, g => match rowG t step y k g with
    | .inr e => .inr e
    | .inl (G, s) => match step s (gctx t G (k : Int) (y : Int)) (G (k : Int) (y : Int)) with
      | .inl (bit, s') => .inl (upd G (k : Int) (y : Int) bit, s')
      | .inr e => .inr e
theorem rowG_err {t : Nat} {step : σ → Nat → Bool → (Bool × σ) ⊕ (Int × σ)} {y : Nat} {g : (Int → Int → Bool) × σ} {e : Int × σ} {k : Nat} (h : rowG t step y k g = .inr e) : ∀ m, k ≤ m → rowG t step y m g = .inr e := by
  intro m hm
  induction m with
  | zero => rw [show k = 0 by omega] at h; exact h
  | succ m ih =>
    rcases Nat.lt_or_ge m k with h1 | h1
    · rw [show k = m + 1 by omega] at h; exact h
    · unfold rowG; rw [ih h1]
def sameB (G : Int → Int → Bool) (W y : Nat) : Bool := (List.range W).all fun x => G (x : Int) (y : Int) == G (x : Int) ((y : Int) - 1)
def copyRow (G : Int → Int → Bool) (y : Nat) : Int → Int → Bool := fun a b => if b = (y : Int) ∧ y ≠ 0 then G a ((y : Int) - 1) else G a b
/-- So many rows. -/
def runG (W t : Nat) (skip : Bool) (step : σ → Nat → Bool → (Bool × σ) ⊕ (Int × σ)) : Nat → (Int → Int → Bool) × σ → ((Int → Int → Bool) × σ) ⊕ (Int × σ)
  | 0, g => .inl g
  | y + 1, g => match runG W t skip step y g with
    | .inr e => .inr e
    | .inl (G, s) => match skip with
      | false => rowG t step y W (G, s)
      | true => match step s (gsize t) (sameB G W y) with
        | .inr e => .inr e
        | .inl (true, s') => .inl (copyRow G y, s')
        | .inl (false, s') => rowG t step y W (G, s')
theorem runG_err {W t : Nat} {skip : Bool} {step : σ → Nat → Bool → (Bool × σ) ⊕ (Int × σ)} {g : (Int → Int → Bool) × σ} {e : Int × σ} {k : Nat} (h : runG W t skip step k g = .inr e) : ∀ m, k ≤ m → runG W t skip step m g = .inr e := by
  intro m hm
  induction m with
  | zero => rw [show k = 0 by omega] at h; exact h
  | succ m ih =>
    rcases Nat.lt_or_ge m k with h1 | h1
    · rw [show k = m + 1 by omega] at h; exact h
    · unfold runG; rw [ih h1]
/-- What is asked of him who decides. -/
def DecOkI (N : Nat) (base : Int) (S : σ → List Ent → Prop) (Ok : Nat → σ → Prop) (step : σ → Nat → Bool → (Bool × σ) ⊕ (Int × σ)) (fv : Value) : Prop :=
  (∃ t v, fv = .iface t v) ∧ ∀ {h0 h : Heap} {FF : List Nat} {s : σ} {n : Nat} {bit : Bool} {K : Value → Heap → Prop} {Kp : List PanicEntry → Heap → Prop}, ∀ {M : List Ent} {k : Nat}, Ok k s → k < N → n ≤ 65536 → S s M → Hp h0 FF h M →
    (∀ bit' s' M' h', step s n bit = .inl (bit', s') → Ok (k + 1) s' → S s' M' → Hp h0 FF h' M' → K (.int .i64 (bit'.toNat : Nat)) h') →
    (∀ e s' M' h', step s n bit = .inr (e, s') → Ok (k + 1) s' → S s' M' → Hp h0 FF h' M' → Kp [{ v := .iface T_generic_fault (.agg #[.int .i64 e]), recovered := false }] h') →
    invokeD Go.Proofs.Try.prog (CallsHP Go.Proofs.Try.prog) fv "burin/generic.decide" [.int .i64 (base + (n : Int)), .int .i64 (bit.toNat : Nat)] h K Kp
end
end Go.Bm

/- GnC: generic's procedure.row and procedure.same, whatever decides. -/
set_option linter.unusedVariables false
set_option linter.unusedSimpArgs false
namespace Go.Bm
open Go Go.Den Go.Den.Yteakipgcanafoaa

def procE (r p : Nat) (fv : Value) (base : Int) (t : Nat) (skip : Bool) : Ent := ⟨r, true, T_generic_procedure, [fv, .pointer (at0 p), .int .i64 base, .int .i64 (t : Nat), .bool skip]⟩
theorem and_mask (a w : Nat) (ha : a < 9223372036854775808) (hw : w ≤ 62) : bitI .and .i64 (a : Int) ((2 ^ w - 1 : Nat) : Int) = ((a % 2 ^ w : Nat) : Int) := by
  have h1 : 2 ^ w ≤ 2 ^ 62 := Nat.pow_le_pow_right (by decide) hw
  have h2 : (2 ^ 62 : Nat) = 4611686018427387904 := rfl
  rw [and63 _ _ ha (by omega), Nat.and_two_pow_sub_one_eq_mod]
theorem keep_of {h0 h h3 : Heap} {FF : List Nat} {A M : List Ent} {M' : List Ent} (H : Hp h0 FF h (A ++ M)) (H' : Hp h (M.map Ent.b) h3 M') {e : Ent} (he : e ∈ A) : hkeep (fun b => b = e.b) h h3 :=
  ⟨H'.fr.1, fun b hb hR => H'.fr.2 b hb fun hm => by
    obtain ⟨e', he', hbb⟩ := List.mem_map.1 hm
    exact (List.pairwise_append.1 H.pw).2.2 e he e' he' (by rw [← hR, hbb])⟩

set_option maxRecDepth 100000 in
set_option maxHeartbeats 8000000 in
theorem grow_ok {σ : Type} {S : σ → List Ent → Prop} {Ok : Nat → σ → Prop} {step : σ → Nat → Bool → (Bool × σ) ⊕ (Int × σ)} {fv : Value} {base : Int} {NN : Nat} (hSw : ∀ s M, S s M → M.all Ent.w = true) (hdec : DecOkI NN base S Ok step fv) (hb : 0 ≤ base ∧ base ≤ 131072)
    {h0 h : Heap} {FF : List Nat} {rp p q W X N cc t y k0 : Nat} {skip : Bool} {rest : List Value} {ws0 : List Nat} {s0 : σ} {M0 : List Ent} (ht : t < 4) (hS0 : S s0 M0) (H : Hp h0 FF h ([procE rp p fv base t skip, mapE p q W X N cc, ⟨q, true, T_uint64, u64s ws0 ++ rest⟩] ++ M0))
    (hN : ws0.length = N) (hs : SizeP (W : Int) (X : Int)) (hl : N = X * wds W) (hw : W64 ws0) (hz : PadZ W X ws0) (hy : y < X) (hok0 : Ok k0 s0) (hk0 : k0 + W ≤ NN) {K : Value → Heap → Prop} {Kp : List PanicEntry → Heap → Prop}
    (hgood : ∀ ws s M h', S s M → rowG t step y W (getP ws0 W X, s0) = .inl (getP ws W X, s) → ws.length = N → W64 ws → PadZ W X ws → Ok (k0 + W) s → Hp h0 FF h' ([procE rp p fv base t skip, mapE p q W X N cc, ⟨q, true, T_uint64, u64s ws ++ rest⟩] ++ M) → K (.tuple #[]) h')
    (hbad : ∀ e ws s M h' k, S s M → rowG t step y W (getP ws0 W X, s0) = .inr (e, s) → ws.length = N → k ≤ NN → Ok k s → Hp h0 FF h' ([procE rp p fv base t skip, mapE p q W X N cc, ⟨q, true, T_uint64, u64s ws ++ rest⟩] ++ M) →
      Kp [{ v := .iface T_generic_fault (.agg #[.int .i64 e]), recovered := false }] h') :
    CP F_generic_procedure_row #[.pointer (at0 rp), .int .i64 (W : Nat), .int .i64 (y : Nat)] h K Kp := by
  refine call_generic_procedure_row ?_
  unfold generic_procedure_row
  obtain ⟨W', X', e1, e2, hW1, hW2, hX1, hX2, hWX⟩ := size_nat hs
  obtain rfl : W = W' := by omega
  obtain rfl : X = X' := by omega
  clear e1 e2
  have hSL := spanL_len ht
  have hSok := spanL_ok ht
  refine ptr_of (a := ⟨rp, 0, none⟩) ?_
  refine ldI_of (hpA H 0 rfl rfl) ?_
  refine gspans_ok ht fun rs h' H' => ?_
  replace H := (H.join H' rfl).rot
  clear H'
  refine ⟨_, _, _, rfl, ?_⟩
  obtain ⟨SL, hSLd⟩ : ∃ SL, SL = spanL t := ⟨_, rfl⟩
  rw [← hSLd] at H hSL hSok ⊢
  obtain ⟨G0, hG0⟩ : ∃ G0, G0 = getP ws0 W X := ⟨_, rfl⟩
  obtain ⟨L0, hL0⟩ : ∃ L0 : List Ent, L0 = [⟨rs, true, T_generic_span, spC SL⟩, procE rp p fv base t skip, mapE p q W X N cc, ⟨q, true, T_uint64, u64s ws0 ++ rest⟩] ++ M0 := ⟨_, rfl⟩
  have H : Hp h0 FF h' L0 := by rw [hL0]; exact H
  refine ⟨fun n vs h' => ∃ (i : Nat) (D : List Ent) (qw : Option Addr) (cw : Nat), i + n = SL.length ∧ vs = [.slice qw i cw, .int .i64 (i : Nat)] ∧
      Slot T_generic_window 5 D qw i cw (wnsC ((SL.take i).map fun s => ⟨s, bitsN 0 (pb G0 0 y (spl s (spanW s - 1)))⟩)) ∧ Hp h0 FF h' (L0 ++ D),
    ⟨SL.length, 0, [], none, 0, by omega, rfl, Slot.nil _ _, H.as (List.append_nil _).symm⟩, ?_⟩
  clear H
  rintro n h u a b c d ⟨i, D, qw, cw, hin, hxx, hsl, H⟩
  injection hxx with h1 hxx
  injection hxx with h2 hxx
  injection h1 with h11 h12 h13
  injection h2 with _ h2
  subst a b c d
  refine bcase_dec (fun h3 => ?_) fun h3 => ?_
  · -- one window more
    have hi : i < SL.length := by omega
    obtain ⟨s, hsi⟩ : ∃ s, SL[i]? = some s := ⟨_, List.getElem?_eq_getElem hi⟩
    have hso := hSok s (List.mem_of_getElem? hsi)
    obtain ⟨k0', k1, k2⟩ := spC_get hsi
    have o1 := hso.d
    have o2 := hso.f
    have o3 := hso.t
    obtain ⟨w1, w2, w3⟩ := spanW_pos hso
    refine needs_of (by omega) (ptr_of (a := ⟨rs, 0, none⟩) ?_)
    rw [Int.toNat_natCast]
    have H0 : Hp h0 FF h ([⟨rs, true, T_generic_span, spC SL⟩, procE rp p fv base t skip, mapE p q W X N cc, ⟨q, true, T_uint64, u64s ws0 ++ rest⟩] ++ (M0 ++ D)) := by
      rw [hL0] at H
      exact H.asc
    refine ldI_of (hpB H0 0 rfl (by rw [Nat.zero_add, Nat.add_zero]; exact k0')) (ldI_of (hpB H0 0 rfl (by rw [Nat.zero_add]; exact k1)) (ldI_of (hpB H0 0 rfl (by rw [Nat.zero_add]; exact k2)) ?_))
    clear H0
    refine newC_hp H fun r17 h H => ?_
    have H := H.rot
    repeat first | with_reducible refine stA H 0 (by with_unfolding_all exact rfl) (by with_unfolding_all exact rfl) (by with_unfolding_all exact rfl) fun h H => ?_ | with_reducible refine st0 H 0 (by with_unfolding_all exact rfl) (by with_unfolding_all exact rfl) (by with_unfolding_all exact rfl) fun h H => ?_ | with_reducible refine stB H 0 (by with_unfolding_all exact rfl) (by with_unfolding_all exact rfl) (by with_unfolding_all exact rfl) fun h H => ?_
    repeat first | with_reducible refine ldI_of (by with_unfolding_all first | exact hpA H 0 rfl rfl | exact Hp.cell H 0 rfl rfl | exact hpB H 0 rfl rfl | exact hpC H 0 rfl rfl) ?_ | with_reducible refine ldS_of (by with_unfolding_all first | exact hpA H 0 rfl rfl | exact Hp.cell H 0 rfl rfl | exact hpB H 0 rfl rfl | exact hpC H 0 rfl rfl) ?_ | with_reducible refine ldP_of (by with_unfolding_all first | exact hpA H 0 rfl rfl | exact Hp.cell H 0 rfl rfl | exact hpB H 0 rfl rfl | exact hpC H 0 rfl rfl) ?_ | with_reducible refine ldB_of (by with_unfolding_all first | exact hpA H 0 rfl rfl | exact Hp.cell H 0 rfl rfl | exact hpB H 0 rfl rfl | exact hpC H 0 rfl rfl) ?_ | with_reducible refine ldT_of (by with_unfolding_all first | exact hpA H 0 rfl rfl | exact Hp.cell H 0 rfl rfl | exact hpB H 0 rfl rfl | exact hpC H 0 rfl rfl) ?_
    refine bindI_of ((s.2.2 - s.2.1)) (by exact i64_in _ (by omega) (by omega)) ?_
    refine bindI_of (((spanW s : Nat) : Int)) (by exact i64_at _ _ (by omega) (by omega) (by omega)) ?_
    refine needs_of (by omega) ?_
    have hp8 : 2 ^ spanW s ≤ 256 := Nat.le_trans (Nat.pow_le_pow_right (n := 2) (by decide) w2) (by decide)
    have hp1 := Nat.two_pow_pos (spanW s)
    refine bindI_of (((2 ^ spanW s : Nat) : Int)) (by exact (shlI_of (a := 1) (i := spanW s) (by omega) (by omega)).trans (by rw [Nat.one_mul])) ?_
    refine bindI_of (((maskW s : Nat) : Int)) (by exact i64_at _ _ (by unfold maskW; omega) (by omega) (by unfold maskW; omega)) ?_
    have H : Hp h0 FF h ([⟨r17, true, T_generic_span, [.int .i64 s.1, .int .i64 s.2.1, .int .i64 s.2.2]⟩] ++ (L0 ++ D)) := H
    refine newC_hp H fun r31 h H => ?_
    have H := H.rot
    repeat first | with_reducible refine stA H 0 (by with_unfolding_all exact rfl) (by with_unfolding_all exact rfl) (by with_unfolding_all exact rfl) fun h H => ?_ | with_reducible refine st0 H 0 (by with_unfolding_all exact rfl) (by with_unfolding_all exact rfl) (by with_unfolding_all exact rfl) fun h H => ?_ | with_reducible refine stB H 0 (by with_unfolding_all exact rfl) (by with_unfolding_all exact rfl) (by with_unfolding_all exact rfl) fun h H => ?_
    repeat first | with_reducible refine ldI_of (by with_unfolding_all first | exact hpA H 1 rfl rfl | exact Hp.cell H 1 rfl rfl | exact hpB H 1 rfl rfl | exact hpC H 1 rfl rfl) ?_ | with_reducible refine ldS_of (by with_unfolding_all first | exact hpA H 1 rfl rfl | exact Hp.cell H 1 rfl rfl | exact hpB H 1 rfl rfl | exact hpC H 1 rfl rfl) ?_ | with_reducible refine ldP_of (by with_unfolding_all first | exact hpA H 1 rfl rfl | exact Hp.cell H 1 rfl rfl | exact hpB H 1 rfl rfl | exact hpC H 1 rfl rfl) ?_ | with_reducible refine ldB_of (by with_unfolding_all first | exact hpA H 1 rfl rfl | exact Hp.cell H 1 rfl rfl | exact hpB H 1 rfl rfl | exact hpC H 1 rfl rfl) ?_ | with_reducible refine ldT_of (by with_unfolding_all first | exact hpA H 1 rfl rfl | exact Hp.cell H 1 rfl rfl | exact hpB H 1 rfl rfl | exact hpC H 1 rfl rfl) ?_
    have hw0 : ∀ j, bitsN 0 (pb G0 0 y (spl s j)) < 2 ^ j := fun j => by
      have := bits0_lt (pb G0 0 y (spl s j))
      rwa [pb_len, spl_len] at this
    have H : Hp h0 FF h ([⟨r31, true, T_generic_window, [.int .i64 s.1, .int .i64 s.2.1, .int .i64 s.2.2, .int .i64 ((bitsN 0 (pb G0 0 y (spl s 0)) : Nat) : Int), .int .i64 (maskW s : Nat)]⟩, ⟨r17, true, T_generic_span, [.int .i64 s.1, .int .i64 s.2.1, .int .i64 s.2.2]⟩] ++ (L0 ++ D)) := H
    refine ⟨fun n vs h' => ∃ j : Nat, j + n = spanW s - 1 ∧ vs = [.int .i64 (s.2.1 + (j : Int))] ∧
        Hp h0 FF h' ([⟨r31, true, T_generic_window, [.int .i64 s.1, .int .i64 s.2.1, .int .i64 s.2.2, .int .i64 ((bitsN 0 (pb G0 0 y (spl s j)) : Nat) : Int), .int .i64 (maskW s : Nat)]⟩, ⟨r17, true, T_generic_span, [.int .i64 s.1, .int .i64 s.2.1, .int .i64 s.2.2]⟩] ++ (L0 ++ D)),
      ⟨spanW s - 1, 0, by omega, by simp, H⟩, ?_⟩
    clear H
    rintro n2 h u2 x44 ⟨j, hjn, hxx, H⟩
    injection hxx with hxx
    injection hxx with _ hxx
    subst hxx
    repeat first | with_reducible refine ldI_of (by with_unfolding_all first | exact hpA H 1 rfl rfl | exact Hp.cell H 1 rfl rfl | exact hpB H 1 rfl rfl | exact hpC H 1 rfl rfl) ?_ | with_reducible refine ldS_of (by with_unfolding_all first | exact hpA H 1 rfl rfl | exact Hp.cell H 1 rfl rfl | exact hpB H 1 rfl rfl | exact hpC H 1 rfl rfl) ?_ | with_reducible refine ldP_of (by with_unfolding_all first | exact hpA H 1 rfl rfl | exact Hp.cell H 1 rfl rfl | exact hpB H 1 rfl rfl | exact hpC H 1 rfl rfl) ?_ | with_reducible refine ldB_of (by with_unfolding_all first | exact hpA H 1 rfl rfl | exact Hp.cell H 1 rfl rfl | exact hpB H 1 rfl rfl | exact hpC H 1 rfl rfl) ?_ | with_reducible refine ldT_of (by with_unfolding_all first | exact hpA H 1 rfl rfl | exact Hp.cell H 1 rfl rfl | exact hpB H 1 rfl rfl | exact hpC H 1 rfl rfl) ?_
    refine bcase_dec (fun h4 => ?_) fun h4 => ?_
    · refine ⟨fun _ => True, ?_⟩
      refine ptr_of (a := ⟨rp, 0, none⟩) ?_
      refine ldI_of (hpA H 0 rfl rfl) ⟨trivial, ?_⟩
      have hbj := hw0 j
      have hj8 : 2 ^ j ≤ 2 ^ 8 := Nat.pow_le_pow_right (by decide) (by omega)
      have hsn := bits_snoc G0 0 y s j
      rw [Int.zero_add] at hsn
      have hg := toNat_le (G0 (s.2.1 + (j : Int)) ((y : Int) + s.1))
      generalize bitsN 0 (pb G0 0 y (spl s j)) = B at hbj hsn H ⊢
      refine bindI_of ((2 * B : Nat) : Int) ((shl1 (by omega)).trans (by rw [Nat.mul_comm])) ?_
      have HM : Hp h0 FF h ([⟨r31, true, T_generic_window, [.int .i64 s.1, .int .i64 s.2.1, .int .i64 s.2.2, .int .i64 (B : Nat), .int .i64 (maskW s : Nat)]⟩, ⟨r17, true, T_generic_span, [.int .i64 s.1, .int .i64 s.2.1, .int .i64 s.2.2]⟩, ⟨rs, true, T_generic_span, spC SL⟩, procE rp p fv base t skip, mapE p q W X N cc, ⟨q, true, T_uint64, u64s ws0 ++ rest⟩] ++ (M0 ++ D)) := by
        rw [hL0] at H
        exact H.as (by simp)
      refine ldP_of (hpA HM 3 rfl rfl) ⟨trivial, ?_⟩
      refine ldI_of (hpA H 1 rfl rfl) ⟨trivial, ?_⟩
      refine bindI_of (((y : Int) + s.1)) (by exact i64_in _ (by omega) (by omega)) ?_
      refine mget_ok (ws := ws0) (c := cc) (rest := rest) HM 4 5 (by rw [hN]; rfl) rfl hs (by rw [hN]; exact hl) hw ?_
      refine ⟨_, rfl, hkeep.refl _ _, ?_⟩
      rw [← hG0]
      refine bindI_of _ (orA (i := 1) (by decide) (by omega) (by omega) (by omega)) ?_
      refine stA H 0 rfl rfl rfl fun h H => ?_
      refine bindI_of ((s.2.1 + ((j + 1 : Nat) : Int))) (by exact i64_at _ _ (by omega) (by omega) (by omega)) ?_
      refine ⟨n2 - 1, by omega, j + 1, by omega, rfl, ?_⟩
      rw [hsn]
      exact H
    · obtain rfl : j = spanW s - 1 := by omega
      repeat first | with_reducible refine ldI_of (by with_unfolding_all first | exact hpA H 0 rfl rfl | exact Hp.cell H 0 rfl rfl | exact hpB H 0 rfl rfl | exact hpC H 0 rfl rfl) ?_ | with_reducible refine ldS_of (by with_unfolding_all first | exact hpA H 0 rfl rfl | exact Hp.cell H 0 rfl rfl | exact hpB H 0 rfl rfl | exact hpC H 0 rfl rfl) ?_ | with_reducible refine ldP_of (by with_unfolding_all first | exact hpA H 0 rfl rfl | exact Hp.cell H 0 rfl rfl | exact hpB H 0 rfl rfl | exact hpC H 0 rfl rfl) ?_ | with_reducible refine ldB_of (by with_unfolding_all first | exact hpA H 0 rfl rfl | exact Hp.cell H 0 rfl rfl | exact hpB H 0 rfl rfl | exact hpC H 0 rfl rfl) ?_ | with_reducible refine ldT_of (by with_unfolding_all first | exact hpA H 0 rfl rfl | exact Hp.cell H 0 rfl rfl | exact hpB H 0 rfl rfl | exact hpC H 0 rfl rfl) ?_
      refine newC_hp H fun r64 h H => ?_
      have hnewc : ∀ v ∈ wnC ⟨s, bitsN 0 (pb G0 0 y (spl s (spanW s - 1)))⟩, v.oneCell' = true := List.all_eq_true.1 (by rfl)
      have hrd := rdO_hp (H.rot) 0 (b := r64) (o := 0) (n := 1 * 5) (w := true) (t := T_generic_window) (cs := wnC ⟨s, bitsN 0 (pb G0 0 y (spl s (spanW s - 1)))⟩) rfl (Nat.le_refl _)
      have hrd : rdO h (some ⟨r64, 0, none⟩) (1 * 5) (wnC ⟨s, bitsN 0 (pb G0 0 y (spl s (spanW s - 1)))⟩) := hrd
      have H : Hp h0 FF h (L0 ++ (D ++ [])) := (H.rot).sub (by
        rw [List.append_nil]
        exact List.Sublist.trans (List.sublist_append_right _ _) (List.sublist_append_right _ _))
      refine hsl.app H rfl hrd rfl hnewc (Nat.le_refl _) (by omega) fun D' qw' cw' h' hsl' H => ?_
      refine bindI_of (((i + 1 : Nat) : Int)) (by exact i64_at _ _ (by omega) (by omega) (by omega)) ?_
      refine ⟨n - 1, by omega, i + 1, D', qw', cw', by omega, rfl, ?_, H.as (by rw [List.append_nil])⟩
      have e := (List.getElem?_eq_some_iff.1 hsi).2
      rw [List.take_succ_eq_append_getElem hi, e, List.map_append, wnsC_app]
      exact hsl'
  · -- the pixels
    have hi : SL.length ≤ i := by omega
    obtain rfl : i = SL.length := by omega
    rw [List.take_of_length_le (Nat.le_refl _)] at hsl
    obtain ⟨wl0, hwl0⟩ : ∃ wl0 : List Wn, wl0 = SL.map fun s => ⟨s, bitsN 0 (pb G0 0 y (spl s (spanW s - 1)))⟩ := ⟨_, rfl⟩
    rw [← hwl0] at hsl
    have hwin0 : WinOk G0 (0 : Nat) y SL 0 wl0 := by
      refine ⟨by rw [hwl0, List.length_map], fun j s hj => ⟨bitsN 0 (pb G0 0 y (spl s (spanW s - 1))), by rw [hwl0, List.getElem?_map, hj]; rfl, ?_, fun h5 => absurd h5 (Nat.not_lt_zero _), fun _ => ?_⟩⟩
      · have := bits0_lt (pb G0 0 y (spl s (spanW s - 1)))
        rw [pb_len, spl_len] at this
        exact Nat.lt_of_lt_of_le this (Nat.pow_le_pow_right (by decide) (by omega))
      · have := bits0_lt (pb G0 0 y (spl s (spanW s - 1)))
        rw [pb_len, spl_len] at this
        exact Nat.mod_eq_of_lt this
    obtain ⟨hll, ⟨rfl, rfl, hn0, _⟩ | ⟨bw, restw, rfl, rfl, hcw⟩⟩ := hsl
    · omega
    have H : Hp h0 FF h ([⟨bw, true, T_generic_window, wnsC wl0 ++ restw⟩, procE rp p fv base t skip, mapE p q W X N cc, ⟨q, true, T_uint64, u64s ws0 ++ rest⟩] ++ M0) := by
      rw [hL0] at H
      exact (H.rot).sub (List.Sublist.cons_cons _ (List.Sublist.cons _ (List.Sublist.refl _)))
    have hrow0 : rowG t step y 0 (getP ws0 W X, s0) = .inl (getP ws0 W X, s0) := rfl
    rw [hG0] at hwin0
    refine ⟨fun n vs h' => ∃ (x : Nat) (ws : List Nat) (s : σ) (M : List Ent) (wl : List Wn), x + n = W ∧ vs = [.int .i64 (x : Nat)] ∧ rowG t step y x (getP ws0 W X, s0) = .inl (getP ws W X, s) ∧ ws.length = N ∧ W64 ws ∧ PadZ W X ws ∧ Ok (k0 + x) s ∧ S s M ∧ WinOk (getP ws W X) (x : Nat) y SL 0 wl ∧
        Hp h0 FF h' ([⟨bw, true, T_generic_window, wnsC wl ++ restw⟩, procE rp p fv base t skip, mapE p q W X N cc, ⟨q, true, T_uint64, u64s ws ++ rest⟩] ++ M),
      ⟨W, 0, ws0, s0, M0, wl0, by omega, rfl, hrow0, hN, hw, hz, hok0, hS0, hwin0, H⟩, ?_⟩
    clear H hwin0 hwl0 hll hL0
    rintro n h u xx ⟨x, ws, s, M, wl, hxn, hxx, hrow, hlw, hww, hzz, hoks, hM, hwin, H⟩
    injection hxx with hxx
    injection hxx with _ hxx
    subst hxx
    refine bcase_dec (fun h4 => ?_) fun h4 => ?_
    · have hx : x < W := by omega
      have hgl := gsize_le ht
      obtain ⟨GG, hGG⟩ : ∃ GG, GG = getP ws W X := ⟨_, rfl⟩
      rw [← hGG] at hwin
      have hplen : ∀ i, (plcs (SL.take i)).length ≤ 16 := fun i => by rw [hSLd]; exact plcs_small ht
      have hacc : ∀ i, bitsN 0 (pb GG (x : Nat) y (plcs (SL.take i))) < 65536 := fun i => by
        have := bits0_lt (pb GG (x : Nat) y (plcs (SL.take i)))
        rw [pb_len] at this
        exact Nat.lt_of_lt_of_le this (Nat.le_trans (Nat.pow_le_pow_right (n := 2) (by decide) (hplen i)) (by decide))
      refine ⟨fun n vs h' => ∃ (i : Nat) (wl : List Wn), i + n = SL.length ∧ vs = [.int .i64 ((bitsN 0 (pb GG (x : Nat) y (plcs (SL.take i))) : Nat) : Int), .int .i64 (i : Nat)] ∧ WinOk GG (x : Nat) y SL i wl ∧
          Hp h0 FF h' ([⟨bw, true, T_generic_window, wnsC wl ++ restw⟩, procE rp p fv base t skip, mapE p q W X N cc, ⟨q, true, T_uint64, u64s ws ++ rest⟩] ++ M), ⟨SL.length, 0, wl, by omega, rfl, hwin, H⟩, ?_⟩
      clear H hwin
      rintro n2 h u2 a b ⟨i, wl, hin2, hxx, hwin, H⟩
      injection hxx with h1 hxx
      injection hxx with h2 hxx
      injection h1 with _ h1
      injection h2 with _ h2
      subst h1 h2
      refine bcase_dec (fun h5 => ?_) fun h5 => ?_
      · have hi : i < SL.length := by omega
        obtain ⟨sp, hsi⟩ : ∃ s, SL[i]? = some s := ⟨_, List.getElem?_eq_getElem hi⟩
        have hso := hSok sp (List.mem_of_getElem? hsi)
        have o1 := hso.d
        have o2 := hso.f
        have o3 := hso.t
        obtain ⟨w1, w2, w3⟩ := spanW_pos hso
        obtain ⟨B, hB1, hB2, _, hB4⟩ := hwin.2 i sp hsi
        have hB4 := hB4 (Nat.le_refl _)
        have hp8 : 2 ^ spanW sp ≤ 256 := Nat.le_trans (Nat.pow_le_pow_right (n := 2) (by decide) w2) (by decide)
        have hget : ∀ j v, (wnC ⟨sp, B⟩)[j]? = some v → (wnsC wl ++ restw)[i * 5 + j]? = some v := fun j v hv => Go.Ar.get_app (wnsC_get hB1 j v hv)
        have hst := win_step hso hB4
        have hctx := ctx_step GG (x : Nat) y hsi
        have hac1 := hacc i
        have hac2 := hacc (i + 1)
        have hnb : bitsN 0 (pb GG (x : Nat) y (spl sp (spanW sp))) < 2 ^ spanW sp := by
          have := bits0_lt (pb GG (x : Nat) y (spl sp (spanW sp)))
          rwa [pb_len, spl_len] at this
        have hwn := hwin.step hsi
        have hwlen : i * 5 + 3 < (wnsC wl).length := by
          rw [wnsC_len, hwin.1]
          omega
        refine needs_of (by omega) (ptr_of (a := ⟨bw, 0, none⟩) ?_)
        rw [Int.toNat_natCast]
        refine ⟨fun _ => True, ?_⟩
        refine ptr_of (a := ⟨rp, 0, none⟩) ?_
        refine ldI_of (hpB H 0 rfl (by rw [Nat.zero_add]; exact hget 3 _ rfl)) ⟨trivial, ?_⟩
        show bindI (shlI .i64 (B : Int) 1) _
        refine bindI_of ((2 * B : Nat) : Int) ((shl1 (by omega)).trans (by rw [Nat.mul_comm])) ?_
        refine ldP_of (hpA H 1 rfl rfl) ⟨trivial, ?_⟩
        refine ldI_of (hpC H 0 rfl (by rw [Nat.zero_add, Nat.add_zero]; exact hget 2 _ rfl)) ⟨trivial, ?_⟩
        refine bindI_of (((x : Int) + sp.2.2)) (by exact i64_at _ _ rfl (by omega) (by omega)) ?_
        refine ldI_of (hpC H 0 rfl (by rw [Nat.zero_add]; exact hget 0 _ rfl)) ⟨trivial, ?_⟩
        refine bindI_of (((y : Int) + sp.1)) (by exact i64_at _ _ rfl (by omega) (by omega)) ?_
        refine ldI_of (hpB H 0 rfl (by rw [Nat.zero_add]; exact hget 4 _ rfl)) ⟨trivial, ?_⟩
        refine mget_ok (ws := ws) (c := cc) (rest := rest) H 2 3 (by rw [hlw]; rfl) rfl hs (by rw [hlw]; exact hl) hww ?_
        refine ⟨_, rfl, hkeep.refl _ _, ?_⟩
        rw [← hGG]
        have hg := toNat_le (GG ((x : Int) + sp.2.2) ((y : Int) + sp.1))
        refine bindI_of _ (orA (i := 1) (by decide) (by omega) (by omega) (by omega)) ?_
        have hbt : 2 * B + (GG ((x : Int) + sp.2.2) ((y : Int) + sp.1)).toNat < 9223372036854775808 := by omega
        generalize GG ((x : Int) + sp.2.2) ((y : Int) + sp.1) = gg at hst hg hbt ⊢
        refine bindI_of _ (and_mask _ (spanW sp) hbt (by omega)) ?_
        rw [hst]
        generalize bitsN 0 (pb GG (x : Nat) y (spl sp (spanW sp))) = nb at hnb hctx hwn ⊢
        rw [add_mk, add_mk, Nat.zero_add]
        refine stV_hp H 0 rfl (by rw [List.length_append]; omega) rfl fun h hsz H => ?_
        have hset : (wnsC wl ++ restw).set (i * 5 + 3) (.int .i64 (nb : Nat)) = wnsC (wl.set i ⟨sp, nb⟩) ++ restw := by
          rw [List.set_append_left _ _ hwlen, wnsC_set nb hB1]
        rw [hset] at H
        have H : Hp h0 FF h ([⟨bw, true, T_generic_window, wnsC (wl.set i ⟨sp, nb⟩) ++ restw⟩, procE rp p fv base t skip, mapE p q W X N cc, ⟨q, true, T_uint64, u64s ws ++ rest⟩] ++ M) := H
        have hil : i < wl.length := by rw [hwin.1]; exact hi
        have hget2 : ∀ j v, (wnC ⟨sp, nb⟩)[j]? = some v → (wnsC (wl.set i ⟨sp, nb⟩) ++ restw)[i * 5 + j]? = some v := fun j v hv => Go.Ar.get_app (wnsC_get (List.getElem?_set_self hil) j v hv)
        refine ldI_of (H.cell 0 rfl (hget2 4 _ rfl)) ?_
        have hma := mask_add sp
        refine bindI_of (((2 ^ spanW sp : Nat) : Int)) (by exact i64_at _ _ (by rw [← hma]; rfl) (by omega) (by omega)) ?_
        have hmul : bitsN 0 (pb GG (x : Nat) y (plcs (SL.take i))) * 2 ^ spanW sp ≤ 65536 * 256 := Nat.mul_le_mul (by omega) hp8
        generalize bitsN 0 (pb GG (x : Nat) y (plcs (SL.take i))) = acc at hmul hctx hac1 ⊢
        refine bindI_of (((acc * 2 ^ spanW sp : Nat) : Int)) (by exact i64_at _ _ mul_cast (by omega) (by omega)) ?_
        refine ldI_of (H.cell 0 rfl (hget2 3 _ rfl)) ?_
        refine bindI_of (((bitsN 0 (pb GG (x : Nat) y (plcs (SL.take (i + 1)))) : Nat) : Int)) (by exact i64_at _ _ (by show _ + (nb : Int) = _; omega) (by omega) (by omega)) ?_
        refine bindI_of (((i + 1 : Nat) : Int)) (by exact i64_at _ _ (by omega) (by omega) (by omega)) ?_
        exact ⟨n2 - 1, by omega, i + 1, _, by omega, rfl, hwn, H⟩
      · obtain rfl : i = SL.length := by omega
        have hctx : bitsN 0 (pb GG (x : Nat) y (plcs (SL.take SL.length))) = gctx t GG (x : Nat) y := by rw [List.take_of_length_le (Nat.le_refl _), hSLd]; rfl
        rw [hctx]
        have hcl := gctx_lt t GG (x : Nat) y
        obtain ⟨⟨ft, fx, hfv⟩, hdec⟩ := hdec
        refine ⟨fun b => b = rp, ?_⟩
        refine ptr_of (a := ⟨rp, 0, none⟩) (ptr_of (a := ⟨rp, 0, none⟩) (ptr_of (a := ⟨rp, 0, none⟩) (ptr_of (a := ⟨rp, 0, none⟩) ?_)))
        refine ldP_of (hpA H 1 rfl rfl) ⟨rfl, ?_⟩
        refine ldV_of (hpA H 1 rfl rfl) ⟨rfl, ?_⟩
        have hnil : ∀ K : Value → Prop, K fv → nilD fv K := fun K hk => by subst hfv; exact hk
        refine hnil _ ?_
        refine ldI_of (hpA H 1 rfl rfl) ⟨rfl, ?_⟩
        refine bindI_of ((base + ((gctx t GG (x : Nat) y : Nat) : Int))) (by exact i64_in _ (by omega) (by omega)) ?_
        refine ldP_of (hpA H 1 rfl rfl) ⟨rfl, ?_⟩
        refine mget_ok (ws := ws) (c := cc) (rest := rest) H 2 3 (by rw [hlw]; rfl) rfl hs (by rw [hlw]; exact hl) hww ?_
        refine ⟨_, rfl, hkeep.refl _ _, ?_⟩
        rw [← hGG]
        have hstep : rowG t step y (x + 1) (getP ws0 W X, s0) = match step s (gctx t GG (x : Int) (y : Int)) (GG (x : Int) (y : Int)) with
            | .inl (bit, s') => .inl (upd GG (x : Int) (y : Int) bit, s')
            | .inr e => .inr e := by
          (rw [rowG, hrow, ← hGG]) <;> rfl
        refine hdec hoks (by omega) (by omega) hM H.giveS (fun bit' s' M' h3 hst hok' hM' H' => ?_) fun e s' M' h3 hst hok' hM' H' => ?_
        · rw [hst] at hstep
          simp only at hstep
          have keep := keep_of H H' (e := procE rp p fv base t skip) (by simp)
          have H3 := H.putS (hSw s M hM) H' (hSw s' M' hM')
          refine ⟨_, rfl, keep, ?_⟩
          refine mset_ok (ws := ws) (c := cc) (rest := rest) H3 2 3 (by rw [hlw]; rfl) rfl hs (by rw [hlw]; exact hl) hww hx hy fun R h4 k1 k2 k3 H4 => ?_
          refine ⟨_, rfl, ?_⟩
          refine bindI_of (((x + 1 : Nat) : Int)) (by exact i64_at _ _ (by omega) (by omega) (by omega)) ?_
          have hset := getP_set hx hy k3
          rw [← hGG] at hset
          refine ⟨n - 1, by omega, x + 1, R, s', M', wl, by omega, rfl, by rw [hset]; exact hstep, by rw [k1, hlw], k2, hzz.set hx k3, hok', hM', ?_, H4⟩
          rw [hset]
          exact hwin.next hSok bit'
        · rw [hst] at hstep
          simp only at hstep
          have H3 := H.putS (hSw s M hM) H' (hSw s' M' hM')
          exact hbad e ws s' M' h3 (k0 + x + 1) hM' (rowG_err hstep _ (by omega)) hlw (by omega) hok' (H3.sub (List.Sublist.append (List.Sublist.cons _ (List.Sublist.refl _)) (List.Sublist.refl _)))
    · obtain rfl : W = x := by omega
      exact hgood ws s M h hM hrow hlw hww hzz hoks (H.sub (List.Sublist.append (List.Sublist.cons _ (List.Sublist.refl _)) (List.Sublist.refl _)))
end Go.Bm

/- GnS: a map's row laid over the one below it: Blit of a map onto itself, one row high. -/
set_option linter.unusedVariables false
set_option linter.unusedSimpArgs false
namespace Go.Bm
open Go Go.Den Go.Den.Yteakipgcanafoaa

theorem word_okN {h : Heap} {q : Option Addr} {c : Nat} {ws : List Nat} {n : Nat} (e : ws.length = n) (hr : rdO h q (ws.length * 1) (u64s ws)) (hw : W64 ws) (hl : ws.length < 1048577) {x : Int} (hx : -1000000000 ≤ x ∧ x < 1000000000) {K : Value → Heap → Prop} {Kp : List PanicEntry → Heap → Prop}
    (hk : ∀ V : Nat, V < M64 → (∀ j, j < 64 → V.testBit j = rowB ws (x + (63 - (j : Int)))) → K (.int .u64 (V : Nat)) h) :
    CP F_bitmap_word #[.slice q n c, .int .i64 x] h K Kp := by
  subst e
  exact word_ok hr hw hl hx hk

set_option maxRecDepth 100000 in
theorem blitS_ok {h0 h : Heap} {FF : List Nat} {p q W X : Nat} {ws : List Nat} {rest : List Value} (H : Hp h0 FF h (mapL p q W X ws rest)) (hs : SizeP (W : Int) (X : Int)) (hl : ws.length = X * wds W) (hw : W64 ws)
    {sx sy w g dx dy : Int} {op : Nat} (hsx : InI sx) (hsy : InI sy) (hwi : InI w) (hgi : InI g) (hdx : InI dx) (hdy : InI dy) (hw0 : 0 ≤ w) (hg0 : 0 ≤ g) (hop : op < 5) (hg1 : g ≤ 1)
    {K : Value → Heap → Prop} {Kp : List PanicEntry → Heap → Prop}
    (hk : ∀ R h', R.length = X * wds W → W64 R → (∀ Y, Y < X → ∀ x', x' < 64 * wds W → pix R (wds W) x' Y =
        if dx ≤ x' ∧ (x' : Int) < dx + w ∧ x' < W ∧ dy ≤ Y ∧ (Y : Int) < dy + g ∧ 0 ≤ sx + (x' - dx) ∧ sx + (x' - dx) < W ∧ 0 ≤ sy + (Y - dy) ∧ sy + (Y - dy) < X then opB op (pix ws (wds W) x' Y) (pix ws (wds W) (sx + (x' - dx)).toNat (sy + (Y - dy)).toNat) else pix ws (wds W) x' Y) →
      Hp h0 FF h' (mapL p q W X R rest) → K (.int .i64 0) h') :
    CP F_bitmap_Map_Blit #[.pointer (at0 p), .pointer (at0 p), .int .i64 sx, .int .i64 sy, .int .i64 w, .int .i64 g, .int .i64 dx, .int .i64 dy, .int .i64 (op : Nat)] h K Kp := by
  refine call_bitmap_Map_Blit ?_
  unfold bitmap_Map_Blit
  obtain ⟨W', X', e1, e2, hW1, hW2, hX1, hX2, hWX⟩ := size_nat hs
  obtain rfl : W = W' := by omega
  obtain rfl : X = X' := by omega
  clear e1 e2
  have hhw := hw_le hW1 hWX
  have hwl := wds_le hW1
  have hwp2 := wds_pos hW1
  refine bcase_false (by rfl) ?_
  refine bcase_dec (fun h1 => by omega) fun h1 => ?_
  refine bcase_dec (fun h2 => by omega) fun h2 => ?_
  refine bcase_dec (fun h3 => by omega) fun h3 => ?_
  refine bcase_dec (fun h4 => by omega) fun h4 => ?_
  clear h1 h2 h3 h4
  try simp only [ptr_some_eq, add_mk, Nat.zero_add, Nat.add_zero]
  refine ldI_of (H.cell 0 rfl (i := 0) rfl) ?_
  refine ldI_of (H.cell 0 rfl rfl) ?_
  refine both_ok hsx hdx hwi (by omega) (by omega) fun f1 t1 l1 c1 => ?_
  refine ⟨_, _, _, rfl, ?_⟩
  refine ldI_of (H.cell 0 rfl (i := 1) rfl) ?_
  refine ldI_of (H.cell 0 rfl rfl) ?_
  refine both_ok hsy hdy hgi (by omega) (by omega) fun f2 t2 l2 c2 => ?_
  refine ⟨_, _, _, rfl, ?_⟩
  have none : (l1 = 0 ∨ l2 = 0) → K (.int .i64 0) h := fun hz => by
    refine hk ws _ hl hw (fun Y hY x' hx' => ?_) H
    rw [if_neg]
    rintro ⟨g1, g2, g3, g4, g5, g6, g7, g8, g9⟩
    rcases hz with hz | hz
    · rcases c1 with ⟨_, c1⟩ | c1
      · exact c1 (x' - dx) (by omega) (by omega) (by omega) (by omega) (by omega) (by omega)
      · omega
    · rcases c2 with ⟨_, c2⟩ | c2
      · exact c2 (Y - dy) (by omega) (by omega) (by omega) (by omega) (by omega) (by omega)
      · omega
  refine bcase_eq (fun h3 => none (.inl h3)) fun h3 => ?_
  refine bcase_eq (fun h4 => none (.inr h4)) fun h4 => ?_
  clear none
  obtain ⟨a1, a2, a3, a4, a5, a6, a7, a8, a9⟩ := c1.resolve_left (fun h => h3 h.1)
  obtain ⟨b1, b2, b3, b4, b5, b6, b7, b8, b9⟩ := c2.resolve_left (fun h => h4 h.1)
  clear c1 c2 h3 h4
  obtain ⟨fx, rfl⟩ : ∃ n : Nat, f1 = (n : Nat) := ⟨f1.toNat, by omega⟩
  obtain ⟨tx, rfl⟩ : ∃ n : Nat, t1 = (n : Nat) := ⟨t1.toNat, by omega⟩
  obtain ⟨wide, rfl⟩ : ∃ n : Nat, l1 = (n : Nat) := ⟨l1.toNat, by omega⟩
  obtain ⟨fy, rfl⟩ : ∃ n : Nat, f2 = (n : Nat) := ⟨f2.toNat, by omega⟩
  obtain ⟨ty, rfl⟩ : ∃ n : Nat, t2 = (n : Nat) := ⟨t2.toNat, by omega⟩
  obtain ⟨high, rfl⟩ : ∃ n : Nat, l2 = (n : Nat) := ⟨l2.toNat, by omega⟩
  refine operations_ok fun o h' H' => ?_
  replace H := H.join H' rfl
  clear H'
  refine ⟨_, _, _, rfl, ?_⟩
  refine needs_of (by omega) ?_
  obtain ⟨fv, hfv, hfc⟩ := opB_cell H 2 rfl hop
  simp only [ptr_some_eq, add_mk, Nat.zero_add, Int.toNat_natCast, Nat.mul_one]
  refine ldV_of hfc ?_
  refine ldI_of (H.cell 0 rfl (i := 2) rfl) ?_
  refine needs_of (by simp; omega) ?_
  simp only [Int.toNat_natCast, u64s_zero]
  refine newC_hp H fun rw h H => ?_
  -- what shall be
  let G : Nat → Nat → Bool := fun x' Y => if tx ≤ x' ∧ x' < tx + wide ∧ ty ≤ Y ∧ Y < ty + high then opB op (pix ws (wds W) x' Y) (pix ws (wds W) (fx + (x' - tx)) (fy + (Y - ty))) else pix ws (wds W) x' Y
  have hG : ∀ x' Y, G x' Y = if tx ≤ x' ∧ x' < tx + wide ∧ ty ≤ Y ∧ Y < ty + high then opB op (pix ws (wds W) x' Y) (pix ws (wds W) (fx + (x' - tx)) (fy + (Y - ty))) else pix ws (wds W) x' Y := fun _ _ => rfl
  have hlast : (tx + wide - 1) / 64 < wds W := by unfold wds; omega
  have hsrc : W ≤ 64 * wds W := by unfold wds; omega
  let D : Nat → Nat → Bool := fun n Y => if fy < ty then decide (ty + (high - n) ≤ Y ∧ Y < ty + high) else decide (ty ≤ Y ∧ Y < ty + n)
  have hD : ∀ n Y, D n Y = true ↔ (fy < ty ∧ ty + (high - n) ≤ Y ∧ Y < ty + high) ∨ (¬ fy < ty ∧ ty ≤ Y ∧ Y < ty + n) := fun n Y => by
    show (if fy < ty then _ else _) = true ↔ _
    by_cases h1 : fy < ty
    · rw [if_pos h1, decide_eq_true_eq]; omega
    · rw [if_neg h1, decide_eq_true_eq]; omega
  have hrw0 : W64 (List.replicate (wds W) 0) := W64.zero _
  refine ⟨fun n vs h => ∃ (j J0 : Nat) (R rs : List Nat), (j = 0 → R = ws) ∧ j + n = high ∧ vs = [.int .i64 (j : Int)] ∧ rs.length = wds W ∧ Inv X (wds W) G (pix ws (wds W)) (D j) J0 (tx / 64) R ∧ J0 < X ∧
      Hp h0 FF h (mapL p q W X R rest ++ [⟨o, true, T_func_uint64_uint64_uint64, opsV⟩] ++ [⟨rw, true, T_uint64, u64s rs⟩]),
    ⟨high, 0, 0, ws, List.replicate (wds W) 0, fun _ => rfl, by omega, rfl, by simp, ⟨hl, hw, fun Y hY x' hx' => ?_⟩, by omega, H⟩, ?_⟩
  · by_cases h5 : D 0 Y = true ∨ Y = 0 ∧ x' / 64 < tx / 64
    · rw [if_pos h5, hG, if_neg]
      rcases h5 with h5 | h5
      · have := (hD 0 Y).1 h5; omega
      · omega
    · rw [if_neg h5]
  clear H hrw0
  rintro n h u xx ⟨j, J0, R, rs, hR0, hjn, hxx, hrs, hI, hJ0, H⟩
  injection hxx with hxx
  injection hxx with _ hxx
  subst hxx
  refine bcase_dec (fun h5 => ?_) fun h5 => ?_
  · have h5 : j < high := by omega
    have hRws : R = ws := hR0 (by omega)
    -- the row that is gone over
    obtain ⟨jj, hjj⟩ : ∃ jj : Nat, jj = if fy < ty then high - 1 - j else j := ⟨_, rfl⟩
    have hjj2 : fy < ty ∧ jj + j + 1 = high ∨ ¬ fy < ty ∧ jj = j := by
      by_cases h1 : fy < ty
      · rw [if_pos h1] at hjj; left; omega
      · rw [if_neg h1] at hjj; right; exact ⟨h1, hjj⟩
    refine ⟨fun vs h' => h' = h ∧ vs = [.int .i64 (jj : Int)], ?_, ?_⟩
    · refine bcase_dec (fun h6 => ?_) fun h6 => ?_
      · refine bindI_of (((high - 1 : Nat) : Int)) (by exact i64_at _ _ (by omega) (by omega) (by omega)) ?_
        refine bindI_of (((jj : Nat) : Int)) (by exact i64_at _ _ (by omega) (by omega) (by omega)) ?_
        exact ⟨by first | rfl | trivial, rfl⟩
      · have : jj = j := by omega
        rw [this]
        exact ⟨by first | rfl | trivial, rfl⟩
    · rintro h' u' x39 ⟨rfl, hx39⟩
      injection hx39 with hx39
      injection hx39 with _ hx39
      subst hx39
      have hjh : jj < high := by omega
      have hsrow : fy + jj < X := by omega
      have hdrow : ty + jj < X := by omega
      have hRl0 := hI.1
      have hrow2 : (fy + jj + 1) * wds W ≤ X * wds W := Nat.mul_le_mul_right _ (by omega)
      have hrow2' : (fy + jj + 1) * wds W = (fy + jj) * wds W + wds W := by rw [Nat.add_mul, Nat.one_mul]
      refine bindI_of (((fy + jj : Nat) : Int)) (by exact i64_at _ _ (by omega) (by omega) (by omega)) ?_
      try simp only [ptr_some_eq, add_mk, Nat.zero_add, Nat.add_zero]
      refine ldI_of (H.cell 0 rfl (i := 2) rfl) ?_
      refine bindI_of ((((fy + jj) * wds W : Nat) : Int)) (by exact i64_at _ _ mul_cast (by omega) (by omega)) ?_
      generalize hat : (fy + jj) * wds W = at_ at hrow2 hrow2' ⊢
      refine ldS_of (H.cell 0 rfl (i := 3) rfl) ?_
      refine ldI_of (H.cell 0 rfl (i := 2) rfl) ?_
      refine bindI_of (((at_ + wds W : Nat) : Int)) (by exact i64_at _ _ (by omega) (by omega) (by omega)) ?_
      refine ldI_of (H.cell 0 rfl (i := 2) rfl) ?_
      refine bindI_of (((at_ + wds W : Nat) : Int)) (by exact i64_at _ _ (by omega) (by omega) (by omega)) ?_
      refine needs_of (by omega) ?_
      refine needs_of (by omega) ?_
      refine needs_of (by omega) ?_
      simp only [Int.toNat_natCast]
      have hsub : subA (at0 q) (at_ + wds W) at_ 1 = some ⟨q, at_, none⟩ := by
        unfold subA
        rw [if_neg (by omega)]
        show some ((⟨q, 0, none⟩ : Addr).add (at_ * 1)) = _
        rw [add_mk]; simp
      rw [hsub]
      have hmin : Nat.min (at_ + wds W - at_) (wds W) = wds W := by
        show min (at_ + wds W - at_) (wds W) = _
        omega
      have hnew : ((u64s ws ++ rest).drop at_).take (wds W * 1) = u64s (rowW ws (wds W) (fy + jj)) := by
        unfold rowW
        rw [hat, Nat.mul_one, List.drop_append_of_le_length (by rw [u64s_length]; omega), List.take_append_of_le_length (by rw [List.length_drop, u64s_length]; omega)]
        unfold u64s
        rw [List.map_take, List.map_drop]
      have Hs := H
      rw [hRws] at Hs
      have hrd := rdO_hp Hs 1 (o := at_) (n := wds W * 1) rfl (by rw [List.length_append, u64s_length]; omega)
      rw [hnew] at hrd
      have hrl := rowW_len hl hsrow
      refine ⟨_, by rw [hmin]; exact hrd, ?_⟩
      refine stVs_all H 3 rfl (by rw [u64s_length, u64s_length, hrl, hrs]) (u64s_cells _) fun h' hsz H => ?_
      have H : Hp h0 FF h' (mapL p q W X R rest ++ [⟨o, true, T_func_uint64_uint64_uint64, opsV⟩] ++ [⟨rw, true, T_uint64, u64s (rowW ws (wds W) (fy + jj))⟩]) := H
      have hrwp := fun x (hx : x < 64 * wds W) => rowW_pix (S := ws) (swd := wds W) (r := fy + jj) hx
      have hrww := rowW_w hw (wds W) (fy + jj)
      generalize rowW ws (wds W) (fy + jj) = rw2 at H hrl hrwp hrww
      have hDj : D j (ty + jj) = false := by
        rw [← Bool.not_eq_true, hD]; omega
      have hI2 : Inv X (wds W) G (pix ws (wds W)) (D j) (ty + jj) (tx / 64) R := by
        refine ⟨hI.1, hI.2.1, fun Y hY x' hx' => ?_⟩
        rw [hI.2.2 Y hY x' hx']
        have e : ∀ Y, x' / 64 < tx / 64 → G x' Y = pix ws (wds W) x' Y := fun Y h6 => by rw [hG, if_neg (by omega)]
        by_cases h6 : D j Y = true
        · rw [if_pos (.inl h6), if_pos (.inl h6)]
        · by_cases h7 : x' / 64 < tx / 64
          · have := e Y h7
            split <;> split <;> first | rfl | exact this | exact this.symm
          · rw [if_neg (by rintro (h8 | h8); exact h6 h8; exact h7 h8.2), if_neg (by rintro (h8 | h8); exact h6 h8; exact h7 h8.2)]
      clear hI
      refine bindI_of (((tx / 64 : Nat) : Int)) (by exact i64_at _ _ (tdiv_nat tx 64) (by omega) (by omega)) ?_
      refine ⟨fun n vs h => ∃ (i : Nat) (R : List Nat), i + n = (tx + wide - 1) / 64 + 1 ∧ tx / 64 ≤ i ∧ vs = [.int .i64 (i : Int)] ∧ Inv X (wds W) G (pix ws (wds W)) (D j) (ty + jj) i R ∧
          Hp h0 FF h (mapL p q W X R rest ++ [⟨o, true, T_func_uint64_uint64_uint64, opsV⟩] ++ [⟨rw, true, T_uint64, u64s rw2⟩]),
        ⟨(tx + wide - 1) / 64 + 1 - tx / 64, tx / 64, R, by omega, Nat.le_refl _, rfl, hI2, H⟩, ?_⟩
      clear H hI2
      rintro n2 h u2 xx ⟨i, R, hin, hi, hxx, hI, H⟩
      injection hxx with hxx
      injection hxx with _ hxx
      subst hxx
      refine bindI_of (((tx + wide : Nat) : Int)) (by exact i64_at _ _ (by omega) (by omega) (by omega)) ?_
      refine bindI_of (((tx + wide - 1 : Nat) : Int)) (by exact i64_at _ _ (by omega) (by omega) (by omega)) ?_
      refine bindI_of ((((tx + wide - 1) / 64 : Nat) : Int)) (by exact i64_at _ _ (tdiv_nat (tx + wide - 1) 64) (by omega) (by omega)) ?_
      refine bcase_dec (fun h6 => ?_) fun h6 => ?_
      · have h6 : i ≤ (tx + wide - 1) / 64 := by omega
        have hiw : i < wds W := by omega
        have hidx := idx_lt hiw hdrow
        have hjw : (ty + jj) * wds W ≤ X * wds W := Nat.mul_le_mul_right _ (by omega)
        have hRl := hI.1
        refine bindI_of (((ty + jj : Nat) : Int)) (by exact i64_at _ _ (by omega) (by omega) (by omega)) ?_
        refine ldS_of (H.cell 0 rfl rfl) ?_
        refine ldI_of (H.cell 0 rfl rfl) ?_
        refine bindI_of ((((ty + jj) * wds W : Nat) : Int)) (by exact i64_at _ _ mul_cast (by omega) (by omega)) ?_
        refine bindI_of ((((ty + jj) * wds W + i : Nat) : Int)) (by exact i64_at _ _ (by omega) (by omega) (by omega)) ?_
        refine needs_of (by omega) ?_
        try simp only [ptr_some_eq, add_mk, Nat.zero_add, Int.toNat_natCast, Nat.mul_one]
        refine mask_ok (by omega) (by omega) fun M hM hMb => ?_
        refine ⟨_, rfl, ?_⟩
        refine bindI_of (((64 * i : Nat) : Int)) (by exact i64_at _ _ (by omega) (by omega) (by omega)) ?_
        refine bindI_of (((fx + 64 * i : Nat) : Int)) (by exact i64_at _ _ (by omega) (by omega) (by omega)) ?_
        refine bindI_of ((((fx + 64 * i : Nat) : Int) - (tx : Nat))) (by exact i64_in _ (by omega) (by omega)) ?_
        have hcell := H.cell 1 rfl (get_app (u64s_get (getD_get (l := R) (i := (ty + jj) * wds W + i) (by omega))))
        have hv := hI.2.1.get ((ty + jj) * wds W + i)
        refine ldI_of hcell ?_
        refine bindI_of _ (andNot64 _ _ hv hM) ?_
        refine ldI_of hcell ?_
        have hrr := row_rdO (xs := rw2) (rest := []) H 3 (b := rw) (w := true) (t := T_uint64) (by rw [List.append_nil]; rfl)
        refine word_okN hrl hrr hrww (by omega) (by omega) fun V hV hVb => ?_
        refine ⟨_, rfl, hext.refl _, ?_⟩
        refine does_ok hop hv hV hfv fun v hvv hvb => ?_
        refine ⟨_, rfl, hext.refl _, ?_⟩
        refine bindI_of _ (and64 _ _ hvv hM) ?_
        refine bindI_of _ (or64 _ _ (and_lt hv) (and_lt hvv)) ?_
        refine stV_hp H 1 rfl (by rw [List.length_append, u64s_length]; omega) rfl fun h hsz H => ?_
        rw [u64s_setr _ _ _ _ (by omega)] at H
        refine bindI_of (((i + 1 : Nat) : Int)) (by exact i64_at _ _ (by omega) (by omega) (by omega)) ?_
        refine ⟨n2 - 1, by omega, i + 1, _, by omega, by omega, rfl, hI.step hdrow hiw (v := R.getD ((ty + jj) * wds W + i) 0 &&& wnot M ||| v &&& M) (or_lt (and_lt hv) (and_lt hvv)) (fun b hb => ?_), H.as (by simp [mapL, mapE])⟩
        have hwb := hI.word hDj hdrow hiw hb
        rw [Nat.testBit_or, Nat.testBit_and, Nat.testBit_and, wnot_bit hM hb, hvb b hb, hMb b hb, hVb b hb, hwb, hG]
        by_cases h7 : tx ≤ 64 * i + (63 - b) ∧ 64 * i + (63 - b) < tx + wide
        · rw [decide_eq_true h7, if_pos ⟨h7.1, h7.2, by omega, by omega⟩]
          have e1 : ((fx + 64 * i : Nat) : Int) - (tx : Nat) + (63 - (b : Int)) = ((fx + (64 * i + (63 - b) - tx) : Nat) : Int) := by omega
          have e2 : ty + jj - ty = jj := by omega
          rw [e1, hrwp _ (by omega), e2]
          simp
        · rw [decide_eq_false h7, if_neg (fun h8 => h7 ⟨h8.1, h8.2.1⟩)]
          simp
      · have h6 : (tx + wide - 1) / 64 < i := by omega
        refine bindI_of (((j + 1 : Nat) : Int)) (by exact i64_at _ _ (by omega) (by omega) (by omega)) ?_
        refine ⟨n - 1, by omega, j + 1, ty + jj, R, rw2, fun h => absurd h (Nat.succ_ne_zero _), by omega, rfl, hrl, hI.row (fun x' h7 h8 => ?_) (fun Y => ?_) (fun x' h7 h8 => ?_), hdrow, H⟩
        · rw [hG, if_neg (by omega)]
        · rw [hD, hD]; omega
        · rw [hG, if_neg (by omega)]
  · have h5 : j = high := by omega
    subst h5
    refine hk R _ hI.1 hI.2.1 (fun Y hY x' hx' => ?_) (H.pre.pre)
    rw [hI.2.2 Y hY x' hx']
    have e1 : (D j Y = true ∨ Y = J0 ∧ x' / 64 < tx / 64) → G x' Y = if tx ≤ x' ∧ x' < tx + wide ∧ ty ≤ Y ∧ Y < ty + j then opB op (pix ws (wds W) x' Y) (pix ws (wds W) (fx + (x' - tx)) (fy + (Y - ty))) else pix ws (wds W) x' Y := fun _ => hG x' Y
    by_cases h6 : tx ≤ x' ∧ x' < tx + wide ∧ ty ≤ Y ∧ Y < ty + j
    · rw [if_pos (.inl ((hD j Y).2 (by omega))), hG, if_pos h6, if_pos (by omega)]
      congr 2 <;> omega
    · have hno : ¬ (dx ≤ x' ∧ (x' : Int) < dx + w ∧ x' < W ∧ dy ≤ Y ∧ (Y : Int) < dy + g ∧ 0 ≤ sx + (x' - dx) ∧ sx + (x' - dx) < W ∧ 0 ≤ sy + (Y - dy) ∧ sy + (Y - dy) < X) := by
        rintro ⟨g1, g2, g3, g4, g5, g6, g7, g8, g9⟩
        have k1 := a9 (x' - dx) (by omega) (by omega) (by omega) (by omega) (by omega) (by omega)
        have k2 := b9 (Y - dy) (by omega) (by omega) (by omega) (by omega) (by omega) (by omega)
        exact h6 (by omega)
      rw [if_neg hno]
      split
      · rw [hG, if_neg h6]
      · rfl

end Go.Bm

/- GnD: generic's procedure.same, procedure.run and caught, whatever decides. -/
set_option linter.unusedVariables false
set_option linter.unusedSimpArgs false
namespace Go.Bm
open Go Go.Den Go.Den.Yteakipgcanafoaa

theorem same_ok {h0 h : Heap} {FF : List Nat} {L : List Ent} {rp p q W X N cc t y : Nat} {fv : Value} {base : Int} {skip : Bool} {ws : List Nat} {rest : List Value} (H : Hp h0 FF h ([procE rp p fv base t skip, mapE p q W X N cc, ⟨q, true, T_uint64, u64s ws ++ rest⟩] ++ L))
    (hN : ws.length = N) (hs : SizeP (W : Int) (X : Int)) (hl : N = X * wds W) (hw : W64 ws) (hy : y < X) {K : Value → Heap → Prop} {Kp : List PanicEntry → Heap → Prop} (hk : K (.bool (sameB (getP ws W X) W y)) h) :
    CP F_generic_procedure_same #[.pointer (at0 rp), .int .i64 (W : Nat), .int .i64 (y : Nat)] h K Kp := by
  refine call_generic_procedure_same ?_
  unfold generic_procedure_same
  obtain ⟨W', X', e1, e2, hW1, hW2, hX1, hX2, hWX⟩ := size_nat hs
  obtain rfl : W = W' := by omega
  obtain rfl : X = X' := by omega
  clear e1 e2
  refine ⟨fun n vs h' => h' = h ∧ ∃ x : Nat, x + n = W ∧ vs = [.int .i64 (x : Nat)] ∧ ∀ j, j < x → getP ws W X (j : Int) (y : Int) = getP ws W X (j : Int) ((y : Int) - 1), ⟨W, rfl, 0, by omega, rfl, fun j hj => absurd hj (Nat.not_lt_zero _)⟩, ?_⟩
  rintro n h u xx ⟨rfl, x, hxn, hxx, hall⟩
  injection hxx with hxx
  injection hxx with _ hxx
  subst hxx
  refine bcase_dec (fun h4 => ?_) fun h4 => ?_
  · refine ptr_of (a := ⟨rp, 0, none⟩) (ptr_of (a := ⟨rp, 0, none⟩) ?_)
    refine bindI_of (((y : Int) - 1)) (by exact i64_in _ (by omega) (by omega)) ?_
    refine ldP_of (hpA H 0 rfl rfl) (ldP_of (hpA H 0 rfl rfl) ?_)
    refine mget_ok (ws := ws) (c := cc) (rest := rest) H 1 2 (by rw [hN]; rfl) rfl hs (by rw [hN]; exact hl) hw ?_
    refine ⟨_, rfl, hext.refl _, ?_⟩
    refine mget_ok (ws := ws) (c := cc) (rest := rest) H 1 2 (by rw [hN]; rfl) rfl hs (by rw [hN]; exact hl) hw ?_
    refine ⟨_, rfl, ?_⟩
    refine bcase_ne (fun h5 => ?_) fun h5 => ?_
    · have hne : getP ws W X (x : Int) (y : Int) ≠ getP ws W X (x : Int) ((y : Int) - 1) := fun e => h5 (by rw [e])
      have : sameB (getP ws W X) W y = false := by
        unfold sameB
        rw [← Bool.not_eq_true, List.all_eq_true]
        intro hh
        have := hh x (List.mem_range.2 (by omega))
        exact hne (by simpa using this)
      rw [this] at hk
      exact hk
    · have heq : getP ws W X (x : Int) (y : Int) = getP ws W X (x : Int) ((y : Int) - 1) := by
        generalize getP ws W X (x : Int) (y : Int) = a at h5
        generalize getP ws W X (x : Int) ((y : Int) - 1) = b at h5
        cases a <;> cases b <;> first | rfl | (exact absurd h5 (by decide))
      refine bindI_of (((x + 1 : Nat) : Int)) (by exact i64_at _ _ (by omega) (by omega) (by omega)) ?_
      refine ⟨n - 1, by omega, rfl, x + 1, by omega, rfl, fun j hj => ?_⟩
      rcases Nat.lt_or_ge j x with h6 | h6
      · exact hall j h6
      · obtain rfl : j = x := by omega
        exact heq
  · obtain rfl : W = x := by omega
    have : sameB (getP ws W X) W y = true := by
      unfold sameB
      rw [List.all_eq_true]
      intro j hj
      rw [hall j (List.mem_range.1 hj)]
      simp
    rw [this] at hk
    exact hk

set_option maxRecDepth 100000 in
set_option maxHeartbeats 4000000 in
theorem grun_ok {σ : Type} {S : σ → List Ent → Prop} {Ok : Nat → σ → Prop} {step : σ → Nat → Bool → (Bool × σ) ⊕ (Int × σ)} {fv : Value} {base : Int} {NN : Nat} (hSw : ∀ s M, S s M → M.all Ent.w = true) (hdec : DecOkI NN base S Ok step fv) (hb : 0 ≤ base ∧ base ≤ 131072)
    {h0 h : Heap} {FF : List Nat} {rp p q W X N cc t : Nat} {skip : Bool} {rest : List Value} {ws0 : List Nat} {s0 : σ} {M0 : List Ent} (ht : t < 4) (hS0 : S s0 M0) (H : Hp h0 FF h ([procE rp p fv base t skip, mapE p q W X N cc, ⟨q, true, T_uint64, u64s ws0 ++ rest⟩] ++ M0))
    (hN : ws0.length = N) (hcc : cc = N + rest.length) (hs : SizeP (W : Int) (X : Int)) (hl : N = X * wds W) (hw : W64 ws0) (hz : PadZ W X ws0) (hok0 : Ok 0 s0) (hNN : X * (W + 1) ≤ NN) {K : Value → Heap → Prop} {Kp : List PanicEntry → Heap → Prop}
    (hgood : ∀ ws s M h' k, S s M → runG W t skip step X (getP ws0 W X, s0) = .inl (getP ws W X, s) → ws.length = N → W64 ws → PadZ W X ws → k ≤ X * (W + 1) → Ok k s → Hp h0 FF h' ([procE rp p fv base t skip, mapE p q W X N cc, ⟨q, true, T_uint64, u64s ws ++ rest⟩] ++ M) → K (.tuple #[]) h')
    (hbad : ∀ e ws s M h' k, S s M → runG W t skip step X (getP ws0 W X, s0) = .inr (e, s) → ws.length = N → k ≤ NN → Ok k s → Hp h0 FF h' ([procE rp p fv base t skip, mapE p q W X N cc, ⟨q, true, T_uint64, u64s ws ++ rest⟩] ++ M) →
      Kp [{ v := .iface T_generic_fault (.agg #[.int .i64 e]), recovered := false }] h') :
    CP F_generic_procedure_run #[.pointer (at0 rp), .int .i64 (gsize t : Nat)] h K Kp := by
  refine call_generic_procedure_run ?_
  unfold generic_procedure_run
  obtain ⟨W', X', e1, e2, hW1, hW2, hX1, hX2, hWX⟩ := size_nat hs
  obtain rfl : W = W' := by omega
  obtain rfl : X = X' := by omega
  clear e1 e2
  have hgs := gsize_le ht
  refine ptr_of (a := ⟨rp, 0, none⟩) ?_
  refine ldP_of (hpA H 0 rfl rfl) ?_
  refine msize_ok (ws := ws0) (c := cc) H 1 (by rw [hN]; rfl) ?_
  refine ⟨_, _, rfl, ?_⟩
  refine ⟨fun n vs h' => ∃ (y : Nat) (ws : List Nat) (s : σ) (M : List Ent) (k : Nat), y + n = X ∧ vs = [.int .i64 (y : Nat)] ∧ S s M ∧ runG W t skip step y (getP ws0 W X, s0) = .inl (getP ws W X, s) ∧ ws.length = N ∧ W64 ws ∧ PadZ W X ws ∧ k ≤ y * (W + 1) ∧ Ok k s ∧
      Hp h0 FF h' ([procE rp p fv base t skip, mapE p q W X N cc, ⟨q, true, T_uint64, u64s ws ++ rest⟩] ++ M), ⟨X, 0, ws0, s0, M0, 0, by omega, rfl, hS0, rfl, hN, hw, hz, by omega, hok0, H⟩, ?_⟩
  clear H
  rintro n h u xx ⟨y, ws, s, M, k, hyn, hxx, hM, hrun, hlw, hww, hzz, hky, hok, H⟩
  injection hxx with hxx
  injection hxx with _ hxx
  subst hxx
  refine bcase_dec (fun h1 => ?_) fun h1 => ?_
  · have hy : y < X := by omega
    have hkX : (y + 1) * (W + 1) ≤ X * (W + 1) := Nat.mul_le_mul_right _ (by omega)
    rw [Nat.add_mul, Nat.one_mul] at hkX
    have hnext : runG W t skip step (y + 1) (getP ws0 W X, s0) = match skip with
        | false => rowG t step y W (getP ws W X, s)
        | true => match step s (gsize t) (sameB (getP ws W X) W y) with
          | .inr e => .inr e
          | .inl (true, s') => .inl (copyRow (getP ws W X) y, s')
          | .inl (false, s') => rowG t step y W (getP ws W X, s') := by
      rw [runG, hrun]
      cases skip <;> rfl
    refine ptr_of (a := ⟨rp, 0, none⟩) ?_
    cases skip with
    | true =>
      simp only at hnext
      refine ldB_of (hpA H 0 rfl rfl) ?_
      refine bcase_true rfl ?_
      refine ⟨fun vs h' => h' = h ∧ vs = [.int .i64 ((sameB (getP ws W X) W y).toNat : Nat)], ?_, ?_⟩
      · refine same_ok H hlw hs hl hww hy ?_
        refine ⟨_, rfl, ?_⟩
        cases hsm : sameB (getP ws W X) W y with
        | true => exact bcase_true rfl ⟨rfl, rfl⟩
        | false => exact bcase_false rfl ⟨rfl, rfl⟩
      · rintro h' u' bb ⟨rfl, hbb⟩
        injection hbb with hbb
        injection hbb with _ hbb
        subst hbb
        obtain ⟨⟨ft, fx, hfv⟩, hdc⟩ := id hdec
        refine ptr_of (a := ⟨rp, 0, none⟩) (ptr_of (a := ⟨rp, 0, none⟩) ?_)
        refine ldV_of (hpA H 0 rfl rfl) ?_
        have hnil : ∀ K : Value → Prop, K fv → nilD fv K := fun K hk => by subst hfv; exact hk
        refine hnil _ ?_
        refine ldI_of (hpA H 0 rfl rfl) ?_
        refine bindI_of ((base + ((gsize t : Nat) : Int))) (by exact i64_in _ (by omega) (by omega)) ?_
        refine hdc hok (by omega) (by omega) hM H.giveS (fun bit' s' M' h3 hst hok' hM' H' => ?_) fun e s' M' h3 hst hok' hM' H' => ?_
        · rw [hst] at hnext
          have H := H.putS (hSw s M hM) H' (hSw s' M' hM')
          clear H'
          refine ⟨_, rfl, ?_⟩
          cases bit' with
          | true =>
            simp only at hnext
            refine bcase_eq (fun _ => ?_) fun h5 => absurd rfl h5
            refine ptr_of (a := ⟨rp, 0, none⟩) (ptr_of (a := ⟨rp, 0, none⟩) ?_)
            refine bindI_of (((y : Int) - 1)) (by exact i64_in _ (by omega) (by omega)) ?_
            refine ldP_of (hpA H 0 rfl rfl) (ldP_of (hpA H 0 rfl rfl) ?_)
            have hmL : mapL p q W X ws rest = [mapE p q W X N cc, ⟨q, true, T_uint64, u64s ws ++ rest⟩] := by
              unfold mapL
              rw [hlw, hcc]
            have Hg := H.give [1, 2] (A := mapL p q W X ws rest) (by decide) (by rw [hmL]; rfl)
            refine blitS_ok (sx := 0) (sy := (y : Int) - 1) (w := (W : Nat)) (g := 1) (dx := 0) (dy := (y : Nat)) (op := 4) Hg hs (by rw [hlw]; exact hl) hww ⟨by omega, by omega⟩ ⟨by omega, by omega⟩ ⟨by omega, by omega⟩ ⟨by omega, by omega⟩ ⟨by omega, by omega⟩ ⟨by omega, by omega⟩ (by omega) (by omega) (by decide) (by omega) fun R h4 k1 k2 k3 H4 => ?_
            have hmR : mapL p q W X R rest = [mapE p q W X N cc, ⟨q, true, T_uint64, u64s R ++ rest⟩] := by
              unfold mapL
              rw [k1, ← hl, hcc]
            have H := H.put [1, 2] (by decide) (by rw [hmL]; rfl) (by rw [hmL]; rfl) H4 (by rw [hmR]; rfl) (by rw [hmR]; rfl)
            rw [hmR] at H
            clear H4 Hg
            refine ⟨_, rfl, ?_⟩
            refine bindI_of (((y + 1 : Nat) : Int)) (by exact i64_at _ _ (by omega) (by omega) (by omega)) ?_
            have k4 : ∀ Y, Y < X → ∀ x', x' < 64 * wds W → pix R (wds W) x' Y = if x' < W ∧ Y = y ∧ y ≠ 0 then pix ws (wds W) x' (y - 1) else pix ws (wds W) x' Y := fun Y hY x' hx' => by
              rw [k3 Y hY x' hx']
              by_cases hc : x' < W ∧ Y = y ∧ y ≠ 0
              · rw [if_pos hc, if_pos (by omega)]
                show pix ws (wds W) _ _ = _
                congr 1 <;> omega
              · rw [if_neg hc, if_neg (by omega)]
            have hcopy : getP R W X = copyRow (getP ws W X) y := by
              funext a b
              unfold copyRow getP
              by_cases hin : 0 ≤ a ∧ 0 ≤ b ∧ a < W ∧ b < X
              · rw [decide_eq_true hin, Bool.true_and, k4 b.toNat (by omega) a.toNat (by unfold wds; omega)]
                by_cases hc : b = (y : Int) ∧ y ≠ 0
                · rw [if_pos (by omega), if_pos hc, decide_eq_true (by omega), Bool.true_and]
                  congr 1
                  omega
                · rw [if_neg (by omega), if_neg hc, Bool.true_and]
              · rw [decide_eq_false hin, Bool.false_and]
                by_cases hc : b = (y : Int) ∧ y ≠ 0
                · rw [if_pos hc, decide_eq_false (by omega), Bool.false_and]
                · rw [if_neg hc, Bool.false_and]
            refine ⟨n - 1, by omega, y + 1, R, s', M', k + 1, by omega, rfl, hM', by rw [hcopy]; exact hnext, by rw [k1, hl], k2, fun Y hY x' h6 h7 => ?_, by rw [Nat.add_mul, Nat.one_mul]; omega, hok', H⟩
            rw [k4 Y hY x' h7, if_neg (by omega)]
            exact hzz Y hY x' h6 h7
          | false =>
            simp only at hnext
            refine bcase_eq (fun h5 => absurd h5 (by decide)) fun h5 => ?_
            refine grow_ok hSw hdec hb ht hM' H hlw hs hl hww hzz hy hok' (by omega) (fun ws2 s2 M2 h4 hM2 hrow hl2 hw2 hz2 hok2 H => ?_) fun e ws2 s2 M2 h4 k2 hM2 hrow hl2 hk2 hok2 H => ?_
            · rw [hrow] at hnext
              refine bindI_of (((y + 1 : Nat) : Int)) (by exact i64_at _ _ (by omega) (by omega) (by omega)) ?_
              exact ⟨n - 1, by omega, y + 1, ws2, s2, M2, k + 1 + W, by omega, rfl, hM2, hnext, hl2, hw2, hz2, by rw [Nat.add_mul, Nat.one_mul]; omega, hok2, H⟩
            · rw [hrow] at hnext
              exact hbad e ws2 s2 M2 h4 k2 hM2 (runG_err hnext _ (by omega)) hl2 hk2 hok2 H
        · rw [hst] at hnext
          simp only at hnext
          have H3 := H.putS (hSw s M hM) H' (hSw s' M' hM')
          exact hbad e ws s' M' h3 (k + 1) hM' (runG_err hnext _ (by omega)) hlw (by omega) hok' H3
    | false =>
      simp only at hnext
      refine ldB_of (hpA H 0 rfl rfl) ?_
      refine bcase_false rfl ?_
      refine grow_ok hSw hdec hb ht hM H hlw hs hl hww hzz hy hok (by omega) (fun ws2 s2 M2 h4 hM2 hrow hl2 hw2 hz2 hok2 H => ?_) fun e ws2 s2 M2 h4 k2 hM2 hrow hl2 hk2 hok2 H => ?_
      · rw [hrow] at hnext
        refine bindI_of (((y + 1 : Nat) : Int)) (by exact i64_at _ _ (by omega) (by omega) (by omega)) ?_
        exact ⟨n - 1, by omega, y + 1, ws2, s2, M2, k + W, by omega, rfl, hM2, hnext, hl2, hw2, hz2, by rw [Nat.add_mul, Nat.one_mul]; omega, hok2, H⟩
      · rw [hrow] at hnext
        exact hbad e ws2 s2 M2 h4 k2 hM2 (runG_err hnext _ (by omega)) hl2 hk2 hok2 H
  · obtain rfl : X = y := by omega
    exact hgood ws s M h k hM hrun hlw hww hzz hky hok H

/-! ### caught -/
theorem gcatch_idle {h : Heap} {r : Nat} {Kd : FrameMode → Heap → Prop} {Kdp : FrameMode → List PanicEntry → Heap → Prop} (hk : Kd .returning h) : DCalls Go.Proofs.Try.prog F_generic_caught_c1 #[.pointer (some ⟨r, 0, none⟩)] .returning h Kd Kdp :=
  dcall_generic_caught_c1 (cap0 := ⟨r, 0, none⟩) (by unfold generic_caught_c1 recD; exact hk)
theorem gcatch {h0 h : Heap} {FF : List Nat} {L : List Ent} {r : Nat} {K : Value → Heap → Prop} {Kp : List PanicEntry → Heap → Prop} {e x : Int} (H : Hp h0 FF h ([⟨r, true, T_api_Errno, [.int .i64 x]⟩] ++ L)) (hk : ∀ h', Hp h0 FF h' L → K (.int .i64 e) h') :
    leaveD (DCalls Go.Proofs.Try.prog) (fun h => ldI h ⟨r, 0, none⟩ .i64 fun v => K (.int .i64 v) h) Kp [{ target := .fn (.func F_generic_caught_c1) #[.pointer (some ⟨r, 0, none⟩)], args := #[] }] (.panicking [{ v := .iface T_generic_fault (.agg #[.int .i64 e]), recovered := false }]) h := by
  show DCalls Go.Proofs.Try.prog F_generic_caught_c1 #[.pointer (some ⟨r, 0, none⟩)] _ h _ _
  refine dcall_generic_caught_c1 (cap0 := ⟨r, 0, none⟩) ?_
  unfold generic_caught_c1
  refine recD_iface ?_
  refine bcase_true (by decide) ?_
  refine ⟨e, rfl, ?_⟩
  refine newC_hp H fun r6 h H => ?_
  have H := H.rot
  refine stA H 0 rfl rfl rfl fun h H => ?_
  refine ldI_of (hpA H 0 rfl rfl) ?_
  refine st0 H 1 rfl rfl rfl fun h H => ?_
  show ldI h ⟨r, 0, none⟩ .i64 _
  refine ldI_of (H.cell 1 rfl rfl) ?_
  have H : Hp h0 FF h ([⟨r6, true, T_generic_fault, [.int .i64 e]⟩, ⟨r, true, T_api_Errno, [.int .i64 e]⟩] ++ L) := H
  exact hk h (Hp.suf H)
theorem caught_ok {h0 h : Heap} {FF : List Nat} {L : List Ent} {run : Value} {K : Value → Heap → Prop} {Kp : List PanicEntry → Heap → Prop} (Post : List Ent → Prop) (PostB : Int → List Ent → Prop) (H : Hp h0 FF h L)
    (hrun : ∀ {r : Nat} {h1 : Heap} {K1 : Value → Heap → Prop} {Kp1 : List PanicEntry → Heap → Prop}, Hp h0 FF h1 ([⟨r, true, T_api_Errno, [.int .i64 0]⟩] ++ L) → (∀ h2 L2, Post L2 → Hp h0 FF h2 ([⟨r, true, T_api_Errno, [.int .i64 0]⟩] ++ L2) → K1 (.tuple #[]) h2) →
      (∀ e h2 L2, PostB e L2 → Hp h0 FF h2 ([⟨r, true, T_api_Errno, [.int .i64 0]⟩] ++ L2) → Kp1 [{ v := .iface T_generic_fault (.agg #[.int .i64 e]), recovered := false }] h2) → callD (CallsHP Go.Proofs.Try.prog) Kp1 run [] h1 K1)
    (hk0 : ∀ h' L', Post L' → Hp h0 FF h' L' → K (.int .i64 0) h') (hke : ∀ e h' L', PostB e L' → Hp h0 FF h' L' → K (.int .i64 e) h') : CP F_generic_caught #[run] h K Kp := by
  refine call_generic_caught ?_
  unfold generic_caught
  refine newC_hp H fun r1 h H => ?_
  have H := H.rot
  refine hrun H (fun h2 L2 hp H => ?_) fun e h2 L2 hp H => ?_
  · refine st0 H 0 rfl rfl rfl fun h H => ?_
    show DCalls Go.Proofs.Try.prog F_generic_caught_c1 #[.pointer (some ⟨r1, 0, none⟩)] .returning h _ _
    refine gcatch_idle ?_
    show ldI h ⟨r1, 0, none⟩ .i64 _
    refine ldI_of (H.cell 0 rfl rfl) ?_
    have H : Hp h0 FF h ([⟨r1, true, T_api_Errno, [.int .i64 0]⟩] ++ L2) := H
    exact hk0 h L2 hp (Hp.suf H)
  · exact gcatch H fun h' H => hke e h' L2 hp H
end Go.Bm

/- GnE: generic.Put and generic.Get. -/
set_option linter.unusedVariables false
set_option linter.unusedSimpArgs false
namespace Go.Bm
open Go Go.Den Go.Den.Yteakipgcanafoaa
open Go.Ar (Cod CodOk Dec codL decL BOk idx putM_ok getD_ok getD_bit)

def fvC (p : Nat) : Value := .iface T_generic_coding (.agg #[.pointer (at0 p)])
def fvD (p : Nat) : Value := .iface T_generic_decoding (.agg #[.pointer (at0 p)])
theorem inv_coding {x : Value} {args : List Value} {h : Heap} {K : Value → Heap → Prop} {Kp : List PanicEntry → Heap → Prop} (H : CallsHP Go.Proofs.Try.prog F_generic_coding_decide (x :: args).toArray h K Kp) :
    invokeD Go.Proofs.Try.prog (CallsHP Go.Proofs.Try.prog) (.iface T_generic_coding x) "burin/generic.decide" args h K Kp := by
  have hm : methD Go.Proofs.Try.prog T_generic_coding "burin/generic.decide" = some F_generic_coding_decide := by kernel_rfl
  unfold invokeD
  simp only [hm]
  exact H
theorem inv_decoding {x : Value} {args : List Value} {h : Heap} {K : Value → Heap → Prop} {Kp : List PanicEntry → Heap → Prop} (H : CallsHP Go.Proofs.Try.prog F_generic_decoding_decide (x :: args).toArray h K Kp) :
    invokeD Go.Proofs.Try.prog (CallsHP Go.Proofs.Try.prog) (.iface T_generic_decoding x) "burin/generic.decide" args h K Kp := by
  have hm : methD Go.Proofs.Try.prog T_generic_decoding "burin/generic.decide" = some F_generic_decoding_decide := by kernel_rfl
  unfold invokeD
  simp only [hm]
  exact H
def codS (p q : Nat) (s : Cod) (M : List Ent) : Prop := ∃ r rest, M = codL p q r s rest
def decS (p q : Nat) (e : Ent) (bp : Option Addr) (bc : Nat) (s : Dec) (M : List Ent) : Prop := BOk e bp s.b ∧ M = decL p q e bp bc s
theorem codS.w {p q : Nat} : ∀ s M, codS p q s M → M.all Ent.w = true := fun s M ⟨r, rest, h⟩ => by subst h; rfl
theorem decS.w {p q : Nat} {e : Ent} {bp : Option Addr} {bc : Nat} : ∀ s M, decS p q e bp bc s M → M.all Ent.w = true := fun s M ⟨h1, h⟩ => by subst h; simp [decL, Go.Ar.decE, h1.1]

set_option maxRecDepth 100000 in
theorem codI_ok {p q m n0 NN : Nat} {base : Int} (hb : 0 ≤ base ∧ base ≤ 131072) (hm1 : 1 ≤ m) (hm2 : m ≤ 131072) (hN : n0 + NN ≤ 16777216) : DecOkI NN base (codS p q) (fun k s => CodOk m (n0 + k) s) (stepP m base) (fvC p) := by
  refine ⟨⟨_, _, rfl⟩, ?_⟩
  intro h0 h FF s n bit K Kp M k hok hk hn hM H hgood hbad
  obtain ⟨r, rest, rfl⟩ := hM
  refine inv_coding ?_
  refine call_generic_coding_decide ?_
  unfold generic_coding_decide
  refine newC_hp H fun r2 h H => ?_
  refine ldP_of (hpA H 3 rfl rfl) ?_
  refine Go.Ar.put_ok (bit := bit.toNat) (H.give [0, 1, 2] (by decide) rfl) hok.wf hok.done (by rw [hok.n]; omega) (by rw [hok.len]; exact hm1) (by rw [hok.len]; exact hm2) (toNat_le _) fun r3 rest3 h' H' => ?_
  replace H := H.put [0, 1, 2] (by decide) rfl rfl H' rfl rfl
  clear H'
  refine ⟨_, rfl, ?_⟩
  refine bcase_false (by rfl) ?_
  rw [hok.len] at H
  exact hgood bit _ _ h' rfl (putM_ok hok _ _ (by omega)) ⟨r3, rest3, rfl⟩ (H.take 3)
set_option maxRecDepth 100000 in
theorem decI_ok {p q m n0 NN : Nat} {e : Ent} {bp : Option Addr} {bc : Nat} {base : Int} {bytes : List Nat} (hbl : bytes.length < 140737488351300) (hb : 0 ≤ base ∧ base ≤ 131072) (hm1 : 1 ≤ m) (hm2 : m ≤ 131072) (hN : n0 + NN ≤ 16777216) :
    DecOkI NN base (decS p q e bp bc) (fun k s => Go.Ar.DecOk bytes m (n0 + k) s) (stepG m base) (fvD p) := by
  refine ⟨⟨_, _, rfl⟩, ?_⟩
  intro h0 h FF s n bit K Kp M k hok hk hn hM H hgood hbad
  obtain ⟨hbok, rfl⟩ := hM
  refine inv_decoding ?_
  refine call_generic_decoding_decide ?_
  unfold generic_decoding_decide
  refine newC_hp H fun r2 h H => ?_
  refine ldP_of (hpA H 3 rfl rfl) ?_
  refine Go.Ar.get_ok (H.give [0, 1, 2] (by decide) rfl) hbok hok.wf (by rw [hok.b]; exact hbl) (by rw [hok.n]; omega) (by rw [hok.len]; exact hm1) (by rw [hok.len]; exact hm2) fun h' H' => ?_
  have hbw := hbok.1
  replace H := H.put [0, 1, 2] (by decide) rfl (by simp [decL, Go.Ar.decE, hbw]) H' (by simp [decL, Go.Ar.decE, hbw]) rfl
  clear H'
  refine ⟨_, _, rfl, ?_⟩
  refine bcase_false (by rfl) ?_
  rw [hok.len] at H ⊢
  have hbit := getD_bit (s := s) (idx (base + (n : Int)) m)
  have hbn := (Go.Ar.getD_n s (idx (base + (n : Int)) m)).2.2
  have e1 : (Go.Ar.getD s (idx (base + (n : Int)) m)).2 = (decide ((Go.Ar.getD s (idx (base + (n : Int)) m)).2 = 1)).toNat := by
    by_cases h1 : (Go.Ar.getD s (idx (base + (n : Int)) m)).2 = 1
    · rw [decide_eq_true h1, h1]; rfl
    · rw [decide_eq_false h1]; show _ = 0; omega
  rw [e1]
  exact hgood _ _ _ h' rfl (getD_ok hok _ (by omega)) ⟨by rw [hbn]; exact hbok, rfl⟩ (H.take 3)
theorem gfits_ok {h : Heap} {base many all : Int} (ha : -1000000000000 ≤ all ∧ all < 1000000000000) (hm : -1000000000000 ≤ many ∧ many < 1000000000000) {K : Value → Heap → Prop} {Kp : List PanicEntry → Heap → Prop} (hk : ∀ b : Bool, (b = true ↔ 0 ≤ base ∧ base ≤ all - many) → K (.bool b) h) : CP F_generic_fits #[.int .i64 base, .int .i64 many, .int .i64 all] h K Kp := by
  refine call_generic_fits ?_
  unfold generic_fits
  refine bcase_dec (fun h1 => ?_) fun h1 => hk false (by simp; omega)
  refine bindI_of ((all - many)) (by exact i64_in _ (by omega) (by omega)) ?_
  exact hk _ (by simp; omega)
set_option maxRecDepth 100000 in
set_option maxHeartbeats 2000000 in
theorem gput_ok {h0 h : Heap} {FF : List Nat} {p q r m NN : Nat} {s : Cod} {rest : List Value} {Ok : Nat → Cod → Prop} {step : Cod → Nat → Bool → (Bool × Cod) ⊕ (Int × Cod)} (H : Hp h0 FF h (codL p q r s rest)) (hm : s.st.length = m) (hm2 : m ≤ 131072) {base template : Int}
    {w b : Int} {q1 : Option Addr} {c1 : Nat} {ws : List Nat} {skip : Bool} (hr1 : ∀ h', hext h h' → rdO h' q1 (ws.length * 1) (u64s ws)) (hw1 : W64 ws) (hl1 : ws.length < 140737488351300)
    (hdec : MayP w b ws → 0 ≤ base ∧ base ≤ 131072 → DecOkI NN base (codS p q) Ok step (fvC p)) (hok : Ok 0 s) (hNN : MayP w b ws → b.toNat * (w.toNat + 1) ≤ NN) {K : Value → Heap → Prop} {Kp : List PanicEntry → Heap → Prop}
    (hk60 : ∀ h', ¬ (0 ≤ template ∧ template < 4) → Hp h0 FF h' (codL p q r s rest) → K (.int .i64 60) h')
    (hk62 : ∀ h', (0 ≤ template ∧ template < 4) → ¬ MayP w b ws → Hp h0 FF h' (codL p q r s rest) → K (.int .i64 62) h')
    (hk51 : ∀ h', (0 ≤ template ∧ template < 4) → MayP w b ws → ¬ (0 ≤ base ∧ base ≤ (m : Int) - ((gsize template.toNat : Nat) + 1)) → Hp h0 FF h' (codL p q r s rest) → K (.int .i64 51) h')
    (hk0 : ∀ G s' k r' rest' h', (0 ≤ template ∧ template < 4) → MayP w b ws → (0 ≤ base ∧ base ≤ (m : Int) - ((gsize template.toNat : Nat) + 1)) → runG w.toNat template.toNat skip step b.toNat (getP ws w.toNat b.toNat, s) = .inl (G, s') → k ≤ b.toNat * (w.toNat + 1) → Ok k s' →
      Hp h0 FF h' (codL p q r' s' rest') → K (.int .i64 0) h')
    (hke : ∀ e s' k r' rest' h', (0 ≤ template ∧ template < 4) → MayP w b ws → (0 ≤ base ∧ base ≤ (m : Int) - ((gsize template.toNat : Nat) + 1)) → runG w.toNat template.toNat skip step b.toNat (getP ws w.toNat b.toNat, s) = .inr (e, s') → k ≤ NN → Ok k s' →
      Hp h0 FF h' (codL p q r' s' rest') → K (.int .i64 e) h') :
    CP F_generic_Put #[.pointer (at0 p), .int .i64 base, .agg #[.int .i64 w, .int .i64 b, .slice q1 ws.length c1], .int .i64 template, .bool skip] h K Kp := by
  refine call_generic_Put ?_
  unfold generic_Put
  have HC := H
  clear H
  have H := Hp.nil h []
  refine newC_hp H fun r4 h H => ?_
  refine bcase_false (by rfl) ?_
  refine csize_ok (fun t ht et h2 e2 => ?_) fun hn h2 e2 => ?_
  · have H := H.ext e2
    clear e2
    subst et
    have htt : 0 ≤ ((t : Nat) : Int) ∧ ((t : Nat) : Int) < 4 := by omega
    simp only [Int.toNat_natCast] at hk51 hk0 hke
    have hgs := gsize_le ht
    refine ⟨_, _, rfl, ?_⟩
    refine newC_hp H fun r10 h H => ?_
    repeat first | with_reducible refine stA H 0 (by with_unfolding_all exact rfl) (by with_unfolding_all exact rfl) (by with_unfolding_all exact rfl) fun h H => ?_ | with_reducible refine stA H 1 (by with_unfolding_all exact rfl) (by with_unfolding_all exact rfl) (by with_unfolding_all exact rfl) fun h H => ?_ | with_reducible refine st0 H 0 (by with_unfolding_all exact rfl) (by with_unfolding_all exact rfl) (by with_unfolding_all exact rfl) fun h H => ?_ | with_reducible refine st0 H 1 (by with_unfolding_all exact rfl) (by with_unfolding_all exact rfl) (by with_unfolding_all exact rfl) fun h H => ?_ | with_reducible refine stB H 0 (by with_unfolding_all exact rfl) (by with_unfolding_all exact rfl) (by with_unfolding_all exact rfl) fun h H => ?_ | with_reducible refine stB H 1 (by with_unfolding_all exact rfl) (by with_unfolding_all exact rfl) (by with_unfolding_all exact rfl) fun h H => ?_
    refine bcase_false (by rfl) ?_
    repeat first | with_reducible refine ldI_of (by with_unfolding_all first | exact hpA H 0 rfl rfl | exact hpA H 1 rfl rfl | exact Hp.cell H 0 rfl rfl | exact Hp.cell H 1 rfl rfl | exact hpB H 0 rfl rfl | exact hpB H 1 rfl rfl | exact hpC H 0 rfl rfl | exact hpC H 1 rfl rfl) ?_ | with_reducible refine ldS_of (by with_unfolding_all first | exact hpA H 0 rfl rfl | exact hpA H 1 rfl rfl | exact Hp.cell H 0 rfl rfl | exact Hp.cell H 1 rfl rfl | exact hpB H 0 rfl rfl | exact hpB H 1 rfl rfl | exact hpC H 0 rfl rfl | exact hpC H 1 rfl rfl) ?_ | with_reducible refine ldP_of (by with_unfolding_all first | exact hpA H 0 rfl rfl | exact hpA H 1 rfl rfl | exact Hp.cell H 0 rfl rfl | exact Hp.cell H 1 rfl rfl | exact hpB H 0 rfl rfl | exact hpB H 1 rfl rfl | exact hpC H 0 rfl rfl | exact hpC H 1 rfl rfl) ?_ | with_reducible refine ldB_of (by with_unfolding_all first | exact hpA H 0 rfl rfl | exact hpA H 1 rfl rfl | exact Hp.cell H 0 rfl rfl | exact Hp.cell H 1 rfl rfl | exact hpB H 0 rfl rfl | exact hpB H 1 rfl rfl | exact hpC H 0 rfl rfl | exact hpC H 1 rfl rfl) ?_ | with_reducible refine ldT_of (by with_unfolding_all first | exact hpA H 0 rfl rfl | exact hpA H 1 rfl rfl | exact Hp.cell H 0 rfl rfl | exact Hp.cell H 1 rfl rfl | exact hpB H 0 rfl rfl | exact hpB H 1 rfl rfl | exact hpC H 0 rfl rfl | exact hpC H 1 rfl rfl) ?_
    refine from_ok (hr1 _ H.hext) hw1 hl1 (fun W X pm qm mrest h5 hwW hbX hmay H' => ?_) fun h5 hmay e5 => ?_
    · subst hwW hbX
      have H := H.join H' rfl
      clear H'
      refine ⟨_, _, rfl, ?_⟩
      refine bcase_false (by rfl) ?_
      refine ptr_of (a := ⟨p, 0, none⟩) ?_
      repeat first | with_reducible refine ldI_of (by with_unfolding_all first | exact hpA H 0 rfl rfl | exact hpA H 1 rfl rfl | exact Hp.cell H 0 rfl rfl | exact Hp.cell H 1 rfl rfl | exact hpB H 0 rfl rfl | exact hpB H 1 rfl rfl | exact hpC H 0 rfl rfl | exact hpC H 1 rfl rfl) ?_ | with_reducible refine ldS_of (by with_unfolding_all first | exact hpA H 0 rfl rfl | exact hpA H 1 rfl rfl | exact Hp.cell H 0 rfl rfl | exact Hp.cell H 1 rfl rfl | exact hpB H 0 rfl rfl | exact hpB H 1 rfl rfl | exact hpC H 0 rfl rfl | exact hpC H 1 rfl rfl) ?_ | with_reducible refine ldP_of (by with_unfolding_all first | exact hpA H 0 rfl rfl | exact hpA H 1 rfl rfl | exact Hp.cell H 0 rfl rfl | exact Hp.cell H 1 rfl rfl | exact hpB H 0 rfl rfl | exact hpB H 1 rfl rfl | exact hpC H 0 rfl rfl | exact hpC H 1 rfl rfl) ?_ | with_reducible refine ldB_of (by with_unfolding_all first | exact hpA H 0 rfl rfl | exact hpA H 1 rfl rfl | exact Hp.cell H 0 rfl rfl | exact Hp.cell H 1 rfl rfl | exact hpB H 0 rfl rfl | exact hpB H 1 rfl rfl | exact hpC H 0 rfl rfl | exact hpC H 1 rfl rfl) ?_ | with_reducible refine ldT_of (by with_unfolding_all first | exact hpA H 0 rfl rfl | exact hpA H 1 rfl rfl | exact Hp.cell H 0 rfl rfl | exact Hp.cell H 1 rfl rfl | exact hpB H 0 rfl rfl | exact hpB H 1 rfl rfl | exact hpC H 0 rfl rfl | exact hpC H 1 rfl rfl) ?_
      refine bindI_of (((gsize t + 1 : Nat) : Int)) (by exact i64_at _ _ (by omega) (by omega) (by omega)) ?_
      refine Go.Ar.contexts_ok (n := s.st.length) (HC.ext H.hext) 0 rfl ?_
      refine ⟨_, rfl, hext.refl _, ?_⟩
      rw [hm]
      refine gfits_ok (by omega) (by omega) fun bf hbf => ?_
      refine ⟨_, rfl, ?_⟩
      refine bcase_not (fun h2 => ?_) fun h2 => ?_
      · exact hk51 _ htt hmay (fun hh => by rw [hbf.2 (by omega)] at h2; cases h2) (HC.ext H.hext)
      have hft := hbf.1 h2
      have hft2 : 0 ≤ base ∧ base ≤ (m : Int) - ((gsize t : Nat) + 1) := by omega
      refine newC_hp H fun r29 h H => ?_
      refine newC_hp H fun r31 h H => ?_
      repeat first | with_reducible refine stA H 5 (by with_unfolding_all exact rfl) (by with_unfolding_all exact rfl) (by with_unfolding_all exact rfl) fun h H => ?_ | with_reducible refine st0 H 5 (by with_unfolding_all exact rfl) (by with_unfolding_all exact rfl) (by with_unfolding_all exact rfl) fun h H => ?_ | with_reducible refine stB H 5 (by with_unfolding_all exact rfl) (by with_unfolding_all exact rfl) (by with_unfolding_all exact rfl) fun h H => ?_
      have H := (HC.join H rfl).pick [8, 4, 7, 5, 6, 0, 1, 2] (by decide) (L' := [⟨r31, true, T_p_generic_procedure, [.pointer (some ⟨r29, 0, none⟩)]⟩, ⟨r10, true, T_int, [.int .i64 (gsize t : Nat)]⟩, procE r29 pm (fvC p) base t skip, mapE pm qm W X ws.length (ws.length + mrest.length), ⟨qm, true, T_uint64, u64s ws ++ mrest⟩] ++ codL p q r s rest) rfl
      obtain ⟨W', X', e1, e2, hW1, hW2, hX1, hX2, hWX⟩ := size_nat hmay.1
      obtain rfl : W = W' := by omega
      obtain rfl : X = X' := by omega
      clear e1 e2
      have hNN' := hNN hmay
      simp only [Int.toNat_natCast] at hNN' hk0 hke
      refine caught_ok (fun L2 => ∃ G s' k r' rest' ws', runG W t skip step X (getP ws W X, s) = .inl (G, s') ∧ k ≤ X * (W + 1) ∧ Ok k s' ∧ L2 = [⟨r31, true, T_p_generic_procedure, [.pointer (some ⟨r29, 0, none⟩)]⟩, ⟨r10, true, T_int, [.int .i64 (gsize t : Nat)]⟩, procE r29 pm (fvC p) base t skip, mapE pm qm W X ws.length (ws.length + mrest.length), ⟨qm, true, T_uint64, u64s ws' ++ mrest⟩] ++ codL p q r' s' rest')
        (fun e L2 => ∃ s' k r' rest' ws', runG W t skip step X (getP ws W X, s) = .inr (e, s') ∧ k ≤ NN ∧ Ok k s' ∧ L2 = [⟨r31, true, T_p_generic_procedure, [.pointer (some ⟨r29, 0, none⟩)]⟩, ⟨r10, true, T_int, [.int .i64 (gsize t : Nat)]⟩, procE r29 pm (fvC p) base t skip, mapE pm qm W X ws.length (ws.length + mrest.length), ⟨qm, true, T_uint64, u64s ws' ++ mrest⟩] ++ codL p q r' s' rest')
        H (fun {r1 h1 K1 Kp1} H hK hKp => ?_) (fun h' L' hp H => ?_) fun e h' L' hp H => ?_
      · show CP F_generic_Put_c1 #[.pointer (some ⟨r31, 0, none⟩), .pointer (some ⟨r10, 0, none⟩)] h1 K1 Kp1
        refine call_generic_Put_c1 (cap0 := ⟨r31, 0, none⟩) (cap1 := ⟨r10, 0, none⟩) ?_
        unfold generic_Put_c1
        refine ldP_of (H.cell 1 rfl rfl) (ldI_of (H.cell 2 rfl rfl) ?_)
        have HG : Hp h1 _ h1 ([procE r29 pm (fvC p) base t skip, mapE pm qm W X ws.length (ws.length + mrest.length), ⟨qm, true, T_uint64, u64s ws ++ mrest⟩] ++ codL p q r s rest) := H.give [3, 4, 5, 6, 7, 8] (by decide) rfl
        refine grun_ok (S := codS p q) (NN := NN) codS.w (hdec hmay ⟨by omega, by omega⟩) ⟨by omega, by omega⟩ ht ⟨r, rest, rfl⟩ HG rfl rfl hmay.1 (may_len hmay) hw1 (fun y hy x h1 h2 => pix_of_may hmay hy h1 h2) hok hNN' (fun ws' s' M h' k hM hrun hl' hw' hz' hk hok' H' => ?_) fun e ws' s' M h' k hM hrun hl' hk hok' H' => ?_
        · obtain ⟨r', rest', rfl⟩ := hM
          have H := H.put [3, 4, 5, 6, 7, 8] (by decide) rfl rfl H' rfl rfl
          exact hK h' _ ⟨_, s', k, r', rest', ws', hrun, hk, hok', rfl⟩ H
        · obtain ⟨r', rest', rfl⟩ := hM
          have H := H.put [3, 4, 5, 6, 7, 8] (by decide) rfl rfl H' rfl rfl
          exact hKp e h' _ ⟨s', k, r', rest', ws', hrun, hk, hok', rfl⟩ H
      · obtain ⟨G, s', k, r', rest', ws', hrun, hk, hok', rfl⟩ := hp
        refine ⟨_, rfl, ?_⟩
        exact hk0 G s' k r' rest' h' htt hmay hft2 hrun hk hok' (Hp.suf H)
      · obtain ⟨s', k, r', rest', ws', hrun, hk, hok', rfl⟩ := hp
        refine ⟨_, rfl, ?_⟩
        exact hke e s' k r' rest' h' htt hmay hft2 hrun hk hok' (Hp.suf H)
    · have H := H.ext e5
      refine ⟨_, _, rfl, ?_⟩
      refine bcase_true (by rfl) ?_
      exact hk62 _ htt hmay (HC.ext H.hext)
  · have H := H.ext e2
    refine ⟨_, _, rfl, ?_⟩
    refine newC_hp H fun r10 h H => ?_
    repeat first | with_reducible refine stA H 0 (by with_unfolding_all exact rfl) (by with_unfolding_all exact rfl) (by with_unfolding_all exact rfl) fun h H => ?_ | with_reducible refine stA H 1 (by with_unfolding_all exact rfl) (by with_unfolding_all exact rfl) (by with_unfolding_all exact rfl) fun h H => ?_ | with_reducible refine st0 H 0 (by with_unfolding_all exact rfl) (by with_unfolding_all exact rfl) (by with_unfolding_all exact rfl) fun h H => ?_ | with_reducible refine st0 H 1 (by with_unfolding_all exact rfl) (by with_unfolding_all exact rfl) (by with_unfolding_all exact rfl) fun h H => ?_ | with_reducible refine stB H 0 (by with_unfolding_all exact rfl) (by with_unfolding_all exact rfl) (by with_unfolding_all exact rfl) fun h H => ?_ | with_reducible refine stB H 1 (by with_unfolding_all exact rfl) (by with_unfolding_all exact rfl) (by with_unfolding_all exact rfl) fun h H => ?_
    refine bcase_true (by rfl) ?_
    exact hk60 _ hn (HC.ext H.hext)
end Go.Bm

/- GnF: generic.Get, Encode, Decode. -/
set_option linter.unusedVariables false
set_option linter.unusedSimpArgs false
namespace Go.Bm
open Go Go.Den Go.Den.Yteakipgcanafoaa
open Go.Ar (CodOk Dec decL BOk newC newC_ok flushM bytesM u8s)

section
variable {σ : Type} {step : σ → Nat → Bool → (Bool × σ) ⊕ (Int × σ)}
theorem rowG_inl (h : ∀ s n b, ∃ r, step s n b = .inl r) (t y : Nat) (g : (Int → Int → Bool) × σ) : ∀ k, ∃ g', rowG t step y k g = .inl g'
  | 0 => ⟨_, rfl⟩
  | k + 1 => by
    obtain ⟨⟨G, s⟩, hg⟩ := rowG_inl h t y g k
    obtain ⟨⟨b, s'⟩, hr⟩ := h s (gctx t G (k : Int) (y : Int)) (G (k : Int) (y : Int))
    unfold rowG
    rw [hg]
    simp only [hr]
    exact ⟨_, rfl⟩
theorem runG_inl (h : ∀ s n b, ∃ r, step s n b = .inl r) (W t : Nat) (skip : Bool) (g : (Int → Int → Bool) × σ) : ∀ y, ∃ g', runG W t skip step y g = .inl g'
  | 0 => ⟨_, rfl⟩
  | y + 1 => by
    obtain ⟨⟨G, s⟩, hg⟩ := runG_inl h W t skip g y
    unfold runG
    rw [hg]
    cases skip with
    | false => exact rowG_inl h t y (G, s) W
    | true =>
      obtain ⟨⟨b, s'⟩, hr⟩ := h s (gsize t) (sameB G W y)
      simp only [hr]
      cases b with
      | true => exact ⟨_, rfl⟩
      | false => exact rowG_inl h t y (G, s') W
end
def GGetR (bytes : List Nat) (m n0 : Nat) (base w b template : Int) (skip : Bool) (s : Dec) (e w' b' : Int) (bs : List Nat) (s' : Dec) : Prop :=
  ¬ (0 ≤ template ∧ template < 4) ∧ e = 60 ∧ w' = 0 ∧ b' = 0 ∧ bs = [] ∧ s' = s ∨
  (0 ≤ template ∧ template < 4) ∧ ¬ SizeP w b ∧ e = 63 ∧ w' = 0 ∧ b' = 0 ∧ bs = [] ∧ s' = s ∨
  (0 ≤ template ∧ template < 4) ∧ SizeP w b ∧ ¬ (0 ≤ base ∧ base ≤ (m : Int) - ((gsize template.toNat : Nat) + 1)) ∧ e = 51 ∧ w' = 0 ∧ b' = 0 ∧ bs = [] ∧ s' = s ∨
  (0 ≤ template ∧ template < 4) ∧ SizeP w b ∧ (0 ≤ base ∧ base ≤ (m : Int) - ((gsize template.toNat : Nat) + 1)) ∧ e = 0 ∧ w' = w ∧ b' = b ∧ runG w.toNat template.toNat skip (stepG m base) b.toNat (fun _ _ => false, s) = .inl (getP bs w.toNat b.toNat, s') ∧
    bs.length = b.toNat * wds w.toNat ∧ W64 bs ∧ PadZ w.toNat b.toNat bs ∧ ∃ k, k ≤ b.toNat * (w.toNat + 1) ∧ Go.Ar.DecOk bytes m (n0 + k) s'

set_option maxRecDepth 100000 in
set_option maxHeartbeats 2000000 in
theorem gget_ok {h0 hA : Heap} {FF : List Nat} {p q m n0 : Nat} {e0 : Ent} {bp : Option Addr} {bc : Nat} {s : Dec} {bytes : List Nat} (HC : Hp h0 FF hA (decL p q e0 bp bc s)) (hb : BOk e0 bp s.b) (hbl : bytes.length < 140737488351300) (hc : Go.Ar.DecOk bytes m n0 s) (hm1 : 1 ≤ m) (hm2 : m ≤ 131072) {base w b template : Int} {skip : Bool}
    (hN : SizeP w b → n0 + b.toNat * (w.toNat + 1) ≤ 16777216) {K : Value → Heap → Prop} {Kp : List PanicEntry → Heap → Prop}
    (hk : ∀ e w' b' bs s' D qo c h', GGetR bytes m n0 base w b template skip s e w' b' bs s' → Slot T_uint64 1 D qo bs.length c (u64s bs) → Hp h0 FF h' (decL p q e0 bp bc s' ++ D) → K (.tuple #[.agg #[.int .i64 w', .int .i64 b', .slice qo bs.length c], .int .i64 e]) h') :
    CP F_generic_Get #[.pointer (at0 p), .int .i64 base, .int .i64 w, .int .i64 b, .int .i64 template, .bool skip] hA K Kp := by
  refine call_generic_Get ?_
  unfold generic_Get
  have hew := hb.1
  have H := Hp.nil hA []
  refine newC_hp H fun r1 h H => ?_
  refine bcase_false (by rfl) ?_
  have bad : ∀ (e : Int) (h' : Heap) (T : List Ent), hext hA h' → (∀ h', hext hA h' → K (.tuple #[.agg #[.int .i64 0, .int .i64 0, .slice none 0 0], .int .i64 e]) h') → Hp hA [] h' ([⟨r1, true, T_api_Bitmap, [.int .i64 0, .int .i64 0, .slice none 0 0]⟩] ++ T) →
      stV h' ((⟨r1, 0, none⟩ : Addr).add 0) (.int .i64 0) fun h_13 => stV h_13 ((⟨r1, 0, none⟩ : Addr).add 1) (.int .i64 0) fun h_14 => stV h_14 ((⟨r1, 0, none⟩ : Addr).add 2) (.slice none 0 0) fun h_15 =>
        ldI h_15 ((⟨r1, 0, none⟩ : Addr).add 0) .i64 fun r_16 => ldI h_15 ((⟨r1, 0, none⟩ : Addr).add 1) .i64 fun r_17 => ldS h_15 ((⟨r1, 0, none⟩ : Addr).add 2) fun r_18 r_18n r_18c =>
          K (.tuple #[.agg #[.int .i64 r_16, .int .i64 r_17, .slice r_18 r_18n r_18c], .int .i64 e]) h_15 := fun e h' T _ hk H => by
    repeat first | with_reducible refine ldI_of (by with_unfolding_all first | exact hpA H 0 rfl rfl | exact Hp.cell H 0 rfl rfl | exact hpB H 0 rfl rfl | exact hpC H 0 rfl rfl) ?_ | with_reducible refine ldS_of (by with_unfolding_all first | exact hpA H 0 rfl rfl | exact Hp.cell H 0 rfl rfl | exact hpB H 0 rfl rfl | exact hpC H 0 rfl rfl) ?_ | with_reducible refine ldP_of (by with_unfolding_all first | exact hpA H 0 rfl rfl | exact Hp.cell H 0 rfl rfl | exact hpB H 0 rfl rfl | exact hpC H 0 rfl rfl) ?_ | with_reducible refine ldB_of (by with_unfolding_all first | exact hpA H 0 rfl rfl | exact Hp.cell H 0 rfl rfl | exact hpB H 0 rfl rfl | exact hpC H 0 rfl rfl) ?_ | with_reducible refine ldT_of (by with_unfolding_all first | exact hpA H 0 rfl rfl | exact Hp.cell H 0 rfl rfl | exact hpB H 0 rfl rfl | exact hpC H 0 rfl rfl) ?_ | with_reducible refine stA H 0 (by with_unfolding_all exact rfl) (by with_unfolding_all exact rfl) (by with_unfolding_all exact rfl) fun h H => ?_ | with_reducible refine st0 H 0 (by with_unfolding_all exact rfl) (by with_unfolding_all exact rfl) (by with_unfolding_all exact rfl) fun h H => ?_ | with_reducible refine stB H 0 (by with_unfolding_all exact rfl) (by with_unfolding_all exact rfl) (by with_unfolding_all exact rfl) fun h H => ?_
    exact hk _ H.hext
  refine csize_ok (fun t ht et h2 e2 => ?_) fun hn h2 e2 => ?_
  · have H := H.ext e2
    clear e2
    subst et
    have htt : 0 ≤ ((t : Nat) : Int) ∧ ((t : Nat) : Int) < 4 := by omega
    have hgs := gsize_le ht
    refine ⟨_, _, rfl, ?_⟩
    refine newC_hp H fun r13 h H => ?_
    repeat first | with_reducible refine stA H 0 (by with_unfolding_all exact rfl) (by with_unfolding_all exact rfl) (by with_unfolding_all exact rfl) fun h H => ?_ | with_reducible refine stA H 1 (by with_unfolding_all exact rfl) (by with_unfolding_all exact rfl) (by with_unfolding_all exact rfl) fun h H => ?_ | with_reducible refine st0 H 0 (by with_unfolding_all exact rfl) (by with_unfolding_all exact rfl) (by with_unfolding_all exact rfl) fun h H => ?_ | with_reducible refine st0 H 1 (by with_unfolding_all exact rfl) (by with_unfolding_all exact rfl) (by with_unfolding_all exact rfl) fun h H => ?_ | with_reducible refine stB H 0 (by with_unfolding_all exact rfl) (by with_unfolding_all exact rfl) (by with_unfolding_all exact rfl) fun h H => ?_ | with_reducible refine stB H 1 (by with_unfolding_all exact rfl) (by with_unfolding_all exact rfl) (by with_unfolding_all exact rfl) fun h H => ?_
    refine bcase_false (by rfl) ?_
    refine newM_ok (fun W X pm qm h5 hwW hbX hsz H' => ?_) fun hns => ?_
    · subst hwW hbX
      have H2 := H'
      unfold mapL at H2
      rw [List.length_replicate] at H2
      clear H'
      have H := H.join H2 rfl
      clear H2
      refine ⟨_, _, rfl, ?_⟩
      refine bcase_false (by rfl) ?_
      refine ptr_of (a := ⟨p, 0, none⟩) ?_
      repeat first | with_reducible refine ldI_of (by with_unfolding_all first | exact hpA H 0 rfl rfl | exact hpA H 1 rfl rfl | exact Hp.cell H 0 rfl rfl | exact Hp.cell H 1 rfl rfl | exact hpB H 0 rfl rfl | exact hpB H 1 rfl rfl | exact hpC H 0 rfl rfl | exact hpC H 1 rfl rfl) ?_ | with_reducible refine ldS_of (by with_unfolding_all first | exact hpA H 0 rfl rfl | exact hpA H 1 rfl rfl | exact Hp.cell H 0 rfl rfl | exact Hp.cell H 1 rfl rfl | exact hpB H 0 rfl rfl | exact hpB H 1 rfl rfl | exact hpC H 0 rfl rfl | exact hpC H 1 rfl rfl) ?_ | with_reducible refine ldP_of (by with_unfolding_all first | exact hpA H 0 rfl rfl | exact hpA H 1 rfl rfl | exact Hp.cell H 0 rfl rfl | exact Hp.cell H 1 rfl rfl | exact hpB H 0 rfl rfl | exact hpB H 1 rfl rfl | exact hpC H 0 rfl rfl | exact hpC H 1 rfl rfl) ?_ | with_reducible refine ldB_of (by with_unfolding_all first | exact hpA H 0 rfl rfl | exact hpA H 1 rfl rfl | exact Hp.cell H 0 rfl rfl | exact Hp.cell H 1 rfl rfl | exact hpB H 0 rfl rfl | exact hpB H 1 rfl rfl | exact hpC H 0 rfl rfl | exact hpC H 1 rfl rfl) ?_ | with_reducible refine ldT_of (by with_unfolding_all first | exact hpA H 0 rfl rfl | exact hpA H 1 rfl rfl | exact Hp.cell H 0 rfl rfl | exact Hp.cell H 1 rfl rfl | exact hpB H 0 rfl rfl | exact hpB H 1 rfl rfl | exact hpC H 0 rfl rfl | exact hpC H 1 rfl rfl) ?_
      refine bindI_of (((gsize t + 1 : Nat) : Int)) (by exact i64_at _ _ (by omega) (by omega) (by omega)) ?_
      refine Go.Ar.contexts_ok (n := s.st.length) (HC.ext H.hext) 0 rfl ?_
      refine ⟨_, rfl, hext.refl _, ?_⟩
      rw [hc.len]
      refine gfits_ok (by omega) (by omega) fun bf hbf => ?_
      refine ⟨_, rfl, ?_⟩
      refine bcase_not (fun h2 => ?_) fun h2 => ?_
      · exact bad 51 _ _ H.hext (fun h' e' => hk 51 0 0 [] s [] none 0 h' (.inr (.inr (.inl ⟨htt, hsz, (fun hh => by rw [hbf.2 (by simp only [Int.toNat_natCast] at hh; omega)] at h2; cases h2), rfl, rfl, rfl, rfl, rfl⟩))) (Slot.nil _ _) ((HC.ext e').as (List.append_nil _).symm)) H
      have hft := hbf.1 h2
      have hft2 : 0 ≤ base ∧ base ≤ (m : Int) - ((gsize t : Nat) + 1) := by omega
      refine newC_hp H fun r47 h H => ?_
      refine newC_hp H fun r49 h H => ?_
      repeat first | with_reducible refine stA H 5 (by with_unfolding_all exact rfl) (by with_unfolding_all exact rfl) (by with_unfolding_all exact rfl) fun h H => ?_ | with_reducible refine st0 H 5 (by with_unfolding_all exact rfl) (by with_unfolding_all exact rfl) (by with_unfolding_all exact rfl) fun h H => ?_ | with_reducible refine stB H 5 (by with_unfolding_all exact rfl) (by with_unfolding_all exact rfl) (by with_unfolding_all exact rfl) fun h H => ?_
      have H := (HC.join H rfl).pick [8, 4, 7, 5, 6, 0, 1, 2, 3] (by decide) (L' := [⟨r49, true, T_p_generic_procedure, [.pointer (some ⟨r47, 0, none⟩)]⟩, ⟨r13, true, T_int, [.int .i64 (gsize t : Nat)]⟩, procE r47 pm (fvD p) base t skip, mapE pm qm W X (X * wds W) (X * wds W), ⟨qm, true, T_uint64, u64s (List.replicate (X * wds W) 0) ++ []⟩] ++ decL p q e0 bp bc s ++ [⟨r1, true, T_api_Bitmap, [.int .i64 0, .int .i64 0, .slice none 0 0]⟩]) rfl
      obtain ⟨W', X', e1, e2, hW1, hW2, hX1, hX2, hWX⟩ := size_nat hsz
      obtain rfl : W = W' := by omega
      obtain rfl : X = X' := by omega
      clear e1 e2
      have hN' := hN hsz
      simp only [Int.toNat_natCast] at hN'
      have hrl : (List.replicate (X * wds W) 0).length = X * wds W := List.length_replicate
      refine caught_ok (fun L2 => ∃ s' k ws', runG W t skip (stepG m base) X (fun _ _ => false, s) = .inl (getP ws' W X, s') ∧ ws'.length = X * wds W ∧ W64 ws' ∧ PadZ W X ws' ∧ k ≤ X * (W + 1) ∧ Go.Ar.DecOk bytes m (n0 + k) s' ∧ BOk e0 bp s'.b ∧ L2 = [⟨r49, true, T_p_generic_procedure, [.pointer (some ⟨r47, 0, none⟩)]⟩, ⟨r13, true, T_int, [.int .i64 (gsize t : Nat)]⟩, procE r47 pm (fvD p) base t skip, mapE pm qm W X (X * wds W) (X * wds W), ⟨qm, true, T_uint64, u64s ws' ++ []⟩] ++ decL p q e0 bp bc s' ++ [⟨r1, true, T_api_Bitmap, [.int .i64 0, .int .i64 0, .slice none 0 0]⟩])
        (fun e L2 => False) H (fun {r1' h1 K1 Kp1} H hK hKp => ?_) (fun h' L' hp H => ?_) fun e h' L' hp H => hp.elim
      · show CP F_generic_Get_c1 #[.pointer (some ⟨r49, 0, none⟩), .pointer (some ⟨r13, 0, none⟩)] h1 K1 Kp1
        refine call_generic_Get_c1 (cap0 := ⟨r49, 0, none⟩) (cap1 := ⟨r13, 0, none⟩) ?_
        unfold generic_Get_c1
        refine ldP_of (H.cell 1 rfl rfl) (ldI_of (H.cell 2 rfl rfl) ?_)
        have HG : Hp h1 _ h1 ([procE r47 pm (fvD p) base t skip, mapE pm qm W X (X * wds W) (X * wds W), ⟨qm, true, T_uint64, u64s (List.replicate (X * wds W) 0) ++ []⟩] ++ decL p q e0 bp bc s) := H.give [3, 4, 5, 6, 7, 8] (by decide) rfl
        refine grun_ok (S := decS p q e0 bp bc) (NN := X * (W + 1)) (Ok := fun k s => Go.Ar.DecOk bytes m (n0 + k) s) decS.w (decI_ok hbl ⟨by omega, by omega⟩ hm1 hm2 hN') ⟨by omega, by omega⟩ ht ⟨hb, rfl⟩ HG hrl (by simp) hsz rfl (W64.zero _) (fun y hy x h1 h2 => pix_zero _ _ _ _) hc (Nat.le_refl _) (fun ws' s' M h' k hM hrun hl' hw' hz' hk' hok' H' => ?_) fun e ws' s' M h' k hM hrun hl' hk' hok' H' => ?_
        · obtain ⟨hb', rfl⟩ := hM
          have H := H.put [3, 4, 5, 6, 7, 8] (by decide) rfl (by simp [decL, Go.Ar.decE, hew, procE, mapE]) H' (by simp [decL, Go.Ar.decE, hew, procE, mapE]) rfl
          rw [getP_zero] at hrun
          exact hK h' _ ⟨s', k, ws', hrun, hl', hw', hz', hk', hok', hb', rfl⟩ H
        · obtain ⟨g', hg'⟩ := runG_inl (step := stepG m base) (fun s n b => ⟨_, rfl⟩) W t skip (getP (List.replicate (X * wds W) 0) W X, s) X
          rw [hg'] at hrun
          cases hrun
      · obtain ⟨s', k, ws', hrun, hl', hw', hz', hk', hok', hb', rfl⟩ := hp
        refine ⟨_, rfl, ?_⟩
        refine bcase_false (by rfl) ?_
        have hhw := hw_le hW1 hWX
        have hpos : 1 ≤ X * wds W := Nat.mul_pos hX1 (by unfold wds; omega)
        refine plain_ok (ws := ws') (rest := []) H 3 4 (by rw [hl']; rfl) rfl (by omega) (by omega) fun o orest h' H => ?_
        refine ⟨_, _, _, _, _, rfl, ?_⟩
        repeat first | with_reducible refine stA H 8 (by with_unfolding_all exact rfl) (by with_unfolding_all exact rfl) (by with_unfolding_all exact rfl) fun h H => ?_ | with_reducible refine st0 H 8 (by with_unfolding_all exact rfl) (by with_unfolding_all exact rfl) (by with_unfolding_all exact rfl) fun h H => ?_ | with_reducible refine stB H 8 (by with_unfolding_all exact rfl) (by with_unfolding_all exact rfl) (by with_unfolding_all exact rfl) fun h H => ?_
        repeat first | with_reducible refine ldI_of (by with_unfolding_all first | exact hpA H 8 rfl rfl | exact Hp.cell H 8 rfl rfl | exact hpB H 8 rfl rfl | exact hpC H 8 rfl rfl) ?_ | with_reducible refine ldS_of (by with_unfolding_all first | exact hpA H 8 rfl rfl | exact Hp.cell H 8 rfl rfl | exact hpB H 8 rfl rfl | exact hpC H 8 rfl rfl) ?_ | with_reducible refine ldP_of (by with_unfolding_all first | exact hpA H 8 rfl rfl | exact Hp.cell H 8 rfl rfl | exact hpB H 8 rfl rfl | exact hpC H 8 rfl rfl) ?_ | with_reducible refine ldB_of (by with_unfolding_all first | exact hpA H 8 rfl rfl | exact Hp.cell H 8 rfl rfl | exact hpB H 8 rfl rfl | exact hpC H 8 rfl rfl) ?_ | with_reducible refine ldT_of (by with_unfolding_all first | exact hpA H 8 rfl rfl | exact Hp.cell H 8 rfl rfl | exact hpB H 8 rfl rfl | exact hpC H 8 rfl rfl) ?_
        refine hk 0 _ _ ws' s' [⟨o, true, T_uint64, u64s ws' ++ orest⟩] _ _ h (.inr (.inr (.inr ⟨htt, hsz, hft2, rfl, rfl, rfl, by simpa using hrun, by simpa using hl', hw', by simpa using hz', k, by simpa using hk', hok'⟩))) (Slot.one (by rw [u64s_length, Nat.mul_one]) (by rw [List.length_append, u64s_length, Nat.mul_one])) ?_
        exact H.pick [5, 6, 7, 9] (by decide) rfl
    · refine ⟨_, _, rfl, ?_⟩
      refine bcase_true (by rfl) ?_
      exact bad 63 _ _ H.hext (fun h' e' => hk 63 0 0 [] s [] none 0 h' (.inr (.inl ⟨htt, hns, rfl, rfl, rfl, rfl, rfl⟩)) (Slot.nil _ _) ((HC.ext e').as (List.append_nil _).symm)) H
  · have H := H.ext e2
    refine ⟨_, _, rfl, ?_⟩
    refine newC_hp H fun r13 h H => ?_
    repeat first | with_reducible refine stA H 1 (by with_unfolding_all exact rfl) (by with_unfolding_all exact rfl) (by with_unfolding_all exact rfl) fun h H => ?_ | with_reducible refine st0 H 1 (by with_unfolding_all exact rfl) (by with_unfolding_all exact rfl) (by with_unfolding_all exact rfl) fun h H => ?_ | with_reducible refine stB H 1 (by with_unfolding_all exact rfl) (by with_unfolding_all exact rfl) (by with_unfolding_all exact rfl) fun h H => ?_
    refine bcase_true (by rfl) ?_
    exact bad 60 _ _ H.hext (fun h' e' => hk 60 0 0 [] s [] none 0 h' (.inl ⟨hn, rfl, rfl, rfl, rfl, rfl⟩) (Slot.nil _ _) ((HC.ext e').as (List.append_nil _).symm)) H

def GEncR (w b : Int) (ws : List Nat) (template : Int) (skip : Bool) (e : Int) (bs : List Nat) : Prop :=
  ¬ (0 ≤ template ∧ template < 4) ∧ e = 60 ∧ bs = [] ∨
  (0 ≤ template ∧ template < 4) ∧ ¬ MayP w b ws ∧ e = 62 ∧ bs = [] ∨
  (0 ≤ template ∧ template < 4) ∧ MayP w b ws ∧ e = 0 ∧ ∃ G s' k, runG w.toNat template.toNat skip (stepP (gsize template.toNat + 1) 0) b.toNat (getP ws w.toNat b.toNat, newC (gsize template.toNat + 1)) = .inl (G, s') ∧ k ≤ b.toNat * (w.toNat + 1) ∧ CodOk (gsize template.toNat + 1) k s' ∧ bs = bytesM (flushM s')
theorem size_px1 {w b : Int} (h : SizeP w b) : 0 + b.toNat * (w.toNat + 1) ≤ 16777216 := by
  obtain ⟨W, X, rfl, rfl, hW1, hW2, hX1, hX2, hWX⟩ := size_nat h
  simp only [Int.toNat_natCast]
  rw [Nat.mul_add, Nat.mul_comm]
  omega

section
variable {hB : Heap} {w b template : Int} {skip : Bool} {K : Value → Heap → Prop} {Kp : List PanicEntry → Heap → Prop}
set_option maxRecDepth 100000 in
set_option maxHeartbeats 1000000 in
theorem gEnc_ok {q1 : Option Addr} {c1 : Nat} {ws : List Nat} (hr1 : rdO hB q1 (ws.length * 1) (u64s ws)) (hw1 : W64 ws) (hl1 : ws.length < 140737488351300)
    (hk : ∀ e bs D qo c h', GEncR w b ws template skip e bs → Slot T_uint8 1 D qo bs.length c (u8s bs) → Hp hB [] h' D → K (.tuple #[.slice qo bs.length c, .int .i64 e]) h') :
    CP F_generic_Encode #[.agg #[.int .i64 w, .int .i64 b, .slice q1 ws.length c1], .int .i64 template, .bool skip] hB K Kp := by
  refine call_generic_Encode ?_
  unfold generic_Encode
  have H := Hp.nil hB []
  refine newC_hp H fun r4 h H => ?_
  refine csize_ok (fun t ht et h2 e2 => ?_) fun hn h2 e2 => ?_
  · have H := H.ext e2
    clear e2
    subst et
    have htt : 0 ≤ ((t : Nat) : Int) ∧ ((t : Nat) : Int) < 4 := by omega
    have hgs := gsize_le ht
    refine ⟨_, _, rfl, ?_⟩
    refine bcase_false (by rfl) ?_
    refine bindI_of (((gsize t + 1 : Nat) : Int)) (by exact i64_at _ _ (by omega) (by omega) (by omega)) ?_
    refine Go.Ar.new_ok (n := gsize t + 1) (by omega) (by omega) fun p q r h H' => ?_
    replace H := H.join H' rfl
    clear H'
    refine ⟨_, _, rfl, ?_⟩
    refine bcase_false (by rfl) ?_
    repeat first | with_reducible refine ldI_of (by with_unfolding_all first | exact hpA H 0 rfl rfl | exact Hp.cell H 0 rfl rfl | exact hpB H 0 rfl rfl | exact hpC H 0 rfl rfl) ?_ | with_reducible refine ldS_of (by with_unfolding_all first | exact hpA H 0 rfl rfl | exact Hp.cell H 0 rfl rfl | exact hpB H 0 rfl rfl | exact hpC H 0 rfl rfl) ?_ | with_reducible refine ldP_of (by with_unfolding_all first | exact hpA H 0 rfl rfl | exact Hp.cell H 0 rfl rfl | exact hpB H 0 rfl rfl | exact hpC H 0 rfl rfl) ?_ | with_reducible refine ldB_of (by with_unfolding_all first | exact hpA H 0 rfl rfl | exact Hp.cell H 0 rfl rfl | exact hpB H 0 rfl rfl | exact hpC H 0 rfl rfl) ?_ | with_reducible refine ldT_of (by with_unfolding_all first | exact hpA H 0 rfl rfl | exact Hp.cell H 0 rfl rfl | exact hpB H 0 rfl rfl | exact hpC H 0 rfl rfl) ?_
    refine gput_ok (m := gsize t + 1) (NN := b.toNat * (w.toNat + 1)) (base := 0) (Ok := fun k s => CodOk (gsize t + 1) (0 + k) s) (step := stepP (gsize t + 1) 0) (H.give [1, 2, 3] (by decide) rfl) (newC_ok _).len (by omega) (fun h' e => rdO_ext e (H.rdO hr1)) hw1 hl1 (fun hm hb => codI_ok hb (by omega) (by omega) (size_px1 hm.1)) (newC_ok _) (fun _ => Nat.le_refl _) (fun h' hn H' => absurd htt hn) (fun h' _ hn H' => ?_)
      (fun h' _ hm hn H' => absurd ⟨by omega, by simp only [Int.toNat_natCast]; omega⟩ hn) (fun G s' k r' rest' h' _ hm hf hrun hk' hok' H' => ?_) fun e s' k r' rest' h' _ hm hf hrun hk' hok' H' => ?_
    · refine ⟨_, rfl, ?_⟩
      refine bcase_true (by rfl) ?_
      exact hk 62 [] [] none 0 h' (.inr (.inl ⟨htt, hn, rfl, rfl⟩)) (Slot.nil _ _) ((H.put [1, 2, 3] (by decide) rfl rfl H' rfl rfl).take 0)
    · replace H := H.put [1, 2, 3] (by decide) rfl rfl H' rfl rfl
      clear H'
      rw [Nat.zero_add] at hok'
      refine ⟨_, rfl, ?_⟩
      refine bcase_false (by rfl) ?_
      refine Go.Ar.flush_ok (H.give [1, 2, 3] (by decide) rfl) hok'.wf hok'.done fun r3 rest3 o orest h' H' => ?_
      have H := Go.Bm.Hp.backD H [1, 2, 3] (by decide) rfl rfl H' rfl rfl rfl
      clear H'
      refine ⟨_, _, _, _, rfl, ?_⟩
      refine hk 0 _ [⟨o, true, T_uint8, u8s (bytesM (flushM s')) ++ orest⟩] _ _ h' (.inr (.inr ⟨htt, hm, rfl, G, s', k, hrun, hk', hok', rfl⟩)) (Slot.one (by rw [Go.Ar.u8s_length, Nat.mul_one]) (by rw [List.length_append, Go.Ar.u8s_length, Nat.mul_one])) (Hp.suf H)
    · obtain ⟨g', hg'⟩ := runG_inl (step := stepP (gsize t + 1) 0) (fun s n b => ⟨_, rfl⟩) w.toNat t skip (getP ws w.toNat b.toNat, newC (gsize t + 1)) b.toNat
      simp only [Int.toNat_natCast] at hrun
      rw [hg'] at hrun
      cases hrun
  · have H := H.ext e2
    refine ⟨_, _, rfl, ?_⟩
    refine bcase_true (by rfl) ?_
    exact hk 60 [] [] none 0 _ (.inl ⟨hn, rfl, rfl⟩) (Slot.nil _ _) (H.take 0)
end
end Go.Bm

/- RdA: the document's own decoder in memory; bytes that are lent. -/
set_option linter.unusedVariables false
set_option linter.unusedSimpArgs false
namespace Go.Ar
open Go Go.Den Go.Den.Yteakipgcanafoaa

/-! ### bytes that are lent -/
/-! ### the document's decoder -/
section
variable {h : Heap} {A : RP} {e : Ent} {bp : Option Addr} {bc : Nat} {s : Dec} {F : List Nat} {h0 : Heap}

end

/-! ### NewDecoder -/
end Go.Ar

/- Written by gen.py: the conditions of the functions of burinref7. -/
set_option linter.unusedVariables false
set_option linter.unusedSimpArgs false
namespace Go.Den.Yteakipgcanafoaa
open Go Go.Den

/- burin/burinref7.Encode -/
/- burin/burinref7.Decode -/
/- burin/burinref7.Put -/
/- burin/burinref7.Need -/
/- burin/burinref7.Get -/
/- burin/burinref7.same -/
end Go.Den.Yteakipgcanafoaa

/- Written by gen.py: each condition of the functions of burinref7 is the one of its body; so it is enough for its call. -/
set_option linter.unusedVariables false
set_option linter.unusedSimpArgs false
namespace Go.Den.Yteakipgcanafoaa
open Go Go.Den

end Go.Den.Yteakipgcanafoaa

/- GnG: generic.Decode; the document's side of generic coding. -/
set_option linter.unusedVariables false
set_option linter.unusedSimpArgs false
namespace Go.Bm
open Go Go.Den Go.Den.Yteakipgcanafoaa
open Go.Ar (decL newD newD_ok u8s)

section
variable {hB : Heap} {w b template : Int} {skip : Bool} {K : Value → Heap → Prop} {Kp : List PanicEntry → Heap → Prop}
set_option maxRecDepth 100000 in
set_option maxHeartbeats 1000000 in
theorem gDec_ok {src : Option Addr} {bc0 : Nat} {bytes : List Nat} (hbb : ∀ x ∈ bytes, x < 256) (hbl : bytes.length < 140737488351300) (hr : rdO hB src (bytes.length * 1) (u8s bytes))
    (hk : ∀ e w' b' bs s' D qo c h', GGetR bytes (gsize template.toNat + 1) 0 0 w b template skip (newD bytes (gsize template.toNat + 1)) e w' b' bs s' → Slot T_uint64 1 D qo bs.length c (u64s bs) → Hp hB [] h' D → K (.tuple #[.agg #[.int .i64 w', .int .i64 b', .slice qo bs.length c], .int .i64 e]) h') :
    CP F_generic_Decode #[.slice src bytes.length bc0, .int .i64 w, .int .i64 b, .int .i64 template, .bool skip] hB K Kp := by
  refine call_generic_Decode ?_
  unfold generic_Decode
  have H := Hp.nil hB []
  refine newC_hp H fun r1 h H => ?_
  refine csize_ok (fun t ht et h2 e2 => ?_) fun hn h2 e2 => ?_
  · have H := H.ext e2
    clear e2
    subst et
    have htt : 0 ≤ ((t : Nat) : Int) ∧ ((t : Nat) : Int) < 4 := by omega
    have hgs := gsize_le ht
    simp only [Int.toNat_natCast] at hk
    refine ⟨_, _, rfl, ?_⟩
    refine bcase_false (by rfl) ?_
    refine bindI_of (((gsize t + 1 : Nat) : Int)) (by exact i64_at _ _ (by omega) (by omega) (by omega)) ?_
    refine Go.Ar.newDecoder_ok (n := gsize t + 1) (by omega) (by omega) hbb hbl (H.rdO hr) fun p q e0 bp bc h3 hbok H' => ?_
    have hew := hbok.1
    replace H := H.join H' (by simp [decL, Go.Ar.decE, hbok.1])
    clear H'
    refine ⟨_, _, rfl, ?_⟩
    refine bcase_false (by rfl) ?_
    have hd := newD_ok hbb (gsize t + 1)
    refine gget_ok (bytes := bytes) (base := 0) (n0 := 0) (H.give [1, 2, 3] (by decide) rfl) (by rw [hd.b]; exact hbok) hbl hd (by omega) (by omega) size_px1 fun e w' b' bs s' D qo c h' hg hsl H' => ?_
    have H := Go.Bm.Hp.backD H [1, 2, 3] (by decide) rfl (by simp [decL, Go.Ar.decE, hew]) H' (by simp [decL, Go.Ar.decE, hew]) hsl.w rfl
    clear H'
    refine ⟨_, _, _, _, _, _, rfl, ?_⟩
    repeat first | with_reducible refine stA H 0 (by with_unfolding_all exact rfl) (by with_unfolding_all exact rfl) (by with_unfolding_all exact rfl) fun h H => ?_ | with_reducible refine st0 H 0 (by with_unfolding_all exact rfl) (by with_unfolding_all exact rfl) (by with_unfolding_all exact rfl) fun h H => ?_ | with_reducible refine stB H 0 (by with_unfolding_all exact rfl) (by with_unfolding_all exact rfl) (by with_unfolding_all exact rfl) fun h H => ?_
    have H : Hp hB [] h (([⟨r1, true, T_api_Bitmap, [.int .i64 w', .int .i64 b', .slice qo bs.length c]⟩] ++ decL p q e0 bp bc s') ++ D) := H
    repeat first | with_reducible refine ldI_of (by with_unfolding_all first | exact hpA H 0 rfl rfl | exact Hp.cell H 0 rfl rfl | exact hpB H 0 rfl rfl | exact hpC H 0 rfl rfl) ?_ | with_reducible refine ldS_of (by with_unfolding_all first | exact hpA H 0 rfl rfl | exact Hp.cell H 0 rfl rfl | exact hpB H 0 rfl rfl | exact hpC H 0 rfl rfl) ?_ | with_reducible refine ldP_of (by with_unfolding_all first | exact hpA H 0 rfl rfl | exact Hp.cell H 0 rfl rfl | exact hpB H 0 rfl rfl | exact hpC H 0 rfl rfl) ?_ | with_reducible refine ldB_of (by with_unfolding_all first | exact hpA H 0 rfl rfl | exact Hp.cell H 0 rfl rfl | exact hpB H 0 rfl rfl | exact hpC H 0 rfl rfl) ?_ | with_reducible refine ldT_of (by with_unfolding_all first | exact hpA H 0 rfl rfl | exact Hp.cell H 0 rfl rfl | exact hpB H 0 rfl rfl | exact hpC H 0 rfl rfl) ?_
    exact hk e w' b' bs s' D qo c h hg hsl (Hp.suf H)
  · have H := H.ext e2
    refine ⟨_, _, rfl, ?_⟩
    refine bcase_true (by rfl) ?_
    repeat first | with_reducible refine ldI_of (by with_unfolding_all first | exact hpA H 0 rfl rfl | exact Hp.cell H 0 rfl rfl | exact hpB H 0 rfl rfl | exact hpC H 0 rfl rfl) ?_ | with_reducible refine ldS_of (by with_unfolding_all first | exact hpA H 0 rfl rfl | exact Hp.cell H 0 rfl rfl | exact hpB H 0 rfl rfl | exact hpC H 0 rfl rfl) ?_ | with_reducible refine ldP_of (by with_unfolding_all first | exact hpA H 0 rfl rfl | exact Hp.cell H 0 rfl rfl | exact hpB H 0 rfl rfl | exact hpC H 0 rfl rfl) ?_ | with_reducible refine ldB_of (by with_unfolding_all first | exact hpA H 0 rfl rfl | exact Hp.cell H 0 rfl rfl | exact hpB H 0 rfl rfl | exact hpC H 0 rfl rfl) ?_ | with_reducible refine ldT_of (by with_unfolding_all first | exact hpA H 0 rfl rfl | exact Hp.cell H 0 rfl rfl | exact hpB H 0 rfl rfl | exact hpC H 0 rfl rfl) ?_ | with_reducible refine stA H 0 (by with_unfolding_all exact rfl) (by with_unfolding_all exact rfl) (by with_unfolding_all exact rfl) fun h H => ?_ | with_reducible refine st0 H 0 (by with_unfolding_all exact rfl) (by with_unfolding_all exact rfl) (by with_unfolding_all exact rfl) fun h H => ?_ | with_reducible refine stB H 0 (by with_unfolding_all exact rfl) (by with_unfolding_all exact rfl) (by with_unfolding_all exact rfl) fun h H => ?_
    exact hk 60 0 0 [] _ [] none 0 _ (.inl ⟨hn, rfl, rfl, rfl, rfl, rfl⟩) (Slot.nil _ _) (H.take 0)

/-! ### the document's -/
end
theorem copy_same {G : Int → Int → Bool} {W y : Nat} (hG : ∀ a b : Int, ¬ (0 ≤ a ∧ a < W) → G a b = false) (h : sameB G W y = true) : copyRow G y = G := by
  funext a b
  unfold copyRow
  by_cases hc : b = (y : Int) ∧ y ≠ 0
  · rw [if_pos hc]
    by_cases hin : 0 ≤ a ∧ a < W
    · unfold sameB at h
      rw [List.all_eq_true] at h
      have := h a.toNat (List.mem_range.2 (by omega))
      have ea : ((a.toNat : Nat) : Int) = a := by omega
      rw [ea] at this
      rw [hc.1]
      exact (by simpa using this : G a (y : Int) = G a ((y : Int) - 1)).symm
    · rw [hG _ _ hin, hG _ _ hin]
  · rw [if_neg hc]
end Go.Bm

/- RfR: refinement, plain laws: what is read is one; a reference that is seen alike; a few rows; many bitmaps one behind the other. -/
set_option linter.unusedVariables false
set_option linter.unusedSimpArgs false
namespace Go.Bm
open Go Go.Den Go.Den.Yteakipgcanafoaa
-- (nothing of Go.Ar opened)

theorem EncR.ok {w b w2 b2 : Int} {ws ws2 : List Nat} {dx dy e : Int} {bs : List Nat} (hm : MayP w b ws) (hm2 : MayP w2 b2 ws2) (hs : ShiftP dx dy) (h : EncR w b w2 b2 ws ws2 dx dy e bs) : e = 0 := by
  rcases h with ⟨a, _⟩ | ⟨_, a, _⟩ | ⟨_, _, e, _⟩
  · exact absurd ⟨hm, hm2⟩ a
  · exact absurd hs a
  · exact e

theorem part_rows (ws : List Nat) (W X n : Nat) : partG (getP ws W X) W (n * W) = fun (x y : Int) => decide (y < n) && getP ws W X x y := by
  funext x y
  unfold partG
  by_cases h : 0 ≤ x ∧ 0 ≤ y ∧ x < W ∧ y < X
  · congr 1
    rw [decide_eq_decide]
    constructor
    · rintro ⟨_, _, _, h4⟩
      rcases Nat.lt_or_ge y.toNat n with h5 | h5
      · omega
      · have : n * W ≤ y.toNat * W := Nat.mul_le_mul_right _ h5
        omega
    · intro h4
      have : (y.toNat + 1) * W ≤ n * W := Nat.mul_le_mul_right _ (by omega)
      rw [Nat.add_mul, Nat.one_mul] at this
      exact ⟨h.1, h.2.2.1, h.2.1, by omega⟩
  · unfold getP
    rw [decide_eq_false h, Bool.false_and, Bool.and_false, Bool.and_false]

section
variable (G R : Int → Int → Bool) (W m : Nat) (dx dy base : Int) {k b : Nat → Nat} {n0 cnt : Nat}
end
end Go.Bm

/- RfS: burinref8.Get and burinref8.Decode. -/
set_option linter.unusedVariables false
set_option linter.unusedSimpArgs false
namespace Go.Bm
open Go Go.Den Go.Den.Yteakipgcanafoaa
-- (nothing of Go.Ar opened)

end Go.Bm

/- GnH: burinref7.Get, Encode, Decode. -/
set_option linter.unusedVariables false
set_option linter.unusedSimpArgs false
namespace Go.Bm
open Go Go.Den Go.Den.Yteakipgcanafoaa
-- (nothing of Go.Ar opened)

end Go.Bm

/- GnI: burinref7.Encode and Decode; the answers are one. -/
set_option linter.unusedVariables false
set_option linter.unusedSimpArgs false
namespace Go.Bm
open Go Go.Den Go.Den.Yteakipgcanafoaa
-- (nothing of Go.Ar opened)

section
variable {hB : Heap} {w b template : Int} {skip : Bool} {K : Value → Heap → Prop} {Kp : List PanicEntry → Heap → Prop}
end
end Go.Bm

/- GnJa: decisions as a list; the decoder's walk over them. -/
set_option linter.unusedVariables false
set_option linter.unusedSimpArgs false
namespace Go.Bm
open Go Go.Den Go.Den.Yteakipgcanafoaa
open Go.Ar (Cod Dec CodOk codN decN newC_ok bytesM flushM putM getD)

/-! ### decisions as a list -/
def kOf (L : List (Nat × Nat)) (i : Nat) : Nat := (L[i]?.getD (0, 0)).1
def bOf (L : List (Nat × Nat)) (i : Nat) : Nat := (L[i]?.getD (0, 0)).2
def cdL (m : Nat) (L : List (Nat × Nat)) : Cod := codN (kOf L) (bOf L) m L.length
theorem codN_cong {k b k' b' : Nat → Nat} {m : Nat} : ∀ {n : Nat}, (∀ j, j < n → k j = k' j ∧ b j = b' j) → codN k b m n = codN k' b' m n
  | 0, _ => rfl
  | n + 1, h => by
    have := codN_cong (m := m) (n := n) fun j hj => h j (by omega)
    unfold codN
    rw [this, (h n (by omega)).1, (h n (by omega)).2]
theorem cdL_snoc (m : Nat) (L : List (Nat × Nat)) (d : Nat × Nat) : cdL m (L ++ [d]) = putM (cdL m L) d.1 d.2 := by
  have e : codN (kOf (L ++ [d])) (bOf (L ++ [d])) m L.length = cdL m L := codN_cong fun j hj => by
    unfold kOf bOf
    rw [List.getElem?_append_left hj]
    exact ⟨rfl, rfl⟩
  unfold cdL at e ⊢
  rw [List.length_append, List.length_singleton, codN, e]
  unfold kOf bOf
  rw [List.getElem?_append_right (Nat.le_refl _), Nat.sub_self]
  rfl
theorem cdL_ok {m : Nat} {L : List (Nat × Nat)} (h : L.length ≤ 16777216) : CodOk m L.length (cdL m L) := by
  have key : ∀ i, i ≤ 16777216 → CodOk m i (codN (kOf L) (bOf L) m i) := by
    intro i
    induction i with
    | zero => exact fun _ => newC_ok m
    | succ i ih => exact fun hi => Go.Ar.putM_ok (ih (by omega)) _ _ (by omega)
  exact key _ h
theorem bOf_le {L : List (Nat × Nat)} (h : ∀ d ∈ L, d.2 ≤ 1) : ∀ i, i < L.length → bOf L i ≤ 1 := fun i hi => by
  unfold bOf
  rw [List.getElem?_eq_getElem hi]
  exact h _ (List.getElem_mem hi)
theorem kOf_at {L A B : List (Nat × Nat)} {d : Nat × Nat} (h : L = A ++ d :: B) : kOf L A.length = d.1 ∧ bOf L A.length = d.2 := by
  subst h
  unfold kOf bOf
  rw [List.getElem?_append_right (Nat.le_refl _), Nat.sub_self]
  exact ⟨rfl, rfl⟩
/-- The decoder's walk over the decisions. -/
structure Walk (L : List (Nat × Nat)) (D : Nat → Dec) : Prop where
  step : ∀ i, i < L.length → getD (D i) (kOf L i) = (D (i + 1), bOf L i)
theorem Walk.at {L A B : List (Nat × Nat)} {D : Nat → Dec} {d : Nat × Nat} (h : Walk L D) (e : L = A ++ d :: B) : getD (D A.length) d.1 = (D (A.length + 1), d.2) := by
  obtain ⟨h1, h2⟩ := kOf_at e
  have := h.step A.length (by rw [e]; simp)
  rw [h1, h2] at this
  exact this
theorem walk_of {m : Nat} {L : List (Nat × Nat)} (h1 : ∀ d ∈ L, d.2 ≤ 1) (hc : L.length ≤ 16777216) : Walk L (decN (kOf L) (bytesM (flushM (cdL m L))) m) := by
  refine ⟨fun i hi => Prod.ext rfl ?_⟩
  have hlt : ∀ x ∈ bytesM (flushM (cdL m L)), x < 256 := Go.Ar.flushM_lt (cdL_ok hc).wf
  exact Go.Ar.back_bit (kOf L) (bOf L) m L.length (bOf_le h1) hc hlt hi

end Go.Bm

/- GnJ: generic coding, plain law: what is coded is decoded as the same bitmap, row by row. -/
set_option linter.unusedVariables false
set_option linter.unusedSimpArgs false
namespace Go.Bm
open Go Go.Den Go.Den.Yteakipgcanafoaa
open Go.Ar (Dec idx)

/-! ### the decisions of a bitmap -/
section
variable (G : Int → Int → Bool) (W m t : Nat) (skip : Bool) (base : Int)
def dsRow (y k : Nat) : List (Nat × Nat) := (List.range k).map fun (x : Nat) => (idx (base + ((gctx t G (x : Int) (y : Int) : Nat) : Int)) m, (G (x : Int) (y : Int)).toNat)
def dsLine (y : Nat) : List (Nat × Nat) := match skip with
  | false => dsRow G m t base y W
  | true => (idx (base + ((gsize t : Nat) : Int)) m, (sameB G W y).toNat) :: (match sameB G W y with
    | true => []
    | false => dsRow G m t base y W)
def dsG : Nat → List (Nat × Nat)
  | 0 => []
  | y + 1 => dsG y ++ dsLine G W m t skip base y
theorem dsRow_succ (y k : Nat) : dsRow G m t base y (k + 1) = dsRow G m t base y k ++ [(idx (base + ((gctx t G (k : Int) (y : Int) : Nat) : Int)) m, (G (k : Int) (y : Int)).toNat)] := by
  unfold dsRow
  rw [List.range_succ, List.map_append]
  rfl
theorem dsRow_len (y k : Nat) : (dsRow G m t base y k).length = k := by simp [dsRow]
theorem dsLine_len (y : Nat) : (dsLine G W m t skip base y).length ≤ W + 1 := by
  unfold dsLine
  cases skip with
  | false =>
    simp only [dsRow_len]
    omega
  | true =>
    cases sameB G W y <;> simp [dsRow_len]
theorem dsG_len : ∀ y, (dsG G W m t skip base y).length ≤ y * (W + 1)
  | 0 => by simp [dsG]
  | y + 1 => by
    have h1 := dsG_len y
    have h2 := dsLine_len G W m t skip base y
    unfold dsG
    rw [List.length_append, Nat.add_mul, Nat.one_mul]
    omega
theorem dsRow_bit (y k : Nat) : ∀ d ∈ dsRow G m t base y k, d.2 ≤ 1 := fun d hd => by
  unfold dsRow at hd
  obtain ⟨x, _, rfl⟩ := List.mem_map.1 hd
  exact toNat_le _
theorem dsLine_bit (y : Nat) : ∀ d ∈ dsLine G W m t skip base y, d.2 ≤ 1 := fun d hd => by
  unfold dsLine at hd
  cases skip with
  | false => exact dsRow_bit G m t base y W d hd
  | true =>
    rcases List.mem_cons.1 hd with rfl | hd
    · exact toNat_le _
    · cases hs : sameB G W y with
      | true => rw [hs] at hd; cases hd
      | false => rw [hs] at hd; exact dsRow_bit G m t base y W d hd
theorem dsG_bit : ∀ y, ∀ d ∈ dsG G W m t skip base y, d.2 ≤ 1
  | 0 => fun d hd => by cases hd
  | y + 1 => fun d hd => by
    unfold dsG at hd
    rcases List.mem_append.1 hd with hd | hd
    · exact dsG_bit y d hd
    · exact dsLine_bit G W m t skip base y d hd
theorem dsG_split {y : Nat} : ∀ {X : Nat}, y < X → ∃ C, dsG G W m t skip base X = dsG G W m t skip base y ++ (dsLine G W m t skip base y ++ C)
  | X + 1, h => by
    rcases Nat.lt_or_ge y X with h1 | h1
    · obtain ⟨C, hC⟩ := dsG_split h1
      refine ⟨C ++ dsLine G W m t skip base X, ?_⟩
      rw [dsG, hC]
      simp
    · obtain rfl : y = X := by omega
      exact ⟨[], by simp [dsG]⟩

/-! ### coding -/
theorem enc_row (L : List (Nat × Nat)) (y : Nat) : ∀ k, rowG t (stepP m base) y k (G, cdL m L) = .inl (G, cdL m (L ++ dsRow G m t base y k))
  | 0 => by simp [rowG, dsRow]
  | k + 1 => by
    unfold rowG
    rw [enc_row L y k]
    simp only [stepP, upd_self]
    rw [dsRow_succ, ← List.append_assoc, cdL_snoc]
variable (hG : ∀ x y : Int, ¬ (0 ≤ x ∧ x < W ∧ 0 ≤ y) → G x y = false)
include hG
theorem enc_g (L : List (Nat × Nat)) : ∀ y, runG W t skip (stepP m base) y (G, cdL m L) = .inl (G, cdL m (L ++ dsG G W m t skip base y))
  | 0 => by simp [runG, dsG]
  | y + 1 => by
    unfold runG
    rw [enc_g L y]
    cases skip with
    | false =>
      simp only []
      rw [enc_row, dsG, dsLine, List.append_assoc]
    | true =>
      simp only [stepP]
      rw [← cdL_snoc m _ (idx (base + ((gsize t : Nat) : Int)) m, (sameB G W y).toNat)]
      cases hs : sameB G W y with
      | true =>
        simp only []
        rw [copy_same (fun a b h => hG a b fun hh => h ⟨hh.1, hh.2.1⟩) hs, dsG]
        simp only [dsLine, hs]
        simp
      | false =>
        simp only []
        rw [enc_row, dsG]
        simp only [dsLine, hs]
        simp

/-! ### decoding -/
theorem part_gctx {x y : Nat} (ht : t < 4) (hx : x < W) : gctx t (partG G W (y * W + x)) x y = gctx t G x y := by
  unfold gctx pb
  congr 1
  refine List.map_congr_left fun p hp => ?_
  unfold plcs at hp
  obtain ⟨s, hs, hp⟩ := List.mem_flatMap.1 hp
  have hok := spanL_ok ht s hs
  have d1 := hok.d
  have d2 := hok.f
  have d3 := hok.t
  have d4 := hok.z
  unfold spl at hp
  obtain ⟨j, hj, rfl⟩ := List.mem_map.1 hp
  have hj := List.mem_range.1 hj
  unfold spanW at hj
  dsimp only
  refine partG_eq G W hG fun h1 h2 h3 => ?_
  by_cases h : s.1 = 0
  · have e : ((y : Int) + s.1).toNat = y := by omega
    rw [e]
    omega
  · have e : (((y : Int) + s.1).toNat + 1) * W ≤ y * W := Nat.mul_le_mul_right _ (by omega)
    rw [Nat.add_mul, Nat.one_mul] at e
    omega
theorem part_zero : partG G W 0 = fun _ _ => false := by
  have _ := hG
  funext x y
  unfold partG
  rw [decide_eq_false (by omega), Bool.false_and]
theorem part_same {y : Nat} (hs : sameB G W y = true) : copyRow (partG G W (y * W)) y = partG G W ((y + 1) * W) := by
  have hs := fun (x : Nat) (hx : x < W) => by
    unfold sameB at hs
    have := List.all_eq_true.1 hs x (List.mem_range.2 hx)
    exact of_decide_eq_true (p := G (x : Int) (y : Int) = G (x : Int) ((y : Int) - 1)) (by simpa using this)
  funext a b
  unfold copyRow
  by_cases hin : 0 ≤ a ∧ a < (W : Int) ∧ 0 ≤ b
  · by_cases hb : b = (y : Int)
    · subst hb
      have e2 : partG G W ((y + 1) * W) a y = G a y := partG_eq G W hG fun h1 h2 h3 => by
        rw [Int.toNat_natCast, Nat.add_mul, Nat.one_mul]
        omega
      have e3 := hs a.toNat (by omega)
      rw [show ((a.toNat : Nat) : Int) = a by omega] at e3
      rw [e2]
      by_cases hy : y = 0
      · rw [if_neg (fun hh => hh.2 hy)]
        subst hy
        rw [e3, hG a _ (by omega)]
        unfold partG
        rw [decide_eq_false (by omega), Bool.false_and]
      · rw [if_pos ⟨rfl, hy⟩, e3]
        refine partG_eq G W hG fun h1 h2 h3 => ?_
        have e4 : (((y : Int) - 1).toNat + 1) * W ≤ y * W := Nat.mul_le_mul_right _ (by omega)
        rw [Nat.add_mul, Nat.one_mul] at e4
        omega
    · rw [if_neg (fun hh => hb hh.1)]
      unfold partG
      congr 1
      rw [decide_eq_decide]
      constructor
      · rintro ⟨h2, h3, h4, h5⟩
        refine ⟨h2, h3, h4, ?_⟩
        rw [Nat.add_mul, Nat.one_mul]
        omega
      · rintro ⟨h2, h3, h4, h5⟩
        refine ⟨h2, h3, h4, ?_⟩
        rcases Nat.lt_or_ge b.toNat y with h6 | h6
        · have e4 : (b.toNat + 1) * W ≤ y * W := Nat.mul_le_mul_right _ (by omega)
          rw [Nat.add_mul, Nat.one_mul] at e4
          omega
        · exfalso
          have e4 : (y + 1) * W ≤ b.toNat * W := Nat.mul_le_mul_right _ (by omega)
          omega
  · have e : ∀ i a b, ¬ (0 ≤ a ∧ a < (W : Int) ∧ 0 ≤ b) → partG G W i a b = false := fun i a b h => by
      unfold partG
      rw [hG a b h, Bool.and_false]
    rw [e _ a b hin]
    by_cases hb : b = (y : Int) ∧ y ≠ 0
    · rw [if_pos hb, e _ a _ (by omega), e _ a b hin]
    · rw [if_neg hb, e _ a b hin]
variable {L : List (Nat × Nat)} {D : Nat → Dec} (hW : Walk L D)
include hW
theorem dec_row {A : List (Nat × Nat)} {y : Nat} (ht : t < 4) : ∀ k, k ≤ W → ∀ C, L = A ++ (dsRow G m t base y k ++ C) → rowG t (stepG m base) y k (partG G W (y * W), D A.length) = .inl (partG G W (y * W + k), D (A ++ dsRow G m t base y k).length)
  | 0, _, C, _ => by simp [rowG, dsRow]
  | k + 1, hk, C, hL => by
    have hL2 : L = (A ++ dsRow G m t base y k) ++ (idx (base + ((gctx t G (k : Int) (y : Int) : Nat) : Int)) m, (G (k : Int) (y : Int)).toNat) :: C := by
      rw [hL, dsRow_succ]
      simp
    have hs := hW.at hL2
    unfold rowG
    rw [dec_row ht k (by omega) ((idx (base + ((gctx t G (k : Int) (y : Int) : Nat) : Int)) m, (G (k : Int) (y : Int)).toNat) :: C) (hL2.trans (List.append_assoc _ _ _))]
    simp only [stepG]
    rw [part_gctx G W t hG ht (by omega), hs]
    dsimp only
    have hbit : decide ((G (k : Int) (y : Int)).toNat = 1) = G (k : Int) (y : Int) := by cases G (k : Int) (y : Int) <;> rfl
    rw [hbit, partG_next G W hG (by omega), dsRow_succ]
    simp [Nat.add_assoc]
theorem dec_g {A C : List (Nat × Nat)} {X : Nat} (ht : t < 4) (hL : L = A ++ (dsG G W m t skip base X ++ C)) : ∀ y, y ≤ X → runG W t skip (stepG m base) y (fun _ _ => false, D A.length) = .inl (partG G W (y * W), D (A ++ dsG G W m t skip base y).length)
  | 0, _ => by
    rw [Nat.zero_mul, part_zero G W hG]
    simp [runG, dsG]
  | y + 1, hy => by
    obtain ⟨C2, hC2⟩ := dsG_split G W m t skip base (y := y) (X := X) (by omega)
    unfold runG
    rw [dec_g ht hL y (by omega)]
    rw [hC2] at hL
    have hrow : (y + 1) * W = y * W + W := by rw [Nat.add_mul, Nat.one_mul]
    cases skip with
    | false =>
      simp only []
      rw [dec_row G W m t base hG hW (A := A ++ dsG G W m t false base y) ht W (Nat.le_refl _) (C2 ++ C) (hL.trans (by simp [dsLine])), dsG, dsLine, hrow, List.append_assoc]
    | true =>
      simp only [stepG]
      cases hs : sameB G W y with
      | true =>
        have h1 := hW.at (A := A ++ dsG G W m t true base y) (B := C2 ++ C) (d := (idx (base + ((gsize t : Nat) : Int)) m, 1)) (hL.trans (by simp [dsLine, hs]))
        rw [h1]
        simp only [decide_true]
        rw [part_same G W hG hs, dsG]
        simp [dsLine, hs, Nat.add_assoc]
      | false =>
        have h1 := hW.at (A := A ++ dsG G W m t true base y) (B := dsRow G m t base y W ++ (C2 ++ C)) (d := (idx (base + ((gsize t : Nat) : Int)) m, 0)) (hL.trans (by simp [dsLine, hs]))
        rw [h1]
        simp only [show decide ((0 : Nat) = 1) = false from rfl]
        have h2 := dec_row G W m t base hG hW (A := (A ++ dsG G W m t true base y) ++ [(idx (base + ((gsize t : Nat) : Int)) m, 0)]) (y := y) ht W (Nat.le_refl _) (C2 ++ C) (hL.trans (by simp [dsLine, hs]))
        rw [List.length_append, List.length_singleton] at h2
        rw [h2, dsG, hrow]
        simp [dsLine, hs, Nat.add_assoc]
end
end Go.Bm

/- Written by gen.py: the conditions of the functions of law7x. -/
set_option linter.unusedVariables false
set_option linter.unusedSimpArgs false
namespace Go.Den.Yteakipgcanafoaa
open Go Go.Den

/- burin/burinlaw7.light -/
/- burin/burinlaw7.wakes -/
set_option maxRecDepth 100000 in
def burinlaw7_wakes (C : CallP)  (h : Heap) (K : Value → Heap → Prop) (Kp : List PanicEntry → Heap → Prop) : Prop :=
newC h [.int .u64 12105675798371893248, .int .u64 12105675798371893248] T_uint64 fun r_1 h_2 =>
newC h_2 [.int .i64 0, .int .i64 0, .slice none 0 0] T_api_Bitmap fun r_3 h_4 =>
stV h_4 ((⟨r_3, 0, none⟩ : Addr).add 0) (.int .i64 5) fun h_5 =>
stV h_5 ((⟨r_3, 0, none⟩ : Addr).add 1) (.int .i64 2) fun h_6 =>
stV h_6 ((⟨r_3, 0, none⟩ : Addr).add 2) (.slice (some ⟨r_1, 0, none⟩) 2 2) fun h_7 =>
ldI h_7 ((⟨r_3, 0, none⟩ : Addr).add 0) .i64 fun x_8 =>
ldI h_7 ((⟨r_3, 0, none⟩ : Addr).add 1) .i64 fun x_9 =>
ldS h_7 ((⟨r_3, 0, none⟩ : Addr).add 2) fun x_10 x_10n x_10c =>
C F_generic_Encode #[.agg #[.int .i64 x_8, .int .i64 x_9, .slice x_10 x_10n x_10c], .int .i64 2, .bool true] h_7 (fun v_11 h_12 =>
∃ (r_13 : Option Addr) (r_13n : Nat) (r_13c : Nat), ∃ (r_14 : Int), v_11 = .tuple #[.slice r_13 r_13n r_13c, .int .i64 r_14] ∧ (
C F_generic_Decode #[.slice r_13 r_13n r_13c, .int .i64 5, .int .i64 2, .int .i64 2, .bool true] h_12 (fun v_15 h_16 =>
∃ (r_17 : Int) (r_18 : Int) (r_19 : Option Addr) (r_19n : Nat) (r_19c : Nat), ∃ (r_20 : Int), v_15 = .tuple #[.agg #[.int .i64 r_17, .int .i64 r_18, .slice r_19 r_19n r_19c], .int .i64 r_20] ∧ (
newC h_16 [.int .i64 0, .int .i64 0, .slice none 0 0] T_api_Bitmap fun r_21 h_22 =>
stV h_22 ((⟨r_21, 0, none⟩ : Addr).add 0) (.int .i64 r_17) fun h_23 =>
stV h_23 ((⟨r_21, 0, none⟩ : Addr).add 1) (.int .i64 r_18) fun h_24 =>
stV h_24 ((⟨r_21, 0, none⟩ : Addr).add 2) (.slice r_19 r_19n r_19c) fun h_25 =>
bcase (r_14 == (0 : Int)) (
bcase (r_20 == (0 : Int)) (
bcase (decide ((r_13n : Int) > (0 : Int))) (
ldI h_25 ((⟨r_3, 0, none⟩ : Addr).add 0) .i64 fun x_26 =>
ldI h_25 ((⟨r_3, 0, none⟩ : Addr).add 1) .i64 fun x_27 =>
ldS h_25 ((⟨r_3, 0, none⟩ : Addr).add 2) fun x_28 x_28n x_28c =>
ldI h_25 ((⟨r_21, 0, none⟩ : Addr).add 0) .i64 fun x_29 =>
ldI h_25 ((⟨r_21, 0, none⟩ : Addr).add 1) .i64 fun x_30 =>
ldS h_25 ((⟨r_21, 0, none⟩ : Addr).add 2) fun x_31 x_31n x_31c =>
C F_burinref0_EqBitmap #[.agg #[.int .i64 x_26, .int .i64 x_27, .slice x_28 x_28n x_28c], .agg #[.int .i64 x_29, .int .i64 x_30, .slice x_31 x_31n x_31c]] h_25 (fun v_32 h_33 =>
∃ (r_34 : Bool), v_32 = .bool r_34 ∧ (
K (.bool r_34) h_33)) (Kp)) <|
K (.bool false) h_25) <|
K (.bool false) h_25) <|
K (.bool false) h_25)) (Kp))) (Kp)

end Go.Den.Yteakipgcanafoaa

/- Written by gen.py: each condition of the functions of law7x is the one of its body; so it is enough for its call. -/
set_option linter.unusedVariables false
set_option linter.unusedSimpArgs false
namespace Go.Den.Yteakipgcanafoaa
open Go Go.Den

noncomputable def hints_burinlaw7_wakes : Hints := Hints.mk (fun i => none)
  (fun i => none)
  (fun i => none) []
set_option maxRecDepth 100000 in
theorem eq_burinlaw7_wakes (C : CallP)  (h : Heap) (K : Value → Heap → Prop) (Kp : List PanicEntry → Heap → Prop) :
    fnD Go.Proofs.Try.prog C hints_burinlaw7_wakes Go.Proofs.Try.f47 [] h K Kp = burinlaw7_wakes C  h K Kp := by kernel_rfl

theorem call_burinlaw7_wakes  {h : Heap} {K : Value → Heap → Prop} {Kp : List PanicEntry → Heap → Prop} (H : burinlaw7_wakes (CallsHP Go.Proofs.Try.prog)  h K Kp) : CallsHP Go.Proofs.Try.prog F_burinlaw7_wakes #[] h K Kp :=
  callsHP_of hints_burinlaw7_wakes (by kernel_rfl) Go.Proofs.Try.func47 (by kernel_rfl) (by rw [eq_burinlaw7_wakes]; exact H)

end Go.Den.Yteakipgcanafoaa

/- GnK: generic coding: back again, a few rows, wakes, light. -/
set_option linter.unusedVariables false
set_option linter.unusedSimpArgs false
namespace Go.Bm
open Go Go.Den Go.Den.Yteakipgcanafoaa
open Go.Ar (Dec decN newC newD bytesM flushM)

theorem GEncR.bytes {w b template : Int} {skip : Bool} {ws : List Nat} {e : Int} {bs : List Nat} (h : GEncR w b ws template skip e bs) : (∀ x ∈ bs, x < 256) ∧ bs.length < 140737488351300 := by
  rcases h with ⟨_, _, rfl⟩ | ⟨_, _, _, rfl⟩ | ⟨_, _, _, G, s', k, _, _, hok, rfl⟩
  · exact ⟨(fun x hx => by cases hx), by decide⟩
  · exact ⟨(fun x hx => by cases hx), by decide⟩
  · refine ⟨Go.Ar.flushM_lt hok.wf, ?_⟩
    have h1 := Go.Ar.flushM_len s'
    have h2 := hok.wf.len
    have h3 := hok.wf.n
    omega
theorem GGetR.len {bytes : List Nat} {m n0 : Nat} {base w b template : Int} {skip : Bool} {s : Dec} {e a c : Int} {bs : List Nat} {s' : Dec} (h : GGetR bytes m n0 base w b template skip s e a c bs s') : bs.length < 140737488351300 := by
  rcases h with ⟨_, _, _, _, rfl, _⟩ | ⟨_, _, _, _, _, rfl, _⟩ | ⟨_, _, _, _, _, _, rfl, _⟩ | ⟨_, p2, _, _, _, _, _, l, _⟩
  · decide
  · decide
  · decide
  · obtain ⟨W, X, rfl, rfl, hW1, hW2, hX1, hX2, hWX⟩ := size_nat p2
    simp only [Int.toNat_natCast] at l
    have := hw_le hW1 hWX
    omega
theorem GEncR.ok {w b template : Int} {skip : Bool} {ws : List Nat} {e : Int} {bs : List Nat} (ht : 0 ≤ template ∧ template < 4) (hm : MayP w b ws) (h : GEncR w b ws template skip e bs) : e = 0 := by
  rcases h with ⟨a, _⟩ | ⟨_, a, _⟩ | ⟨_, _, e, _⟩
  · exact absurd ht a
  · exact absurd hm a
  · exact e
/-- What is coded, said with the list of decisions. -/
theorem GEncR.list {W X t : Nat} {skip : Bool} {ws : List Nat} {e : Int} {bs : List Nat} (ht : t < 4) (hm : MayP (W : Int) (X : Int) ws) (h : GEncR (W : Int) (X : Int) ws (t : Int) skip e bs) :
    e = 0 ∧ (dsG (getP ws W X) W (gsize t + 1) t skip 0 X).length ≤ 16777216 ∧ bs = bytesM (flushM (cdL (gsize t + 1) (dsG (getP ws W X) W (gsize t + 1) t skip 0 X))) := by
  have hpx := size_px1 hm.1
  simp only [Int.toNat_natCast, Nat.zero_add] at hpx
  rcases h with ⟨a, _⟩ | ⟨_, a, _⟩ | ⟨_, _, rfl, Gz, sz, k, hrun, hkk, hok, rfl⟩
  · exact absurd ⟨by omega, by omega⟩ a
  · exact absurd hm a
  simp only [Int.toNat_natCast] at hrun
  have h1 := enc_g (getP ws W X) W (gsize t + 1) t skip 0 (getP_out ws W X) [] X
  rw [List.nil_append] at h1
  have h2 : cdL (gsize t + 1) [] = Go.Ar.newC (gsize t + 1) := rfl
  rw [h2, hrun] at h1
  injection h1 with h1
  injection h1 with _ h1
  subst h1
  exact ⟨rfl, Nat.le_trans (dsG_len _ _ _ _ _ _ _) hpx, rfl⟩
/-- As many rows, or fewer. -/
theorem g_top {W X n t : Nat} {skip : Bool} {ws : List Nat} {e e' w' b' : Int} {bs bs' : List Nat} {s' : Dec} (ht : t < 4) (hn : n ≤ X) (hn1 : 1 ≤ n) (hm : MayP (W : Int) (X : Int) ws)
    (henc : GEncR (W : Int) (X : Int) ws (t : Int) skip e bs) (hget : GGetR bs (gsize t + 1) 0 0 (W : Int) (n : Int) (t : Int) skip (newD bs (gsize t + 1)) e' w' b' bs' s') :
    e = 0 ∧ e' = 0 ∧ w' = (W : Int) ∧ b' = (n : Int) ∧ bs'.length = n * wds W ∧ W64 bs' ∧ PadZ W n bs' ∧ getP bs' W n = fun (x y : Int) => decide (y < n) && getP ws W X x y := by
  obtain ⟨W', X', e1, e2, hW1, hW2, hX1, hX2, hWX⟩ := size_nat hm.1
  obtain rfl : W = W' := by omega
  obtain rfl : X = X' := by omega
  have hWn : W * n ≤ W * X := Nat.mul_le_mul_left _ hn
  have hsz : SizeP (W : Int) (n : Int) := by
    refine ⟨by omega, by omega, by omega, by omega, ?_⟩
    rw [mul_cast]
    omega
  obtain ⟨rfl, hlen, hbs⟩ := henc.list ht hm
  rcases hget with ⟨a, _⟩ | ⟨_, a, _⟩ | ⟨_, _, a, _⟩ | ⟨_, _, _, rfl, rfl, rfl, hrun2, hl, hww, hz, _⟩
  · exact absurd ⟨by omega, by omega⟩ a
  · exact absurd hsz a
  · exact absurd ⟨by omega, by simp only [Int.toNat_natCast]; omega⟩ a
  simp only [Int.toNat_natCast] at hrun2 hl hz
  refine ⟨rfl, rfl, rfl, rfl, hl, hww, hz, ?_⟩
  have hwalk := walk_of (m := gsize t + 1) (dsG_bit (getP ws W X) W (gsize t + 1) t skip 0 X) hlen
  rw [← hbs] at hwalk
  have h1 := dec_g (getP ws W X) W (gsize t + 1) t skip 0 (getP_out ws W X) hwalk (A := []) (C := []) (X := X) ht (by simp) n hn
  have h2 : decN (kOf (dsG (getP ws W X) W (gsize t + 1) t skip 0 X)) bs (gsize t + 1) ([] : List (Nat × Nat)).length = newD bs (gsize t + 1) := rfl
  rw [h2, hrun2, part_rows] at h1
  injection h1 with h1
  injection h1 with h1 _
theorem g_back {W X t : Nat} {skip : Bool} {ws : List Nat} {e e' w' b' : Int} {bs bs' : List Nat} {s' : Dec} (ht : t < 4) (hm : MayP (W : Int) (X : Int) ws) (hw : W64 ws)
    (henc : GEncR (W : Int) (X : Int) ws (t : Int) skip e bs) (hget : GGetR bs (gsize t + 1) 0 0 (W : Int) (X : Int) (t : Int) skip (newD bs (gsize t + 1)) e' w' b' bs' s') :
    e = 0 ∧ e' = 0 ∧ w' = (W : Int) ∧ b' = (X : Int) ∧ bs' = ws := by
  obtain ⟨W', X', e1, e2, hW1, hW2, hX1, hX2, hWX⟩ := size_nat hm.1
  obtain rfl : W = W' := by omega
  obtain rfl : X = X' := by omega
  obtain ⟨h1, h2, h3, h4, h5, h6, h7, h8⟩ := g_top ht (Nat.le_refl X) hX1 hm henc hget
  refine ⟨h1, h2, h3, h4, getP_ext h5 (may_len hm) h6 hw h7 (fun y hy x k1 k2 => pix_of_may hm hy k1 k2) ?_⟩
  rw [h8]
  funext x y
  by_cases hy : y < (X : Int)
  · rw [decide_eq_true hy, Bool.true_and]
  · rw [decide_eq_false hy, Bool.false_and]
    unfold getP
    rw [decide_eq_false (by omega), Bool.false_and]
theorem wakes7_len : Nat.blt 0 (bytesM (flushM (cdL (gsize 2 + 1) (dsG (getP [12105675798371893248, 12105675798371893248] 5 2) 5 (gsize 2 + 1) 2 true 0 2)))).length = true := by kernel_rfl

set_option maxRecDepth 100000 in
theorem wakes7_ok {hB : Heap} {K : Value → Heap → Prop} {Kp : List PanicEntry → Heap → Prop} (hk : ∀ h', hext hB h' → K (.bool true) h') : CP F_burinlaw7_wakes #[] hB K Kp := by
  refine call_burinlaw7_wakes ?_
  unfold burinlaw7_wakes
  have H := Hp.nil hB []
  refine newC_hp H fun r1 h H => ?_
  refine newC_hp H fun r3 h H => ?_
  repeat first | with_reducible refine stA H 0 (by with_unfolding_all exact rfl) (by with_unfolding_all exact rfl) (by with_unfolding_all exact rfl) fun h H => ?_ | with_reducible refine stA H 1 (by with_unfolding_all exact rfl) (by with_unfolding_all exact rfl) (by with_unfolding_all exact rfl) fun h H => ?_ | with_reducible refine st0 H 0 (by with_unfolding_all exact rfl) (by with_unfolding_all exact rfl) (by with_unfolding_all exact rfl) fun h H => ?_ | with_reducible refine st0 H 1 (by with_unfolding_all exact rfl) (by with_unfolding_all exact rfl) (by with_unfolding_all exact rfl) fun h H => ?_ | with_reducible refine stB H 0 (by with_unfolding_all exact rfl) (by with_unfolding_all exact rfl) (by with_unfolding_all exact rfl) fun h H => ?_ | with_reducible refine stB H 1 (by with_unfolding_all exact rfl) (by with_unfolding_all exact rfl) (by with_unfolding_all exact rfl) fun h H => ?_
  have H : Hp hB [] h [⟨r1, true, T_uint64, u64s [12105675798371893248, 12105675798371893248] ++ []⟩, ⟨r3, true, T_api_Bitmap, [.int .i64 5, .int .i64 2, .slice (some ⟨r1, 0, none⟩) 2 2]⟩] := H
  repeat first | with_reducible refine ldI_of (by with_unfolding_all first | exact hpA H 0 rfl rfl | exact hpA H 1 rfl rfl | exact Hp.cell H 0 rfl rfl | exact Hp.cell H 1 rfl rfl | exact hpB H 0 rfl rfl | exact hpB H 1 rfl rfl | exact hpC H 0 rfl rfl | exact hpC H 1 rfl rfl) ?_ | with_reducible refine ldS_of (by with_unfolding_all first | exact hpA H 0 rfl rfl | exact hpA H 1 rfl rfl | exact Hp.cell H 0 rfl rfl | exact Hp.cell H 1 rfl rfl | exact hpB H 0 rfl rfl | exact hpB H 1 rfl rfl | exact hpC H 0 rfl rfl | exact hpC H 1 rfl rfl) ?_ | with_reducible refine ldP_of (by with_unfolding_all first | exact hpA H 0 rfl rfl | exact hpA H 1 rfl rfl | exact Hp.cell H 0 rfl rfl | exact Hp.cell H 1 rfl rfl | exact hpB H 0 rfl rfl | exact hpB H 1 rfl rfl | exact hpC H 0 rfl rfl | exact hpC H 1 rfl rfl) ?_ | with_reducible refine ldB_of (by with_unfolding_all first | exact hpA H 0 rfl rfl | exact hpA H 1 rfl rfl | exact Hp.cell H 0 rfl rfl | exact Hp.cell H 1 rfl rfl | exact hpB H 0 rfl rfl | exact hpB H 1 rfl rfl | exact hpC H 0 rfl rfl | exact hpC H 1 rfl rfl) ?_ | with_reducible refine ldT_of (by with_unfolding_all first | exact hpA H 0 rfl rfl | exact hpA H 1 rfl rfl | exact Hp.cell H 0 rfl rfl | exact Hp.cell H 1 rfl rfl | exact hpB H 0 rfl rfl | exact hpB H 1 rfl rfl | exact hpC H 0 rfl rfl | exact hpC H 1 rfl rfl) ?_
  have hm1 : MayP ((5 : Nat) : Int) ((2 : Nat) : Int) [12105675798371893248, 12105675798371893248] := ⟨by unfold SizeP; omega, by decide, fun y hy => by
    have : y = 0 ∨ y = 1 := by simp at hy; omega
    rcases this with rfl | rfl <;> decide⟩
  have hw1 : W64 [12105675798371893248, 12105675798371893248] := fun v hv => by simp at hv; rw [hv]; decide
  refine gEnc_ok (ws := [12105675798371893248, 12105675798371893248]) (row_rdO H 0 rfl) hw1 (by decide) fun e bs D qo c h' henc hsl H' => ?_
  replace H := H.join H' hsl.w
  clear H'
  refine ⟨_, _, _, _, rfl, ?_⟩
  refine gDec_ok (bytes := bs) henc.bytes.1 henc.bytes.2 (Slot.rdO' hsl H fun e he => List.mem_append_right _ he) fun e' w' b' bs' s' D2 qo2 c2 h' hget hsl2 H' => ?_
  replace H := H.join H' hsl2.w
  clear H'
  have hpos : 0 < bs.length := by
    obtain ⟨_, _, rfl⟩ := GEncR.list (W := 5) (X := 2) (t := 2) (by decide) hm1 henc
    exact Nat.le_of_ble_eq_true wakes7_len
  obtain ⟨rfl, rfl, rfl, rfl, rfl⟩ := g_back (W := 5) (X := 2) (t := 2) (by decide) hm1 hw1 henc hget
  refine ⟨_, _, _, _, _, _, rfl, ?_⟩
  refine newC_hp H fun r21 h H => ?_
  have H := H.rot
  repeat first | with_reducible refine stA H 0 (by with_unfolding_all exact rfl) (by with_unfolding_all exact rfl) (by with_unfolding_all exact rfl) fun h H => ?_ | with_reducible refine st0 H 0 (by with_unfolding_all exact rfl) (by with_unfolding_all exact rfl) (by with_unfolding_all exact rfl) fun h H => ?_ | with_reducible refine stB H 0 (by with_unfolding_all exact rfl) (by with_unfolding_all exact rfl) (by with_unfolding_all exact rfl) fun h H => ?_
  have H : Hp hB [] h ([⟨r21, true, T_api_Bitmap, [.int .i64 5, .int .i64 2, .slice qo2 2 c2]⟩] ++ ([⟨r1, true, T_uint64, u64s [12105675798371893248, 12105675798371893248] ++ []⟩, ⟨r3, true, T_api_Bitmap, [.int .i64 5, .int .i64 2, .slice (some ⟨r1, 0, none⟩) 2 2]⟩] ++ D ++ D2)) := H
  refine bcase_true (by rfl) ?_
  refine bcase_true (by rfl) ?_
  refine bcase_dec (fun h1 => ?_) fun h1 => absurd (by omega) h1
  repeat first | with_reducible refine ldI_of (by with_unfolding_all first | exact hpA H 0 rfl rfl | exact hpA H 1 rfl rfl | exact hpA H 2 rfl rfl | exact Hp.cell H 0 rfl rfl | exact Hp.cell H 1 rfl rfl | exact Hp.cell H 2 rfl rfl | exact hpB H 0 rfl rfl | exact hpB H 1 rfl rfl | exact hpB H 2 rfl rfl | exact hpC H 0 rfl rfl | exact hpC H 1 rfl rfl | exact hpC H 2 rfl rfl) ?_ | with_reducible refine ldS_of (by with_unfolding_all first | exact hpA H 0 rfl rfl | exact hpA H 1 rfl rfl | exact hpA H 2 rfl rfl | exact Hp.cell H 0 rfl rfl | exact Hp.cell H 1 rfl rfl | exact Hp.cell H 2 rfl rfl | exact hpB H 0 rfl rfl | exact hpB H 1 rfl rfl | exact hpB H 2 rfl rfl | exact hpC H 0 rfl rfl | exact hpC H 1 rfl rfl | exact hpC H 2 rfl rfl) ?_ | with_reducible refine ldP_of (by with_unfolding_all first | exact hpA H 0 rfl rfl | exact hpA H 1 rfl rfl | exact hpA H 2 rfl rfl | exact Hp.cell H 0 rfl rfl | exact Hp.cell H 1 rfl rfl | exact Hp.cell H 2 rfl rfl | exact hpB H 0 rfl rfl | exact hpB H 1 rfl rfl | exact hpB H 2 rfl rfl | exact hpC H 0 rfl rfl | exact hpC H 1 rfl rfl | exact hpC H 2 rfl rfl) ?_ | with_reducible refine ldB_of (by with_unfolding_all first | exact hpA H 0 rfl rfl | exact hpA H 1 rfl rfl | exact hpA H 2 rfl rfl | exact Hp.cell H 0 rfl rfl | exact Hp.cell H 1 rfl rfl | exact Hp.cell H 2 rfl rfl | exact hpB H 0 rfl rfl | exact hpB H 1 rfl rfl | exact hpB H 2 rfl rfl | exact hpC H 0 rfl rfl | exact hpC H 1 rfl rfl | exact hpC H 2 rfl rfl) ?_ | with_reducible refine ldT_of (by with_unfolding_all first | exact hpA H 0 rfl rfl | exact hpA H 1 rfl rfl | exact hpA H 2 rfl rfl | exact Hp.cell H 0 rfl rfl | exact Hp.cell H 1 rfl rfl | exact Hp.cell H 2 rfl rfl | exact hpB H 0 rfl rfl | exact hpB H 1 rfl rfl | exact hpB H 2 rfl rfl | exact hpC H 0 rfl rfl | exact hpC H 1 rfl rfl | exact hpC H 2 rfl rfl) ?_
  refine eqB_ok (xs := [12105675798371893248, 12105675798371893248]) (ys := [12105675798371893248, 12105675798371893248]) (row_rdO H 1 rfl) (Slot.rdO' hsl2 H fun e he => List.mem_append_right _ (List.mem_append_right _ he)) (by decide) fun h' e => ?_
  refine ⟨_, rfl, ?_⟩
  have := hk h' (H.hext.trans e)
  simpa using this
end Go.Bm

/- ShA: decisions that are all alike cost few doublings: the coder's run said by its range alone, reckoned out. No Go, no memory. -/
set_option linter.unusedVariables false
set_option linter.unusedSimpArgs false
namespace Go.Ar

/-- The likelier bit: the range, the row, how many doublings. -/
def mpsA (a r : Nat) : Nat × Nat × Nat :=
  if 0x8000 ≤ a - qOf r then (a - qOf r, r, 0) else (2 * (if a - qOf r < qOf r then qOf r else a - qOf r), mOf r, 1)
/-- The other bit in a new context. -/
def lpsA (a : Nat) : Nat × Nat :=
  if 0x4000 ≤ (if a - 0x5601 < 0x5601 then a - 0x5601 else 0x5601) then (2 * (if a - 0x5601 < 0x5601 then a - 0x5601 else 0x5601), 1)
  else (4 * (if a - 0x5601 < 0x5601 then a - 0x5601 else 0x5601), 2)
end Go.Ar

/- ShB: decisions that are all alike: how many bytes. No Go, no memory. -/
set_option linter.unusedVariables false
set_option linter.unusedSimpArgs false
namespace Go.Ar

/-- The first 'c' of 'n' contexts have been met; each has its own bit 'bb'. -/
structure Al (n c : Nat) (bb : Nat → Nat) (s : Cod) (a : Nat) (rows : List Nat) (N : Nat) : Prop where
  wf : Wf s
  a : s.a = a
  len : s.st.length = n
  rlen : rows.length = c
  st : ∀ k r, rows[k]? = some r → s.st[k]? = some (2 * r + bb k)
  new : ∀ k, c ≤ k → k < n → s.st[k]? = some 0
  row : ∀ r ∈ rows, r < 47
  out : 7 * s.bs.length + 12 ≤ N + s.t

section
variable {n c k a r N : Nat} {bb : Nat → Nat} {s : Cod} {rows : List Nat}
theorem shift_out (hm : Mid s) (h : 7 * s.bs.length + 12 ≤ N + s.t) : 7 * (shiftM s).bs.length + 12 ≤ N + 1 + (shiftM s).t := by
  have h1 := hm.t1
  unfold shiftM
  simp only []
  split
  · rename_i h0
    have h0 : s.t - 1 = 0 := h0
    have e1 := (outM_same { s with a := 2 * s.a, c := 2 * s.c, t := s.t - 1 }).2.2.2.2
    have e2 : (outM { s with a := 2 * s.a, c := 2 * s.c, t := s.t - 1 }).t = 7 ∨ (outM { s with a := 2 * s.a, c := 2 * s.c, t := s.t - 1 }).t = 8 := by
      unfold outM outTail
      split <;> split <;> first | exact .inl rfl | exact .inr rfl
    rw [e1]
    show 7 * (s.bs.length + 1) + 12 ≤ _
    omega
  · show 7 * s.bs.length + 12 ≤ N + 1 + (s.t - 1)
    omega
theorem renew_one (hm : Mid s) (h1 : 0x4000 ≤ s.a) (h2 : s.a < 0x8000) : renewM 17 s = shiftM s := by
  have h := (shiftM_mid hm h2).2.1
  rw [renewM_succ, if_pos (by omega)]
theorem renew_two (hm : Mid s) (h1 : 0x2000 ≤ s.a) (h2 : s.a < 0x4000) : renewM 17 s = shiftM (shiftM s) := by
  obtain ⟨g1, h, _⟩ := shiftM_mid hm (by omega)
  have h' := (shiftM_mid g1 (by omega)).2.1
  rw [renewM_succ, if_neg (by omega), renewM_succ, if_pos (by omega)]
theorem st_of {st : List Nat} {k x : Nat} (h : st[k]? = some x) : st.getD k 0 = x := by rw [List.getD_eq_getElem?_getD, h]; rfl

theorem Al.more (h : Al n c bb s a rows N) {N' : Nat} (hN : N ≤ N') : Al n c bb s a rows N' := ⟨h.wf, h.a, h.len, h.rlen, h.st, h.new, h.row, by have := h.out; omega⟩
end

/-! ### the first round: what may be -/
section
variable (n : Nat) (bb : Nat → Nat)
end
theorem flush_bs {s : Cod} (hs : Wf s) : (bytesM (flushM s)).length ≤ s.bs.length + 2 := by
  have ho : ∀ s : Cod, (flushS s).bs.length = s.bs.length + 1 := fun s => (outM_same { s with c := s.c * 2 ^ s.t }).2.2.2.2
  have h : (flushM s).bs.length = s.bs.length + 2 := by
    show (flushS (flushS _)).bs.length = _
    rw [ho, ho]
  unfold bytesM
  simp only []
  split
  · simp; omega
  · simp; omega

end Go.Ar

/- ShD: one context, decided many times alike: how many bytes more. No Go, no memory. -/
set_option linter.unusedVariables false
set_option linter.unusedSimpArgs false
namespace Go.Ar

/-- A context stands at 'x'; so many doublings. -/
structure Rs (k x : Nat) (s : Cod) (N : Nat) : Prop where
  wf : Wf s
  st : s.st[k]? = some x
  out : 7 * s.bs.length + 12 ≤ N + s.t
section
variable {k x r b N : Nat} {s : Cod}
theorem rs_mps (h : Rs k (2 * r + b) s N) (hb : b ≤ 1) (hn : s.n < 16777216) :
    Rs k (2 * (mpsA s.a r).2.1 + b) (putM s k b) (N + (mpsA s.a r).2.2) ∧ (putM s k b).a = (mpsA s.a r).1 := by
  have hx := h.st
  have hkl : k < s.st.length := (List.getElem?_eq_some_iff.1 hx).1
  have hr : r < 47 := by have := h.wf.st _ (List.mem_of_getElem? hx); omega
  have hwf := putM_wf h.wf k b hn
  have hlo := h.wf.lo
  have hhi := h.wf.hi
  have hca := h.wf.ca
  have hq1 := qOf_pos hr
  have hq2 := qOf_le hr
  have hmr := mOf_lt hr
  have hd : (2 * r + b) / 2 = r := by omega
  have hm2 : (2 * r + b) % 2 = b := by omega
  have hup : upM (2 * r + b) = 2 * mOf r + b := by unfold upM; rw [hd, hm2]
  have hput : putM s k b = if 0x8000 ≤ s.a - qOf r then { s with a := s.a - qOf r, c := s.c + qOf r, n := s.n + 1 }
      else if s.a - qOf r < qOf r then renewM 17 { s with a := qOf r, n := s.n + 1, st := s.st.set k (2 * mOf r + b) }
      else renewM 17 { s with a := s.a - qOf r, c := s.c + qOf r, n := s.n + 1, st := s.st.set k (2 * mOf r + b) } := by
    unfold putM
    simp only [st_of hx, hd, hm2, hup, if_true]
  rw [hput] at hwf ⊢
  unfold mpsA
  by_cases h8 : 0x8000 ≤ s.a - qOf r
  · rw [if_pos h8] at hwf ⊢
    rw [if_pos h8]
    exact ⟨⟨hwf, hx, h.out⟩, rfl⟩
  · rw [if_neg h8] at hwf ⊢
    rw [if_neg h8]
    have fin : ∀ (c0 : Nat) (a0 : Nat), 0x4000 ≤ a0 → a0 < 0x8000 → c0 + a0 ≤ s.c + s.a → Wf (renewM 17 { s with a := a0, c := c0, n := s.n + 1, st := s.st.set k (2 * mOf r + b) }) →
        Rs k (2 * mOf r + b) (renewM 17 { s with a := a0, c := c0, n := s.n + 1, st := s.st.set k (2 * mOf r + b) }) (N + 1) ∧ (renewM 17 { s with a := a0, c := c0, n := s.n + 1, st := s.st.set k (2 * mOf r + b) }).a = 2 * a0 := by
      intro c0 a0 h1 h2 h3 hw
      have hmid : Mid { s with a := a0, c := c0, n := s.n + 1, st := s.st.set k (2 * mOf r + b) } := ⟨h.wf.t1, h.wf.t12, by show c0 + a0 < 2 ^ (28 - s.t); omega, h.wf.l, h.wf.bs, set_lt h.wf.st (by omega)⟩
      rw [renew_one hmid h1 h2] at hw ⊢
      obtain ⟨g1, g2, g3, g4, g5, g6⟩ := shiftM_mid hmid h2
      exact ⟨⟨hw, by rw [g4]; exact List.getElem?_set_self hkl, shift_out hmid h.out⟩, g2⟩
    by_cases hq : s.a - qOf r < qOf r
    · rw [if_pos hq] at hwf ⊢
      rw [if_pos hq]
      exact fin s.c (qOf r) (by omega) (by omega) (by omega) hwf
    · rw [if_neg hq] at hwf ⊢
      rw [if_neg hq]
      exact fin (s.c + qOf r) (s.a - qOf r) (by omega) (by omega) (by omega) hwf
/-- The other bit, where the range falls below no quarter of a half. -/
theorem rs_lps (h : Rs k x s N) (hb : b ≠ x % 2) (hn : s.n < 16777216) (hq : 0x2000 ≤ qOf (x / 2)) : Rs k (upL x) (putM s k b) (N + 2) := by
  have hx := h.st
  have hkl : k < s.st.length := (List.getElem?_eq_some_iff.1 hx).1
  have hx94 := h.wf.st _ (List.mem_of_getElem? hx)
  have hr : x / 2 < 47 := by omega
  have hwf := putM_wf h.wf k b hn
  have hlo := h.wf.lo
  have hhi := h.wf.hi
  have hca := h.wf.ca
  have hq1 := qOf_pos hr
  have hq2 := qOf_le hr
  have hput : putM s k b = if s.a - qOf (x / 2) < qOf (x / 2) then renewM 17 { s with a := s.a - qOf (x / 2), c := s.c + qOf (x / 2), n := s.n + 1, st := s.st.set k (upL x) }
      else renewM 17 { s with a := qOf (x / 2), n := s.n + 1, st := s.st.set k (upL x) } := by
    unfold putM
    simp only [st_of hx]
    rw [if_neg hb]
  have fin : ∀ (c0 a0 : Nat), 0x2000 ≤ a0 → a0 < 0x8000 → c0 + a0 ≤ s.c + s.a → Wf (renewM 17 { s with a := a0, c := c0, n := s.n + 1, st := s.st.set k (upL x) }) →
      Rs k (upL x) (renewM 17 { s with a := a0, c := c0, n := s.n + 1, st := s.st.set k (upL x) }) (N + 2) := by
    intro c0 a0 h1 h2 h3 hw
    have hmid : Mid { s with a := a0, c := c0, n := s.n + 1, st := s.st.set k (upL x) } := ⟨h.wf.t1, h.wf.t12, by show c0 + a0 < 2 ^ (28 - s.t); omega, h.wf.l, h.wf.bs, set_lt h.wf.st (upL_lt hx94)⟩
    obtain ⟨g1, g2, g3, g4, g5, g6⟩ := shiftM_mid hmid h2
    have o1 := shift_out hmid h.out
    by_cases h4 : 0x4000 ≤ a0
    · rw [renew_one hmid h4 h2] at hw ⊢
      exact ⟨hw, by rw [g4]; exact List.getElem?_set_self hkl, by omega⟩
    · rw [renew_two hmid h1 (by show a0 < _; omega)] at hw ⊢
      obtain ⟨k1, k2, k3, k4, k5, k6⟩ := shiftM_mid g1 (by rw [g2]; show 2 * a0 < _; omega)
      exact ⟨hw, by rw [k4, g4]; exact List.getElem?_set_self hkl, shift_out g1 o1⟩
  rw [hput] at hwf ⊢
  by_cases hq3 : s.a - qOf (x / 2) < qOf (x / 2)
  · rw [if_pos hq3] at hwf ⊢
    exact fin _ _ (by omega) (by omega) (by omega) hwf
  · rw [if_neg hq3] at hwf ⊢
    exact fin _ _ (by omega) (by omega) (by omega) hwf
end
/-- The same bit in the same context, again and again. -/
def sameM (k b : Nat) (s : Cod) : Nat → Cod
  | 0 => s
  | i + 1 => putM (sameM k b s i) k b
end Go.Ar

/- GnR: a bitmap of fifty rows that are all alike: its bytes, and those of its first row. -/
set_option linter.unusedVariables false
set_option linter.unusedSimpArgs false
namespace Go.Bm
open Go Go.Den Go.Den.Yteakipgcanafoaa
-- (nothing of Go.Ar opened)

end Go.Bm

/- ShE: many contexts, each decided alike from some time on: how many doublings, by a potential. No Go, no memory. -/
set_option linter.unusedVariables false
set_option linter.unusedSimpArgs false
namespace Go.Ar

/-- What the rows that are still passed take, each once. -/
def chF : Nat → Nat → Nat
  | 0, _ => 0
  | f + 1, r => if Nat.beq (mOf r) r then 0 else qOf r + chF f (mOf r)
def chS (r : Nat) : Nat := chF 50 r
/-- What a run in one context takes in rows of great parts. -/
def xF : Nat → Nat → Nat
  | 0, _ => 0
  | f + 1, r => if Nat.ble (qOf r) 0xAC1 then 0 else 0x8000 + qOf r + xF f (mOf r)
def xS (r : Nat) : Nat := xF 50 r
def xM : Nat := 0x100000
def chOk : Bool := (List.range 46).all fun r => Nat.blt (mOf r) 46 && Nat.ble (xS r) xM && Nat.ble (chS r) 0x100000 &&
  (if Nat.beq (mOf r) r then Nat.beq (qOf r) 1 else Nat.ble (qOf r + chS (mOf r)) (chS r)) &&
  (if Nat.ble (qOf r) 0xAC1 then Nat.ble (qOf (mOf r)) 0xAC1 else Nat.ble (0x8000 + qOf r + xS (mOf r)) (xS r))
set_option maxRecDepth 100000 in
theorem chOk_t : chOk = true := by kernel_rfl
theorem ch_step {r : Nat} (hr : r < 46) : mOf r < 46 ∧ xS r ≤ 0x100000 ∧ chS r ≤ 0x100000 ∧ (mOf r = r ∧ qOf r = 1 ∨ mOf r ≠ r ∧ qOf r + chS (mOf r) ≤ chS r) ∧ (qOf r ≤ 0xAC1 ∧ qOf (mOf r) ≤ 0xAC1 ∨ 0xAC1 < qOf r ∧ 0x8000 + qOf r + xS (mOf r) ≤ xS r) := by
  have h := List.all_eq_true.1 chOk_t r (List.mem_range.2 hr)
  simp only [Bool.and_eq_true] at h
  obtain ⟨⟨⟨⟨h1, h2⟩, h3⟩, h4⟩, h5⟩ := h
  refine ⟨Nat.le_of_ble_eq_true h1, Nat.le_of_ble_eq_true h2, Nat.le_of_ble_eq_true h3, ?_, ?_⟩
  · by_cases h6 : mOf r = r
    · rw [if_pos (by rw [h6]; exact Nat.beq_refl r)] at h4
      exact .inl ⟨h6, Nat.eq_of_beq_eq_true h4⟩
    · rw [if_neg (fun hh => h6 (Nat.eq_of_beq_eq_true hh))] at h4
      exact .inr ⟨h6, Nat.le_of_ble_eq_true h4⟩
  · by_cases h6 : qOf r ≤ 0xAC1
    · rw [if_pos (Nat.ble_eq_true_of_le h6)] at h5
      exact .inl ⟨h6, Nat.le_of_ble_eq_true h5⟩
    · rw [if_neg (fun hh => h6 (Nat.le_of_ble_eq_true hh))] at h5
      exact .inr ⟨by omega, Nat.le_of_ble_eq_true h5⟩

/-- What a context may still take, by itself. -/
def gX (b x : Nat) : Nat := if x % 2 = b then chS (x / 2) else if x = 0 then 0x18000 + chS 1 else if x = 2 then 0x30000 + chS 6 else 0x18000 + chS 6
/-- What a decision takes. -/
def cX (b x : Nat) : Nat := if x % 2 = b then (if mOf (x / 2) = x / 2 then 2 else qOf (x / 2)) else 0
def okX (b x : Nat) : Prop := x % 2 = b ∧ x / 2 < 46 ∨ b = 1 ∧ (x = 0 ∨ x = 2 ∨ x = 12)
theorem gX_le {b x : Nat} (h : okX b x) : gX b x ≤ 0x130000 := by
  have h1 := (ch_step (r := 1) (by decide)).2.2.1
  have h6 := (ch_step (r := 6) (by decide)).2.2.1
  unfold gX
  split
  · rename_i hm
    rcases h with ⟨_, hr⟩ | ⟨rfl, hl⟩
    · have := (ch_step hr).2.2.1
      omega
    · rcases hl with rfl | rfl | rfl <;> exact absurd hm (by decide)
  · split
    · omega
    · split <;> omega
theorem cX_le {b x : Nat} (h : okX b x) : cX b x ≤ 0x5601 := by
  unfold cX
  split
  · split
    · omega
    · rcases h with ⟨_, hr⟩ | ⟨rfl, hl⟩
      · exact qOf_le (by omega)
      · rcases hl with rfl | rfl | rfl <;> exact qOf_le (by decide)
  · omega
theorem sum_drop {f g : Nat → Nat} {k d : Nat} : ∀ {S : List Nat}, k ∈ S → (∀ j ∈ S, g j ≤ f j) → g k + d ≤ f k → (S.map g).sum + d ≤ (S.map f).sum
  | [], hk, _, _ => by cases hk
  | j :: S, hk, hle, h => by
    rw [List.map_cons, List.map_cons, List.sum_cons, List.sum_cons]
    have hrest : ∀ {S : List Nat}, (∀ j ∈ S, g j ≤ f j) → (S.map g).sum ≤ (S.map f).sum := by
      intro S
      induction S with
      | nil => intro _; exact Nat.le_refl _
      | cons i S ih =>
        intro hl
        rw [List.map_cons, List.map_cons, List.sum_cons, List.sum_cons]
        have h1 := hl i (by simp)
        have h2 := ih fun j hj => hl j (List.mem_cons_of_mem _ hj)
        omega
    rcases List.mem_cons.1 hk with rfl | hk
    · have := hrest fun j hj => hle j (List.mem_cons_of_mem _ hj)
      omega
    · have h1 := hle j (by simp)
      have h2 := sum_drop hk (fun j hj => hle j (List.mem_cons_of_mem _ hj)) h
      omega
theorem putM_oth (s : Cod) {k k' b : Nat} (h : k' ≠ k) : (putM s k' b).st[k]? = s.st[k]? := by
  have key : ∀ (s0 : Cod) (v : Nat), s0.st = s.st.set k' v → (renewM 17 s0).st[k]? = s.st[k]? := fun s0 v e => by
    rw [(renewM_st 17 s0).1, e, List.getElem?_set_ne h]
  unfold putM
  simp only []
  split
  · split
    · rfl
    · split
      · exact key _ _ rfl
      · exact key _ _ rfl
  · split
    · exact key _ _ rfl
    · exact key _ _ rfl

/-- The contexts 'S' are decided 'b' from now on; what was taken until now is at most 'B'. -/
structure Iv (b : Nat) (P : Nat → Prop) (S : List Nat) (s : Cod) (B : Nat) : Prop where
  wf : Wf s
  ok : ∀ k ∈ S, ∃ x, s.st[k]? = some x ∧ okX b x ∧ P x
  out : ∃ N, 7 * s.bs.length + 12 ≤ N + s.t ∧ 0x8000 * N + 0x8000 + (S.map fun k => gX b (s.st.getD k 0)).sum ≤ B + s.a
/-- The context's next value. -/
def nxX (b x a : Nat) : Nat := if x % 2 = b then 2 * (mpsA a (x / 2)).2.1 + b else upL x
def Cl (b : Nat) (P : Nat → Prop) : Prop := ∀ x a, okX b x → P x → 0x8000 ≤ a → a < 0x10000 → P (nxX b x a)
section
variable {b B k x : Nat} {P : Nat → Prop} {S : List Nat} {s : Cod}
theorem mps_row (a r : Nat) (h1 : 0x8000 ≤ a) : (0x8000 ≤ a - qOf r ∧ mpsA a r = (a - qOf r, r, 0)) ∨ (¬ 0x8000 ≤ a - qOf r ∧ ∃ v, mpsA a r = (2 * v, mOf r, 1) ∧ a - qOf r ≤ v) := by
  unfold mpsA
  by_cases h8 : 0x8000 ≤ a - qOf r
  · rw [if_pos h8]; exact .inl ⟨h8, rfl⟩
  · rw [if_neg h8]
    refine .inr ⟨h8, _, rfl, ?_⟩
    split <;> omega
theorem iv_step (hP : Cl b P) (hb : b ≤ 1) (h : Iv b P S s B) (hk : k ∈ S) (hx : s.st[k]? = some x) (hn : s.n < 16777216) :
    Iv b P S (putM s k b) (B + cX b x) ∧ (putM s k b).st[k]? = some (nxX b x s.a) ∧ okX b (nxX b x s.a) ∧ (x % 2 = b → (putM s k b).a = (mpsA s.a (x / 2)).1) := by
  obtain ⟨x', hx', hok, hPx⟩ := h.ok k hk
  rw [hx] at hx'
  injection hx' with hx'
  subst hx'
  obtain ⟨N, hN, hB⟩ := h.out
  have hlo := h.wf.lo
  have hhi := h.wf.hi
  have hPn := hP x s.a hok hPx hlo hhi
  have hgk : s.st.getD k 0 = x := st_of hx
  have key : ∀ (y N' : Nat), Rs k y (putM s k b) N' → okX b y → P y → gX b y ≤ gX b x → (∀ X X', X' + (gX b x - gX b y) ≤ X → 0x8000 * N + 0x8000 + X ≤ B + s.a → 0x8000 * N' + 0x8000 + X' ≤ B + cX b x + (putM s k b).a) → Iv b P S (putM s k b) (B + cX b x) := by
    intro y N' hR hoy hPy hg hsum
    refine ⟨hR.wf, fun j hj => ?_, N', hR.out, ?_⟩
    · by_cases hjk : k = j
      · subst hjk
        exact ⟨y, hR.st, hoy, hPy⟩
      · rw [putM_oth s hjk]
        exact h.ok j hj
    · have hgy : (putM s k b).st.getD k 0 = y := st_of hR.st
      refine hsum _ _ (sum_drop (f := fun j => gX b (s.st.getD j 0)) (g := fun j => gX b ((putM s k b).st.getD j 0)) hk (fun j hj => ?_) ?_) hB
      · by_cases hjk : k = j
        · subst hjk
          show gX b ((putM s k b).st.getD k 0) ≤ gX b (s.st.getD k 0)
          rw [hgy, hgk]
          exact hg
        · show gX b ((putM s k b).st.getD j 0) ≤ gX b (s.st.getD j 0)
          rw [List.getD_eq_getElem?_getD, putM_oth s hjk, ← List.getD_eq_getElem?_getD]
          exact Nat.le_refl _
      · show gX b ((putM s k b).st.getD k 0) + _ ≤ gX b (s.st.getD k 0)
        rw [hgy, hgk]
        omega
  rcases hok with ⟨hm, hr⟩ | ⟨rfl, hl⟩
  · have hxe : x = 2 * (x / 2) + b := by omega
    have hRs : Rs k (2 * (x / 2) + b) s N := ⟨h.wf, by rw [← hxe]; exact hx, hN⟩
    obtain ⟨g1, g2⟩ := rs_mps hRs hb hn
    obtain ⟨c1, _, _, c4, _⟩ := ch_step hr
    have hnx : nxX b x s.a = 2 * (mpsA s.a (x / 2)).2.1 + b := by unfold nxX; rw [if_pos hm]
    have hgx : gX b x = chS (x / 2) := by unfold gX; rw [if_pos hm]
    have hgr : ∀ r, gX b (2 * r + b) = chS r := fun r => by unfold gX; rw [if_pos (by omega), show (2 * r + b) / 2 = r by omega]
    have hcx : cX b x = if mOf (x / 2) = x / 2 then 2 else qOf (x / 2) := by unfold cX; rw [if_pos hm]
    have hq1 := qOf_pos (r := x / 2) (by omega)
    have hq2 := qOf_le (r := x / 2) (by omega)
    refine ⟨?_, by rw [hnx]; exact g1.st, ?_, fun _ => g2⟩
    · refine key _ _ g1 ?_ (by rw [← hnx]; exact hPn) ?_ fun X X' hX hB => ?_
      · rcases mps_row s.a (x / 2) hlo with ⟨_, e⟩ | ⟨_, v, e, _⟩
        · rw [e]; exact .inl ⟨by dsimp only; omega, by dsimp only; omega⟩
        · rw [e]; exact .inl ⟨by dsimp only; omega, by dsimp only; omega⟩
      · rw [hgx, hgr]
        rcases mps_row s.a (x / 2) hlo with ⟨_, e⟩ | ⟨_, v, e, _⟩
        · rw [e]; exact Nat.le_refl _
        · rw [e]
          rcases c4 with ⟨c4, _⟩ | ⟨_, c4⟩
          · dsimp only; rw [c4]; exact Nat.le_refl _
          · dsimp only; omega
      · rw [hgx, hgr] at hX
        rw [g2, hcx]
        rcases mps_row s.a (x / 2) hlo with ⟨h8, e⟩ | ⟨h8, v, e, hv⟩
        · rw [e] at hX ⊢
          dsimp only at hX ⊢
          split
          · rename_i h9
            rcases c4 with ⟨_, c4⟩ | ⟨c4, _⟩
            · omega
            · exact absurd h9 c4
          · omega
        · rw [e] at hX ⊢
          dsimp only at hX ⊢
          rcases c4 with ⟨c4, c5⟩ | ⟨c4, c5⟩
          · rw [if_pos c4]
            omega
          · rw [if_neg c4]
            omega
    · rw [hnx]
      rcases mps_row s.a (x / 2) hlo with ⟨_, e⟩ | ⟨_, v, e, _⟩
      · rw [e]; exact .inl ⟨by dsimp only; omega, by dsimp only; omega⟩
      · rw [e]; exact .inl ⟨by dsimp only; omega, by dsimp only; omega⟩
  · have hRs : Rs k x s N := ⟨h.wf, hx, hN⟩
    have hne : 1 ≠ x % 2 := by rcases hl with rfl | rfl | rfl <;> decide
    have hq : 0x2000 ≤ qOf (x / 2) := by rcases hl with rfl | rfl | rfl <;> decide
    have g1 := rs_lps hRs hne hn hq
    have hnx : nxX 1 x s.a = upL x := by unfold nxX; rw [if_neg (fun e => hne e.symm)]
    have hu : okX 1 (upL x) ∧ gX 1 (upL x) + 0x18000 ≤ gX 1 x := by
      have u0 : upL 0 = 3 := by decide
      have u2 : upL 2 = 12 := by decide
      have u12 : upL 12 = 13 := by decide
      have g0 : gX 1 0 = 0x18000 + chS 1 := rfl
      have g3 : gX 1 3 = chS 1 := rfl
      have g2 : gX 1 2 = 0x30000 + chS 6 := rfl
      have g12 : gX 1 12 = 0x18000 + chS 6 := rfl
      have g13 : gX 1 13 = chS 6 := rfl
      rcases hl with rfl | rfl | rfl
      · rw [u0, g0, g3]; exact ⟨.inl ⟨by decide, by decide⟩, by omega⟩
      · rw [u2, g2, g12]; exact ⟨.inr ⟨rfl, .inr (.inr rfl)⟩, by omega⟩
      · rw [u12, g12, g13]; exact ⟨.inl ⟨by decide, by decide⟩, by omega⟩
    refine ⟨?_, by rw [hnx]; exact g1.st, by rw [hnx]; exact hu.1, fun hh => absurd hh.symm hne⟩
    refine key _ _ g1 hu.1 (by rw [← hnx]; exact hPn) (by omega) fun X X' hX hB => ?_
    have h9 := g1.wf.lo
    have h10 := hu.2
    omega

/-- A list of decisions. -/
def runD (s : Cod) (D : List (Nat × Nat)) : Cod := D.foldl (fun s d => putM s d.1 d.2) s
theorem runD_n (s : Cod) (D : List (Nat × Nat)) : (runD s D).n = s.n + D.length := by
  induction D generalizing s with
  | nil => rfl
  | cons d D ih =>
    show (runD (putM s d.1 d.2) D).n = _
    rw [ih, (putM_n s d.1 d.2).1, List.length_cons]
    omega
theorem iv_list (hP : Cl b P) (hb : b ≤ 1) {c : Nat} (hc : ∀ x, okX b x → P x → cX b x ≤ c) : ∀ (D : List (Nat × Nat)) {s : Cod} {B : Nat}, Iv b P S s B → (∀ d ∈ D, d.1 ∈ S ∧ d.2 = b) → s.n + D.length ≤ 16777216 → Iv b P S (runD s D) (B + c * D.length)
  | [], s, B, h, _, _ => h
  | d :: D, s, B, h, hD, hn => by
    rw [List.length_cons] at hn
    obtain ⟨h1, h2⟩ := hD d (by simp)
    obtain ⟨x, hx, hox, hPx⟩ := h.ok _ h1
    obtain ⟨g1, _⟩ := iv_step hP hb h h1 hx (by omega)
    have hcx := hc x hox hPx
    have g2 := iv_list hP hb hc D g1 (fun e he => hD e (List.mem_cons_of_mem _ he)) (by rw [(putM_n s d.1 b).1]; omega)
    have e : runD s (d :: D) = runD (putM s d.1 b) D := by show runD (putM s d.1 d.2) D = _; rw [h2]
    rw [e]
    obtain ⟨N, n1, n2⟩ := g2.out
    refine ⟨g2.wf, g2.ok, N, n1, ?_⟩
    rw [List.length_cons, Nat.mul_add, Nat.mul_one]
    omega

/-- What is left of a run in one context. -/
def eX (a r : Nat) : Nat := if qOf r ≤ 0xAC1 then 0 else (a - 0x8000) + qOf r + xS (mOf r)
def eY (b x a : Nat) : Nat := if x % 2 = b then eX a (x / 2) else 0x100000
theorem eX_le {a r : Nat} (h2 : a < 0x10000) (hr : r < 46) : eX a r ≤ xS r := by
  unfold eX
  split
  · exact Nat.zero_le _
  · rcases (ch_step hr).2.2.2.2 with ⟨h, _⟩ | ⟨_, h⟩
    · omega
    · omega
theorem eX_step {a r : Nat} (h1 : 0x8000 ≤ a) (h2 : a < 0x10000) (hr : r < 46) : (if mOf r = r then 2 else qOf r) + eX (mpsA a r).1 (mpsA a r).2.1 ≤ eX a r + 0xAC1 := by
  have hq2 := qOf_le (r := r) (by omega)
  obtain ⟨c1, _, _, c4, c5⟩ := ch_step hr
  have hc2 : (if mOf r = r then 2 else qOf r) ≤ qOf r ∨ qOf r = 1 ∧ (if mOf r = r then 2 else qOf r) = 2 := by
    rcases c4 with ⟨e, e1⟩ | ⟨e, _⟩
    · exact .inr ⟨e1, by rw [if_pos e]⟩
    · rw [if_neg e]; exact .inl (Nat.le_refl _)
  rcases mps_row a r h1 with ⟨h8, e⟩ | ⟨h8, v, e, hv⟩
  · rw [e]
    dsimp only
    unfold eX
    by_cases h9 : qOf r ≤ 0xAC1
    · rw [if_pos h9, if_pos h9]; omega
    · rw [if_neg h9, if_neg h9]; omega
  · have hv2 : 2 * v < 0x10000 := by
      have := congrArg Prod.fst e
      unfold mpsA at this
      rw [if_neg h8] at this
      have this : 2 * (if a - qOf r < qOf r then qOf r else a - qOf r) = 2 * v := this
      split at this <;> omega
    have h10 := eX_le hv2 c1
    rw [e]
    dsimp only
    rcases c5 with ⟨h9, h9'⟩ | ⟨h9, h11⟩
    · have z1 : eX (2 * v) (mOf r) = 0 := by unfold eX; rw [if_pos h9']
      rw [z1]
      omega
    · have z2 : eX a r = (a - 0x8000) + qOf r + xS (mOf r) := by unfold eX; rw [if_neg (by omega)]
      rw [z2]
      omega
theorem eY_le {b x a : Nat} (h : okX b x) (h2 : a < 0x10000) : eY b x a ≤ 0x100000 := by
  unfold eY
  split
  · rename_i hm
    rcases h with ⟨_, hr⟩ | ⟨rfl, hl⟩
    · exact Nat.le_trans (eX_le h2 hr) (ch_step hr).2.1
    · rcases hl with rfl | rfl | rfl <;> exact absurd hm (by decide)
  · exact Nat.le_refl _
/-- The same context again and again. -/
theorem run_iv (hP : Cl b P) (hb : b ≤ 1) (h : Iv b P S s B) (hk : k ∈ S) (hx : s.st[k]? = some x) : ∀ n, s.n + n ≤ 16777216 → ∃ y B', Iv b P S (sameM k b s n) B' ∧ (sameM k b s n).st[k]? = some y ∧ (sameM k b s n).n = s.n + n ∧ B' + eY b y (sameM k b s n).a ≤ B + eY b x s.a + 0xAC1 * n
  | 0, _ => ⟨x, B, h, hx, rfl, Nat.le_refl _⟩
  | n + 1, hn => by
    obtain ⟨y, B', g1, g2, g3, g4⟩ := run_iv hP hb h hk hx n (by omega)
    obtain ⟨z, hz, hoz, _⟩ := g1.ok k hk
    rw [g2] at hz
    injection hz with hz
    subst hz
    obtain ⟨k1, k2, k3, k4⟩ := iv_step hP hb g1 hk g2 (by omega)
    have hlo := g1.wf.lo
    have hhi := g1.wf.hi
    refine ⟨_, _, k1, k2, ?_, ?_⟩
    · show (putM _ k b).n = _
      rw [(putM_n _ k b).1, g3]
      omega
    · show B' + cX b y + eY b (nxX b y (sameM k b s n).a) (putM (sameM k b s n) k b).a ≤ _
      by_cases hm : y % 2 = b
      · have hr : y / 2 < 46 := by
          rcases hoz with ⟨_, hr⟩ | ⟨_, hl⟩
          · exact hr
          · rcases hl with rfl | rfl | rfl <;> decide
        rw [k4 hm]
        have hnx : nxX b y (sameM k b s n).a = 2 * (mpsA (sameM k b s n).a (y / 2)).2.1 + b := by unfold nxX; rw [if_pos hm]
        have hs := eX_step hlo hhi hr
        have e1 : eY b y (sameM k b s n).a = eX (sameM k b s n).a (y / 2) := by unfold eY; rw [if_pos hm]
        have e2 : ∀ r a, eY b (2 * r + b) a = eX a r := fun r a => by unfold eY; rw [if_pos (by omega), show (2 * r + b) / 2 = r by omega]
        have e3 : cX b y = if mOf (y / 2) = y / 2 then 2 else qOf (y / 2) := by unfold cX; rw [if_pos hm]
        rw [hnx, e2, e3]
        rw [e1] at g4
        omega
      · have e1 : eY b y (sameM k b s n).a = 0x100000 := by unfold eY; rw [if_neg hm]
        have e3 : cX b y = 0 := by unfold cX; rw [if_neg hm]
        have := eY_le k3 k1.wf.hi
        rw [e3]
        rw [e1] at g4
        omega
theorem iv_new {m : Nat} {S : List Nat} (hS : ∀ k ∈ S, k < m) (hb : b ≤ 1) (hP : P 0) : Iv b P S (newC m) (S.length * gX b 0) := by
  have hst : ∀ k ∈ S, (newC m).st[k]? = some 0 := fun k hk => by simp [newC, hS k hk]
  have hox : okX b 0 := by
    have : b = 0 ∨ b = 1 := by omega
    rcases this with rfl | rfl
    · exact .inl ⟨rfl, by decide⟩
    · exact .inr ⟨rfl, .inl rfl⟩
  refine ⟨newC_wf m, fun k hk => ⟨0, hst k hk, hox, hP⟩, 0, by simp [newC], ?_⟩
  have hsum : ∀ S : List Nat, (∀ k ∈ S, (newC m).st[k]? = some 0) → (S.map fun k => gX b ((newC m).st.getD k 0)).sum ≤ S.length * gX b 0 := by
    intro S
    induction S with
    | nil => intro _; exact Nat.zero_le _
    | cons k S ih =>
      intro h
      rw [List.map_cons, List.sum_cons, List.length_cons, Nat.add_mul, Nat.one_mul, st_of (h k (by simp))]
      have := ih fun j hj => h j (List.mem_cons_of_mem _ hj)
      omega
  have := hsum S hst
  have ha : (newC m).a = 0x8000 := rfl
  rw [ha]
  omega
theorem Iv.more (h : Iv b P S s B) {B' : Nat} (hB : B ≤ B') : Iv b P S s B' := by
  obtain ⟨N, n1, n2⟩ := h.out
  exact ⟨h.wf, h.ok, N, n1, by omega⟩
/-- How many bytes. -/
theorem Iv.bytes (h : Iv b P S s B) : 229376 * s.bs.length ≤ B + 0x8000 := by
  obtain ⟨N, n1, n2⟩ := h.out
  have := h.wf.t12
  have := h.wf.hi
  omega
end
end Go.Ar

/- ShF: decisions that are all 1: contexts that have settled; the range reckoned out. No Go, no memory. -/
set_option linter.unusedVariables false
set_option linter.unusedSimpArgs false
namespace Go.Ar

def lowR (r : Nat) : Prop := r = 1 ∨ r = 2 ∨ r < 46 ∧ qOf r ≤ 0xAC1
def lowX (x : Nat) : Prop := x = 0 ∨ x % 2 = 1 ∧ lowR (x / 2)
def setX (x : Nat) : Prop := x % 2 = 1 ∧ x / 2 < 46 ∧ qOf (x / 2) ≤ 0xAC1
def midX (x : Nat) : Prop := x % 2 = 1 ∧ (x / 2 = 2 ∨ x / 2 < 46 ∧ qOf (x / 2) ≤ 0xAC1)
theorem nx_cases {x a : Nat} (hm : x % 2 = 1) (ha : 0x8000 ≤ a) : nxX 1 x a = 2 * (x / 2) + 1 ∧ (mpsA a (x / 2)).1 = a - qOf (x / 2) ∧ 0x8000 ≤ a - qOf (x / 2) ∨ nxX 1 x a = 2 * mOf (x / 2) + 1 := by
  unfold nxX
  rw [if_pos hm]
  rcases mps_row a (x / 2) ha with ⟨h, e⟩ | ⟨_, v, e, _⟩
  · rw [e]; exact .inl ⟨rfl, rfl, h⟩
  · rw [e]; exact .inr rfl
theorem lowR_next {r : Nat} (h : lowR r) : lowR (mOf r) := by
  rcases h with rfl | rfl | ⟨h1, h2⟩
  · exact .inr (.inl (by decide))
  · exact .inr (.inr (by decide))
  · obtain ⟨c1, _, _, _, c5⟩ := ch_step h1
    rcases c5 with ⟨_, c⟩ | ⟨c, _⟩
    · exact .inr (.inr ⟨c1, c⟩)
    · omega
theorem setX_next {x a : Nat} (h : setX x) (ha : 0x8000 ≤ a) : setX (nxX 1 x a) := by
  obtain ⟨h1, h2, h3⟩ := h
  obtain ⟨c1, _, _, _, c5⟩ := ch_step h2
  rcases nx_cases h1 ha with ⟨e, _⟩ | e
  · rw [e]; exact ⟨by omega, by omega, by rw [show (2 * (x / 2) + 1) / 2 = x / 2 by omega]; exact h3⟩
  · rw [e]
    refine ⟨by omega, by omega, ?_⟩
    rw [show (2 * mOf (x / 2) + 1) / 2 = mOf (x / 2) by omega]
    rcases c5 with ⟨_, c⟩ | ⟨c, _⟩
    · exact c
    · omega
theorem cl_low : Cl 1 lowX := fun x a hok hP h1 h2 => by
  rcases hP with rfl | ⟨hm, hl⟩
  · exact .inr (by show nxX 1 0 a % 2 = 1 ∧ lowR (nxX 1 0 a / 2); rw [show nxX 1 0 a = 3 from rfl]; exact ⟨by decide, .inl (by decide)⟩)
  · rcases nx_cases hm h1 with ⟨e, _⟩ | e
    · rw [e]; exact .inr ⟨by omega, by rw [show (2 * (x / 2) + 1) / 2 = x / 2 by omega]; exact hl⟩
    · rw [e]; exact .inr ⟨by omega, by rw [show (2 * mOf (x / 2) + 1) / 2 = mOf (x / 2) by omega]; exact lowR_next hl⟩
theorem cl_mid : Cl 1 midX := fun x a hok hP h1 h2 => by
  obtain ⟨hm, hl⟩ := hP
  rcases nx_cases hm h1 with ⟨e, _⟩ | e
  · rw [e]; exact ⟨by omega, by rw [show (2 * (x / 2) + 1) / 2 = x / 2 by omega]; exact hl⟩
  · rw [e]
    refine ⟨by omega, ?_⟩
    rw [show (2 * mOf (x / 2) + 1) / 2 = mOf (x / 2) by omega]
    rcases hl with hl | ⟨h3, h4⟩
    · rw [hl]; exact .inr (by decide)
    · rcases lowR_next (.inr (.inr ⟨h3, h4⟩)) with h5 | h5 | h5
      · obtain ⟨_, _, _, _, c5⟩ := ch_step h3
        rw [h5] at c5
        exact absurd c5 (by intro hh; rcases hh with ⟨_, hh⟩ | ⟨hh, _⟩; exact absurd hh (by decide); omega)
      · exact .inl h5
      · exact .inr h5
theorem cl_all (b : Nat) : Cl b (fun _ => True) := fun _ _ _ _ _ _ => trivial
theorem cX_low : ∀ x, okX 1 x → lowX x → cX 1 x ≤ 0x3401 := fun x _ h => by
  unfold cX
  rcases h with rfl | ⟨hm, hl⟩
  · rw [if_neg (by decide)]; omega
  · rw [if_pos hm]
    split
    · omega
    · rcases hl with h | h | ⟨_, h⟩
      · rw [h]; decide
      · rw [h]; decide
      · omega
theorem cX_mid : ∀ x, okX 1 x → midX x → cX 1 x ≤ 0x1801 := fun x _ h => by
  unfold cX
  obtain ⟨hm, hl⟩ := h
  rw [if_pos hm]
  split
  · omega
  · rcases hl with h | ⟨_, h⟩
    · rw [h]; decide
    · omega

/-- How many decisions until a context has settled, at most. -/
def stg (x a : Nat) : Nat := if x = 0 then 10 else if x / 2 = 1 then (a - 0x8000) / 0x3401 + 7 else if x / 2 = 2 then (a - 0x8000) / 0x1801 + 1 else 0
theorem stg_le {x a : Nat} (h : a < 0x10000) : stg x a ≤ 10 := by
  unfold stg
  (repeat' split) <;> omega
theorem q12 : qOf 1 = 0x3401 ∧ qOf 2 = 0x1801 ∧ mOf 1 = 2 ∧ mOf 2 = 3 := ⟨by decide, by decide, by decide, by decide⟩
theorem set_stg {x a : Nat} (h : setX x) : stg x a = 0 := by
  obtain ⟨h1, h2, h3⟩ := h
  obtain ⟨q1, q2, _, _⟩ := q12
  unfold stg
  rw [if_neg (by omega), if_neg (fun e => by rw [e, q1] at h3; omega), if_neg (fun e => by rw [e, q2] at h3; omega)]
theorem stg_set {x a : Nat} (h : lowX x) (hs : stg x a = 0) : setX x := by
  unfold stg at hs
  rcases h with rfl | ⟨hm, hl⟩
  · cases hs
  · rw [if_neg (by omega)] at hs
    rcases hl with h | h | ⟨h1, h2⟩
    · rw [if_pos h] at hs; omega
    · rw [if_neg (by omega), if_pos h] at hs; omega
    · exact ⟨hm, h1, h2⟩
theorem stg_next {x a a' : Nat} (h : lowX x) (h1 : 0x8000 ≤ a) (h2 : a < 0x10000) (ha' : x % 2 = 1 → a' = (mpsA a (x / 2)).1) (h3 : a' < 0x10000) : stg (nxX 1 x a) a' + 1 ≤ stg x a ∨ stg (nxX 1 x a) a' = 0 := by
  obtain ⟨q1, q2, m1, m2⟩ := q12
  rcases h with rfl | ⟨hm, hl⟩
  · have e : nxX 1 0 a = 3 := rfl
    rw [e]
    refine .inl ?_
    unfold stg
    rw [if_neg (by decide), if_pos (by decide), if_pos rfl]
    omega
  · have ha' := ha' hm
    by_cases hset : setX x
    · exact .inr (set_stg (setX_next hset h1))
    rcases hl with hr | hr | ⟨hr1, hr2⟩
    · rcases nx_cases hm h1 with ⟨e, e2, e3⟩ | e
      · rw [hr, q1] at e2 e3
        rw [e, ha', hr, e2]
        refine .inl ?_
        unfold stg
        rw [if_neg (by decide), if_pos (by decide), if_neg (by omega), if_pos hr]
        omega
      · rw [e, hr, m1]
        refine .inl ?_
        unfold stg
        rw [if_neg (by decide), if_neg (by decide), if_pos (by decide), if_neg (by omega), if_pos hr]
        omega
    · rcases nx_cases hm h1 with ⟨e, e2, e3⟩ | e
      · rw [hr, q2] at e2 e3
        rw [e, ha', hr, e2]
        refine .inl ?_
        unfold stg
        rw [if_neg (by decide), if_neg (by decide), if_pos (by decide), if_neg (by omega), if_neg (by omega), if_pos hr]
        omega
      · rw [e, hr, m2]
        exact .inr (by unfold stg; rw [if_neg (by decide), if_neg (by decide), if_neg (by decide)])
    · exact absurd ⟨hm, hr1, hr2⟩ hset
section
variable {B k x : Nat} {S : List Nat} {s : Cod}
theorem run_stg (h : Iv 1 lowX S s B) (hk : k ∈ S) (hx : s.st[k]? = some x) : ∀ n, s.n + n ≤ 16777216 → ∃ y, (sameM k 1 s n).st[k]? = some y ∧ stg y (sameM k 1 s n).a ≤ stg x s.a - n
  | 0, _ => ⟨x, hx, Nat.le_refl _⟩
  | n + 1, hn => by
    obtain ⟨y, h1, h2⟩ := run_stg h hk hx n (by omega)
    obtain ⟨y', B', g1, g2, g3, _⟩ := run_iv cl_low (by decide) h hk hx n (by omega)
    rw [h1] at g2
    injection g2 with g2
    subst g2
    obtain ⟨z, hz, hoz, hPz⟩ := g1.ok k hk
    rw [h1] at hz
    injection hz with hz
    subst hz
    obtain ⟨k1, k2, _, k4⟩ := iv_step cl_low (by decide) g1 hk h1 (by omega)
    refine ⟨_, k2, ?_⟩
    have h5 := stg_next hPz g1.wf.lo g1.wf.hi k4 k1.wf.hi
    show stg _ (putM (sameM k 1 s n) k 1).a ≤ _
    omega
theorem set_list {P : Nat → Prop} (hP : Cl 1 P) : ∀ (D : List (Nat × Nat)) {s : Cod} {B x : Nat}, Iv 1 P S s B → (∀ d ∈ D, d.1 ∈ S ∧ d.2 = 1) → s.n + D.length ≤ 16777216 → s.st[k]? = some x → setX x → ∃ y, (runD s D).st[k]? = some y ∧ setX y
  | [], s, B, x, _, _, _, hx, hs => ⟨x, hx, hs⟩
  | d :: D, s, B, x, h, hD, hn, hx, hs => by
    rw [List.length_cons] at hn
    obtain ⟨h1, h2⟩ := hD d (by simp)
    obtain ⟨z, hz, _, _⟩ := h.ok _ h1
    obtain ⟨g1, g2, _⟩ := iv_step hP (by decide) h h1 hz (by omega)
    have e : runD s (d :: D) = runD (putM s d.1 1) D := by show runD (putM s d.1 d.2) D = _; rw [h2]
    rw [e]
    have hnx : ∃ y, (putM s d.1 1).st[k]? = some y ∧ setX y := by
      by_cases hdk : d.1 = k
      · rw [hdk, hx] at hz
        injection hz with hz
        subst hz
        rw [hdk] at g2 ⊢
        exact ⟨_, g2, setX_next hs h.wf.lo⟩
      · exact ⟨x, by rw [putM_oth s hdk]; exact hx, hs⟩
    obtain ⟨y, hy, hys⟩ := hnx
    exact set_list hP D g1 (fun e he => hD e (List.mem_cons_of_mem _ he)) (by rw [(putM_n s d.1 1).1]; omega) hy hys
theorem runD_app (s : Cod) (D E : List (Nat × Nat)) : runD s (D ++ E) = runD (runD s D) E := List.foldl_append
theorem sameM_runD (k b : Nat) (s : Cod) : ∀ n, sameM k b s n = runD s (List.replicate n (k, b))
  | 0 => rfl
  | n + 1 => by
    rw [List.replicate_succ', runD_app, ← sameM_runD k b s n]
    rfl
/-- A row of pixels: some at its ends, and a run. -/
theorem row_iv (h : Iv 1 lowX S s B) (hk : k ∈ S) {D1 D2 : List (Nat × Nat)} (h1 : ∀ d ∈ D1, d.1 ∈ S ∧ d.2 = 1) (h2 : ∀ d ∈ D2, d.1 ∈ S ∧ d.2 = 1) {n : Nat} (hl1 : D1.length ≤ 4) (hl2 : D2.length ≤ 3) (hn : s.n + n + 7 ≤ 16777216) (hn10 : 10 ≤ n) :
    Iv 1 lowX S (runD s (D1 ++ (List.replicate n (k, 1) ++ D2))) (B + 0x3401 * 7 + 0xAC1 * n + 0x100000) ∧ (∃ y, (runD s (D1 ++ (List.replicate n (k, 1) ++ D2))).st[k]? = some y ∧ setX y) ∧
    ((∃ y, s.st[k]? = some y ∧ setX y) → Iv 1 lowX S (runD s (D1 ++ (List.replicate n (k, 1) ++ D2))) (B + 0x3401 * 7 + 0xAC1 * n)) := by
  have g1 := iv_list cl_low (by decide) cX_low D1 h h1 (by omega)
  have gn : (runD s D1).n = s.n + D1.length := runD_n s D1
  obtain ⟨x, hx, hox, hPx⟩ := g1.ok k hk
  obtain ⟨y, B', k1, k2, k3, k4⟩ := run_iv cl_low (by decide) g1 hk hx n (by omega)
  obtain ⟨y', hy', hys⟩ := run_stg g1 hk hx n (by omega)
  rw [k2] at hy'
  injection hy' with hy'
  subst hy'
  obtain ⟨z, hz, _, hPz⟩ := k1.ok k hk
  rw [k2] at hz
  injection hz with hz
  subst hz
  have hT := stg_le (x := x) g1.wf.hi
  have hset := stg_set hPz (a := (sameM k 1 (runD s D1) n).a) (by omega)
  have e : runD s (D1 ++ (List.replicate n (k, 1) ++ D2)) = runD (sameM k 1 (runD s D1) n) D2 := by rw [runD_app, runD_app, sameM_runD]
  have m1 := iv_list cl_low (by decide) cX_low D2 k1 h2 (by omega)
  have m2 := set_list cl_low D2 k1 h2 (by omega) k2 hset
  rw [e]
  have hE := eY_le hox (a := (runD s D1).a) g1.wf.hi
  refine ⟨m1.more ?_, m2, fun ⟨y0, hy0, hs0⟩ => m1.more ?_⟩
  · have : 0x3401 * D1.length ≤ 0x3401 * 4 := Nat.mul_le_mul_left _ hl1
    have : 0x3401 * D2.length ≤ 0x3401 * 3 := Nat.mul_le_mul_left _ hl2
    omega
  · obtain ⟨y1, hy1, hs1⟩ := set_list cl_low D1 h h1 (by omega) hy0 hs0
    rw [hx] at hy1
    injection hy1 with hy1
    subst hy1
    have e0 : eY 1 x (runD s D1).a = 0 := by
      unfold eY eX
      rw [if_pos hs1.1, if_pos hs1.2.2]
    have : 0x3401 * D1.length ≤ 0x3401 * 4 := Nat.mul_le_mul_left _ hl1
    have : 0x3401 * D2.length ≤ 0x3401 * 3 := Nat.mul_le_mul_left _ hl2
    omega
end

/-! ### the range reckoned out -/
def force {β : Type} (a : Nat) (f : Nat → β) : β := match a with
  | 0 => f 0
  | n + 1 => f (n + 1)
theorem force_eq {β : Type} (a : Nat) (f : Nat → β) : force a f = f a := by cases a <;> rfl
def getA : List (Nat × Nat) → Nat → Nat
  | [], _ => 0
  | z :: l, k => if Nat.beq z.1 k then z.2 else getA l k
def setA : List (Nat × Nat) → Nat → Nat → List (Nat × Nat)
  | [], k, v => [(k, v)]
  | z :: l, k, v => if Nat.beq z.1 k then (k, v) :: l else z :: setA l k v
theorem getA_set (l : List (Nat × Nat)) (k v j : Nat) : getA (setA l k v) j = if k = j then v else getA l j := by
  induction l with
  | nil =>
    show (if Nat.beq k j then v else 0) = _
    by_cases h : k = j
    · rw [if_pos h, if_pos (by rw [h]; exact Nat.beq_refl j)]
    · rw [if_neg h, if_neg (fun hh => h (Nat.eq_of_beq_eq_true hh))]
      rfl
  | cons z l ih =>
    unfold setA
    by_cases hz : z.1 = k
    · rw [if_pos (by rw [hz]; exact Nat.beq_refl k)]
      show (if Nat.beq k j then v else getA l j) = if k = j then v else (if Nat.beq z.1 j then z.2 else getA l j)
      by_cases h : k = j
      · rw [if_pos h, if_pos (by rw [h]; exact Nat.beq_refl j)]
      · rw [if_neg h, if_neg (fun hh => h (Nat.eq_of_beq_eq_true hh)), if_neg (fun hh => h (hz.symm.trans (Nat.eq_of_beq_eq_true hh)))]
    · rw [if_neg (fun hh => hz (Nat.eq_of_beq_eq_true hh))]
      show (if Nat.beq z.1 j then z.2 else getA (setA l k v) j) = if k = j then v else (if Nat.beq z.1 j then z.2 else getA l j)
      rw [ih]
      by_cases h : k = j
      · rw [if_pos h, if_pos h, if_neg (fun hh => hz ((Nat.eq_of_beq_eq_true hh).trans h.symm))]
      · rw [if_neg h, if_neg h]
def stepA (z : Nat × List (Nat × Nat)) (k : Nat) : Nat × List (Nat × Nat) :=
  force (getA z.2 k) fun x => force z.1 fun a => if Nat.beq x 0 then force (lpsA a).1 fun a' => (a', setA z.2 k 3) else force (mpsA a (x / 2)).1 fun a' => force (2 * (mpsA a (x / 2)).2.1 + 1) fun y => (a', setA z.2 k y)
def simA (ks : List Nat) (z : Nat × List (Nat × Nat)) : Nat × List (Nat × Nat) := ks.foldl stepA z
/-- The coder as it is reckoned out. -/
structure Sm (S : List Nat) (s : Cod) (z : Nat × List (Nat × Nat)) : Prop where
  a : s.a = z.1
  st : ∀ k ∈ S, s.st[k]? = some (getA z.2 k)
theorem lps_a {k : Nat} {s : Cod} (hs : Wf s) (hx : s.st[k]? = some 0) : (putM s k 1).a = (lpsA s.a).1 := by
  have hlo := hs.lo
  have hhi := hs.hi
  have hca := hs.ca
  have hput : putM s k 1 = if s.a - 0x5601 < 0x5601 then renewM 17 { s with a := s.a - 0x5601, c := s.c + 0x5601, n := s.n + 1, st := s.st.set k 3 }
      else renewM 17 { s with a := 0x5601, n := s.n + 1, st := s.st.set k 3 } := by
    have hq0 : qOf (0 / 2) = 0x5601 := rfl
    have hu : upL 0 = 3 := rfl
    unfold putM
    simp only [st_of hx]
    rw [if_neg (show ¬ 1 = 0 % 2 by decide), hq0, hu]
  have fin : ∀ (c0 a0 : Nat), 0x2000 ≤ a0 → a0 < 0x8000 → c0 + a0 ≤ s.c + s.a → (renewM 17 { s with a := a0, c := c0, n := s.n + 1, st := s.st.set k 3 }).a = (if 0x4000 ≤ a0 then (2 * a0, 1) else (4 * a0, 2)).1 := by
    intro c0 a0 h1 h2 h3
    have hmid : Mid { s with a := a0, c := c0, n := s.n + 1, st := s.st.set k 3 } := ⟨hs.t1, hs.t12, by show c0 + a0 < 2 ^ (28 - s.t); omega, hs.l, hs.bs, set_lt hs.st (by decide)⟩
    obtain ⟨g1, g2, g3, g4, g5, g6⟩ := shiftM_mid hmid h2
    by_cases h4 : 0x4000 ≤ a0
    · rw [if_pos h4]
      rw [renew_one hmid h4 h2]
      exact g2
    · rw [if_neg h4]
      rw [renew_two hmid h1 (by show a0 < _; omega)]
      obtain ⟨k1, k2, _⟩ := shiftM_mid g1 (by rw [g2]; show 2 * a0 < _; omega)
      rw [k2, g2]
      show 2 * (2 * a0) = 4 * a0
      omega
  rw [hput]
  unfold lpsA
  by_cases hq : s.a - 0x5601 < 0x5601
  · rw [if_pos hq]
    simp only [if_pos hq]
    exact fin _ _ (by omega) (by omega) (by omega)
  · rw [if_neg hq]
    simp only [if_neg hq]
    exact fin _ _ (by omega) (by omega) (by omega)
set_option maxRecDepth 100000 in
theorem sm_list {S : List Nat} : ∀ (D : List Nat) {s : Cod} {B : Nat} {z : Nat × List (Nat × Nat)}, Iv 1 lowX S s B → Sm S s z → (∀ k ∈ D, k ∈ S) → s.n + D.length ≤ 16777216 → Sm S (runD s (D.map fun k => (k, 1))) (simA D z)
  | [], s, B, z, _, hz, _, _ => hz
  | k :: D, s, B, z, h, hz, hD, hn => by
    rw [List.length_cons] at hn
    have hk := hD k (by simp)
    obtain ⟨x, hx, _, hPx⟩ := h.ok k hk
    have hg := hz.st k hk
    rw [hx] at hg
    injection hg with hg
    obtain ⟨g1, g2, _, g4⟩ := iv_step cl_low (by decide) h hk hx (by omega)
    have ha : (putM s k 1).a = (stepA z k).1 := by
      unfold stepA
      rw [force_eq, force_eq, ← hg, ← hz.a]
      rcases hPx with rfl | ⟨hm, _⟩
      · rw [if_pos (show Nat.beq 0 0 = true from rfl), force_eq, lps_a h.wf hx]
      · rw [if_neg (fun hh => by have := Nat.eq_of_beq_eq_true hh; omega), force_eq, force_eq, g4 hm]
    show Sm S (runD (putM s k 1) (D.map fun k => (k, 1))) (simA D (stepA z k))
    refine sm_list D (z := stepA z k) g1 ⟨ha, fun j hj => ?_⟩ (fun j hj => hD j (List.mem_cons_of_mem _ hj)) (by rw [(putM_n s k 1).1]; omega)
    · have hst : (stepA z k).2 = setA z.2 k (nxX 1 x s.a) := by
        unfold stepA
        rw [force_eq, force_eq, ← hg, ← hz.a]
        rcases hPx with rfl | ⟨hm, _⟩
        · rw [if_pos (show Nat.beq 0 0 = true from rfl), force_eq]
          rfl
        · rw [if_neg (fun hh => by have := Nat.eq_of_beq_eq_true hh; omega), force_eq, force_eq]
          unfold nxX
          rw [if_pos hm]
      rw [hst, getA_set]
      by_cases hkj : k = j
      · subst hkj
        rw [if_pos rfl]
        exact g2
      · rw [if_neg hkj, putM_oth s hkj]
        exact hz.st j hj
end Go.Ar

/- GnU: bitmaps whose pixels are all alike: how many bytes. -/
set_option linter.unusedVariables false
set_option linter.unusedSimpArgs false
namespace Go.Bm
open Go Go.Den Go.Den.Yteakipgcanafoaa
open Go.Ar (newC idx Iv lowX midX setX okX gX runD simA getA)

def blk (W : Nat) : Int → Int → Bool := fun x y => decide (0 ≤ x ∧ x < (W : Int) ∧ 0 ≤ y)
def kkS (t W y x : Nat) : Nat := gctx t (blk W) (x : Int) (y : Int)
theorem plcs_in {t : Nat} (ht : t < 4) : ∀ p ∈ plcs (spanL t), -4 ≤ p.1 ∧ p.1 ≤ 3 ∧ -2 ≤ p.2 ∧ p.2 ≤ 0 := by
  have : t = 0 ∨ t = 1 ∨ t = 2 ∨ t = 3 := by omega
  rcases this with rfl | rfl | rfl | rfl <;> decide
theorem gctx_cong {t : Nat} {G G' : Int → Int → Bool} {x y x' y' : Int} (h : ∀ p ∈ plcs (spanL t), G (x + p.1) (y + p.2) = G' (x' + p.1) (y' + p.2)) : gctx t G x y = gctx t G' x' y' := by
  unfold gctx pb
  congr 1
  exact List.map_congr_left h
section
variable {W H t : Nat} {G : Int → Int → Bool}
theorem key_black (ht : t < 4) (hG : ∀ x y : Int, y < (H : Int) → G x y = blk W x y) {y : Nat} (hy : y < H) (x : Nat) : gctx t G (x : Int) (y : Int) = kkS t W (min y 2) x := by
  unfold kkS
  refine gctx_cong fun p hp => ?_
  obtain ⟨_, _, h3, h4⟩ := plcs_in ht p hp
  rw [hG _ _ (by omega)]
  unfold blk
  rw [decide_eq_decide]
  omega
theorem kk_mid (ht : t < 4) {x y : Nat} (h1 : 4 ≤ x) (h2 : x + 3 < W) : kkS t W y x = kkS t W y 4 := by
  unfold kkS
  refine gctx_cong fun p hp => ?_
  obtain ⟨h3, h4, _, _⟩ := plcs_in ht p hp
  unfold blk
  rw [decide_eq_decide]
  omega
theorem idx_ctx (t : Nat) (G : Int → Int → Bool) (x y : Int) : idx (0 + ((gctx t G x y : Nat) : Int)) (gsize t + 1) = gctx t G x y := by
  have := gctx_lt t G x y
  rw [Int.zero_add]
  exact Go.Ar.idx_nat (by omega)
theorem idx_skip (t : Nat) : idx (0 + ((gsize t : Nat) : Int)) (gsize t + 1) = gsize t := by
  rw [Int.zero_add]
  exact Go.Ar.idx_nat (by omega)
def keysR (t W y : Nat) : List Nat := (List.range W).map (kkS t W y)
theorem row_black (ht : t < 4) (hG : ∀ x y : Int, y < (H : Int) → G x y = blk W x y) {y : Nat} (hy : y < H) : dsRow G (gsize t + 1) t 0 y W = (keysR t W (min y 2)).map fun k => (k, 1) := by
  unfold dsRow keysR
  rw [List.map_map]
  refine List.map_congr_left fun x hx => ?_
  have hx := List.mem_range.1 hx
  rw [idx_ctx, key_black ht hG hy, hG _ _ (by omega)]
  have : blk W (x : Int) (y : Int) = true := by unfold blk; exact decide_eq_true ⟨by omega, by omega, by omega⟩
  rw [this]
  rfl
theorem cdL_runD (m : Nat) : ∀ (D L : List (Nat × Nat)), cdL m (L ++ D) = runD (cdL m L) D
  | [], L => by rw [List.append_nil]; rfl
  | d :: D, L => by
    rw [show L ++ d :: D = (L ++ [d]) ++ D by simp, cdL_runD m D, cdL_snoc]
    rfl
theorem cdL_new (m : Nat) (D : List (Nat × Nat)) : cdL m D = runD (Go.Ar.newC m) D := by
  have := cdL_runD m D []
  rw [List.nil_append] at this
  exact this
theorem kk_lt (t W y x : Nat) : kkS t W y x < gsize t := gctx_lt _ _ _ _
/-! ### wide bitmaps -/
def keysW (t W y : Nat) : List Nat := [0, 1, 2, 3, 4, W - 3, W - 2, W - 1].map (kkS t W y)
theorem mem_W (ht : t < 4) (hW : 17 ≤ W) {y x : Nat} (hx : x < W) : kkS t W y x ∈ keysW t W y := by
  unfold keysW
  rcases Nat.lt_or_ge x 4 with h | h
  · have : x = 0 ∨ x = 1 ∨ x = 2 ∨ x = 3 := by omega
    rcases this with rfl | rfl | rfl | rfl <;> simp
  · rcases Nat.lt_or_ge (x + 3) W with h2 | h2
    · rw [kk_mid ht h h2]; simp
    · have : x = W - 3 ∨ x = W - 2 ∨ x = W - 1 := by omega
      rcases this with rfl | rfl | rfl <;> simp
theorem row_split (ht : t < 4) (hW : 17 ≤ W) (y : Nat) : (keysR t W y).map (fun k => (k, 1)) = ((List.range' 0 4).map fun x => (kkS t W y x, 1)) ++ (List.replicate (W - 7) (kkS t W y 4, 1) ++ ((List.range' (W - 3) 3).map fun x => (kkS t W y x, 1))) := by
  have e : List.range W = List.range' 0 4 ++ (List.range' 4 (W - 7) ++ List.range' (W - 3) 3) := by
    have e1 : List.range' 4 (W - 7) ++ List.range' (W - 3) 3 = List.range' 4 (W - 7 + 3) := by
      have := List.range'_append_1 (s := 4) (m := W - 7) (n := 3)
      rw [show 4 + (W - 7) = W - 3 by omega] at this
      rw [this]
    have e2 : List.range' 0 4 ++ List.range' 4 (W - 7 + 3) = List.range' 0 (4 + (W - 7 + 3)) := by
      have := List.range'_append_1 (s := 0) (m := 4) (n := W - 7 + 3)
      rw [show 0 + 4 = 4 by omega] at this
      rw [this]
    rw [e1, e2, List.range_eq_range', show 4 + (W - 7 + 3) = W by omega]
  unfold keysR
  rw [List.map_map, e, List.map_append, List.map_append]
  congr 1
  congr 1
  refine List.eq_replicate_iff.2 ⟨by simp, fun z hz => ?_⟩
  obtain ⟨x, hx, rfl⟩ := List.mem_map.1 hz
  have hx := List.mem_range'_1.1 hx
  show (kkS t W y x, 1) = _
  rw [kk_mid ht (by omega) (by omega)]
def keysS (t W : Nat) : List Nat := keysW t W 0 ++ (keysW t W 1 ++ keysW t W 2)
theorem sub_S (t W : Nat) {y : Nat} (hy : y ≤ 2) : ∀ k ∈ keysW t W y, k ∈ keysS t W := fun k hk => by
  unfold keysS
  have : y = 0 ∨ y = 1 ∨ y = 2 := by omega
  rcases this with rfl | rfl | rfl
  · exact List.mem_append_left _ hk
  · exact List.mem_append_right _ (List.mem_append_left _ hk)
  · exact List.mem_append_right _ (List.mem_append_right _ hk)
theorem lt_S (t W : Nat) : ∀ k ∈ keysS t W, k < gsize t + 1 := fun k hk => by
  have key : ∀ y, k ∈ keysW t W y → k < gsize t + 1 := fun y hk => by
    unfold keysW at hk
    obtain ⟨x, _, rfl⟩ := List.mem_map.1 hk
    have := kk_lt t W y x
    omega
  unfold keysS at hk
  rcases List.mem_append.1 hk with hk | hk
  · exact key _ hk
  · rcases List.mem_append.1 hk with hk | hk
    · exact key _ hk
    · exact key _ hk
theorem g10 : gX 1 0 ≤ 0x20000 ∧ gX 0 0 ≤ 0x20000 ∧ gX 1 2 ≤ 0x130000 := ⟨by decide +kernel, by decide +kernel, by decide +kernel⟩
theorem cdL_n {m : Nat} (L : List (Nat × Nat)) : (cdL m L).n = L.length := by
  have := cdL_runD m L []
  rw [List.nil_append] at this
  rw [this, Go.Ar.runD_n]
  show 0 + _ = _
  omega
theorem wide_iv (ht : t < 4) (hW : 17 ≤ W) (hWH : W * H ≤ 40000) (hG : ∀ x y : Int, y < (H : Int) → G x y = blk W x y) : ∀ y, y ≤ H →
    Iv 1 lowX (keysS t W) (cdL (gsize t + 1) (dsG G W (gsize t + 1) t false 0 y)) (24 * gX 1 0 + min y 3 * 0x100000 + y * (0x3401 * 7 + 0xAC1 * (W - 7))) ∧
      (3 ≤ y → ∃ z, (cdL (gsize t + 1) (dsG G W (gsize t + 1) t false 0 y)).st[kkS t W 2 4]? = some z ∧ setX z)
  | 0, _ => by
    refine ⟨?_, fun h => by omega⟩
    have h := Go.Ar.iv_new (b := 1) (P := lowX) (m := gsize t + 1) (S := keysS t W) (lt_S t W) (by decide) (.inl rfl)
    have hl : (keysS t W).length = 24 := by simp [keysS, keysW]
    rw [hl] at h
    exact h.more (by omega)
  | y + 1, hy => by
    obtain ⟨h1, h2⟩ := wide_iv ht hW hWH hG y (by omega)
    have hlen := dsG_len G W (gsize t + 1) t false 0 y
    have hyW : y * (W + 1) ≤ 80000 := by
      have a1 : y * W ≤ H * W := Nat.mul_le_mul_right _ (by omega)
      have a2 : y * 1 ≤ y * W := Nat.mul_le_mul_left _ (by omega)
      rw [Nat.mul_comm H W] at a1
      rw [Nat.mul_add]
      omega
    have hW4 : W ≤ 40000 := by
      have : W * 1 ≤ W * H := Nat.mul_le_mul_left _ (by omega)
      omega
    have e : dsG G W (gsize t + 1) t false 0 (y + 1) = dsG G W (gsize t + 1) t false 0 y ++ dsRow G (gsize t + 1) t 0 y W := rfl
    rw [e, cdL_runD, row_black ht hG (by omega), row_split ht hW]
    have hy2 : min y 2 ≤ 2 := Nat.min_le_right _ _
    have hmem : ∀ x, x < W → kkS t W (min y 2) x ∈ keysS t W := fun x hx => sub_S t W hy2 _ (mem_W ht hW hx)
    have hD : ∀ s n, s + n ≤ W → ∀ d ∈ (List.range' s n).map fun x => (kkS t W (min y 2) x, 1), d.1 ∈ keysS t W ∧ d.2 = 1 := fun s n hs d hd => by
      obtain ⟨x, hx, rfl⟩ := List.mem_map.1 hd
      have hx := List.mem_range'_1.1 hx
      exact ⟨hmem x (by omega), rfl⟩
    have hn : (cdL (gsize t + 1) (dsG G W (gsize t + 1) t false 0 y)).n + (W - 7) + 7 ≤ 16777216 := by rw [cdL_n]; omega
    obtain ⟨r1, r2, r3⟩ := Go.Ar.row_iv h1 (hmem 4 (by omega)) (n := W - 7) (hD 0 4 (by omega)) (hD (W - 3) 3 (by omega)) (by simp) (by simp) hn (by omega)
    have hmul : (y + 1) * (0x3401 * 7 + 0xAC1 * (W - 7)) = y * (0x3401 * 7 + 0xAC1 * (W - 7)) + (0x3401 * 7 + 0xAC1 * (W - 7)) := by rw [Nat.add_mul, Nat.one_mul]
    rw [hmul]
    rcases Nat.lt_or_ge y 3 with h3 | h3
    · refine ⟨r1.more ?_, fun h4 => ?_⟩
      · rw [show min (y + 1) 3 = min y 3 + 1 by omega, Nat.add_mul, Nat.one_mul]
        omega
      · rw [show min y 2 = 2 by omega] at r2
        rw [show min y 2 = 2 by omega]
        exact r2
    · refine ⟨(r3 ?_).more ?_, fun _ => ?_⟩
      · rw [show min y 2 = 2 by omega]
        exact h2 h3
      · rw [show min (y + 1) 3 = 3 by omega, show min y 3 = 3 by omega]
        omega
      · rw [show min y 2 = 2 by omega] at r2
        rw [show min y 2 = 2 by omega]
        exact r2
theorem wide_bytes (ht : t < 4) (hW : 17 ≤ W) (hWH : W * H ≤ 40000) (hG : ∀ x y : Int, y < (H : Int) → G x y = blk W x y) : (cdL (gsize t + 1) (dsG G W (gsize t + 1) t false 0 H)).bs.length + 2 ≤ 160 + W * H / 32 := by
  obtain ⟨h1, _⟩ := wide_iv ht hW hWH hG H (Nat.le_refl _)
  have hb := h1.bytes
  have hg := g10.1
  have e1 : H * (0x3401 * 7 + 0xAC1 * (W - 7)) + H * 19271 = H * 93191 + H * (2753 * W) := by
    rw [← Nat.mul_add, ← Nat.mul_add]
    congr 1
    omega
  have e2 : H * 73920 ≤ H * (4415 * W) := Nat.mul_le_mul_left _ (by omega)
  have e3 : H * (2753 * W) = 2753 * (W * H) := by rw [Nat.mul_comm H, Nat.mul_assoc]
  have e4 : H * (4415 * W) = 4415 * (W * H) := by rw [Nat.mul_comm H, Nat.mul_assoc]
  have e5 : H * 93191 = H * 73920 + H * 19271 := by omega
  have e6 : min H 3 * 0x100000 ≤ 3 * 0x100000 := Nat.mul_le_mul_right _ (Nat.min_le_right _ _)
  generalize H * (0x3401 * 7 + 0xAC1 * (W - 7)) = Z at hb e1
  generalize W * H = A at hWH e3 e4 ⊢
  omega
/-! ### narrow bitmaps -/
def keysN (t W : Nat) : List Nat := keysR t W 0 ++ (keysR t W 1 ++ keysR t W 2)
theorem sub_N (t W : Nat) {y : Nat} (hy : y ≤ 2) : ∀ k ∈ keysR t W y, k ∈ keysN t W := fun k hk => by
  unfold keysN
  have : y = 0 ∨ y = 1 ∨ y = 2 := by omega
  rcases this with rfl | rfl | rfl
  · exact List.mem_append_left _ hk
  · exact List.mem_append_right _ (List.mem_append_left _ hk)
  · exact List.mem_append_right _ (List.mem_append_right _ hk)
theorem lt_R (t W y : Nat) : ∀ k ∈ keysR t W y, k < gsize t + 1 := fun k hk => by
  unfold keysR at hk
  obtain ⟨x, _, rfl⟩ := List.mem_map.1 hk
  have := kk_lt t W y x
  omega
theorem lt_N (t W : Nat) : ∀ k ∈ keysN t W, k < gsize t + 1 := fun k hk => by
  unfold keysN at hk
  rcases List.mem_append.1 hk with hk | hk
  · exact lt_R _ _ _ k hk
  · rcases List.mem_append.1 hk with hk | hk
    · exact lt_R _ _ _ k hk
    · exact lt_R _ _ _ k hk
def rowsK (t W : Nat) : Nat → List Nat
  | 0 => []
  | y + 1 => rowsK t W y ++ keysR t W (min y 2)
theorem ds_rowsK (ht : t < 4) (hG : ∀ x y : Int, y < (H : Int) → G x y = blk W x y) : ∀ y, y ≤ H → dsG G W (gsize t + 1) t false 0 y = (rowsK t W y).map fun k => (k, 1)
  | 0, _ => rfl
  | y + 1, hy => by
    show dsG G W (gsize t + 1) t false 0 y ++ dsRow G (gsize t + 1) t 0 y W = (rowsK t W y ++ keysR t W (min y 2)).map _
    rw [ds_rowsK ht hG y (by omega), row_black ht hG (by omega), List.map_append]
theorem rowsK_mem (t W : Nat) : ∀ y, ∀ k ∈ rowsK t W y, k ∈ keysN t W
  | 0 => fun k hk => by cases hk
  | y + 1 => fun k hk => by
    rcases List.mem_append.1 (show k ∈ rowsK t W y ++ keysR t W (min y 2) from hk) with hk | hk
    · exact rowsK_mem t W y k hk
    · exact sub_N t W (Nat.min_le_right _ _) k hk
theorem rowsK_len (t W : Nat) : ∀ y, (rowsK t W y).length = y * W
  | 0 => by simp [rowsK]
  | y + 1 => by
    show (rowsK t W y ++ keysR t W (min y 2)).length = _
    rw [List.length_append, rowsK_len t W y, Nat.add_mul, Nat.one_mul]
    simp [keysR]
def midB (x : Nat) : Bool := Nat.beq (x % 2) 1 && (Nat.beq (x / 2) 2 || (Nat.blt (x / 2) 46 && Nat.ble (Go.Ar.qOf (x / 2)) 0xAC1))
theorem midB_of {x : Nat} (h : midB x = true) : midX x ∧ okX 1 x := by
  unfold midB at h
  simp only [Bool.and_eq_true, Bool.or_eq_true] at h
  obtain ⟨h1, h2⟩ := h
  have h1 := Nat.eq_of_beq_eq_true h1
  rcases h2 with h2 | ⟨h2, h3⟩
  · have h2 := Nat.eq_of_beq_eq_true h2
    exact ⟨⟨h1, .inl h2⟩, .inl ⟨h1, by omega⟩⟩
  · have h2 : x / 2 < 46 := Nat.le_of_ble_eq_true h2
    exact ⟨⟨h1, .inr ⟨h2, Nat.le_of_ble_eq_true h3⟩⟩, .inl ⟨h1, h2⟩⟩
def chkZ (ks : List Nat) (z : Nat × List (Nat × Nat)) : Bool := ks.all fun k => midB (getA z.2 k)
def chkN (t W : Nat) : Bool := chkZ (keysR t W 2) (simA (rowsK t W 16) (0x8000, []))
def chkT (t : Nat) : Bool := (List.range 16).all fun w => chkN t (w + 1)
set_option maxRecDepth 100000 in
theorem chkT0 : chkT 0 = true := by kernel_rfl
set_option maxRecDepth 100000 in
theorem chkT1 : chkT 1 = true := by kernel_rfl
set_option maxRecDepth 100000 in
theorem chkT2 : chkT 2 = true := by kernel_rfl
set_option maxRecDepth 100000 in
theorem chkT3 : chkT 3 = true := by kernel_rfl
theorem chkN_t (ht : t < 4) (h1 : 1 ≤ W) (h2 : W < 17) : chkN t W = true := by
  have key : chkT t = true := by
    have : t = 0 ∨ t = 1 ∨ t = 2 ∨ t = 3 := by omega
    rcases this with rfl | rfl | rfl | rfl
    · exact chkT0
    · exact chkT1
    · exact chkT2
    · exact chkT3
  have := List.all_eq_true.1 key (W - 1) (List.mem_range.2 (by omega))
  rw [show W - 1 + 1 = W by omega] at this
  exact this
theorem narrow_iv (ht : t < 4) (h1 : 1 ≤ W) (h2 : W < 17) (hWH : W * H ≤ 40000) (hG : ∀ x y : Int, y < (H : Int) → G x y = blk W x y) {y : Nat} (hy : y ≤ H) : Iv 1 lowX (keysN t W) (cdL (gsize t + 1) (dsG G W (gsize t + 1) t false 0 y)) (48 * gX 1 0 + 0x3401 * (y * W)) := by
  have h := Go.Ar.iv_new (b := 1) (P := lowX) (m := gsize t + 1) (S := keysN t W) (lt_N t W) (by decide) (.inl rfl)
  have hl : (keysN t W).length ≤ 48 := by simp [keysN, keysR]; omega
  have hyW : y * W ≤ 40000 := by
    have a1 : y * W ≤ H * W := Nat.mul_le_mul_right _ hy
    rw [Nat.mul_comm H W] at a1
    omega
  have hk := Go.Ar.iv_list Go.Ar.cl_low (by decide) Go.Ar.cX_low ((rowsK t W y).map fun k => (k, 1)) h (fun d hd => by
    obtain ⟨k, hk, rfl⟩ := List.mem_map.1 hd
    exact ⟨rowsK_mem t W y k hk, rfl⟩) (by rw [List.length_map, rowsK_len]; show 0 + _ ≤ _; omega)
  rw [List.length_map, rowsK_len] at hk
  rw [ds_rowsK ht hG y hy]
  rw [cdL_new]
  refine hk.more ?_
  have : (keysN t W).length * gX 1 0 ≤ 48 * gX 1 0 := Nat.mul_le_mul_right _ hl
  omega
theorem narrow_mid (ht : t < 4) (h1 : 1 ≤ W) (h2 : W < 17) (hWH : W * H ≤ 40000) (h16 : 16 ≤ H) (hG : ∀ x y : Int, y < (H : Int) → G x y = blk W x y) : Iv 1 midX (keysR t W 2) (cdL (gsize t + 1) (dsG G W (gsize t + 1) t false 0 16)) (48 * gX 1 0 + 0x3401 * (16 * W)) := by
  have h := narrow_iv ht h1 h2 hWH hG h16
  have hn0 := Go.Ar.iv_new (b := 1) (P := lowX) (m := gsize t + 1) (S := keysN t W) (lt_N t W) (by decide) (.inl rfl)
  have hsm := Go.Ar.sm_list (rowsK t W 16) (z := (0x8000, [])) hn0 ⟨rfl, fun k hk => by simp [Go.Ar.newC, lt_N t W k hk, getA]⟩ (rowsK_mem t W 16) (by rw [rowsK_len]; show 0 + _ ≤ _; omega)
  have e : cdL (gsize t + 1) (dsG G W (gsize t + 1) t false 0 16) = runD (Go.Ar.newC (gsize t + 1)) ((rowsK t W 16).map fun k => (k, 1)) := by
    rw [ds_rowsK ht hG 16 h16, cdL_new]
  rw [← e] at hsm
  have hchk := chkN_t ht h1 h2
  obtain ⟨N, n1, n2⟩ := h.out
  refine ⟨h.wf, fun k hk => ?_, N, n1, ?_⟩
  · obtain ⟨m1, m2⟩ := midB_of (List.all_eq_true.1 hchk k hk)
    exact ⟨_, hsm.st k (sub_N t W (Nat.le_refl 2) k hk), m2, m1⟩
  · unfold keysN at n2
    rw [List.map_append, List.sum_append, List.map_append, List.sum_append] at n2
    omega
theorem narrow_bytes (ht : t < 4) (h1 : 1 ≤ W) (h2 : W < 17) (hWH : W * H ≤ 40000) (hG : ∀ x y : Int, y < (H : Int) → G x y = blk W x y) : (cdL (gsize t + 1) (dsG G W (gsize t + 1) t false 0 H)).bs.length + 2 ≤ 160 + W * H / 32 := by
  have hg := g10.1
  rcases Nat.lt_or_ge H 16 with h16 | h16
  · have hb := (narrow_iv ht h1 h2 hWH hG (Nat.le_refl H)).bytes
    have : H * W ≤ 16 * 16 := Nat.mul_le_mul (by omega) (by omega)
    omega
  · have hm := narrow_mid ht h1 h2 hWH h16 hG
    have key : ∀ j, 16 + j ≤ H → Iv 1 midX (keysR t W 2) (cdL (gsize t + 1) (dsG G W (gsize t + 1) t false 0 (16 + j))) (48 * gX 1 0 + 0x3401 * (16 * W) + 0x1801 * (j * W)) := by
      intro j
      induction j with
      | zero => intro _; exact hm.more (by omega)
      | succ j ih =>
        intro hj
        have ih := ih (by omega)
        have hlen := dsG_len G W (gsize t + 1) t false 0 (16 + j)
        have hyW : (16 + j) * (W + 1) ≤ 80000 := by
          have a1 : (16 + j) * W ≤ H * W := Nat.mul_le_mul_right _ (by omega)
          have a2 : (16 + j) * 1 ≤ (16 + j) * W := Nat.mul_le_mul_left _ (by omega)
          rw [Nat.mul_comm H W] at a1
          rw [Nat.mul_add]
          omega
        have e : dsG G W (gsize t + 1) t false 0 (16 + (j + 1)) = dsG G W (gsize t + 1) t false 0 (16 + j) ++ dsRow G (gsize t + 1) t 0 (16 + j) W := rfl
        rw [e, cdL_runD, row_black ht hG (by omega), show min (16 + j) 2 = 2 by omega]
        have h3 := Go.Ar.iv_list Go.Ar.cl_mid (by decide) Go.Ar.cX_mid ((keysR t W 2).map fun k => (k, 1)) ih (fun d hd => by
          obtain ⟨k, hk, rfl⟩ := List.mem_map.1 hd
          exact ⟨hk, rfl⟩) (by rw [cdL_n]; simp [keysR]; omega)
        refine h3.more ?_
        have hl : ((keysR t W 2).map fun k => (k, 1)).length = W := by simp [keysR]
        rw [hl, Nat.add_mul, Nat.one_mul]
        omega
    have hb := (key (H - 16) (by omega)).bytes
    rw [show 16 + (H - 16) = H by omega] at hb
    have e1 : (H - 16) * W ≤ W * H := by rw [Nat.mul_comm]; exact Nat.mul_le_mul_left _ (by omega)
    generalize (H - 16) * W = Z at hb e1
    generalize W * H = A at hWH e1 ⊢
    omega
end
end Go.Bm

/- GnV: bitmaps whose pixels are all alike: white ones, and with rows skipped. -/
set_option linter.unusedVariables false
set_option linter.unusedSimpArgs false
namespace Go.Bm
open Go Go.Den Go.Den.Yteakipgcanafoaa
open Go.Ar (Cod putM Iv gX runD Rs)

section
variable {W H t : Nat} {G : Int → Int → Bool}
/-- The same context from the first decision on. -/
theorem one_bytes {m k b n : Nat} (hk : k < m) (hb : b ≤ 1) (hn : n ≤ 16777216) : 229376 * (cdL m (List.replicate n (k, b))).bs.length ≤ 0x130000 + 0x100000 + 0xAC1 * n + 0x8000 := by
  have h := Go.Ar.iv_new (b := b) (P := fun _ => True) (m := m) (S := [k]) (fun j hj => by rw [List.mem_singleton.1 hj]; exact hk) hb trivial
  have hx : (Go.Ar.newC m).st[k]? = some 0 := by simp [Go.Ar.newC, hk]
  obtain ⟨x, hx', hox, _⟩ := h.ok k (List.mem_singleton.2 rfl)
  rw [hx] at hx'
  injection hx' with hx'
  subst hx'
  obtain ⟨y, B', g1, _, _, g4⟩ := Go.Ar.run_iv (Go.Ar.cl_all b) hb h (List.mem_singleton.2 rfl) hx n (by show 0 + n ≤ _; omega)
  have hE := Go.Ar.eY_le hox (a := (Go.Ar.newC m).a) (by show 0x8000 < _; omega)
  have hg := Go.Ar.gX_le hox
  rw [Go.Ar.sameM_runD, ← cdL_new] at g1
  have hb := g1.bytes
  rw [List.length_singleton, Nat.one_mul] at g4
  omega
theorem hWH4 (hW : 1 ≤ W) (hWH : W * H ≤ 40000) : H ≤ 40000 := by
  have : 1 * H ≤ W * H := Nat.mul_le_mul_right _ hW
  omega
theorem white_ds (ht : t < 4) (hG : ∀ x y : Int, G x y = false) : ∀ y, dsG G W (gsize t + 1) t false 0 y = List.replicate (y * W) (gctx t (fun _ _ => false) 0 0, 0)
  | 0 => by rw [Nat.zero_mul]; rfl
  | y + 1 => by
    show dsG G W (gsize t + 1) t false 0 y ++ dsRow G (gsize t + 1) t 0 y W = _
    rw [white_ds ht hG y, Nat.add_mul, Nat.one_mul, ← List.replicate_append_replicate]
    congr 1
    refine List.eq_replicate_iff.2 ⟨by simp [dsRow], fun z hz => ?_⟩
    unfold dsRow at hz
    obtain ⟨x, _, rfl⟩ := List.mem_map.1 hz
    rw [idx_ctx, hG, gctx_cong (G' := fun _ _ => false) (x' := 0) (y' := 0) fun p _ => hG _ _]
    rfl
theorem white_bytes (ht : t < 4) (hW : 1 ≤ W) (hWH : W * H ≤ 40000) (hG : ∀ x y : Int, G x y = false) : (cdL (gsize t + 1) (dsG G W (gsize t + 1) t false 0 H)).bs.length + 2 ≤ 160 + W * H / 32 := by
  rw [white_ds ht hG H]
  have hlt := gctx_lt t (fun _ _ => false) 0 0
  have hb := one_bytes (m := gsize t + 1) (k := gctx t (fun _ _ => false) 0 0) (b := 0) (n := H * W) (by omega) (by decide) (by rw [Nat.mul_comm]; omega)
  rw [Nat.mul_comm H W] at hb ⊢
  generalize W * H = A at hWH hb ⊢
  omega
theorem whiteS_ds (ht : t < 4) (hG : ∀ x y : Int, G x y = false) : ∀ y, dsG G W (gsize t + 1) t true 0 y = List.replicate y (gsize t, 1)
  | 0 => rfl
  | y + 1 => by
    have hs : sameB G W y = true := by
      unfold sameB
      refine List.all_eq_true.2 fun x _ => ?_
      rw [hG, hG]
      rfl
    rw [dsG, whiteS_ds ht hG y, List.replicate_succ']
    congr 1
    simp only [dsLine, hs, idx_skip]
    rfl
theorem whiteS_bytes (ht : t < 4) (hW : 1 ≤ W) (hWH : W * H ≤ 40000) (hG : ∀ x y : Int, G x y = false) : (cdL (gsize t + 1) (dsG G W (gsize t + 1) t true 0 H)).bs.length + 2 ≤ 160 + W * H / 32 := by
  rw [whiteS_ds ht hG H]
  have h4 := hWH4 hW hWH
  have hb := one_bytes (m := gsize t + 1) (k := gsize t) (b := 1) (n := H) (by omega) (by decide) (by omega)
  have h5 : 1 * H ≤ W * H := Nat.mul_le_mul_right _ hW
  generalize W * H = A at hWH h5 ⊢
  omega
/-! ### black, rows skipped -/
theorem blackS_ds (ht : t < 4) (hW : 1 ≤ W) (hG : ∀ x y : Int, y < (H : Int) → G x y = blk W x y) : ∀ j, j < H → dsG G W (gsize t + 1) t true 0 (j + 1) = ((gsize t, 0) :: (keysR t W 0).map fun k => (k, 1)) ++ List.replicate j (gsize t, 1)
  | 0, hj => by
    have hs : sameB G W 0 = false := by
      unfold sameB
      refine Bool.eq_false_iff.2 fun h => ?_
      have h := List.all_eq_true.1 h 0 (List.mem_range.2 (by omega))
      rw [hG _ _ (by omega), hG _ _ (by omega)] at h
      have e1 : blk W ((0 : Nat) : Int) ((0 : Nat) : Int) = true := decide_eq_true ⟨by omega, by omega, by omega⟩
      have e2 : blk W ((0 : Nat) : Int) (((0 : Nat) : Int) - 1) = false := decide_eq_false (by omega)
      rw [e1, e2] at h
      cases h
    rw [List.replicate_zero, List.append_nil]
    show [] ++ dsLine G W (gsize t + 1) t true 0 0 = _
    rw [List.nil_append]
    simp only [dsLine, hs, idx_skip]
    rw [row_black ht hG hj]
    rfl
  | j + 1, hj => by
    have hs : sameB G W (j + 1) = true := by
      unfold sameB
      refine List.all_eq_true.2 fun x hx => ?_
      have hx := List.mem_range.1 hx
      rw [hG _ _ (by omega), hG _ _ (by omega)]
      have e1 : blk W (x : Int) ((j + 1 : Nat) : Int) = true := decide_eq_true ⟨by omega, by omega, by omega⟩
      have e2 : blk W (x : Int) (((j + 1 : Nat) : Int) - 1) = true := decide_eq_true ⟨by omega, by omega, by omega⟩
      rw [e1, e2]
      rfl
    rw [dsG, blackS_ds ht hW hG j (by omega), List.replicate_succ', ← List.append_assoc]
    congr 1
    simp only [dsLine, hs, idx_skip]
    rfl
/-- The first decision of a black bitmap whose rows are skipped. -/
theorem first_iv {m ks : Nat} {S : List Nat} (hks : ks < m) (hS : ∀ k ∈ S, k < m ∧ k ≠ ks) : Iv 1 (fun _ => True) (ks :: S) (putM (Go.Ar.newC m) ks 0) (0x8000 + 0x130000 + S.length * gX 1 0) := by
  have hx : (Go.Ar.newC m).st[ks]? = some (2 * 0 + 0) := by simp [Go.Ar.newC, hks]
  have hR : Rs ks (2 * 0 + 0) (Go.Ar.newC m) 0 := ⟨Go.Ar.newC_wf m, hx, by simp [Go.Ar.newC]⟩
  obtain ⟨g1, g2⟩ := Go.Ar.rs_mps hR (by decide) (by show 0 < _; omega)
  have ha : (Go.Ar.newC m).a = 0x8000 := rfl
  have em : Go.Ar.mpsA 0x8000 0 = (0xAC02, 1, 1) := by decide
  rw [ha, em] at g1 g2
  have hst : ∀ k ∈ S, (putM (Go.Ar.newC m) ks 0).st[k]? = some 0 := fun k hk => by
    obtain ⟨h1, h2⟩ := hS k hk
    rw [Go.Ar.putM_oth _ (fun e => h2 e.symm)]
    simp [Go.Ar.newC, h1]
  have g2k : (putM (Go.Ar.newC m) ks 0).st[ks]? = some 2 := g1.st
  refine ⟨g1.wf, fun k hk => ?_, _, g1.out, ?_⟩
  · rcases List.mem_cons.1 hk with rfl | hk
    · exact ⟨2, g2k, .inr ⟨rfl, .inr (.inl rfl)⟩, trivial⟩
    · exact ⟨0, hst k hk, .inr ⟨rfl, .inl rfl⟩, trivial⟩
  · rw [List.map_cons, List.sum_cons, g2, Go.Ar.st_of g2k]
    have hsum : ∀ S : List Nat, (∀ k ∈ S, (putM (Go.Ar.newC m) ks 0).st[k]? = some 0) → (S.map fun k => gX 1 ((putM (Go.Ar.newC m) ks 0).st.getD k 0)).sum ≤ S.length * gX 1 0 := by
      intro S
      induction S with
      | nil => intro _; exact Nat.zero_le _
      | cons k S ih =>
        intro h
        rw [List.map_cons, List.sum_cons, List.length_cons, Nat.add_mul, Nat.one_mul, Go.Ar.st_of (h k (by simp))]
        have := ih fun j hj => h j (List.mem_cons_of_mem _ hj)
        omega
    have h1 := hsum S hst
    have h2 := g10.2.2
    show 0x8000 * (0 + 1) + 0x8000 + _ ≤ _ + 0xAC02
    omega
theorem run_any {S : List Nat} {s : Cod} {B k n : Nat} (h : Iv 1 (fun _ => True) S s B) (hk : k ∈ S) (hn : s.n + n ≤ 16777216) : Iv 1 (fun _ => True) S (runD s (List.replicate n (k, 1))) (B + 0x100000 + 0xAC1 * n) := by
  obtain ⟨x, hx, hox, _⟩ := h.ok k hk
  obtain ⟨y, B', g1, _, _, g4⟩ := Go.Ar.run_iv (Go.Ar.cl_all 1) (by decide) h hk hx n hn
  have hE := Go.Ar.eY_le hox (a := s.a) h.wf.hi
  rw [Go.Ar.sameM_runD] at g1
  exact g1.more (by omega)
/-- Its first row. -/
theorem firstRow_iv (ht : t < 4) (hW : 1 ≤ W) (hW4 : W ≤ 40000) : ∃ S, gsize t ∈ S ∧ Iv 1 (fun _ => True) S (cdL (gsize t + 1) ((gsize t, 0) :: (keysR t W 0).map fun k => (k, 1))) (0x8000 + 0x130000 + 16 * 0x20000 + 0x5601 * 16 + 0x100000 + 0xAC1 * W) := by
  have e : ∀ D : List (Nat × Nat), cdL (gsize t + 1) ((gsize t, 0) :: D) = runD (putM (Go.Ar.newC (gsize t + 1)) (gsize t) 0) D := fun D => by rw [cdL_new]; rfl
  have hg := g10.1
  have n1 : (putM (Go.Ar.newC (gsize t + 1)) (gsize t) 0).n = 1 := (Go.Ar.putM_n _ _ _).1
  rcases Nat.lt_or_ge W 17 with h | h
  · have hf := first_iv (m := gsize t + 1) (ks := gsize t) (S := keysR t W 0) (by omega) (fun k hk => ⟨lt_R t W 0 k hk, by
      unfold keysR at hk
      obtain ⟨x, _, rfl⟩ := List.mem_map.1 hk
      have := kk_lt t W 0 x
      omega⟩)
    refine ⟨gsize t :: keysR t W 0, List.mem_cons_self .., ?_⟩
    have hl : (keysR t W 0).length = W := by simp [keysR]
    have h2 := Go.Ar.iv_list (Go.Ar.cl_all 1) (by decide) (fun x hx _ => Go.Ar.cX_le hx) ((keysR t W 0).map fun k => (k, 1)) hf (fun d hd => by
      obtain ⟨k, hk, rfl⟩ := List.mem_map.1 hd
      exact ⟨List.mem_cons_of_mem _ hk, rfl⟩) (by rw [List.length_map, hl, n1]; omega)
    rw [e]
    refine h2.more ?_
    rw [List.length_map, hl]
    have : W * gX 1 0 ≤ 16 * 0x20000 := Nat.mul_le_mul (by omega) hg
    omega
  · have hf := first_iv (m := gsize t + 1) (ks := gsize t) (S := keysW t W 0) (by omega) (fun k hk => by
      unfold keysW at hk
      obtain ⟨x, _, rfl⟩ := List.mem_map.1 hk
      have := kk_lt t W 0 x
      omega)
    refine ⟨gsize t :: keysW t W 0, List.mem_cons_self .., ?_⟩
    have hl : (keysW t W 0).length = 8 := by simp [keysW]
    rw [hl] at hf
    have hD : ∀ s n, s + n ≤ W → ∀ d ∈ (List.range' s n).map fun x => (kkS t W 0 x, 1), d.1 ∈ gsize t :: keysW t W 0 ∧ d.2 = 1 := fun s n hs d hd => by
      obtain ⟨x, hx, rfl⟩ := List.mem_map.1 hd
      have hx := List.mem_range'_1.1 hx
      exact ⟨List.mem_cons_of_mem _ (mem_W ht h (by omega)), rfl⟩
    rw [e, row_split ht h, Go.Ar.runD_app, Go.Ar.runD_app]
    have l1 : ((List.range' 0 4).map fun x => (kkS t W 0 x, 1)).length = 4 := by simp
    have l2 : ((List.range' (W - 3) 3).map fun x => (kkS t W 0 x, 1)).length = 3 := by simp
    have r1 := Go.Ar.iv_list (Go.Ar.cl_all 1) (by decide) (fun x hx _ => Go.Ar.cX_le hx) _ hf (hD 0 4 (by omega)) (by rw [l1, n1]; omega)
    have r2 := run_any (k := kkS t W 0 4) (n := W - 7) r1 (List.mem_cons_of_mem _ (mem_W ht h (by omega))) (by rw [Go.Ar.runD_n, l1, n1]; omega)
    have r3 := Go.Ar.iv_list (Go.Ar.cl_all 1) (by decide) (fun x hx _ => Go.Ar.cX_le hx) _ r2 (hD (W - 3) 3 (by omega)) (by rw [Go.Ar.runD_n, Go.Ar.runD_n, l1, l2, n1, List.length_replicate]; omega)
    refine r3.more ?_
    rw [l1, l2]
    omega
theorem blackS_bytes (ht : t < 4) (hW : 1 ≤ W) (hH : 1 ≤ H) (hWH : W * H ≤ 40000) (hG : ∀ x y : Int, y < (H : Int) → G x y = blk W x y) : (cdL (gsize t + 1) (dsG G W (gsize t + 1) t true 0 H)).bs.length + 2 ≤ 160 + W * H / 32 := by
  have h4 := hWH4 hW hWH
  have hW4 : W ≤ 40000 := by
    have : W * 1 ≤ W * H := Nat.mul_le_mul_left _ hH
    omega
  have e := blackS_ds ht hW hG (H - 1) (by omega)
  rw [show H - 1 + 1 = H by omega] at e
  rw [e, cdL_runD]
  obtain ⟨S, hks, h⟩ := firstRow_iv ht hW hW4
  have hl : ((gsize t, 0) :: (keysR t W 0).map fun k => (k, 1)).length = W + 1 := by simp [keysR]
  have hr := run_any (k := gsize t) (n := H - 1) h hks (by rw [cdL_n, hl]; omega)
  have hb := hr.bytes
  have h5 : 1 * H ≤ W * H := Nat.mul_le_mul_right _ hW
  have h6 : W * 1 ≤ W * H := Nat.mul_le_mul_left _ hH
  generalize W * H = A at hWH h5 h6 ⊢
  omega
end
/-- Few bytes, of a bitmap whose pixels are all alike. -/
theorem g_small {W H t : Nat} {skip bit : Bool} {ws : List Nat} {e : Int} {bs : List Nat} (ht : t < 4) (hm : MayP (W : Int) (H : Int) ws) (hWH : W * H ≤ 40000) (hG : ∀ x y : Int, getP ws W H x y = (bit && decide (0 ≤ x ∧ x < (W : Int) ∧ 0 ≤ y ∧ y < (H : Int))))
    (hE : GEncR (W : Int) (H : Int) ws (t : Int) skip e bs) : e = 0 ∧ bs.length ≤ 160 + W * H / 32 := by
  obtain ⟨W', H', f1, f2, hW1, hW2, hH1, hH2, hWX⟩ := size_nat hm.1
  obtain rfl : W = W' := by omega
  obtain rfl : H = H' := by omega
  obtain ⟨h1, h2, h3⟩ := hE.list ht hm
  refine ⟨h1, ?_⟩
  have hwf := (cdL_ok (m := gsize t + 1) h2).wf
  have hfl := Go.Ar.flush_bs hwf
  rw [← h3] at hfl
  have key : (cdL (gsize t + 1) (dsG (getP ws W H) W (gsize t + 1) t skip 0 H)).bs.length + 2 ≤ 160 + W * H / 32 := by
    cases bit with
    | false =>
      have hG : ∀ x y : Int, getP ws W H x y = false := fun x y => by rw [hG, Bool.false_and]
      cases skip with
      | false => exact white_bytes ht hW1 hWH hG
      | true => exact whiteS_bytes ht hW1 hWH hG
    | true =>
      have hG : ∀ x y : Int, y < (H : Int) → getP ws W H x y = blk W x y := fun x y hy => by
        rw [hG, Bool.true_and]
        unfold blk
        rw [decide_eq_decide]
        omega
      cases skip with
      | false =>
        rcases Nat.lt_or_ge W 17 with h | h
        · exact narrow_bytes ht hW1 h hWH hG
        · exact wide_bytes ht h hWH hG
      | true => exact blackS_bytes ht hW1 hH1 hWH hG
  omega
end Go.Bm

/- Written by gen.py: the conditions of the functions of law7GenericSmall. -/
set_option linter.unusedVariables false
set_option linter.unusedSimpArgs false
namespace Go.Den.Yteakipgcanafoaa
open Go Go.Den

/- burin/burinlaw7.GenericSmall -/
set_option maxRecDepth 100000 in
def burinlaw7_GenericSmall (C : CallP) (a0_1 : Int) (a0_2 : Int) (a0_3 : Int) (h : Heap) (K : Value → Heap → Prop) (Kp : List PanicEntry → Heap → Prop) : Prop :=
newC h [.int .i64 a0_1, .int .i64 a0_2, .int .i64 a0_3] T_burinlaw7_Plain fun r_4 h_5 =>
ldI h_5 ((⟨r_4, 0, none⟩ : Addr).add 0) .i64 fun x_6 =>
C F_burinkit_Within #[.int .i64 x_6, .int .i64 3000] h_5 (fun v_7 h_8 =>
∃ (r_9 : Int), v_7 = .int .i64 r_9 ∧ (
bindI (IntKind.i64.wrap ((1 : Int) + r_9)) fun z_10 =>
needs (IntKind.i64 = IntKind.i64 ∧ z_10 ≠ 0) <|
bindI (IntKind.i64.wrap ((40000 : Int).tdiv z_10)) fun z_11 =>
ldI h_8 ((⟨r_4, 0, none⟩ : Addr).add 1) .i64 fun x_12 =>
C F_burinkit_Within #[.int .i64 x_12, .int .i64 z_11] h_8 (fun v_13 h_14 =>
∃ (r_15 : Int), v_13 = .int .i64 r_15 ∧ (
bindI (IntKind.i64.wrap ((1 : Int) + r_15)) fun z_16 =>
C F_burinref0_White #[.int .i64 z_10, .int .i64 z_16] h_14 (fun v_17 h_18 =>
∃ (r_19 : Int) (r_20 : Int) (r_21 : Option Addr) (r_21n : Nat) (r_21c : Nat), v_17 = .agg #[.int .i64 r_19, .int .i64 r_20, .slice r_21 r_21n r_21c] ∧ (
newC h_18 [.int .i64 0, .int .i64 0, .slice none 0 0] T_api_Bitmap fun r_22 h_23 =>
stV h_23 ((⟨r_22, 0, none⟩ : Addr).add 0) (.int .i64 r_19) fun h_24 =>
stV h_24 ((⟨r_22, 0, none⟩ : Addr).add 1) (.int .i64 r_20) fun h_25 =>
stV h_25 ((⟨r_22, 0, none⟩ : Addr).add 2) (.slice r_21 r_21n r_21c) fun h_26 =>
∃ K_27 : List Value → Heap → Prop, (
ldI h_26 ((⟨r_4, 0, none⟩ : Addr).add 2) .i64 fun x_30 =>
bindI (bitI .and .i64 x_30 (1 : Int)) fun z_31 =>
bcase (z_31 == (1 : Int)) (
∃ J_32 : Nat → List Value → Heap → Prop, (∃ n_34, J_32 n_34 [.int .i64 0] h_26) ∧ ∀ (n_34 : Nat) (h_35 : Heap) (u_36 : Nat → Value) (x_37 : Int), J_32 n_34 [.int .i64 x_37] h_35 → (
bcase (decide (x_37 < z_16)) (
∃ J_38 : Nat → List Value → Heap → Prop, (∃ n_40, J_38 n_40 [.int .i64 0] h_35) ∧ ∀ (n_40 : Nat) (h_41 : Heap) (u_42 : Nat → Value) (x_43 : Int), J_38 n_40 [.int .i64 x_43] h_41 → (
bcase (decide (x_43 < z_10)) (
ldI h_41 ((⟨r_22, 0, none⟩ : Addr).add 0) .i64 fun x_44 =>
ldI h_41 ((⟨r_22, 0, none⟩ : Addr).add 1) .i64 fun x_45 =>
ldS h_41 ((⟨r_22, 0, none⟩ : Addr).add 2) fun x_46 x_46n x_46c =>
C F_burinref0_Put #[.agg #[.int .i64 x_44, .int .i64 x_45, .slice x_46 x_46n x_46c], .int .i64 x_43, .int .i64 x_37, .int .i64 1] h_41 (fun v_47 h_48 =>
bindI (IntKind.i64.wrap (x_43 + (1 : Int))) fun z_49 =>
∃ m_39, m_39 < n_40 ∧ J_38 m_39 [.int .i64 z_49] h_48) (Kp)) <|
bindI (IntKind.i64.wrap (x_37 + (1 : Int))) fun z_50 =>
∃ m_33, m_33 < n_34 ∧ J_32 m_33 [.int .i64 z_50] h_41)) <|
K_27 [] h_35)) <|
K_27 [] h_26) ∧ ∀ (h_28 : Heap) (u_29 : Nat → Value) , K_27 [] h_28 → (
∃ J_51 : Nat → List Value → Heap → Prop, (∃ n_53, J_51 n_53 [.int .i64 0] h_28) ∧ ∀ (n_53 : Nat) (h_54 : Heap) (u_55 : Nat → Value) (x_56 : Int), J_51 n_53 [.int .i64 x_56] h_54 → (
bcase (decide (x_56 < (4 : Int))) (
∃ J_57 : Nat → List Value → Heap → Prop, (∃ n_59, J_57 n_59 [.int .i64 0] h_54) ∧ ∀ (n_59 : Nat) (h_60 : Heap) (u_61 : Nat → Value) (x_62 : Int), J_57 n_59 [.int .i64 x_62] h_60 → (
bcase (decide (x_62 < (2 : Int))) (
ldI h_60 ((⟨r_22, 0, none⟩ : Addr).add 0) .i64 fun x_63 =>
ldI h_60 ((⟨r_22, 0, none⟩ : Addr).add 1) .i64 fun x_64 =>
ldS h_60 ((⟨r_22, 0, none⟩ : Addr).add 2) fun x_65 x_65n x_65c =>
C F_generic_Encode #[.agg #[.int .i64 x_63, .int .i64 x_64, .slice x_65 x_65n x_65c], .int .i64 x_56, .bool (x_62 == (1 : Int))] h_60 (fun v_66 h_67 =>
∃ (r_68 : Option Addr) (r_68n : Nat) (r_68c : Nat), ∃ (r_69 : Int), v_66 = .tuple #[.slice r_68 r_68n r_68c, .int .i64 r_69] ∧ (
bcase (r_69 != (0 : Int)) (
K (.bool false) h_67) <|
bindI (IntKind.i64.wrap (z_10 * z_16)) fun z_70 =>
bindI (IntKind.i64.wrap (z_70.tdiv (32 : Int))) fun z_71 =>
bindI (IntKind.i64.wrap ((160 : Int) + z_71)) fun z_72 =>
bcase (decide ((r_68n : Int) > z_72)) (
K (.bool false) h_67) <|
bindI (IntKind.i64.wrap (x_62 + (1 : Int))) fun z_73 =>
∃ m_58, m_58 < n_59 ∧ J_57 m_58 [.int .i64 z_73] h_67)) (Kp)) <|
bindI (IntKind.i64.wrap (x_56 + (1 : Int))) fun z_74 =>
∃ m_52, m_52 < n_53 ∧ J_51 m_52 [.int .i64 z_74] h_60)) <|
C F_burinlaw7_wakes #[] h_54 (fun v_75 h_76 =>
∃ (r_77 : Bool), v_75 = .bool r_77 ∧ (
K (.bool r_77) h_76)) (Kp))))) (Kp))) (Kp))) (Kp)

end Go.Den.Yteakipgcanafoaa

/- Written by gen.py: each condition of the functions of law7GenericSmall is the one of its body; so it is enough for its call. -/
set_option linter.unusedVariables false
set_option linter.unusedSimpArgs false
namespace Go.Den.Yteakipgcanafoaa
open Go Go.Den

noncomputable def hints_burinlaw7_GenericSmall : Hints := Hints.mk (fun i => bif Nat.beq i 2 then some ([4], .take 0 <| .take 2 <| .take 3 <| .take 1 <| .bar 4 [] <| .take 5 <| .take 6 <| .done) else (none))
  (fun i => bif Nat.beq i 6 then some ([(6, .int .i64)], 8795556151488) else (bif Nat.beq i 9 then some ([(7, .int .i64)], 8778913153152) else (bif Nat.beq i 13 then some ([(8, .int .i64)], 2361183232638729588484) else (bif Nat.beq i 16 then some ([(9, .int .i64)], 2361183100697334255108) else (none)))))
  (fun i => bif Nat.beq i 12 then some ([], 8796059467968) else (none)) []
set_option maxRecDepth 100000 in
theorem eq_burinlaw7_GenericSmall (C : CallP) (a0_1 : Int) (a0_2 : Int) (a0_3 : Int) (h : Heap) (K : Value → Heap → Prop) (Kp : List PanicEntry → Heap → Prop) :
    fnD Go.Proofs.Try.prog C hints_burinlaw7_GenericSmall Go.Proofs.Try.f15 [.agg #[.int .i64 a0_1, .int .i64 a0_2, .int .i64 a0_3]] h K Kp = burinlaw7_GenericSmall C a0_1 a0_2 a0_3 h K Kp := by kernel_rfl

theorem call_burinlaw7_GenericSmall {a0_1 : Int} {a0_2 : Int} {a0_3 : Int} {h : Heap} {K : Value → Heap → Prop} {Kp : List PanicEntry → Heap → Prop} (H : burinlaw7_GenericSmall (CallsHP Go.Proofs.Try.prog) a0_1 a0_2 a0_3 h K Kp) : CallsHP Go.Proofs.Try.prog F_burinlaw7_GenericSmall #[.agg #[.int .i64 a0_1, .int .i64 a0_2, .int .i64 a0_3]] h K Kp :=
  callsHP_of hints_burinlaw7_GenericSmall (by kernel_rfl) Go.Proofs.Try.func15 (by kernel_rfl) (by rw [eq_burinlaw7_GenericSmall]; exact H)

end Go.Den.Yteakipgcanafoaa
