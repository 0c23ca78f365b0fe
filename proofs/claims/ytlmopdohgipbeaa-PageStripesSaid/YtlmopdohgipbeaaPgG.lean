/- PgG: the law PageLaid, said of memory. -/
import Derived.Test.YtlmopdohgipbeaaPgF
import Derived.Test.YtlmopdohgipbeaaBlaw15PageLaid
set_option linter.unusedVariables false
set_option linter.unusedSimpArgs false
namespace Go.Bm
open Go Go.Den Go.Den.Ytlmopdohgipbeaa

theorem LaidP.step {g : Pg} {x y : Int} {W2 X2 j : Nat} {ows wsb row R2 : List Nat} (hm : MayP (W2 : Int) (X2 : Int) ows) (hj : j < X2) (h1 : LaidP g x y 0 W2 j ows wsb)
    (hrow : ∀ x', x' < 64 * wds W2 → pix row (wds W2) x' 0 = pix ows (wds W2) x' j) (h2 : LaidP { g with ws := wsb } x (y + j) 0 W2 1 row R2) : LaidP g x y 0 W2 (j + 1) ows R2 := by
  refine ⟨h2.1, h2.2.1, fun Y hY x' hx' => ?_⟩
  have e2 := h2.2.2 Y hY x' hx'
  have e1 := h1.2.2 Y hY x' hx'
  dsimp only at e2
  rw [e2, e1]
  have hwd : wds W2 = (W2 + 63) / 64 := rfl
  by_cases c1 : x ≤ x' ∧ (x' : Int) < x + W2 ∧ x' < g.W
  · by_cases c2 : (Y : Int) = y + j
    · rw [if_pos (by omega), if_neg (by omega), if_pos (by omega), show ((Y : Int) - (y + j)).toNat = 0 by omega, hrow _ (by omega), show ((Y : Int) - y).toNat = j by omega]
    · rw [if_neg (by omega)]
      by_cases c3 : y ≤ Y ∧ (Y : Int) < y + j
      · rw [if_pos (by omega), if_pos (by omega)]
      · rw [if_neg (by omega), if_neg (by omega)]
  · rw [if_neg (by omega), if_neg (by omega), if_neg (by omega)]
theorem LaidP.none {g : Pg} {x y : Int} {op W2 : Nat} {ows : List Nat} (h1 : g.ws.length = g.X * wds g.W) (h2 : W64 g.ws) : LaidP g x y op W2 0 ows g.ws :=
  ⟨h1, h2, fun Y hY x' hx' => by rw [if_neg (by omega)]⟩
theorem AddR.laid {g g' : Pg} {x y op w h e : Int} {ws2 : List Nat} (h1 : AddR g x y op w h ws2 e g') (ho : 0 ≤ op ∧ op ≤ 4) (hm : MayP w h ws2) (hn : ¬ LateP g y h) : e = 0 ∧ ∃ R, LaidP g x y op.toNat w.toNat h.toNat ws2 R ∧ g' = { g with ws := R } := by
  rcases h1 with ⟨a, _, _⟩ | ⟨_, l, _, _⟩ | ⟨_, _, b, c⟩
  · exact absurd ⟨ho.1, ho.2, hm⟩ a
  · exact absurd l hn
  · exact ⟨b, c⟩
theorem AddR.late {g g' : Pg} {x y op w h e : Int} {ws2 : List Nat} (h1 : AddR g x y op w h ws2 e g') (ho : 0 ≤ op ∧ op ≤ 4) (hm : MayP w h ws2) (hn : LateP g y h) : e = 151 ∧ g' = g := by
  rcases h1 with ⟨a, _, _⟩ | ⟨_, _, b, c⟩ | ⟨_, l, _, _⟩
  · exact absurd ⟨ho.1, ho.2, hm⟩ a
  · exact ⟨b, c⟩
  · exact absurd hn l
theorem EndR.good {g g' : Pg} {e w b : Int} {bs : List Nat} (h : EndR g e w b bs g') (hn : ¬ (g.dn = true ∨ g.s ≠ 0 ∧ g.nx < g.X)) : e = 0 ∧ w = (g.W : Nat) ∧ b = (g.X : Nat) ∧ bs = g.ws ∧ g' = { g with nx := g.X, dn := true } := by
  rcases h with ⟨a, _⟩ | ⟨_, h⟩
  · exact absurd a hn
  · exact h
theorem EndR.bad {g g' : Pg} {e w b : Int} {bs : List Nat} (h : EndR g e w b bs g') (hn : g.dn = true ∨ g.s ≠ 0 ∧ g.nx < g.X) : e = 151 ∧ w = 0 ∧ b = 0 ∧ bs = [] ∧ g' = g := by
  rcases h with ⟨_, h⟩ | ⟨a, _⟩
  · exact h
  · exact absurd hn a

set_option maxRecDepth 100000 in
set_option maxHeartbeats 2000000 in
theorem laid_law {hB : Heap} {w0 x0 d0 s0 : Int} {sq : Option Addr} {slen scap : Nat} {dq : Option Addr} {dlen dcap : Nat} (hv : OpsV hB sq slen)
    {K : Value → Heap → Prop} {Kp : List PanicEntry → Heap → Prop} (hk : ∀ h', hext hB h' → K (.bool true) h') :
    CP F_burinlaw15_PageLaid #[.agg #[.int .i64 w0, .int .i64 x0, .int .i64 d0, .int .i64 s0, .slice sq slen scap, .slice dq dlen dcap]] hB K Kp := by
  refine call_burinlaw15_PageLaid ?_
  unfold burinlaw15_PageLaid
  have H := Hp.nil hB []
  refine newC_hp H fun e h H => ?_
  try simp only [ptr_some_eq, add_mk, Nat.zero_add, Nat.add_zero]
  refine ldI_of (H.cell 0 rfl rfl) ?_
  refine ldI_of (H.cell 0 rfl rfl) ?_
  refine rsize_ok fun b hb => ?_
  refine ⟨_, rfl, ?_⟩
  refine bcase_not (fun h1 => ?_) fun h1 => ?_
  · exact wakes15_ok fun h' e => ⟨_, rfl, hk _ (H.hext.trans e)⟩
  have hs := hb.1 h1
  obtain ⟨W, X, rfl, rfl, hW1, hW2, hX1, hX2, hWX⟩ := size_nat hs
  refine ldI_of (H.cell 0 rfl rfl) ?_
  refine bindI_of (((W + 64 : Nat) : Int)) (by exact i64_at _ _ (by omega) (by omega) (by omega)) ?_
  refine ldI_of (H.cell 0 rfl rfl) ?_
  have hprod : (W + 64) * X ≤ 1048640 * 1048576 := Nat.mul_le_mul (by omega) (by omega)
  refine bindI_of ((((W + 64) * X : Nat) : Int)) (by exact i64_at _ _ mul_cast (by omega) (by omega)) ?_
  refine bcase_dec (fun h2 => ?_) fun h2 => ?_
  · exact wakes15_ok fun h' e => ⟨_, rfl, hk _ (H.hext.trans e)⟩
  refine ldI_of (H.cell 0 rfl rfl) ?_
  refine ldI_of (H.cell 0 rfl rfl) ?_
  have hsh : SheetP (W : Int) (X : Int) 0 0 := ⟨hs, .inl rfl, by omega, by omega⟩
  refine pnew_ok (fun G p m q rest h hw hx hd hss _ hn hdn hf H' => ?_) fun _ hbad _ => absurd hsh hbad
  obtain ⟨W1, X1, d, s, ws0, nx, dn⟩ := G
  dsimp only at hw hx hd hss hn hdn hf
  obtain rfl : W = W1 := by omega
  obtain rfl : X = X1 := by omega
  obtain rfl : d = 0 := by omega
  obtain rfl : s = 0 := by omega
  obtain rfl : nx = 0 := hn
  obtain rfl : dn = false := hdn
  replace H := H.join H' rfl
  clear H' hw hx hd hss
  refine ⟨_, _, rfl, ?_⟩
  refine ldI_of (H.cell 0 rfl rfl) ?_
  refine ldI_of (H.cell 0 rfl rfl) ?_
  refine pnew_ok (fun G p2 m2 q2 rest2 h hw hx hd hss _ hn hdn hf2 H' => ?_) fun _ hbad _ => absurd hsh hbad
  obtain ⟨W1, X1, d, s, ws1, nx, dn⟩ := G
  dsimp only at hw hx hd hss hn hdn hf2
  obtain rfl : W = W1 := by omega
  obtain rfl : X = X1 := by omega
  obtain rfl : d = 0 := by omega
  obtain rfl : s = 0 := by omega
  obtain rfl : nx = 0 := hn
  obtain rfl : dn = false := hdn
  have hws := hf2.eq hf
  rw [hws] at H'
  replace H := H.join H' rfl
  clear H' hw hx hd hss hws hf2 ws1
  refine ⟨_, _, rfl, ?_⟩
  refine bcase_false (by rfl) ?_
  refine bcase_false (by rfl) ?_
  refine bcase_false (by rfl) ?_
  refine bcase_false (by rfl) ?_
  generalize hE : (⟨e, true, T_burinlaw15_Script, [.int .i64 (W : Nat), .int .i64 (X : Nat), .int .i64 d0, .int .i64 s0, .slice sq slen scap, .slice dq dlen dcap]⟩ : Ent) = E at H
  have hcE : ∀ {h : Heap} {L : List Ent} {i : Nat} {v : Value} (k : Nat), Hp hB [] h L → L[k]? = some E → ([.int .i64 (W : Nat), .int .i64 (X : Nat), .int .i64 d0, .int .i64 s0, .slice sq slen scap, .slice dq dlen dcap] : List Value)[i]? = some v → hcell h ⟨e, i, none⟩ = some v := fun k H he hv => by
    rw [← hE] at he
    exact H.cell k he hv
  let In : Heap → List Nat → Prop := fun h ws => ws.length = X * wds W ∧ W64 ws ∧ Hp hB [] h ([E] ++ pgL p m q rest ⟨W, X, 0, 0, ws, 0, false⟩ ++ pgL p2 m2 q2 rest2 ⟨W, X, 0, 0, ws, 0, false⟩)
  have hIn : ∀ h ws, In h ws ↔ ws.length = X * wds W ∧ W64 ws ∧ Hp hB [] h ([E] ++ pgL p m q rest ⟨W, X, 0, 0, ws, 0, false⟩ ++ pgL p2 m2 q2 rest2 ⟨W, X, 0, 0, ws, 0, false⟩) := fun _ _ => Iff.rfl
  refine ⟨fun vs h' => ∃ ws, In h' ws, ?_, ?_⟩
  · refine ⟨fun n vs h' => ∃ (i : Nat) (ws : List Nat), i + n = 6 ∧ vs = [.int .i64 (i : Int)] ∧ In h' ws, ⟨6, 0, ws0, rfl, rfl, (hIn _ _).2 ⟨hf.1, hf.2.1, H⟩⟩, ?_⟩
    clear H
    rintro n h u xx ⟨i, ws, hin, hxx, hI⟩
    injection hxx with hxx
    injection hxx with _ hxx
    subst hxx
    obtain ⟨hl, hw, H⟩ := (hIn _ _).1 hI
    have hok : PgOk ⟨W, X, 0, 0, ws, 0, false⟩ := ⟨hs, hl, hw, Nat.zero_le _, Nat.zero_le _⟩
    try simp only [ptr_some_eq, add_mk, Nat.zero_add, Nat.add_zero]
    refine ldS_of (hcE 0 H rfl (i := 4) rfl) ?_
    refine bcase_dec (fun h3 => ?_) fun h3 => ⟨ws, hI⟩
    refine bcase_dec (fun h4 => ?_) fun h4 => ⟨ws, hI⟩
    have h3 : i < slen := by omega
    have h4 : i < 6 := by omega
    refine ldS_of (hcE 0 H rfl (i := 4) rfl) ?_
    refine needs_of (by omega) ?_
    obtain ⟨a, od, ox, oy, oop, ow, ob, ows, hsq, hop⟩ := hv i h3
    rw [hsq]
    obtain ⟨oq, oc, hc6, hor⟩ := hop.c6
    simp only [ptr_some_eq, Int.toNat_natCast]
    have fr : ∀ {c : Addr} {v : Value}, hcell hB c = some v → hcell h c = some v := fun hc => H.fr.cell (by simp) hc
    refine ldI_of (fr hop.c0) ?_
    refine ldI_of (fr hop.c1) ?_
    refine ldI_of (fr hop.c2) ?_
    refine ldI_of (fr hop.c3) ?_
    refine ldI_of (fr hop.c4) ?_
    refine ldI_of (fr hop.c5) ?_
    refine ldS_of (fr hc6) ?_
    clear fr
    refine newC_hp H fun r55 h H => ?_
    try simp only [ptr_some_eq, add_mk, Nat.zero_add, Nat.add_zero]
    refine stV_hp H 7 rfl (by first | exact Nat.le_of_ble_eq_true rfl | simp) rfl fun h hsz H => ?_
    refine stV_hp H 7 rfl (by first | exact Nat.le_of_ble_eq_true rfl | simp) rfl fun h hsz H => ?_
    refine stV_hp H 7 rfl (by first | exact Nat.le_of_ble_eq_true rfl | simp) rfl fun h hsz H => ?_
    refine stV_hp H 7 rfl (by first | exact Nat.le_of_ble_eq_true rfl | simp) rfl fun h hsz H => ?_
    refine stV_hp H 7 rfl (by first | exact Nat.le_of_ble_eq_true rfl | simp) rfl fun h hsz H => ?_
    refine stV_hp H 7 rfl (by first | exact Nat.le_of_ble_eq_true rfl | simp) rfl fun h hsz H => ?_
    refine stV_hp H 7 rfl (by first | exact Nat.le_of_ble_eq_true rfl | simp) rfl fun h hsz H => ?_
    have H : Hp hB [] h ([E] ++ pgL p m q rest ⟨W, X, 0, 0, ws, 0, false⟩ ++ pgL p2 m2 q2 rest2 ⟨W, X, 0, 0, ws, 0, false⟩ ++ [⟨r55, true, T_burinlaw15_Op, [.int .i64 od, .int .i64 ox, .int .i64 oy, .int .i64 oop, .int .i64 ow, .int .i64 ob, .slice oq ows.length oc]⟩]) := H
    clear hI
    refine ldI_of (H.cell 7 rfl rfl) ?_
    refine wi_ok (by omega) (by omega) fun z1 hz1 hz2 => ?_
    refine ⟨_, rfl, ?_⟩
    refine bindI_of ((z1 - 10)) (by exact i64_in _ (by omega) (by omega)) ?_
    refine ldI_of (H.cell 7 rfl rfl) ?_
    refine wi_ok (by omega) (by omega) fun y1 hy1 hy2 => ?_
    refine ⟨_, rfl, ?_⟩
    refine ldI_of (H.cell 7 rfl rfl) ?_
    refine ldI_of (H.cell 7 rfl rfl) ?_
    refine ldS_of (H.cell 7 rfl rfl) ?_
    refine may_ok (H.rdO hor) hop.w64 hop.len fun b h' hb e1 => ?_
    have H := H.ext e1
    refine ⟨_, rfl, ?_⟩
    have skip : ∀ h', Hp hB [] h' ([E] ++ pgL p m q rest ⟨W, X, 0, 0, ws, 0, false⟩ ++ pgL p2 m2 q2 rest2 ⟨W, X, 0, 0, ws, 0, false⟩ ++ [⟨r55, true, T_burinlaw15_Op, [.int .i64 od, .int .i64 ox, .int .i64 oy, .int .i64 oop, .int .i64 ow, .int .i64 ob, .slice oq ows.length oc]⟩]) → ∃ m, m < n ∧ ∃ (i' : Nat) (ws : List Nat), i' + m = 6 ∧ [Value.int .i64 ((i + 1 : Nat) : Int)] = [.int .i64 (i' : Int)] ∧ In h' ws := fun h' H =>
      ⟨n - 1, by omega, i + 1, ws, by omega, rfl, (hIn _ _).2 ⟨hl, hw, H.pre⟩⟩
    refine bcase_not (fun h5 => ?_) fun h5 => ?_
    · refine bindI_of (((i + 1 : Nat) : Int)) (by exact i64_at _ _ (by omega) (by omega) (by omega)) ?_
      exact skip _ H
    have hm := hb.1 h5
    obtain ⟨W2, X2, rfl, rfl, hV1, hV2, hY1, hY2, hVY⟩ := size_nat hm.1
    refine ldI_of (H.cell 7 rfl rfl) ?_
    refine ldI_of (H.cell 7 rfl rfl) ?_
    refine bindI_of (((W2 * X2 : Nat) : Int)) (by exact i64_at _ _ mul_cast (by omega) (by omega)) ?_
    refine bcase_dec (fun h6 => ?_) fun h6 => ?_
    · refine bindI_of (((i + 1 : Nat) : Int)) (by exact i64_at _ _ (by omega) (by omega) (by omega)) ?_
      exact skip _ H
    refine ldI_of (H.cell 7 rfl rfl) ?_
    refine bcase_dec (fun h7 => ?_) fun h7 => ?_
    · refine bindI_of (((i + 1 : Nat) : Int)) (by exact i64_at _ _ (by omega) (by omega) (by omega)) ?_
      exact skip _ H
    clear skip
    refine ldI_of (H.cell 7 rfl rfl) ?_
    refine ldI_of (H.cell 7 rfl rfl) ?_
    refine ldS_of (H.cell 7 rfl rfl) ?_
    refine padd_ok (H.give [1, 2, 3] (by decide) rfl) hok (H.rdO hor) hop.w64 hop.len ⟨by omega, by omega⟩ ⟨by omega, by omega⟩ ⟨by omega, by omega⟩ fun e1 g1 h' ha H' => ?_
    obtain ⟨rfl, RR, hR, rfl⟩ := ha.laid (by omega) hm (by
      rintro (l | l | l)
      · cases l
      · exact absurd l (by show ¬ y1 < ((0 : Nat) : Int); omega)
      · exact absurd rfl l.1)
    clear ha
    replace H := H.put [1, 2, 3] (by decide) rfl rfl H' rfl rfl
    clear H'
    have H : Hp hB [] h' ([E] ++ pgL p m q rest ⟨W, X, 0, 0, RR, 0, false⟩ ++ pgL p2 m2 q2 rest2 ⟨W, X, 0, 0, ws, 0, false⟩ ++ [⟨r55, true, T_burinlaw15_Op, [.int .i64 od, .int .i64 ox, .int .i64 oy, .int .i64 oop, .int .i64 (W2 : Nat), .int .i64 (X2 : Nat), .slice oq ows.length oc]⟩]) := H
    refine ⟨_, rfl, ?_⟩
    refine bcase_false (by rfl) ?_
    refine ⟨fun k vs h' => ∃ (j : Nat) (wsb : List Nat), j + k = X2 ∧ vs = [.int .i64 (j : Int)] ∧ LaidP ⟨W, X, 0, 0, ws, 0, false⟩ (z1 - 10) y1 0 W2 j ows wsb ∧ Hp hB [] h' ([E] ++ pgL p m q rest ⟨W, X, 0, 0, RR, 0, false⟩ ++ pgL p2 m2 q2 rest2 ⟨W, X, 0, 0, wsb, 0, false⟩ ++ [⟨r55, true, T_burinlaw15_Op, [.int .i64 od, .int .i64 ox, .int .i64 oy, .int .i64 oop, .int .i64 (W2 : Nat), .int .i64 (X2 : Nat), .slice oq ows.length oc]⟩]), ⟨X2, 0, ws, by omega, rfl, LaidP.none (g := ⟨W, X, 0, 0, ws, 0, false⟩) hl hw, H⟩, ?_⟩
    clear H
    rintro k h u xx ⟨j, wsb, hjk, hxx, hlb, H⟩
    injection hxx with hxx
    injection hxx with _ hxx
    subst hxx
    have hokb : PgOk ⟨W, X, 0, 0, wsb, 0, false⟩ := ⟨hs, hlb.1, hlb.2.1, Nat.zero_le _, Nat.zero_le _⟩
    try simp only [ptr_some_eq, add_mk, Nat.zero_add, Nat.add_zero]
    refine ldI_of (H.cell 7 rfl rfl) ?_
    refine bcase_dec (fun h8 => ?_) fun h8 => ?_
    · have h8 : j < X2 := by omega
      refine ldI_of (H.cell 7 rfl rfl) ?_
      have hs1 : SizeP (W2 : Int) ((1 : Nat) : Int) := by unfold SizeP; omega
      refine white_ok' (X := 1) hs1 fun row qr h hrl hrw hrz H' => ?_
      replace H := H.join H' rfl
      clear H'
      refine ⟨_, _, _, _, _, rfl, ?_⟩
      refine newC_hp H fun rb h H => ?_
      try simp only [ptr_some_eq, add_mk, Nat.zero_add, Nat.add_zero]
      refine stV_hp H 9 rfl (by first | exact Nat.le_of_ble_eq_true rfl | simp) rfl fun h hsz H => ?_
      refine stV_hp H 9 rfl (by first | exact Nat.le_of_ble_eq_true rfl | simp) rfl fun h hsz H => ?_
      refine stV_hp H 9 rfl (by first | exact Nat.le_of_ble_eq_true rfl | simp) rfl fun h hsz H => ?_
      refine ldI_of (H.cell 9 rfl rfl) ?_
      refine ldI_of (H.cell 9 rfl rfl) ?_
      refine ldS_of (H.cell 9 rfl rfl) ?_
      refine bindI_of ((-(j : Int))) (by exact i64_at _ _ (by omega) (by omega) (by omega)) ?_
      refine ldI_of (H.cell 7 rfl rfl) ?_
      refine ldI_of (H.cell 7 rfl rfl) ?_
      refine ldS_of (H.cell 7 rfl rfl) ?_
      refine part_ok (n := 1) (j := j) (ws := row) (rest := []) (op := 0) H 8 rfl hs1 hrl hrw hrz (fun h' R H' => H'.rdO hor) hm hop.w64 (by omega) (.inl rfl) fun rw2 h' k1 k2 k3 k4 H' => ?_
      have H := H'
      clear H'
      refine bindI_of ((y1 + (j : Int))) (by exact i64_in _ (by omega) (by omega)) ?_
      refine ldI_of (H.cell 9 rfl (i := 0) rfl) ?_
      refine ldI_of (H.cell 9 rfl (i := 1) rfl) ?_
      refine ldS_of (H.cell 9 rfl (i := 2) rfl) ?_
      have hr := row_rdO H 8 (xs := rw2) (rest := []) rfl
      rw [hrl, ← k1]
      refine padd_ok (H.give [4, 5, 6] (by decide) rfl) hokb hr k2 (by rw [k1]; have := wds_le hV1; omega) ⟨by omega, by omega⟩ ⟨by omega, by omega⟩ ⟨by omega, by omega⟩ fun e1 g1 h' ha H' => ?_
      obtain ⟨rfl, R2, hR2, rfl⟩ := ha.laid (by omega) k3 (by
        rintro (l | l | l)
        · cases l
        · exact absurd l (by show ¬ (y1 + (j : Int)) < ((0 : Nat) : Int); omega)
        · exact absurd rfl l.1)
      clear ha
      replace H := H.put [4, 5, 6] (by decide) rfl rfl H' rfl rfl
      clear H'
      refine ⟨_, rfl, ?_⟩
      refine bcase_false (by rfl) ?_
      refine bindI_of (((j + 1 : Nat) : Int)) (by exact i64_at _ _ (by omega) (by omega) (by omega)) ?_
      refine ⟨k - 1, by omega, j + 1, R2, by omega, rfl, LaidP.step (g := ⟨W, X, 0, 0, ws, 0, false⟩) hm h8 hlb (fun x' hx' => by have := k4 0 (by omega) x' hx'; rw [Nat.zero_add] at this; exact this) hR2, ?_⟩
      exact H.take 8
    · obtain rfl : X2 = j := by omega
      have hR' : LaidP ⟨W, X, 0, 0, ws, 0, false⟩ (z1 - 10) y1 0 W2 X2 ows RR := hR
      have hEq := hlb.eq hR'
      rw [hEq] at H
      refine bindI_of (((i + 1 : Nat) : Int)) (by exact i64_at _ _ (by omega) (by omega) (by omega)) ?_
      exact ⟨n - 1, by omega, i + 1, RR, by omega, rfl, (hIn _ _).2 ⟨hR'.1, hR'.2.1, H.pre⟩⟩
  · clear H
    rintro h u ⟨ws, hI⟩
    obtain ⟨hl, hw, H⟩ := (hIn _ _).1 hI
    have hok : PgOk ⟨W, X, 0, 0, ws, 0, false⟩ := ⟨hs, hl, hw, Nat.zero_le _, Nat.zero_le _⟩
    have hng : ∀ ws, ¬ ((⟨W, X, 0, 0, ws, 0, false⟩ : Pg).dn = true ∨ (⟨W, X, 0, 0, ws, 0, false⟩ : Pg).s ≠ 0 ∧ (⟨W, X, 0, 0, ws, 0, false⟩ : Pg).nx < (⟨W, X, 0, 0, ws, 0, false⟩ : Pg).X) := by
      rintro ws (l | l)
      · cases l
      · exact absurd rfl l.1
    have hlen : ws.length < 140737488351300 := by have := hw_le hW1 hWX; omega
    clear hI
    refine pend_ok (H.give [1, 2, 3] (by decide) rfl) hok fun e1 w1 b1 bs g1 D qo dc h' he hd H' => ?_
    have H := Go.Bm.Hp.backD H [1, 2, 3] (by decide) rfl rfl H' rfl hd.w rfl
    clear H'
    obtain ⟨rfl, rfl, rfl, hbs, rfl⟩ := he.good (hng ws)
    obtain rfl : ws = bs := hbs.symm
    clear he
    refine ⟨_, _, _, _, _, _, rfl, ?_⟩
    have H : Hp hB [] h' (([E] ++ pgL p m q rest ⟨W, X, 0, 0, ws, X, true⟩ ++ pgL p2 m2 q2 rest2 ⟨W, X, 0, 0, ws, 0, false⟩) ++ D) := H
    refine newC_hp H fun r134 h H => ?_
    have H := H.rot
    try simp only [ptr_some_eq, add_mk, Nat.zero_add, Nat.add_zero]
    refine stV_hp H 0 rfl (by first | exact Nat.le_of_ble_eq_true rfl | simp) rfl fun h hsz H => ?_
    refine stV_hp H 0 rfl (by first | exact Nat.le_of_ble_eq_true rfl | simp) rfl fun h hsz H => ?_
    refine stV_hp H 0 rfl (by first | exact Nat.le_of_ble_eq_true rfl | simp) rfl fun h hsz H => ?_
    refine pend_ok (g := ⟨W, X, 0, 0, ws, 0, false⟩) (H.give [5, 6, 7] (by decide) rfl) hok fun e2 w2 b2 bs2 g2 D2 qo2 dc2 h' he2 hd2 H' => ?_
    have H := Go.Bm.Hp.backD H [5, 6, 7] (by decide) rfl rfl H' rfl hd2.w rfl
    clear H'
    obtain ⟨rfl, rfl, rfl, hbs, rfl⟩ := he2.good (hng ws)
    obtain rfl : ws = bs2 := hbs.symm
    clear he2
    refine ⟨_, _, _, _, _, _, rfl, ?_⟩
    have H : Hp hB [] h' (([⟨r134, true, T_api_Bitmap, [.int .i64 (W : Nat), .int .i64 (X : Nat), .slice qo ws.length dc]⟩] ++ (([E] ++ pgL p m q rest ⟨W, X, 0, 0, ws, X, true⟩ ++ pgL p2 m2 q2 rest2 ⟨W, X, 0, 0, ws, X, true⟩) ++ D)) ++ D2) := H
    refine newC_hp H fun r145 h H => ?_
    have H := H.rot
    try simp only [ptr_some_eq, add_mk, Nat.zero_add, Nat.add_zero]
    refine stV_hp H 0 rfl (by first | exact Nat.le_of_ble_eq_true rfl | simp) rfl fun h hsz H => ?_
    refine stV_hp H 0 rfl (by first | exact Nat.le_of_ble_eq_true rfl | simp) rfl fun h hsz H => ?_
    refine stV_hp H 0 rfl (by first | exact Nat.le_of_ble_eq_true rfl | simp) rfl fun h hsz H => ?_
    have hokd : PgOk ⟨W, X, 0, 0, ws, X, true⟩ := ⟨hs, hl, hw, Nat.le_refl _, Nat.zero_le _⟩
    refine pend_ok (g := ⟨W, X, 0, 0, ws, X, true⟩) (H.give [3, 4, 5] (by decide) rfl) hokd fun e3 w3 b3 bs3 g3 D3 qo3 dc3 h' he3 hd3 H' => ?_
    have H := Go.Bm.Hp.backD H [3, 4, 5] (by decide) rfl rfl H' rfl hd3.w rfl
    clear H'
    obtain ⟨rfl, rfl, rfl, rfl, rfl⟩ := he3.bad (.inl rfl)
    clear he3
    refine ⟨_, _, _, _, _, _, rfl, ?_⟩
    have H : Hp hB [] h' (([⟨r145, true, T_api_Bitmap, [.int .i64 (W : Nat), .int .i64 (X : Nat), .slice qo2 ws.length dc2]⟩] ++ (([⟨r134, true, T_api_Bitmap, [.int .i64 (W : Nat), .int .i64 (X : Nat), .slice qo ws.length dc]⟩] ++ (([E] ++ pgL p m q rest ⟨W, X, 0, 0, ws, X, true⟩ ++ pgL p2 m2 q2 rest2 ⟨W, X, 0, 0, ws, X, true⟩) ++ D)) ++ D2)) ++ D3) := H
    have H := Hp.pre (Y := D3) H
    refine newC_hp H fun r156 h H => ?_
    have H := H.rot
    try simp only [ptr_some_eq, add_mk, Nat.zero_add, Nat.add_zero]
    refine stV_hp H 0 rfl (by first | exact Nat.le_of_ble_eq_true rfl | simp) rfl fun h hsz H => ?_
    refine stV_hp H 0 rfl (by first | exact Nat.le_of_ble_eq_true rfl | simp) rfl fun h hsz H => ?_
    refine stV_hp H 0 rfl (by first | exact Nat.le_of_ble_eq_true rfl | simp) rfl fun h hsz H => ?_
    refine bcase_true (by rfl) ?_
    refine bcase_true (by rfl) ?_
    refine ldI_of (H.cell 2 rfl rfl) ?_
    refine ldI_of (H.cell 2 rfl rfl) ?_
    refine ldS_of (H.cell 2 rfl rfl) ?_
    refine ldI_of (H.cell 1 rfl rfl) ?_
    refine ldI_of (H.cell 1 rfl rfl) ?_
    refine ldS_of (H.cell 1 rfl rfl) ?_
    have H : Hp hB [] h ([⟨r156, true, T_api_Bitmap, [.int .i64 0, .int .i64 0, .slice qo3 0 dc3]⟩] ++ ([⟨r145, true, T_api_Bitmap, [.int .i64 (W : Nat), .int .i64 (X : Nat), .slice qo2 ws.length dc2]⟩] ++ (([⟨r134, true, T_api_Bitmap, [.int .i64 (W : Nat), .int .i64 (X : Nat), .slice qo ws.length dc]⟩] ++ (([E] ++ pgL p m q rest ⟨W, X, 0, 0, ws, X, true⟩ ++ pgL p2 m2 q2 rest2 ⟨W, X, 0, 0, ws, X, true⟩) ++ D)) ++ D2))) := H
    have H := Hp.suf (X := [_]) H
    have k2 := Slot.rdO' hd2 H fun e he => List.mem_append_right _ (List.mem_append_right _ he)
    have H := Hp.suf (X := [_]) (Hp.pre (Y := D2) (Hp.suf (X := [_]) H))
    have k1 := Slot.rdO' hd H fun e he => List.mem_append_right _ he
    have H := Hp.pre (Y := D) H
    refine eqB_ok (xs := ws) (ys := ws) k1 k2 hlen fun h' e' => ?_
    have H := H.ext e'
    refine ⟨_, rfl, ?_⟩
    refine bcase_true (by simp) ?_
    refine bcase_true (by rfl) ?_
    refine ldI_of (hcE 0 H rfl (i := 1) rfl) ?_
    have hs1 : SizeP ((1 : Nat) : Int) ((1 : Nat) : Int) := by unfold SizeP; omega
    refine white_ok' (W := 1) (X := 1) hs1 fun row qr h hrl hrw hrz H' => ?_
    refine ⟨_, _, _, _, _, rfl, H'.hext, ?_⟩
    replace H := H.join H' rfl
    clear H'
    refine padd_ok (g := ⟨W, X, 0, 0, ws, X, true⟩) (H.give [1, 2, 3] (by decide) rfl) hokd (row_rdO H 7 (rest := []) rfl) hrw (by rw [hrl]; decide) ⟨by omega, by omega⟩ ⟨by omega, by omega⟩ ⟨by omega, by omega⟩ fun e1 g1 h' ha H' => ?_
    obtain ⟨rfl, rfl⟩ := ha.late (by omega) (may_of_pix hs1 hrl hrw fun y _ x _ _ => hrz x y) (.inl rfl)
    replace H := H.put [1, 2, 3] (by decide) rfl rfl H' rfl rfl
    clear H'
    refine ⟨_, rfl, ?_⟩
    refine bcase_true (by rfl) ?_
    refine ldI_of (hcE 0 H rfl (i := 1) rfl) ?_
    refine pnext_ok (g := ⟨W, X, 0, 0, ws, X, true⟩) H 1 rfl ?_
    refine ⟨_, rfl, hext.refl _, ?_⟩
    refine bcase_true (by simp) ?_
    exact wakes15_ok fun h' e => ⟨_, rfl, hk _ (H.hext.trans e)⟩

theorem laid_arg {h : Heap} {cs : Array Value} (hsz : cs.size = TP.cellsOf T_burinlaw15_Script) (hw : WDx TP h T_burinlaw15_Script cs.toList) {K : Value → Heap → Prop} {Kp : List PanicEntry → Heap → Prop} (hk : ∀ h', hext h h' → K (.bool true) h') :
    CP F_burinlaw15_PageLaid #[.agg cs] h K Kp := by
  obtain ⟨w, x, d, s, sq, slen, scap, dq, dlen, dcap, rfl, ho, hd, _, _⟩ := script15_arg hw
  exact laid_law ho hk

end Go.Bm
