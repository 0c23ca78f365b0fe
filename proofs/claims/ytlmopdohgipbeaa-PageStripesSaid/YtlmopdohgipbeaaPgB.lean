/- PgB: pages: Add, Stripe, End, Next, the program's and the document's. -/
import Derived.Test.YtlmopdohgipbeaaPgA
set_option linter.unusedVariables false
set_option linter.unusedSimpArgs false
namespace Go.Bm
open Go Go.Den Go.Den.Ytlmopdohgipbeaa

/-- What a bitmap that is laid leaves. -/
def LaidP (g : Pg) (x y : Int) (op W2 X2 : Nat) (ws2 R : List Nat) : Prop := R.length = g.X * wds g.W ∧ W64 R ∧ ∀ Y, Y < g.X → ∀ x', x' < 64 * wds g.W → pix R (wds g.W) x' Y =
  if x ≤ x' ∧ (x' : Int) < x + W2 ∧ x' < g.W ∧ y ≤ Y ∧ (Y : Int) < y + X2 then opB op (pix g.ws (wds g.W) x' Y) (pix ws2 (wds W2) (x' - x).toNat (Y - y).toNat) else pix g.ws (wds g.W) x' Y
theorem LaidP.eq {g : Pg} {x y : Int} {op W2 X2 : Nat} {ws2 R R' : List Nat} (h : LaidP g x y op W2 X2 ws2 R) (h' : LaidP g x y op W2 X2 ws2 R') : R = R' :=
  pix_ext h.1 h'.1 h.2.1 h'.2.1 fun Y hY x' hx' => by rw [h.2.2 Y hY x' hx', h'.2.2 Y hY x' hx']
def LateP (g : Pg) (y h : Int) : Prop := g.dn = true ∨ y < g.nx ∨ g.s ≠ 0 ∧ (g.s : Int) - h < y - g.nx
def AddR (g : Pg) (x y op w h : Int) (ws2 : List Nat) (e : Int) (g' : Pg) : Prop :=
  ¬ (0 ≤ op ∧ op ≤ 4 ∧ MayP w h ws2) ∧ e = 150 ∧ g' = g ∨
  (0 ≤ op ∧ op ≤ 4 ∧ MayP w h ws2) ∧ LateP g y h ∧ e = 151 ∧ g' = g ∨
  (0 ≤ op ∧ op ≤ 4 ∧ MayP w h ws2) ∧ ¬ LateP g y h ∧ e = 0 ∧ ∃ R, LaidP g x y op.toNat w.toNat h.toNat ws2 R ∧ g' = { g with ws := R }
theorem AddR.det {g g1 g2 : Pg} {x y op w h e1 e2 : Int} {ws2 : List Nat} (h1 : AddR g x y op w h ws2 e1 g1) (h2 : AddR g x y op w h ws2 e2 g2) : e1 = e2 ∧ g1 = g2 := by
  rcases h1 with ⟨a, b, c⟩ | ⟨a, l, b, c⟩ | ⟨a, l, b, R, r, c⟩ <;> rcases h2 with ⟨a', b', c'⟩ | ⟨a', l', b', c'⟩ | ⟨a', l', b', R', r', c'⟩
  · exact ⟨b.trans b'.symm, c.trans c'.symm⟩
  · exact absurd a' a
  · exact absurd a' a
  · exact absurd a a'
  · exact ⟨b.trans b'.symm, c.trans c'.symm⟩
  · exact absurd l l'
  · exact absurd a a'
  · exact absurd l' l
  · refine ⟨b.trans b'.symm, ?_⟩
    rw [c, c', r.eq r']
theorem AddR.ok {g g' : Pg} {x y op w h e : Int} {ws2 : List Nat} (h1 : AddR g x y op w h ws2 e g') (hg : PgOk g) : PgOk g' := by
  rcases h1 with ⟨_, _, c⟩ | ⟨_, _, _, c⟩ | ⟨_, _, _, R, r, c⟩
  · rw [c]; exact hg
  · rw [c]; exact hg
  · rw [c]; exact ⟨hg.size, r.1, r.2.1, hg.nx, hg.s⟩

theorem operation_ok {h : Heap} {op : Int} {K : Value → Heap → Prop} {Kp : List PanicEntry → Heap → Prop} (hk : ∀ b : Bool, (b = true ↔ 0 ≤ op ∧ op ≤ 4) → K (.bool b) h) : CP F_page_operation #[.int .i64 op] h K Kp := by
  refine call_page_operation ?_
  unfold page_operation
  refine bcase_dec (fun h1 => ?_) fun h1 => hk false (by simp; omega)
  exact hk _ (by simp; omega)
theorem mayOp_ok {h : Heap} {op : Int} {K : Value → Heap → Prop} {Kp : List PanicEntry → Heap → Prop} (hk : ∀ b : Bool, (b = true ↔ 0 ≤ op ∧ op ≤ 4) → K (.bool b) h) : CP F_burinref15_mayOp #[.int .i64 op] h K Kp := by
  refine call_burinref15_mayOp ?_
  unfold burinref15_mayOp
  refine bcase_dec (fun h1 => ?_) fun h1 => hk false (by simp; omega)
  exact hk _ (by simp; omega)

set_option maxRecDepth 100000 in
set_option maxHeartbeats 1000000 in
theorem padd_ok {h0 h : Heap} {F : List Nat} {p m q : Nat} {rest : List Value} {g : Pg} (H : Hp h0 F h (pgL p m q rest g)) (hg : PgOk g) {x y op w b : Int} {q2 : Option Addr} {c2 : Nat} {ws2 : List Nat} (hr : rdO h q2 (ws2.length * 1) (u64s ws2)) (hw2 : W64 ws2) (hl2 : ws2.length < 140737488351300)
    (hx : InI x) (hy : InI y) (hb : InI b) {K : Value → Heap → Prop} {Kp : List PanicEntry → Heap → Prop} (hk : ∀ e g' h', AddR g x y op w b ws2 e g' → Hp h0 F h' (pgL p m q rest g') → K (.int .i64 e) h') :
    CP F_page_Page_Add #[.pointer (at0 p), .int .i64 x, .int .i64 y, .int .i64 op, .agg #[.int .i64 w, .int .i64 b, .slice q2 ws2.length c2]] h K Kp := by
  refine call_page_Page_Add ?_
  unfold page_Page_Add
  have hgb := hg.b
  have hnx := hg.nx
  have hss := hg.s
  refine newC_hpx H fun r4 h1 x1 H => ?_
  have hr := rdO_ext x1 hr
  try simp only [ptr_some_eq, add_mk, Nat.zero_add, Nat.add_zero]
  have e3 : ∀ (T : List Ent), (pgL p m q rest g ++ ([⟨r4, true, T_api_Bitmap, [.int .i64 w, .int .i64 b, .slice q2 ws2.length c2]⟩] ++ T))[3]? = some ⟨r4, true, T_api_Bitmap, [.int .i64 w, .int .i64 b, .slice q2 ws2.length c2]⟩ := fun T => rfl
  refine ldI_of (H.cell 3 rfl (i := 0) rfl) ?_
  refine ldI_of (H.cell 3 rfl (i := 1) rfl) ?_
  refine ldS_of (H.cell 3 rfl (i := 2) rfl) ?_
  refine from_ok hr hw2 hl2 (fun W2 X2 p2 qs srest h2 hw hb' hm H' => ?_) fun h2 hm e2 => ?_
  · subst hw hb'
    replace H := H.join H' rfl
    clear H'
    refine ⟨_, _, rfl, ?_⟩
    obtain ⟨W', X', e1, e2, hV1, hV2, hY1, hY2, hVY⟩ := size_nat hm.1
    obtain rfl : W2 = W' := by omega
    obtain rfl : X2 = X' := by omega
    refine ⟨fun vs h' => h' = h2 ∧ (0 ≤ op ∧ op ≤ 4) ∧ ¬ LateP g y (X2 : Int), ?_, ?_⟩
    · refine ⟨fun vs h' => h' = h2 ∧ ∃ bb : Bool, (bb = true ↔ ¬ (0 ≤ op ∧ op ≤ 4)) ∧ vs = [.bool bb], ?_, ?_⟩
      · refine operation_ok fun bb hbb => ?_
        refine ⟨_, rfl, ?_⟩
        refine bcase_not (fun h3 => ?_) fun h3 => ?_
        · rw [h3]
          exact ⟨rfl, true, ⟨(fun _ h4 => by rw [hbb.2 h4] at h3; cases h3), fun _ => rfl⟩, rfl⟩
        · exact ⟨rfl, false, ⟨(fun h => Bool.noConfusion h), fun h4 => absurd (hbb.1 h3) h4⟩, rfl⟩
      · rintro h' u xx ⟨rfl, bb, hbb, hxx⟩
        injection hxx with hxx
        injection hxx with hxx
        subst hxx
        refine bcase_of (fun h3 => ?_) fun h3 => ?_
        · exact hk 150 g _ (.inl ⟨fun h4 => hbb.1 h3 ⟨h4.1, h4.2.1⟩, rfl, rfl⟩) H.pre.pre
        have hop : 0 ≤ op ∧ op ≤ 4 := Classical.byContradiction fun h4 => by rw [hbb.2 h4] at h3; cases h3
        have late : LateP g y (X2 : Int) → K (.int .i64 151) h' := fun hl => hk 151 g _ (.inr (.inl ⟨⟨hop.1, hop.2, hm⟩, hl, rfl, rfl⟩)) H.pre.pre
        refine ldB_of (H.cell 0 rfl (i := 6) rfl) ?_
        refine bcase_of (fun h4 => ?_) fun h4 => ?_
        · refine bcase_true h4 (late (.inl h4))
        refine ldI_of (H.cell 0 rfl (i := 5) rfl) ?_
        refine bcase_dec (fun h5 => ?_) fun h5 => ?_
        · simp only [decide_eq_true h5]
          exact bcase_true rfl (late (.inr (.inl h5)))
        refine ldI_of (H.cell 0 rfl (i := 3) rfl) ?_
        refine bcase_ne (fun h6 => ?_) fun h6 => ?_
        · refine ldI_of (H.cell 0 rfl (i := 5) rfl) ?_
          unfold InI at hy
          refine bindI_of ((y - (g.nx : Nat))) (by exact i64_in _ (by omega) (by omega)) ?_
          refine ldI_of (H.cell 0 rfl (i := 3) rfl) ?_
          refine ldI_of (H.cell 3 rfl (i := 1) rfl) ?_
          refine bindI_of (((g.s : Nat) - (X2 : Int))) (by exact i64_in _ (by omega) (by omega)) ?_
          refine bcase_dec (fun h7 => ?_) fun h7 => ?_
          · exact late (.inr (.inr ⟨by omega, by omega⟩))
          · refine ⟨by first | rfl | trivial, hop, ?_⟩
            rintro (h8 | h8 | h8)
            · rw [h4] at h8; cases h8
            · omega
            · omega
        · refine ⟨by first | rfl | trivial, hop, ?_⟩
          rintro (h8 | h8 | h8)
          · rw [h4] at h8; cases h8
          · omega
          · omega
    · rintro h' u ⟨rfl, hop, hnl⟩
      obtain ⟨opn, rfl⟩ : ∃ n : Nat, op = (n : Nat) := ⟨op.toNat, by omega⟩
      refine ldP_of (H.cell 0 rfl (i := 4) rfl) ?_
      refine ldI_of (H.cell 3 rfl (i := 0) rfl) ?_
      refine ldI_of (H.cell 3 rfl (i := 1) rfl) ?_
      refine blit_ok (p := m) (q := q) (W := g.W) (X := g.X) (ws := g.ws) (rest := rest) (p2 := p2) (q2 := qs) (ws2 := ws2) (rest2 := srest) (H.give [1, 2, 4, 5] (by decide) rfl) hg.size hg.len hg.w hm.1 hm.2.1 hw2 ⟨by omega, by omega⟩ ⟨by omega, by omega⟩ ⟨by omega, by omega⟩ ⟨by omega, by omega⟩ hx hy (by omega) (by omega) (by omega) fun R h' k1 k2 k3 H' => ?_
      have H := (H.pick [0, 1, 2, 4, 5] (by decide) (L' := pgL p m q rest g ++ mapL p2 qs W2 X2 ws2 srest) rfl)
      have H := (H.back [1, 2, 3, 4] (by decide) rfl rfl H' rfl (Nat.le_of_ble_eq_true rfl))
      refine ⟨_, rfl, hk 0 { g with ws := R } _ (.inr (.inr ⟨⟨hop.1, hop.2, hm⟩, hnl, rfl, R, ⟨k1, k2, fun Y hY x' hx' => ?_⟩, rfl⟩)) (H.pick [0, 1, 2] (by decide) (by rfl))⟩
      rw [k3 Y hY x' hx']
      have e1 : ((W2 : Int)).toNat = W2 := by simp
      have e2 : ((X2 : Int)).toNat = X2 := by simp
      rw [e1, e2, Int.toNat_natCast]
      by_cases h9 : x ≤ x' ∧ (x' : Int) < x + W2 ∧ x' < g.W ∧ y ≤ Y ∧ (Y : Int) < y + X2
      · rw [if_pos (by omega), if_pos h9]
        congr 2 <;> omega
      · rw [if_neg (by omega), if_neg h9]
  · have H := H.ext e2
    refine ⟨_, _, rfl, ?_⟩
    refine ⟨fun vs h' => False, ?_, fun h u hf => hf.elim⟩
    refine ⟨fun vs h' => h' = h2 ∧ vs = [.bool true], ?_, ?_⟩
    · refine operation_ok fun bb hbb => ?_
      refine ⟨_, rfl, ?_⟩
      refine bcase_not (fun h3 => ?_) fun h3 => ?_
      · rw [h3]; exact ⟨rfl, rfl⟩
      · exact ⟨rfl, rfl⟩
    · rintro h' u xx ⟨rfl, hxx⟩
      injection hxx with hxx
      injection hxx with hxx
      subst hxx
      refine bcase_true (by rfl) ?_
      exact hk 150 g _ (.inl ⟨fun h4 => hm h4.2.2, rfl, rfl⟩) H.pre

set_option maxRecDepth 100000 in
set_option maxHeartbeats 1000000 in
theorem radd_ok {h0 h : Heap} {F : List Nat} {L : List Ent} {p q c : Nat} {rest : List Value} {g : Pg} (H : Hp h0 F h L) (kp kq : Nat) (hkpq : kp ≠ kq) (hp : L[kp]? = some (rfE p q c g)) (hq : L[kq]? = some ⟨q, true, T_uint64, u64s g.ws ++ rest⟩) (hg : PgOk g)
    {x y op w b : Int} {q2 : Option Addr} {c2 : Nat} {ws2 : List Nat} (hr : ∀ h' L', Hp h0 F h' L' → rdO h' q2 (ws2.length * 1) (u64s ws2)) (hw2 : W64 ws2) (hl2 : ws2.length < 140737488351300)
    (hx : InI x) (hy : InI y) (hb : InI b) {K : Value → Heap → Prop} {Kp : List PanicEntry → Heap → Prop} (hk : ∀ e g' h', AddR g x y op w b ws2 e g' → Hp h0 F h' (L.set kq ⟨q, true, T_uint64, u64s g'.ws ++ rest⟩) → g'.nx = g.nx → g'.dn = g.dn → g'.W = g.W → g'.X = g.X → g'.d = g.d → g'.s = g.s → g'.ws.length = g.ws.length → K (.int .i64 e) h') :
    CP F_burinref15_Page_Add #[.pointer (at0 p), .int .i64 x, .int .i64 y, .int .i64 op, .agg #[.int .i64 w, .int .i64 b, .slice q2 ws2.length c2]] h K Kp := by
  refine call_burinref15_Page_Add ?_
  unfold burinref15_Page_Add
  have hgb := hg.b
  have hnx := hg.nx
  have hss := hg.s
  have hkpl : kp < L.length := (List.getElem?_eq_some_iff.1 hp).1
  have hkql : kq < L.length := (List.getElem?_eq_some_iff.1 hq).1
  have hset : L.set kq ⟨q, true, T_uint64, u64s g.ws ++ rest⟩ = L := by
    apply List.ext_getElem?
    intro j
    by_cases hj : kq = j
    · subst hj; rw [List.getElem?_set_self hkql, hq]
    · rw [List.getElem?_set_ne hj]
  refine newC_hpx H fun r4 h1 x1 H => ?_
  have hp1 : ∀ T, (L ++ T)[kp]? = some (rfE p q c g) := fun T => by rw [List.getElem?_append_left hkpl]; exact hp
  have hq1 : ∀ T, (L ++ T)[kq]? = some ⟨q, true, T_uint64, u64s g.ws ++ rest⟩ := fun T => by rw [List.getElem?_append_left hkql]; exact hq
  have hr4 : (L ++ [(⟨r4, true, T_api_Bitmap, [.int .i64 w, .int .i64 b, .slice q2 ws2.length c2]⟩ : Ent)])[L.length]? = some ⟨r4, true, T_api_Bitmap, [.int .i64 w, .int .i64 b, .slice q2 ws2.length c2]⟩ := List.getElem?_concat_length
  have same : ∀ e h', AddR g x y op w b ws2 e g → Hp h0 F h' (L ++ [⟨r4, true, T_api_Bitmap, [.int .i64 w, .int .i64 b, .slice q2 ws2.length c2]⟩]) → K (.int .i64 e) h' := fun e h' hR H => hk e g h' hR (H.pre.as hset.symm) rfl rfl rfl rfl rfl rfl rfl
  refine mayOp_ok fun bo hbo => ?_
  refine ⟨_, rfl, ?_⟩
  refine bcase_not (fun h3 => ?_) fun h3 => ?_
  · exact same 150 _ (.inl ⟨(fun h4 => by rw [hbo.2 ⟨h4.1, h4.2.1⟩] at h3; cases h3), rfl, rfl⟩) H
  have hop := hbo.1 h3
  try simp only [ptr_some_eq, add_mk, Nat.zero_add, Nat.add_zero]
  refine ldI_of (H.cell L.length hr4 (i := 0) rfl) ?_
  refine ldI_of (H.cell L.length hr4 (i := 1) rfl) ?_
  refine ldS_of (H.cell L.length hr4 (i := 2) rfl) ?_
  refine may_ok (hr _ _ H) hw2 hl2 fun bm h2 hbm e2 => ?_
  have H := H.ext e2
  refine ⟨_, rfl, ?_⟩
  refine bcase_not (fun h4 => ?_) fun h4 => ?_
  · exact same 150 _ (.inl ⟨(fun h5 => by rw [hbm.2 h5.2.2] at h4; cases h4), rfl, rfl⟩) H
  have hm := hbm.1 h4
  obtain ⟨W2, X2, rfl, rfl, hV1, hV2, hY1, hY2, hVY⟩ := size_nat hm.1
  unfold InI at hy
  refine ⟨fun vs h' => h' = h2 ∧ ∃ bb : Bool, (bb = true ↔ LateP g y (X2 : Int)) ∧ vs = [.bool bb], ?_, ?_⟩
  · refine ldB_of (H.cell kp (hp1 _) (i := 8) rfl) ?_
    refine bcase_of (fun h5 => ?_) fun h5 => ?_
    · exact ⟨rfl, true, ⟨fun _ => .inl h5, fun _ => rfl⟩, rfl⟩
    refine ldI_of (H.cell kp (hp1 _) (i := 7) rfl) ?_
    refine bcase_dec (fun h6 => ?_) fun h6 => ?_
    · exact ⟨rfl, true, ⟨fun _ => .inr (.inl h6), fun _ => rfl⟩, rfl⟩
    refine ldI_of (H.cell kp (hp1 _) (i := 3) rfl) ?_
    refine bcase_dec (fun h7 => ?_) fun h7 => ?_
    · refine ldI_of (H.cell kp (hp1 _) (i := 7) rfl) ?_
      refine ldI_of (H.cell kp (hp1 _) (i := 3) rfl) ?_
      refine bindI_of (((g.nx + g.s : Nat) : Int)) (by exact i64_at _ _ (by omega) (by omega) (by omega)) ?_
      refine ldI_of (H.cell L.length hr4 (i := 1) rfl) ?_
      refine bindI_of ((((g.nx + g.s : Nat) : Int) - (X2 : Int))) (by exact i64_in _ (by omega) (by omega)) ?_
      refine ⟨by first | rfl | trivial, _, ?_, rfl⟩
      rw [decide_eq_true_eq]
      constructor
      · intro h8; exact .inr (.inr ⟨by omega, by omega⟩)
      · rintro (h8 | h8 | h8)
        · rw [h5] at h8; cases h8
        · omega
        · omega
    · refine ⟨by first | rfl | trivial, false, ⟨(fun h => Bool.noConfusion h), ?_⟩, rfl⟩
      rintro (h8 | h8 | h8)
      · rw [h5] at h8; cases h8
      · omega
      · omega
  · rintro h' u xx ⟨rfl, bb, hbb, hxx⟩
    injection hxx with hxx
    injection hxx with hxx
    subst hxx
    refine bcase_of (fun h5 => ?_) fun h5 => ?_
    · exact same 151 _ (.inr (.inl ⟨⟨hop.1, hop.2, hm⟩, hbb.1 h5, rfl, rfl⟩)) H
    have hnl : ¬ LateP g y (X2 : Int) := fun h6 => by rw [hbb.2 h6] at h5; cases h5
    obtain ⟨opn, rfl⟩ : ∃ n : Nat, op = (n : Nat) := ⟨op.toNat, by omega⟩
    refine ldI_of (H.cell kp (hp1 _) (i := 4) rfl) ?_
    refine ldI_of (H.cell kp (hp1 _) (i := 5) rfl) ?_
    refine ldS_of (H.cell kp (hp1 _) (i := 6) rfl) ?_
    refine ldI_of (H.cell L.length hr4 (i := 0) rfl) ?_
    refine ldI_of (H.cell L.length hr4 (i := 1) rfl) ?_
    refine ldS_of (H.cell L.length hr4 (i := 2) rfl) ?_
    refine lay_ok (W := g.W) (X := g.X) H kq (hq1 _) hg.size hg.len hg.w (fun h' R H' => hr _ _ H') hm.1 hm.2.1 hw2 hx hy (by omega) fun R h' k1 k2 k3 H' => ?_
    have e1 : ((W2 : Int)).toNat = W2 := by simp
    have e2 : ((X2 : Int)).toNat = X2 := by simp
    refine hk 0 { g with ws := R } h' (.inr (.inr ⟨⟨hop.1, hop.2, hm⟩, hnl, rfl, R, ⟨k1, k2, fun Y hY x' hx' => ?_⟩, rfl⟩)) ?_ rfl rfl rfl rfl rfl rfl (by rw [hg.len]; exact k1)
    · rw [k3 Y hY x' hx', e1, e2, Int.toNat_natCast]
    · rw [List.set_append_left _ _ hkql] at H'
      exact H'.pre

/-! ### Stripe, End, Next -/
def stripeG (g : Pg) (last : Int) : Int × Pg := if g.dn = true ∨ g.s = 0 ∨ g.nx = g.X ∨ last ≠ ((min (g.nx + g.s) g.X : Nat) : Int) - 1 then (151, g) else (0, { g with nx := min (g.nx + g.s) g.X })
theorem stripeG_ok {g : Pg} (h : PgOk g) (last : Int) : PgOk (stripeG g last).2 := by
  unfold stripeG
  split
  · exact h
  · exact ⟨h.size, h.len, h.w, Nat.min_le_right _ _, h.s⟩
theorem stripeG_same (g : Pg) (last : Int) : (stripeG g last).2.W = g.W ∧ (stripeG g last).2.X = g.X ∧ (stripeG g last).2.d = g.d ∧ (stripeG g last).2.s = g.s ∧ (stripeG g last).2.ws = g.ws ∧ (stripeG g last).2.dn = g.dn := by
  unfold stripeG; split <;> exact ⟨rfl, rfl, rfl, rfl, rfl, rfl⟩
theorem pstripe_ok {h0 h : Heap} {F : List Nat} {p m q : Nat} {rest : List Value} {g : Pg} (H : Hp h0 F h (pgL p m q rest g)) (hg : PgOk g) {last : Int} {K : Value → Heap → Prop} {Kp : List PanicEntry → Heap → Prop}
    (hk : ∀ h', Hp h0 F h' (pgL p m q rest (stripeG g last).2) → K (.int .i64 (stripeG g last).1) h') : CP F_page_Page_Stripe #[.pointer (at0 p), .int .i64 last] h K Kp := by
  refine call_page_Page_Stripe ?_
  unfold page_Page_Stripe
  have hgb := hg.b
  have hnx := hg.nx
  have hss := hg.s
  unfold stripeG at hk
  have bad : (g.dn = true ∨ g.s = 0 ∨ g.nx = g.X ∨ last ≠ ((min (g.nx + g.s) g.X : Nat) : Int) - 1) → K (.int .i64 151) h := fun hz => by
    rw [if_pos hz] at hk
    exact hk h H
  try simp only [ptr_some_eq, add_mk, Nat.zero_add, Nat.add_zero]
  refine ldB_of (H.cell 0 rfl (i := 6) rfl) ?_
  refine bcase_of (fun h1 => bad (.inl h1)) fun h1 => ?_
  refine ldI_of (H.cell 0 rfl (i := 3) rfl) ?_
  refine bcase_eq (fun h2 => bad (.inr (.inl (by omega)))) fun h2 => ?_
  refine ldI_of (H.cell 0 rfl (i := 5) rfl) ?_
  refine ldI_of (H.cell 0 rfl (i := 1) rfl) ?_
  refine bcase_eq (fun h3 => bad (.inr (.inr (.inl (by omega))))) fun h3 => ?_
  refine ldI_of (H.cell 0 rfl (i := 5) rfl) ?_
  refine ldI_of (H.cell 0 rfl (i := 3) rfl) ?_
  refine bindI_of (((g.nx + g.s : Nat) : Int)) (by exact i64_at _ _ (by omega) (by omega) (by omega)) ?_
  refine ldI_of (H.cell 0 rfl (i := 1) rfl) ?_
  refine min_of fun mm hmm => ?_
  obtain rfl : mm = ((min (g.nx + g.s) g.X : Nat) : Int) := by omega
  refine bindI_of ((((min (g.nx + g.s) g.X : Nat) : Int) - 1)) (by exact i64_in _ (by omega) (by omega)) ?_
  refine bcase_ne (fun h4 => bad (.inr (.inr (.inr h4)))) fun h4 => ?_
  refine bindI_of (((min (g.nx + g.s) g.X : Nat) : Int)) (by exact i64_at _ _ (by omega) (by omega) (by omega)) ?_
  refine stV_hp H 0 rfl (Nat.le_of_ble_eq_true rfl) rfl fun h hsz H => ?_
  rw [if_neg (by
    rintro (h5 | h5 | h5 | h5)
    · rw [h1] at h5; cases h5
    · omega
    · omega
    · exact h5 h4)] at hk
  exact hk h H
theorem rstripe_ok {h0 h : Heap} {F : List Nat} {p q c : Nat} {rest : List Value} {g : Pg} (H : Hp h0 F h (rfL p q c rest g)) (hg : PgOk g) {last : Int} {K : Value → Heap → Prop} {Kp : List PanicEntry → Heap → Prop}
    (hk : ∀ h', Hp h0 F h' (rfL p q c rest (stripeG g last).2) → K (.int .i64 (stripeG g last).1) h') : CP F_burinref15_Page_Stripe #[.pointer (at0 p), .int .i64 last] h K Kp := by
  refine call_burinref15_Page_Stripe ?_
  unfold burinref15_Page_Stripe
  have hgb := hg.b
  have hnx := hg.nx
  have hss := hg.s
  unfold stripeG at hk
  have bad : (g.dn = true ∨ g.s = 0 ∨ g.nx = g.X ∨ last ≠ ((min (g.nx + g.s) g.X : Nat) : Int) - 1) → K (.int .i64 151) h := fun hz => by
    rw [if_pos hz] at hk
    exact hk h H
  try simp only [ptr_some_eq, add_mk, Nat.zero_add, Nat.add_zero]
  refine ldI_of (H.cell 0 rfl (i := 7) rfl) ?_
  refine ldI_of (H.cell 0 rfl (i := 3) rfl) ?_
  refine bindI_of (((g.nx + g.s : Nat) : Int)) (by exact i64_at _ _ (by omega) (by omega) (by omega)) ?_
  refine bindI_of ((((g.nx + g.s : Nat) : Int) - 1)) (by exact i64_in _ (by omega) (by omega)) ?_
  refine ⟨fun vs h' => h' = h ∧ vs = [.int .i64 (((min (g.nx + g.s) g.X : Nat) : Int) - 1)], ?_, ?_⟩
  · refine ldI_of (H.cell 0 rfl (i := 1) rfl) ?_
    refine bindI_of ((((g.X : Nat) : Int) - 1)) (by exact i64_in _ (by omega) (by omega)) ?_
    refine bcase_dec (fun h1 => ?_) fun h1 => ?_
    · refine ldI_of (H.cell 0 rfl (i := 1) rfl) ?_
      refine bindI_of ((((g.X : Nat) : Int) - 1)) (by exact i64_in _ (by omega) (by omega)) ?_
      refine ⟨by first | rfl | trivial, ?_⟩
      congr 2
      omega
    · refine ⟨by first | rfl | trivial, ?_⟩
      congr 2
      omega
  · rintro h' u xx ⟨rfl, hxx⟩
    injection hxx with hxx
    injection hxx with _ hxx
    subst hxx
    refine ldB_of (H.cell 0 rfl (i := 8) rfl) ?_
    refine bcase_of (fun h1 => bad (.inl h1)) fun h1 => ?_
    refine ldI_of (H.cell 0 rfl (i := 3) rfl) ?_
    refine bcase_eq (fun h2 => bad (.inr (.inl (by omega)))) fun h2 => ?_
    refine ldI_of (H.cell 0 rfl (i := 7) rfl) ?_
    refine ldI_of (H.cell 0 rfl (i := 1) rfl) ?_
    refine bcase_eq (fun h3 => bad (.inr (.inr (.inl (by omega))))) fun h3 => ?_
    refine bcase_ne (fun h4 => bad (.inr (.inr (.inr h4)))) fun h4 => ?_
    refine bindI_of (((min (g.nx + g.s) g.X : Nat) : Int)) (by exact i64_at _ _ (by omega) (by omega) (by omega)) ?_
    refine stV_hp H 0 rfl (Nat.le_of_ble_eq_true rfl) rfl fun h hsz H => ?_
    rw [if_neg (by
      rintro (h5 | h5 | h5 | h5)
      · rw [h1] at h5; cases h5
      · omega
      · omega
      · exact h5 h4)] at hk
    exact hk h H
theorem pnext_ok {h0 h : Heap} {F : List Nat} {p m : Nat} {L : List Ent} {g : Pg} (H : Hp h0 F h L) (k : Nat) (hp : L[k]? = some (pgE p m g)) {K : Value → Heap → Prop} {Kp : List PanicEntry → Heap → Prop}
    (hk : K (.int .i64 (g.nx : Nat)) h) : CP F_page_Page_Next #[.pointer (at0 p)] h K Kp := by
  refine call_page_Page_Next ?_
  unfold page_Page_Next
  try simp only [ptr_some_eq, add_mk, Nat.zero_add, Nat.add_zero]
  refine ldI_of (H.cell k hp (i := 5) rfl) ?_
  exact hk

/-- What End answers, and leaves. -/
def EndR (g : Pg) (e w b : Int) (bs : List Nat) (g' : Pg) : Prop :=
  (g.dn = true ∨ g.s ≠ 0 ∧ g.nx < g.X) ∧ e = 151 ∧ w = 0 ∧ b = 0 ∧ bs = [] ∧ g' = g ∨
  ¬ (g.dn = true ∨ g.s ≠ 0 ∧ g.nx < g.X) ∧ e = 0 ∧ w = (g.W : Nat) ∧ b = (g.X : Nat) ∧ bs = g.ws ∧ g' = { g with nx := g.X, dn := true }
theorem EndR.det {g g1 g2 : Pg} {e1 e2 w1 w2 b1 b2 : Int} {bs1 bs2 : List Nat} (h1 : EndR g e1 w1 b1 bs1 g1) (h2 : EndR g e2 w2 b2 bs2 g2) : e1 = e2 ∧ w1 = w2 ∧ b1 = b2 ∧ bs1 = bs2 ∧ g1 = g2 := by
  rcases h1 with ⟨a, b, c, d, e, f⟩ | ⟨a, b, c, d, e, f⟩ <;> rcases h2 with ⟨a', b', c', d', e', f'⟩ | ⟨a', b', c', d', e', f'⟩
  · exact ⟨b.trans b'.symm, c.trans c'.symm, d.trans d'.symm, e.trans e'.symm, f.trans f'.symm⟩
  · exact absurd a a'
  · exact absurd a' a
  · exact ⟨b.trans b'.symm, c.trans c'.symm, d.trans d'.symm, e.trans e'.symm, f.trans f'.symm⟩
theorem EndR.ok {g g' : Pg} {e w b : Int} {bs : List Nat} (h : EndR g e w b bs g') (hg : PgOk g) : PgOk g' ∧ bs.length ≤ 1048576 := by
  have hb := hg.b
  rcases h with ⟨a, b, c, d, e, f⟩ | ⟨a, b, c, d, e, f⟩
  · rw [f, e]; exact ⟨hg, by simp⟩
  · rw [f, e]; exact ⟨⟨hg.size, hg.len, hg.w, Nat.le_refl _, hg.s⟩, by omega⟩

set_option maxRecDepth 100000 in
theorem pend_ok {h0 h : Heap} {F : List Nat} {p m q : Nat} {rest : List Value} {g : Pg} (H : Hp h0 F h (pgL p m q rest g)) (hg : PgOk g) {K : Value → Heap → Prop} {Kp : List PanicEntry → Heap → Prop}
    (hk : ∀ e w b bs g' D qo c h', EndR g e w b bs g' → Slot T_uint64 1 D qo bs.length c (u64s bs) → Hp h0 F h' (pgL p m q rest g' ++ D) → K (.tuple #[.agg #[.int .i64 w, .int .i64 b, .slice qo bs.length c], .int .i64 e]) h') :
    CP F_page_Page_End #[.pointer (at0 p)] h K Kp := by
  refine call_page_Page_End ?_
  unfold page_Page_End
  have hgb := hg.b
  refine newC_hp H fun r h H => ?_
  have H := H.rot
  refine ⟨fun vs h' => ¬ (g.dn = true ∨ g.s ≠ 0 ∧ g.nx < g.X) ∧ Hp h0 F h' ([⟨r, true, T_api_Bitmap, [.int .i64 0, .int .i64 0, .slice none 0 0]⟩] ++ pgL p m q rest g), ?_, ?_⟩
  · try simp only [ptr_some_eq, add_mk, Nat.zero_add, Nat.add_zero]
    have bad : (g.dn = true ∨ g.s ≠ 0 ∧ g.nx < g.X) → ∀ h, Hp h0 F h ([⟨r, true, T_api_Bitmap, [.int .i64 0, .int .i64 0, .slice none 0 0]⟩] ++ pgL p m q rest g) → stV h ⟨r, 0, none⟩ (.int .i64 0) fun h_8 => stV h_8 ⟨r, 1, none⟩ (.int .i64 0) fun h_9 => stV h_9 ⟨r, 2, none⟩ (.slice none 0 0) fun h_10 =>
        ldI h_10 ⟨r, 0, none⟩ .i64 fun r_11 => ldI h_10 ⟨r, 1, none⟩ .i64 fun r_12 => ldS h_10 ⟨r, 2, none⟩ fun r_13 r_13n r_13c => K (.tuple #[.agg #[.int .i64 r_11, .int .i64 r_12, .slice r_13 r_13n r_13c], .int .i64 151]) h_10 := fun hz h H => by
      refine stV_hp H 0 rfl (by first | exact Nat.le_of_ble_eq_true rfl | simp) rfl fun h hsz H => ?_
      refine stV_hp H 0 rfl (by first | exact Nat.le_of_ble_eq_true rfl | simp) rfl fun h hsz H => ?_
      refine stV_hp H 0 rfl (by first | exact Nat.le_of_ble_eq_true rfl | simp) rfl fun h hsz H => ?_
      refine ldI_of (H.cell 0 rfl rfl) ?_
      refine ldI_of (H.cell 0 rfl rfl) ?_
      refine ldS_of (H.cell 0 rfl rfl) ?_
      exact hk 151 0 0 [] g [] none 0 _ (.inl ⟨hz, rfl, rfl, rfl, rfl, rfl⟩) (Slot.nil _ _) ((Hp.suf (X := [_]) H).as (List.append_nil _).symm)
    refine ldB_of (H.cell 1 rfl (i := 6) rfl) ?_
    refine bcase_of (fun h1 => bad (.inl h1) _ H) fun h1 => ?_
    refine ldI_of (H.cell 1 rfl (i := 3) rfl) ?_
    refine bcase_ne (fun h2 => ?_) fun h2 => ?_
    · refine ldI_of (H.cell 1 rfl (i := 5) rfl) ?_
      refine ldI_of (H.cell 1 rfl (i := 1) rfl) ?_
      refine bcase_dec (fun h3 => bad (.inr ⟨by omega, by omega⟩) _ H) fun h3 => ?_
      refine ⟨?_, H⟩
      rintro (h4 | h4)
      · rw [h1] at h4; cases h4
      · omega
    · refine ⟨?_, H⟩
      rintro (h4 | h4)
      · rw [h1] at h4; cases h4
      · omega
  · rintro h u ⟨hn, H⟩
    try simp only [ptr_some_eq, add_mk, Nat.zero_add, Nat.add_zero]
    refine ldI_of (H.cell 1 rfl (i := 1) rfl) ?_
    refine stV_hp H 1 rfl (Nat.le_of_ble_eq_true rfl) rfl fun h hsz H => ?_
    refine stV_hp H 1 rfl (Nat.le_of_ble_eq_true rfl) rfl fun h hsz H => ?_
    have H : Hp h0 F h ([⟨r, true, T_api_Bitmap, [.int .i64 0, .int .i64 0, .slice none 0 0]⟩] ++ pgL p m q rest { g with nx := g.X, dn := true }) := H
    refine ldP_of (H.cell 1 rfl (i := 4) rfl) ?_
    refine plain_ok (W := g.W) (X := g.X) (ws := g.ws) (rest := rest) H 2 3 rfl rfl (by omega) (by omega) fun o orest h H => ?_
    refine ⟨_, _, _, _, _, rfl, ?_⟩
    refine stV_hp H 0 rfl (by first | exact Nat.le_of_ble_eq_true rfl | simp) rfl fun h hsz H => ?_
    refine stV_hp H 0 rfl (by first | exact Nat.le_of_ble_eq_true rfl | simp) rfl fun h hsz H => ?_
    refine stV_hp H 0 rfl (by first | exact Nat.le_of_ble_eq_true rfl | simp) rfl fun h hsz H => ?_
    refine ldI_of (H.cell 0 rfl rfl) ?_
    refine ldI_of (H.cell 0 rfl rfl) ?_
    refine ldS_of (H.cell 0 rfl rfl) ?_
    refine hk 0 _ _ g.ws _ [⟨o, true, T_uint64, u64s g.ws ++ orest⟩] _ _ _ (.inr ⟨hn, rfl, rfl, rfl, rfl, rfl⟩) (Slot.one (by rw [u64s_length, Nat.mul_one]) (by rw [List.length_append, u64s_length, Nat.mul_one])) ?_
    exact H.pick [1, 2, 3, 4] (by decide) rfl

set_option maxRecDepth 100000 in
theorem rend_ok {h0 h : Heap} {F : List Nat} {p q c : Nat} {rest : List Value} {g : Pg} (H : Hp h0 F h (rfL p q c rest g)) (hg : PgOk g) {K : Value → Heap → Prop} {Kp : List PanicEntry → Heap → Prop}
    (hk : ∀ e w b bs g' D qo c' h', EndR g e w b bs g' → Slot T_uint64 1 D qo bs.length c' (u64s bs) → Hp h0 F h' (rfL p q c rest g' ++ D) → K (.tuple #[.agg #[.int .i64 w, .int .i64 b, .slice qo bs.length c'], .int .i64 e]) h') :
    CP F_burinref15_Page_End #[.pointer (at0 p)] h K Kp := by
  refine call_burinref15_Page_End ?_
  unfold burinref15_Page_End
  have hgb := hg.b
  refine newC_hp H fun r h H => ?_
  have H := H.rot
  refine ⟨fun vs h' => ¬ (g.dn = true ∨ g.s ≠ 0 ∧ g.nx < g.X) ∧ Hp h0 F h' ([⟨r, true, T_api_Bitmap, [.int .i64 0, .int .i64 0, .slice none 0 0]⟩] ++ rfL p q c rest g), ?_, ?_⟩
  · try simp only [ptr_some_eq, add_mk, Nat.zero_add, Nat.add_zero]
    have bad : (g.dn = true ∨ g.s ≠ 0 ∧ g.nx < g.X) → ∀ h, Hp h0 F h ([⟨r, true, T_api_Bitmap, [.int .i64 0, .int .i64 0, .slice none 0 0]⟩] ++ rfL p q c rest g) → stV h ⟨r, 0, none⟩ (.int .i64 0) fun h_8 => stV h_8 ⟨r, 1, none⟩ (.int .i64 0) fun h_9 => stV h_9 ⟨r, 2, none⟩ (.slice none 0 0) fun h_10 =>
        ldI h_10 ⟨r, 0, none⟩ .i64 fun r_11 => ldI h_10 ⟨r, 1, none⟩ .i64 fun r_12 => ldS h_10 ⟨r, 2, none⟩ fun r_13 r_13n r_13c => K (.tuple #[.agg #[.int .i64 r_11, .int .i64 r_12, .slice r_13 r_13n r_13c], .int .i64 151]) h_10 := fun hz h H => by
      refine stV_hp H 0 rfl (by first | exact Nat.le_of_ble_eq_true rfl | simp) rfl fun h hsz H => ?_
      refine stV_hp H 0 rfl (by first | exact Nat.le_of_ble_eq_true rfl | simp) rfl fun h hsz H => ?_
      refine stV_hp H 0 rfl (by first | exact Nat.le_of_ble_eq_true rfl | simp) rfl fun h hsz H => ?_
      refine ldI_of (H.cell 0 rfl rfl) ?_
      refine ldI_of (H.cell 0 rfl rfl) ?_
      refine ldS_of (H.cell 0 rfl rfl) ?_
      exact hk 151 0 0 [] g [] none 0 _ (.inl ⟨hz, rfl, rfl, rfl, rfl, rfl⟩) (Slot.nil _ _) ((Hp.suf (X := [_]) H).as (List.append_nil _).symm)
    refine ldB_of (H.cell 1 rfl (i := 8) rfl) ?_
    refine bcase_of (fun h1 => bad (.inl h1) _ H) fun h1 => ?_
    refine ldI_of (H.cell 1 rfl (i := 3) rfl) ?_
    refine bcase_dec (fun h2 => ?_) fun h2 => ?_
    · refine ldI_of (H.cell 1 rfl (i := 7) rfl) ?_
      refine ldI_of (H.cell 1 rfl (i := 1) rfl) ?_
      refine bcase_dec (fun h3 => bad (.inr ⟨by omega, by omega⟩) _ H) fun h3 => ?_
      refine ⟨?_, H⟩
      rintro (h4 | h4)
      · rw [h1] at h4; cases h4
      · omega
    · refine ⟨?_, H⟩
      rintro (h4 | h4)
      · rw [h1] at h4; cases h4
      · omega
  · rintro h u ⟨hn, H⟩
    try simp only [ptr_some_eq, add_mk, Nat.zero_add, Nat.add_zero]
    refine stV_hp H 1 rfl (Nat.le_of_ble_eq_true rfl) rfl fun h hsz H => ?_
    refine ldI_of (H.cell 1 rfl (i := 1) rfl) ?_
    refine stV_hp H 1 rfl (Nat.le_of_ble_eq_true rfl) rfl fun h hsz H => ?_
    have H : Hp h0 F h ([⟨r, true, T_api_Bitmap, [.int .i64 0, .int .i64 0, .slice none 0 0]⟩] ++ rfL p q c rest { g with nx := g.X, dn := true }) := H
    refine ldI_of (H.cell 1 rfl (i := 4) rfl) ?_
    refine ldI_of (H.cell 1 rfl (i := 5) rfl) ?_
    refine ldS_of (H.cell 1 rfl (i := 6) rfl) ?_
    refine copyB_ok (ws := g.ws) (row_rdO H 2 rfl) (by omega) (by omega) fun o orest h H' => ?_
    replace H := H.join H' rfl
    clear H'
    refine ⟨_, _, _, _, _, rfl, ?_⟩
    refine stV_hp H 0 rfl (by first | exact Nat.le_of_ble_eq_true rfl | simp) rfl fun h hsz H => ?_
    refine stV_hp H 0 rfl (by first | exact Nat.le_of_ble_eq_true rfl | simp) rfl fun h hsz H => ?_
    refine stV_hp H 0 rfl (by first | exact Nat.le_of_ble_eq_true rfl | simp) rfl fun h hsz H => ?_
    refine ldI_of (H.cell 0 rfl rfl) ?_
    refine ldI_of (H.cell 0 rfl rfl) ?_
    refine ldS_of (H.cell 0 rfl rfl) ?_
    refine hk 0 _ _ g.ws _ [⟨o, true, T_uint64, u64s g.ws ++ orest⟩] _ _ _ (.inr ⟨hn, rfl, rfl, rfl, rfl, rfl⟩) (Slot.one (by rw [u64s_length, Nat.mul_one]) (by rw [List.length_append, u64s_length, Nat.mul_one])) ?_
    exact H.pick [1, 2, 3] (by decide) rfl

end Go.Bm
