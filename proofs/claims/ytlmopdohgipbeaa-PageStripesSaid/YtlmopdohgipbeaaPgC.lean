/- PgC: the law PageExact, said of memory. -/
import Derived.Test.YtlmopdohgipbeaaPgB
import Derived.Test.YtlmopdohgipbeaaBlaw15x
import Derived.Test.YtlmopdohgipbeaaBlaw15PageExact
set_option linter.unusedVariables false
set_option linter.unusedSimpArgs false
namespace Go.Bm
open Go Go.Den Go.Den.Ytlmopdohgipbeaa

theorem one_may : MayP 1 1 [9223372036854775808] := by
  refine ⟨by unfold SizeP; omega, by decide, fun y hy => ?_⟩
  have : y = 0 := by simp at hy; omega
  subst this
  decide
theorem three_ws {R0 R : List Nat} (h0 : FullP 3 3 0 R0) (h : LaidP ⟨3, 3, 0, 2, R0, 0, false⟩ 0 0 0 1 1 [9223372036854775808] R) : R = [9223372036854775808, 0, 0] := by
  have hw3 : wds 3 = 1 := rfl
  obtain ⟨h1, h2, h3⟩ := h
  dsimp only at h1 h3
  rw [hw3] at h1 h3
  refine pix_ext (wd := 1) (h := 3) h1 rfl h2 (fun v hv => by simp at hv; rcases hv with rfl | rfl <;> decide) fun y hy x hx => ?_
  have := h3 y hy x hx
  have hz := h0.2.2 y hy x hx
  rw [hw3] at hz
  rw [this]
  have hx64 : x / 64 = 0 := by omega
  have hR : pix [9223372036854775808, 0, 0] 1 x y = decide (x = 0 ∧ y = 0) := by
    unfold pix
    rw [hx64]
    have hb : (9223372036854775808 : Nat) = 2 ^ 63 := rfl
    rcases (show y = 0 ∨ y = 1 ∨ y = 2 by omega) with rfl | rfl | rfl
    · show (9223372036854775808 : Nat).testBit _ = _
      rw [hb, Nat.testBit_two_pow, decide_eq_decide]
      omega
    · show (0 : Nat).testBit _ = _
      rw [Nat.zero_testBit, eq_comm, decide_eq_false_iff_not]; omega
    · show (0 : Nat).testBit _ = _
      rw [Nat.zero_testBit, eq_comm, decide_eq_false_iff_not]; omega
  rw [hR, hz]
  by_cases h4 : x = 0 ∧ y = 0
  · obtain ⟨rfl, rfl⟩ := h4
    rw [if_pos (by omega)]
    decide
  · rw [if_neg (by omega), decide_eq_false h4]
    simp

set_option maxRecDepth 100000 in
set_option maxHeartbeats 1000000 in
theorem wakes15_ok {hB : Heap} {K : Value → Heap → Prop} {Kp : List PanicEntry → Heap → Prop} (hk : ∀ h', hext hB h' → K (.bool true) h') : CP F_burinlaw15_wakes #[] hB K Kp := by
  refine call_burinlaw15_wakes ?_
  unfold burinlaw15_wakes
  have hs : SheetP 3 3 0 2 := ⟨by unfold SizeP; omega, by omega, by omega, by omega⟩
  refine pnew_ok (fun G p m q rest h hw hx hd hss _ hn hdn hf H => ?_) fun _ hbad _ => absurd hs hbad
  obtain ⟨W, X, d, s, ws, nx, dn⟩ := G
  dsimp only at hw hx hd hss hn hdn hf
  obtain rfl : W = 3 := by omega
  obtain rfl : X = 3 := by omega
  obtain rfl : d = 0 := by omega
  obtain rfl : s = 2 := by omega
  obtain rfl : nx = 0 := hn
  obtain rfl : dn = false := hdn
  refine ⟨_, _, rfl, ?_⟩
  refine bcase_false (by rfl) ?_
  refine bcase_false (by rfl) ?_
  refine newC_hp H fun o h H => ?_
  have hok : PgOk ⟨3, 3, 0, 2, ws, 0, false⟩ := ⟨hs.1, hf.1, hf.2.1, Nat.zero_le _, by show 2 ≤ 1048576; decide⟩
  have hr := row_rdO H 3 (xs := [9223372036854775808]) (rest := []) rfl
  refine padd_ok (ws2 := [9223372036854775808]) (H.give [0, 1, 2] (by decide) rfl) hok hr (fun v hv => by simp at hv; rw [hv]; decide) (by decide) ⟨by omega, by omega⟩ ⟨by omega, by omega⟩ ⟨by omega, by omega⟩ fun e g' h' ha H' => ?_
  replace H := H.put [0, 1, 2] (by decide) rfl rfl H' rfl rfl
  clear H'
  have hok' := ha.ok hok
  rcases ha with ⟨a, _, _⟩ | ⟨_, l, _, _⟩ | ⟨_, _, rfl, R, hR, rfl⟩
  · exact absurd ⟨by omega, by omega, one_may⟩ a
  · rcases l with l | l | l
    · cases l
    · exact absurd l (by show ¬ (0 : Int) < ((0 : Nat) : Int); omega)
    · exact absurd l.2 (by show ¬ ((2 : Nat) : Int) - 1 < 0 - ((0 : Nat) : Int); omega)
  have hRe := three_ws hf hR
  subst hRe
  dsimp only at hok' H
  have hs1 : stripeG ⟨3, 3, 0, 2, [9223372036854775808, 0, 0], 0, false⟩ 2 = (151, ⟨3, 3, 0, 2, [9223372036854775808, 0, 0], 0, false⟩) := by simp [stripeG]
  have hs2 : stripeG ⟨3, 3, 0, 2, [9223372036854775808, 0, 0], 0, false⟩ 1 = (0, ⟨3, 3, 0, 2, [9223372036854775808, 0, 0], 2, false⟩) := by simp [stripeG]
  have hs3 : stripeG ⟨3, 3, 0, 2, [9223372036854775808, 0, 0], 2, false⟩ 2 = (0, ⟨3, 3, 0, 2, [9223372036854775808, 0, 0], 3, false⟩) := by simp [stripeG]
  have H : Hp hB [] h' (pgL p m q rest ⟨3, 3, 0, 2, [9223372036854775808, 0, 0], 0, false⟩ ++ [⟨o, true, T_uint64, [.int .u64 9223372036854775808]⟩]) := H
  refine ⟨_, rfl, ?_⟩
  refine bcase_false (by rfl) ?_
  refine pstripe_ok (H.give [0, 1, 2] (by decide) rfl) hok' fun h' H' => ?_
  rw [hs1] at H' ⊢
  replace H := H.put [0, 1, 2] (by decide) rfl rfl H' rfl rfl
  clear H'
  have H : Hp hB [] h' (pgL p m q rest ⟨3, 3, 0, 2, [9223372036854775808, 0, 0], 0, false⟩ ++ [⟨o, true, T_uint64, [.int .u64 9223372036854775808]⟩]) := H
  refine ⟨_, rfl, ?_⟩
  refine bcase_false (by rfl) ?_
  refine pstripe_ok (H.give [0, 1, 2] (by decide) rfl) hok' fun h' H' => ?_
  rw [hs2] at H' ⊢
  replace H := H.put [0, 1, 2] (by decide) rfl rfl H' rfl rfl
  clear H'
  have H : Hp hB [] h' (pgL p m q rest ⟨3, 3, 0, 2, [9223372036854775808, 0, 0], 2, false⟩ ++ [⟨o, true, T_uint64, [.int .u64 9223372036854775808]⟩]) := H
  refine ⟨_, rfl, ?_⟩
  refine bcase_false (by rfl) ?_
  refine pnext_ok (m := m) (g := ⟨3, 3, 0, 2, [9223372036854775808, 0, 0], 2, false⟩) H 0 rfl ?_
  refine ⟨_, rfl, ?_⟩
  refine bcase_false (by rfl) ?_
  have hok2 : PgOk ⟨3, 3, 0, 2, [9223372036854775808, 0, 0], 2, false⟩ := by have := stripeG_ok hok' 1; rw [hs2] at this; exact this
  refine pstripe_ok (H.give [0, 1, 2] (by decide) rfl) hok2 fun h' H' => ?_
  rw [hs3] at H' ⊢
  replace H := H.put [0, 1, 2] (by decide) rfl rfl H' rfl rfl
  clear H'
  have H : Hp hB [] h' (pgL p m q rest ⟨3, 3, 0, 2, [9223372036854775808, 0, 0], 3, false⟩ ++ [⟨o, true, T_uint64, [.int .u64 9223372036854775808]⟩]) := H
  refine ⟨_, rfl, ?_⟩
  refine bcase_false (by rfl) ?_
  have hok3 : PgOk ⟨3, 3, 0, 2, [9223372036854775808, 0, 0], 3, false⟩ := by have := stripeG_ok hok2 2; rw [hs3] at this; exact this
  refine pend_ok (g := ⟨3, 3, 0, 2, [9223372036854775808, 0, 0], 3, false⟩) (H.give [0, 1, 2] (by decide) rfl) hok3 fun e w b bs g' D qo c h' he hd H' => ?_
  have H := Go.Bm.Hp.backD H [0, 1, 2] (by decide) rfl rfl H' rfl hd.w rfl
  clear H'
  rcases he with ⟨a, _⟩ | ⟨_, rfl, rfl, rfl, rfl, rfl⟩
  · exact absurd a (by simp)
  refine ⟨_, _, _, _, _, _, rfl, ?_⟩
  have H : Hp hB [] h' (pgL p m q rest ⟨3, 3, 0, 2, [9223372036854775808, 0, 0], 3, true⟩ ++ [⟨o, true, T_uint64, [.int .u64 9223372036854775808]⟩] ++ D) := H
  refine newC_hp H fun r h H => ?_
  have H := H.rot
  try simp only [ptr_some_eq, add_mk, Nat.zero_add, Nat.add_zero]
  refine stV_hp H 0 rfl (by first | exact Nat.le_of_ble_eq_true rfl | simp) rfl fun h hsz H => ?_
  refine stV_hp H 0 rfl (by first | exact Nat.le_of_ble_eq_true rfl | simp) rfl fun h hsz H => ?_
  refine stV_hp H 0 rfl (by first | exact Nat.le_of_ble_eq_true rfl | simp) rfl fun h hsz H => ?_
  refine bcase_true (by rfl) ?_
  refine ldI_of (H.cell 0 rfl rfl) ?_
  refine ldI_of (H.cell 0 rfl rfl) ?_
  refine ldS_of (H.cell 0 rfl rfl) ?_
  refine newC_hp H fun r2 h H => ?_
  have H := H.rot
  have H : Hp hB [] h ([⟨r2, true, T_uint64, [.int .u64 9223372036854775808, .int .u64 0, .int .u64 0]⟩] ++ ([⟨r, true, T_api_Bitmap, [.int .i64 ((3 : Nat) : Int), .int .i64 ((3 : Nat) : Int), .slice qo 3 c]⟩] ++ (pgL p m q rest ⟨3, 3, 0, 2, [9223372036854775808, 0, 0], 3, true⟩ ++ [⟨o, true, T_uint64, [.int .u64 9223372036854775808]⟩] ++ D))) := H
  have h1 := row_rdO H 0 (xs := [9223372036854775808, 0, 0]) (rest := []) rfl
  have h2 := Slot.rdO' hd H fun e he => List.mem_append_right _ (List.mem_append_right _ (List.mem_append_right _ he))
  refine eqB_ok (xs := [9223372036854775808, 0, 0]) (ys := [9223372036854775808, 0, 0]) h2 h1 (by decide) fun h' e => ?_
  refine ⟨_, rfl, ?_⟩
  have := hk h' (H.hext.trans e)
  simpa using this

/-- What is to be done, as it lies in memory. -/
structure OpV (h : Heap) (a : Addr) (d x y op w b : Int) (ws : List Nat) : Prop where
  c0 : hcell h (a.add 0) = some (.int .i64 d)
  c1 : hcell h (a.add 1) = some (.int .i64 x)
  c2 : hcell h (a.add 2) = some (.int .i64 y)
  c3 : hcell h (a.add 3) = some (.int .i64 op)
  c4 : hcell h (a.add 4) = some (.int .i64 w)
  c5 : hcell h (a.add 5) = some (.int .i64 b)
  c6 : ∃ q c, hcell h (a.add 6) = some (.slice q ws.length c) ∧ rdO h q (ws.length * 1) (u64s ws)
  w64 : W64 ws
  len : ws.length < 140737488351300
  x : InI x
  y : InI y
  w : InI w
  b : InI b
def OpsV (h : Heap) (sq : Option Addr) (slen : Nat) : Prop := ∀ i, i < slen → ∃ a d x y op w b ws, sq = some a ∧ OpV h (a.add (i * 7)) d x y op w b ws
def DueV (h : Heap) (sq : Option Addr) (slen : Nat) : Prop := ∀ i, i < slen → ∃ a b, sq = some a ∧ hcell h (a.add (i * 1)) = some (.bool b)
theorem rfE_same {p q c : Nat} {g g' : Pg} (h1 : g'.nx = g.nx) (h2 : g'.dn = g.dn) (h3 : g'.W = g.W) (h4 : g'.X = g.X) (h5 : g'.d = g.d) (h6 : g'.s = g.s) (h7 : g'.ws.length = g.ws.length) : rfE p q c g' = rfE p q c g := by
  unfold rfE; rw [h1, h2, h3, h4, h5, h6, h7]

set_option maxRecDepth 100000 in
set_option maxHeartbeats 2000000 in
theorem exact_law {hB : Heap} {w0 x0 d0 s0 : Int} {sq : Option Addr} {slen scap : Nat} {dq : Option Addr} {dlen dcap : Nat} (hv : OpsV hB sq slen) (hdue : DueV hB dq dlen)
    {K : Value → Heap → Prop} {Kp : List PanicEntry → Heap → Prop} (hk : ∀ h', hext hB h' → K (.bool true) h') :
    CP F_burinlaw15_PageExact #[.agg #[.int .i64 w0, .int .i64 x0, .int .i64 d0, .int .i64 s0, .slice sq slen scap, .slice dq dlen dcap]] hB K Kp := by
  refine call_burinlaw15_PageExact ?_
  unfold burinlaw15_PageExact
  have H := Hp.nil hB []
  refine newC_hp H fun e h H => ?_
  try simp only [ptr_some_eq, add_mk, Nat.zero_add, Nat.add_zero]
  refine ldI_of (H.cell 0 rfl rfl) ?_
  refine ldI_of (H.cell 0 rfl rfl) ?_
  refine ldI_of (H.cell 0 rfl rfl) ?_
  refine ldI_of (H.cell 0 rfl rfl) ?_
  refine pnew_ok (fun G p m q rest h hw hx hd hss hsh hn hdn hf H' => ?_) fun h' hbad e' => ?_
  · obtain ⟨W, X, d, s, ws, nx, dn⟩ := G
    dsimp only at hw hx hd hss hsh hf hn hdn
    subst hw hx hd hss hn hdn
    have hsh : SheetP ((W : Nat) : Int) ((X : Nat) : Int) ((d : Nat) : Int) ((s : Nat) : Int) := hsh
    have hs4 : s ≤ 1048576 := by have := hsh.2.2.2; omega
    replace H := H.join H' rfl
    clear H'
    refine ⟨_, _, rfl, ?_⟩
    refine ldI_of (H.cell 0 rfl rfl) ?_
    refine ldI_of (H.cell 0 rfl rfl) ?_
    refine ldI_of (H.cell 0 rfl rfl) ?_
    refine ldI_of (H.cell 0 rfl rfl) ?_
    refine maySheet_ok fun b h1 hb e1 => ?_
    have H := H.ext e1
    refine ⟨_, rfl, ?_⟩
    refine bcase_not (fun h1 => by rw [hb.2 hsh] at h1; cases h1) fun h1 => ?_
    refine bcase_false (by rfl) ?_
    refine bcase_false (by rfl) ?_
    obtain ⟨W', X', e1, e2, hW1, hW2, hX1, hX2, hWX⟩ := size_nat hsh.1
    obtain rfl : W = W' := by omega
    obtain rfl : X = X' := by omega
    clear e1 e2
    refine ldI_of (H.cell 0 rfl rfl) ?_
    refine bindI_of (((W + 64 : Nat) : Int)) (by exact i64_at _ _ (by omega) (by omega) (by omega)) ?_
    refine ldI_of (H.cell 0 rfl rfl) ?_
    have hprod : (W + 64) * X ≤ 1048640 * 1048576 := Nat.mul_le_mul (by omega) (by omega)
    refine bindI_of ((((W + 64) * X : Nat) : Int)) (by exact i64_at _ _ mul_cast (by omega) (by omega)) ?_
    refine bcase_dec (fun h2 => ?_) fun h2 => ?_
    · exact wakes15_ok fun h' e => ⟨_, rfl, hk _ (H.hext.trans e)⟩
    refine ldI_of (H.cell 0 rfl rfl) ?_
    refine ldI_of (H.cell 0 rfl rfl) ?_
    refine ldI_of (H.cell 0 rfl rfl) ?_
    refine ldI_of (H.cell 0 rfl rfl) ?_
    refine rnew_ok hsh fun R p2 q2 c2 rest2 h' hf2 H' => ?_
    have hRR := hf2.eq hf
    subst hRR
    replace H := H.join H' rfl
    clear H'
    refine ⟨_, rfl, ?_⟩
    generalize hE : (⟨e, true, T_burinlaw15_Script, [.int .i64 (W : Nat), .int .i64 (X : Nat), .int .i64 (d : Nat), .int .i64 (s : Nat), .slice sq slen scap, .slice dq dlen dcap]⟩ : Ent) = E at H
    have hsame : ∀ g : Pg, g.W = W → g.X = X → g.d = d → g.s = s → True := fun _ _ _ _ _ => trivial
    let In : Heap → Pg → Prop := fun h g => PgOk g ∧ g.W = W ∧ g.X = X ∧ g.d = d ∧ g.s = s ∧ Hp hB [] h ([E] ++ pgL p m q rest g ++ rfL p2 q2 c2 rest2 g)
    have hIn : ∀ h g, In h g ↔ PgOk g ∧ g.W = W ∧ g.X = X ∧ g.d = d ∧ g.s = s ∧ Hp hB [] h ([E] ++ pgL p m q rest g ++ rfL p2 q2 c2 rest2 g) := fun _ _ => Iff.rfl
    have hcE : ∀ {h : Heap} {L : List Ent} {i : Nat} {v : Value} (k : Nat), Hp hB [] h L → L[k]? = some E → ([.int .i64 (W : Nat), .int .i64 (X : Nat), .int .i64 (d : Nat), .int .i64 (s : Nat), .slice sq slen scap, .slice dq dlen dcap] : List Value)[i]? = some v → hcell h ⟨e, i, none⟩ = some v := fun k H he hv => by
      rw [← hE] at he
      exact H.cell k he hv
    refine ⟨fun vs h' => ∃ g, In h' g, ?_, ?_⟩
    · refine ⟨fun n vs h' => ∃ (i : Nat) (g : Pg), i + n = 30 ∧ vs = [.int .i64 (i : Int)] ∧ In h' g, ⟨30, 0, ⟨W, X, d, s, R, 0, false⟩, rfl, rfl, (hIn _ _).2 ⟨⟨hsh.1, hf.1, hf.2.1, Nat.zero_le _, hs4⟩, rfl, rfl, rfl, rfl, H⟩⟩, ?_⟩
      clear H
      rintro n h u xx ⟨i, g, hin, hxx, hI⟩
      injection hxx with hxx
      injection hxx with _ hxx
      subst hxx
      obtain ⟨hok, gW, gX, gd, gs, H⟩ := (hIn _ _).1 hI
      have hgb := hok.b
      have hgnx := hok.nx
      have hgs := hok.s
      refine ldS_of (hcE 0 H rfl (i := 4) rfl) ?_
      refine bcase_dec (fun h3 => ?_) fun h3 => ⟨g, hI⟩
      refine bcase_dec (fun h4 => ?_) fun h4 => ⟨g, hI⟩
      have h3 : i < slen := by omega
      have h4 : i < 30 := by omega
      refine ldS_of (hcE 0 H rfl (i := 4) rfl) ?_
      refine needs_of (by omega) ?_
      obtain ⟨a, od, ox, oy, oop, ow, ob, ows, hsq, hop⟩ := hv i h3
      rw [hsq]
      obtain ⟨oq, oc, hc6, hor⟩ := hop.c6
      simp only [ptr_some_eq, Int.toNat_natCast]
      have fr : ∀ {c : Addr} {v : Value}, hcell hB c = some v → hcell h c = some v := fun hc => H.fr.cell (by simp) hc
      refine ldI_of (fr hop.c0) ?_
      refine ldI_of (fr hop.c1) ?_
      refine ldI_of (fr hop.c2) ?_
      refine ldI_of (fr hop.c3) ?_
      refine ldI_of (fr hop.c4) ?_
      refine ldI_of (fr hop.c5) ?_
      refine ldS_of (fr hc6) ?_
      clear fr
      refine newC_hp H fun r60 h H => ?_
      try simp only [ptr_some_eq, add_mk, Nat.zero_add, Nat.add_zero]
      refine stV_hp H 6 rfl (by first | exact Nat.le_of_ble_eq_true rfl | simp) rfl fun h hsz H => ?_
      refine stV_hp H 6 rfl (by first | exact Nat.le_of_ble_eq_true rfl | simp) rfl fun h hsz H => ?_
      refine stV_hp H 6 rfl (by first | exact Nat.le_of_ble_eq_true rfl | simp) rfl fun h hsz H => ?_
      refine stV_hp H 6 rfl (by first | exact Nat.le_of_ble_eq_true rfl | simp) rfl fun h hsz H => ?_
      refine stV_hp H 6 rfl (by first | exact Nat.le_of_ble_eq_true rfl | simp) rfl fun h hsz H => ?_
      refine stV_hp H 6 rfl (by first | exact Nat.le_of_ble_eq_true rfl | simp) rfl fun h hsz H => ?_
      refine stV_hp H 6 rfl (by first | exact Nat.le_of_ble_eq_true rfl | simp) rfl fun h hsz H => ?_
      have H : Hp hB [] h ([E] ++ pgL p m q rest g ++ rfL p2 q2 c2 rest2 g ++ [⟨r60, true, T_burinlaw15_Op, [.int .i64 od, .int .i64 ox, .int .i64 oy, .int .i64 oop, .int .i64 ow, .int .i64 ob, .slice oq ows.length oc]⟩]) := H
      refine ldS_of (H.cell 6 rfl rfl) ?_
      refine bcase_dec (fun h5 => ?_) fun h5 => ?_
      · refine bindI_of (((i + 1 : Nat) : Int)) (by exact i64_at _ _ (by omega) (by omega) (by omega)) ?_
        exact ⟨n - 1, by omega, i + 1, g, by omega, rfl, (hIn _ _).2 ⟨hok, gW, gX, gd, gs, H.pre⟩⟩
      have hol : ows.length ≤ 375 := by omega
      refine ⟨fun vs h' => ∃ g, In h' g, ?_, ?_⟩
      · refine ldI_of (H.cell 6 rfl rfl) ?_
        refine bcase_eq (fun h6 => ?_) fun h6 => ?_
        · -- Add
          refine ldI_of (H.cell 6 rfl rfl) ?_
          refine ⟨fun vs h' => h' = h ∧ ∃ y' : Int, InI y' ∧ vs = [.int .i64 y'], ?_, ?_⟩
          · refine ldS_of (hcE 0 H rfl (i := 5) rfl) ?_
            refine bcase_dec (fun h7 => ?_) fun h7 => ?_
            · have h7 : i < dlen := by omega
              refine ldS_of (hcE 0 H rfl (i := 5) rfl) ?_
              refine needs_of (by omega) ?_
              obtain ⟨da, db, hdq, hdc⟩ := hdue i h7
              rw [hdq]
              simp only [ptr_some_eq, Int.toNat_natCast]
              refine ldB_of (H.fr.cell (by simp) hdc) ?_
              refine bcase_of (fun h8 => ?_) fun h8 => ?_
              · refine ldI_of (H.cell 4 rfl (i := 7) rfl) ?_
                exact ⟨by first | rfl | trivial, _, ⟨by omega, by omega⟩, rfl⟩
              · exact ⟨by first | rfl | trivial, _, hop.y, rfl⟩
            · exact ⟨by first | rfl | trivial, _, hop.y, rfl⟩
          · rintro h' u' xy ⟨rfl, y', hy', hxy⟩
            injection hxy with hxy
            injection hxy with _ hxy
            subst hxy
            refine ldI_of (H.cell 6 rfl rfl) ?_
            refine ldI_of (H.cell 6 rfl rfl) ?_
            refine ldS_of (H.cell 6 rfl rfl) ?_
            refine lendB_ok (H.rdO hor) (by omega) fun o lrest lc h' hlc H' => ?_
            replace H := H.join H' rfl
            clear H'
            refine ⟨_, _, _, _, _, rfl, ?_⟩
            refine newC_hp H fun r94 h H => ?_
            try simp only [ptr_some_eq, add_mk, Nat.zero_add, Nat.add_zero]
            refine stV_hp H 8 rfl (by first | exact Nat.le_of_ble_eq_true rfl | simp) rfl fun h hsz H => ?_
            refine stV_hp H 8 rfl (by first | exact Nat.le_of_ble_eq_true rfl | simp) rfl fun h hsz H => ?_
            refine stV_hp H 8 rfl (by first | exact Nat.le_of_ble_eq_true rfl | simp) rfl fun h hsz H => ?_
            refine ldI_of (H.cell 6 rfl rfl) ?_
            refine ldI_of (H.cell 6 rfl rfl) ?_
            refine ldI_of (H.cell 8 rfl rfl) ?_
            refine ldI_of (H.cell 8 rfl rfl) ?_
            refine ldS_of (H.cell 8 rfl rfl) ?_
            refine padd_ok (H.give [1, 2, 3] (by decide) rfl) hok (row_rdO H 7 rfl) hop.w64 hop.len hop.x hy' hop.b fun e1 g1 h' ha H' => ?_
            replace H := H.put [1, 2, 3] (by decide) rfl rfl H' rfl rfl
            clear H'
            refine ⟨_, rfl, ?_⟩
            refine ldI_of (H.cell 8 rfl rfl) ?_
            refine ldI_of (H.cell 8 rfl rfl) ?_
            refine ldS_of (H.cell 8 rfl rfl) ?_
            refine ldI_of (H.cell 6 rfl rfl) ?_
            refine ldI_of (H.cell 6 rfl rfl) ?_
            refine ldS_of (H.cell 6 rfl rfl) ?_
            refine backB_ok (H.give [7] (by decide) rfl) (H.rdO hor) (by omega) hlc fun lcs h' H' => ?_
            replace H := H.put [7] (by decide) rfl rfl H' rfl rfl
            clear H'
            refine ⟨_, rfl, ?_⟩
            refine bcase_false (by rfl) ?_
            refine ldI_of (H.cell 6 rfl rfl) ?_
            refine ldI_of (H.cell 6 rfl rfl) ?_
            refine ldI_of (H.cell 6 rfl rfl) ?_
            refine ldI_of (H.cell 6 rfl rfl) ?_
            refine ldS_of (H.cell 6 rfl rfl) ?_
            refine radd_ok H 4 5 (by decide) rfl rfl hok (fun h' L' H' => H'.rdO hor) hop.w64 hop.len hop.x hy' hop.b fun e2 g2 h' ha2 H' n1 n2 n3 n4 n5 n6 n7 => ?_
            obtain ⟨rfl, rfl⟩ := ha.det ha2
            refine ⟨_, rfl, ?_⟩
            refine bcase_false (by simp) ?_
            refine ⟨g1, (hIn _ _).2 ⟨ha.ok hok, by omega, by omega, by omega, by omega, ?_⟩⟩
            have := H'.take 6
            refine this.as ?_
            simp only [rfL, rfE_same n1 n2 n3 n4 n5 n6 n7]
            rfl
        refine bcase_eq (fun h7 => ?_) fun h7 => ?_
        · -- Stripe
          refine ldI_of (H.cell 6 rfl rfl) ?_
          have both : ∀ (last : Int) (h : Heap), Hp hB [] h ([E] ++ pgL p m q rest g ++ rfL p2 q2 c2 rest2 g ++ [⟨r60, true, T_burinlaw15_Op, [.int .i64 od, .int .i64 ox, .int .i64 oy, .int .i64 oop, .int .i64 ow, .int .i64 ob, .slice oq ows.length oc]⟩]) →
              CP F_page_Page_Stripe #[.pointer (at0 p), .int .i64 last] h (fun v_142 h_143 => ∃ (r_144 : Int), v_142 = .int .i64 r_144 ∧ (
              CP F_burinref15_Page_Stripe #[.pointer (at0 p2), .int .i64 last] h_143 (fun v_145 h_146 => ∃ (r_147 : Int), v_145 = .int .i64 r_147 ∧ (
              bcase (r_144 != r_147) (K (.bool false) h_146) <| ∃ g, In h_146 g)) (Kp))) (Kp) := by
            intro last h H
            refine pstripe_ok (H.give [1, 2, 3] (by decide) rfl) hok fun h' H' => ?_
            replace H := H.put [1, 2, 3] (by decide) rfl rfl H' rfl rfl
            clear H'
            refine ⟨_, rfl, ?_⟩
            refine rstripe_ok (g := g) (H.give [4, 5] (by decide) rfl) hok fun h' H' => ?_
            replace H := H.put [4, 5] (by decide) rfl rfl H' rfl rfl
            clear H'
            refine ⟨_, rfl, ?_⟩
            refine bcase_false (by simp) ?_
            obtain ⟨s1, s2, s3, s4, _, _⟩ := stripeG_same g last
            exact ⟨(stripeG g last).2, (hIn _ _).2 ⟨stripeG_ok hok last, by omega, by omega, by omega, by omega, H.take 6⟩⟩
          refine ⟨fun vs h' => h' = h ∧ ∃ bb : Bool, vs = [.bool bb], ?_, ?_⟩
          · refine ldS_of (hcE 0 H rfl (i := 5) rfl) ?_
            refine bcase_dec (fun h8 => ?_) fun h8 => ?_
            · have h8 : i < dlen := by omega
              refine ldS_of (hcE 0 H rfl (i := 5) rfl) ?_
              refine needs_of (by omega) ?_
              obtain ⟨da, db, hdq, hdc⟩ := hdue i h8
              rw [hdq]
              simp only [ptr_some_eq, Int.toNat_natCast]
              refine ldB_of (H.fr.cell (by simp) hdc) ?_
              exact ⟨by first | rfl | trivial, _, rfl⟩
            · exact ⟨by first | rfl | trivial, _, rfl⟩
          · rintro h' u' xb ⟨rfl, bb, hxb⟩
            injection hxb with hxb
            injection hxb with hxb
            subst hxb
            refine bcase_of (fun h8 => ?_) fun h8 => ?_
            · refine ldI_of (H.cell 4 rfl (i := 7) rfl) ?_
              refine ldI_of (hcE 0 H rfl (i := 3) rfl) ?_
              refine bindI_of (((g.nx + s : Nat) : Int)) (by exact i64_at _ _ (by omega) (by omega) (by omega)) ?_
              refine bindI_of ((((g.nx + s : Nat) : Int) - 1)) (by exact i64_in _ (by omega) (by omega)) ?_
              refine ldI_of (hcE 0 H rfl (i := 1) rfl) ?_
              refine bindI_of ((((X : Nat) : Int) - 1)) (by exact i64_in _ (by omega) (by omega)) ?_
              refine bcase_dec (fun h9 => ?_) fun h9 => ?_
              · refine ldI_of (hcE 0 H rfl (i := 1) rfl) ?_
                refine bindI_of ((((X : Nat) : Int) - 1)) (by exact i64_in _ (by omega) (by omega)) ?_
                exact both _ _ H
              · exact both _ _ H
            · exact both _ _ H
        · -- End
          refine pend_ok (H.give [1, 2, 3] (by decide) rfl) hok fun e1 w1 b1 bs g1 D qo dc h' he hd H' => ?_
          have H := Go.Bm.Hp.backD H [1, 2, 3] (by decide) rfl rfl H' rfl hd.w rfl
          clear H'
          refine ⟨_, _, _, _, _, _, rfl, ?_⟩
          have H : Hp hB [] h' (([E] ++ pgL p m q rest g1 ++ rfL p2 q2 c2 rest2 g ++ [⟨r60, true, T_burinlaw15_Op, [.int .i64 od, .int .i64 ox, .int .i64 oy, .int .i64 oop, .int .i64 ow, .int .i64 ob, .slice oq ows.length oc]⟩]) ++ D) := H
          refine newC_hp H fun r166 h H => ?_
          have H := H.rot
          try simp only [ptr_some_eq, add_mk, Nat.zero_add, Nat.add_zero]
          refine stV_hp H 0 rfl (by first | exact Nat.le_of_ble_eq_true rfl | simp) rfl fun h hsz H => ?_
          refine stV_hp H 0 rfl (by first | exact Nat.le_of_ble_eq_true rfl | simp) rfl fun h hsz H => ?_
          refine stV_hp H 0 rfl (by first | exact Nat.le_of_ble_eq_true rfl | simp) rfl fun h hsz H => ?_
          refine rend_ok (g := g) (H.give [5, 6] (by decide) rfl) hok fun e2 w2 b2 bs2 g2 D2 qo2 dc2 h' he2 hd2 H' => ?_
          obtain ⟨rfl, rfl, rfl, rfl, rfl⟩ := he.det he2
          have H := Go.Bm.Hp.backD H [5, 6] (by decide) rfl rfl H' rfl hd2.w rfl
          clear H'
          refine ⟨_, _, _, _, _, _, rfl, ?_⟩
          have H : Hp hB [] h' (([⟨r166, true, T_api_Bitmap, [.int .i64 w1, .int .i64 b1, .slice qo bs.length dc]⟩] ++ (([E] ++ pgL p m q rest g1 ++ rfL p2 q2 c2 rest2 g1 ++ [⟨r60, true, T_burinlaw15_Op, [.int .i64 od, .int .i64 ox, .int .i64 oy, .int .i64 oop, .int .i64 ow, .int .i64 ob, .slice oq ows.length oc]⟩]) ++ D)) ++ D2) := H
          obtain ⟨hok1, hbl⟩ := he.ok hok
          refine newC_hp H fun r177 h H => ?_
          have H := H.rot
          try simp only [ptr_some_eq, add_mk, Nat.zero_add, Nat.add_zero]
          refine stV_hp H 0 rfl (by first | exact Nat.le_of_ble_eq_true rfl | simp) rfl fun h hsz H => ?_
          refine stV_hp H 0 rfl (by first | exact Nat.le_of_ble_eq_true rfl | simp) rfl fun h hsz H => ?_
          refine stV_hp H 0 rfl (by first | exact Nat.le_of_ble_eq_true rfl | simp) rfl fun h hsz H => ?_
          refine bcase_false (by simp) ?_
          refine ldI_of (H.cell 1 rfl rfl) ?_
          refine ldI_of (H.cell 1 rfl rfl) ?_
          refine ldS_of (H.cell 1 rfl rfl) ?_
          refine ldI_of (H.cell 0 rfl rfl) ?_
          refine ldI_of (H.cell 0 rfl rfl) ?_
          refine ldS_of (H.cell 0 rfl rfl) ?_
          have H : Hp hB [] h ([⟨r177, true, T_api_Bitmap, [.int .i64 w1, .int .i64 b1, .slice qo2 bs.length dc2]⟩] ++ (([⟨r166, true, T_api_Bitmap, [.int .i64 w1, .int .i64 b1, .slice qo bs.length dc]⟩] ++ (([E] ++ pgL p m q rest g1 ++ rfL p2 q2 c2 rest2 g1 ++ [⟨r60, true, T_burinlaw15_Op, [.int .i64 od, .int .i64 ox, .int .i64 oy, .int .i64 oop, .int .i64 ow, .int .i64 ob, .slice oq ows.length oc]⟩]) ++ D)) ++ D2)) := H
          have k2 := Slot.rdO' hd2 H fun e he => List.mem_append_right _ (List.mem_append_right _ he)
          have HD : Hp hB [] h (([E] ++ pgL p m q rest g1 ++ rfL p2 q2 c2 rest2 g1 ++ [⟨r60, true, T_burinlaw15_Op, [.int .i64 od, .int .i64 ox, .int .i64 oy, .int .i64 oop, .int .i64 ow, .int .i64 ob, .slice oq ows.length oc]⟩]) ++ D) := Hp.suf (X := [_]) (Hp.pre (Y := D2) (Hp.suf (X := [_]) H))
          have k1 := Slot.rdO' hd HD fun e he => List.mem_append_right _ he
          refine eqB_ok (xs := bs) (ys := bs) k1 k2 (by omega) fun h' e' => ?_
          have H := H.ext e'
          have HD := HD.ext e'
          refine ⟨_, rfl, ?_⟩
          refine bcase_false (by simp) ?_
          refine ldS_of (H.cell 1 rfl rfl) ?_
          refine overW_ok HD hd (by omega) fun h' H => ?_
          refine ⟨g1, (hIn _ _).2 ⟨hok1, ?_, ?_, ?_, ?_, H.pre⟩⟩
          · rcases he with ⟨_, _, _, _, _, c⟩ | ⟨_, _, _, _, _, c⟩ <;> rw [c] <;> exact gW
          · rcases he with ⟨_, _, _, _, _, c⟩ | ⟨_, _, _, _, _, c⟩ <;> rw [c] <;> exact gX
          · rcases he with ⟨_, _, _, _, _, c⟩ | ⟨_, _, _, _, _, c⟩ <;> rw [c] <;> exact gd
          · rcases he with ⟨_, _, _, _, _, c⟩ | ⟨_, _, _, _, _, c⟩ <;> rw [c] <;> exact gs
      · clear H hI hok gW gX gd gs hgb hgnx hgs
        rintro h' u' ⟨g', hI⟩
        obtain ⟨hok, gW, gX, gd, gs, H⟩ := (hIn _ _).1 hI
        try simp only [ptr_some_eq, add_mk, Nat.zero_add, Nat.add_zero]
        refine ldI_of (H.cell 4 rfl (i := 7) rfl) ?_
        refine pnext_ok H 1 rfl ?_
        refine ⟨_, rfl, hext.refl _, ?_⟩
        refine bcase_false (by simp) ?_
        refine bindI_of (((i + 1 : Nat) : Int)) (by exact i64_at _ _ (by omega) (by omega) (by omega)) ?_
        exact ⟨n - 1, by omega, i + 1, g', by omega, rfl, hI⟩
    · clear H
      rintro h u ⟨g, hI⟩
      refine ⟨fun vs h' => ∃ g, In h' g, ?_, ?_⟩
      · refine ⟨fun n vs h' => ∃ g, n = g.X - g.nx ∧ In h' g, ⟨_, g, rfl, hI⟩, ?_⟩
        clear hI
        rintro n h u ⟨g, hn, hI⟩
        obtain ⟨hok, gW, gX, gd, gs, H⟩ := (hIn _ _).1 hI
        have hgb := hok.b
        have hgnx := hok.nx
        have hgs := hok.s
        try simp only [ptr_some_eq, add_mk, Nat.zero_add, Nat.add_zero]
        refine ldI_of (H.cell 4 rfl (i := 3) rfl) ?_
        refine bcase_dec (fun h3 => ?_) fun h3 => ⟨g, hI⟩
        refine ldB_of (H.cell 4 rfl (i := 8) rfl) ?_
        refine bcase_not (fun h4 => ?_) fun h4 => ⟨g, hI⟩
        refine ldI_of (H.cell 4 rfl (i := 7) rfl) ?_
        refine ldI_of (H.cell 4 rfl (i := 1) rfl) ?_
        refine bcase_dec (fun h5 => ?_) fun h5 => ⟨g, hI⟩
        refine ldI_of (H.cell 4 rfl (i := 1) rfl) ?_
        refine ldI_of (H.cell 4 rfl (i := 3) rfl) ?_
        refine needs_of (by first | exact ⟨rfl, by omega⟩ | exact ⟨trivial, by omega⟩) ?_
        have hdv := Nat.div_le_self g.X g.s
        obtain ⟨Q, hQ⟩ : ∃ Q, Q = g.X / g.s := ⟨_, rfl⟩
        refine bindI_of (((Q : Nat) : Int)) (by exact i64_at _ _ (by rw [hQ]; exact tdiv_nat g.X g.s) (by omega) (by omega)) ?_
        refine bcase_dec (fun h6 => ?_) fun h6 => ⟨g, hI⟩
        refine ldI_of (H.cell 4 rfl (i := 7) rfl) ?_
        refine ldI_of (H.cell 4 rfl (i := 3) rfl) ?_
        refine bindI_of (((g.nx + g.s : Nat) : Int)) (by exact i64_at _ _ (by omega) (by omega) (by omega)) ?_
        refine bindI_of ((((g.nx + g.s : Nat) : Int) - 1)) (by exact i64_in _ (by omega) (by omega)) ?_
        refine ⟨fun vs h' => h' = h ∧ vs = [.int .i64 (((min (g.nx + g.s) g.X : Nat) : Int) - 1)], ?_, ?_⟩
        · refine ldI_of (H.cell 4 rfl (i := 1) rfl) ?_
          refine bindI_of ((((g.X : Nat) : Int) - 1)) (by exact i64_in _ (by omega) (by omega)) ?_
          refine bcase_dec (fun h7 => ?_) fun h7 => ?_
          · refine ldI_of (H.cell 4 rfl (i := 1) rfl) ?_
            refine bindI_of ((((g.X : Nat) : Int) - 1)) (by exact i64_in _ (by omega) (by omega)) ?_
            refine ⟨by first | rfl | trivial, ?_⟩
            congr 2
            omega
          · refine ⟨by first | rfl | trivial, ?_⟩
            congr 2
            omega
        · rintro h' u' xl ⟨rfl, hxl⟩
          injection hxl with hxl
          injection hxl with _ hxl
          subst hxl
          have hst : stripeG g (((min (g.nx + g.s) g.X : Nat) : Int) - 1) = (0, { g with nx := min (g.nx + g.s) g.X }) := by
            unfold stripeG
            rw [if_neg]
            rintro (h8 | h8 | h8 | h8)
            · rw [h4] at h8; cases h8
            · omega
            · omega
            · exact h8 rfl
          refine pstripe_ok (H.give [1, 2, 3] (by decide) rfl) hok fun h' H' => ?_
          replace H := H.put [1, 2, 3] (by decide) rfl rfl H' rfl rfl
          clear H'
          rw [hst] at H ⊢
          refine ⟨_, rfl, ?_⟩
          refine bcase_false (by rfl) ?_
          refine rstripe_ok (g := g) (H.give [4, 5] (by decide) rfl) hok fun h' H' => ?_
          replace H := H.put [4, 5] (by decide) rfl rfl H' rfl rfl
          clear H'
          rw [hst] at H ⊢
          refine ⟨_, rfl, ?_⟩
          refine bcase_false (by rfl) ?_
          have hok2 := stripeG_ok hok (((min (g.nx + g.s) g.X : Nat) : Int) - 1)
          rw [hst] at hok2
          exact ⟨g.X - min (g.nx + g.s) g.X, by omega, { g with nx := min (g.nx + g.s) g.X }, rfl, (hIn _ _).2 ⟨hok2, gW, gX, gd, gs, H⟩⟩
      · clear hI
        rintro h u ⟨g, hI⟩
        obtain ⟨hok, gW, gX, gd, gs, H⟩ := (hIn _ _).1 hI
        refine pend_ok (H.give [1, 2, 3] (by decide) rfl) hok fun e1 w1 b1 bs g1 D qo dc h' he hd H' => ?_
        have H := Go.Bm.Hp.backD H [1, 2, 3] (by decide) rfl rfl H' rfl hd.w rfl
        clear H'
        refine ⟨_, _, _, _, _, _, rfl, ?_⟩
        have H : Hp hB [] h' (([E] ++ pgL p m q rest g1 ++ rfL p2 q2 c2 rest2 g) ++ D) := H
        refine newC_hp H fun r166 h H => ?_
        have H := H.rot
        try simp only [ptr_some_eq, add_mk, Nat.zero_add, Nat.add_zero]
        refine stV_hp H 0 rfl (by first | exact Nat.le_of_ble_eq_true rfl | simp) rfl fun h hsz H => ?_
        refine stV_hp H 0 rfl (by first | exact Nat.le_of_ble_eq_true rfl | simp) rfl fun h hsz H => ?_
        refine stV_hp H 0 rfl (by first | exact Nat.le_of_ble_eq_true rfl | simp) rfl fun h hsz H => ?_
        refine rend_ok (g := g) (H.give [5, 6] (by decide) rfl) hok fun e2 w2 b2 bs2 g2 D2 qo2 dc2 h' he2 hd2 H' => ?_
        obtain ⟨rfl, rfl, rfl, rfl, rfl⟩ := he.det he2
        have H := Go.Bm.Hp.backD H [5, 6] (by decide) rfl rfl H' rfl hd2.w rfl
        clear H'
        refine ⟨_, _, _, _, _, _, rfl, ?_⟩
        have H : Hp hB [] h' (([⟨r166, true, T_api_Bitmap, [.int .i64 w1, .int .i64 b1, .slice qo bs.length dc]⟩] ++ (([E] ++ pgL p m q rest g1 ++ rfL p2 q2 c2 rest2 g1) ++ D)) ++ D2) := H
        obtain ⟨hok1, hbl⟩ := he.ok hok
        refine newC_hp H fun r177 h H => ?_
        have H := H.rot
        try simp only [ptr_some_eq, add_mk, Nat.zero_add, Nat.add_zero]
        refine stV_hp H 0 rfl (by first | exact Nat.le_of_ble_eq_true rfl | simp) rfl fun h hsz H => ?_
        refine stV_hp H 0 rfl (by first | exact Nat.le_of_ble_eq_true rfl | simp) rfl fun h hsz H => ?_
        refine stV_hp H 0 rfl (by first | exact Nat.le_of_ble_eq_true rfl | simp) rfl fun h hsz H => ?_
        refine bcase_true (by simp) ?_
        refine ldI_of (H.cell 1 rfl rfl) ?_
        refine ldI_of (H.cell 1 rfl rfl) ?_
        refine ldS_of (H.cell 1 rfl rfl) ?_
        refine ldI_of (H.cell 0 rfl rfl) ?_
        refine ldI_of (H.cell 0 rfl rfl) ?_
        refine ldS_of (H.cell 0 rfl rfl) ?_
        have H : Hp hB [] h ([⟨r177, true, T_api_Bitmap, [.int .i64 w1, .int .i64 b1, .slice qo2 bs.length dc2]⟩] ++ (([⟨r166, true, T_api_Bitmap, [.int .i64 w1, .int .i64 b1, .slice qo bs.length dc]⟩] ++ (([E] ++ pgL p m q rest g1 ++ rfL p2 q2 c2 rest2 g1) ++ D)) ++ D2)) := H
        have k2 := Slot.rdO' hd2 H fun e he => List.mem_append_right _ (List.mem_append_right _ he)
        have HD : Hp hB [] h (([E] ++ pgL p m q rest g1 ++ rfL p2 q2 c2 rest2 g1) ++ D) := Hp.suf (X := [_]) (Hp.pre (Y := D2) (Hp.suf (X := [_]) H))
        have k1 := Slot.rdO' hd HD fun e he => List.mem_append_right _ he
        refine eqB_ok (xs := bs) (ys := bs) k1 k2 (by omega) fun h' e' => ?_
        refine ⟨_, rfl, ?_⟩
        refine bcase_true (by simp) ?_
        exact wakes15_ok fun h2 e2 => ⟨_, rfl, hk _ ((H.hext.trans e').trans e2)⟩
  · have H := H.ext e'
    refine ⟨_, _, rfl, ?_⟩
    refine ldI_of (H.cell 0 rfl rfl) ?_
    refine ldI_of (H.cell 0 rfl rfl) ?_
    refine ldI_of (H.cell 0 rfl rfl) ?_
    refine ldI_of (H.cell 0 rfl rfl) ?_
    refine maySheet_ok fun b h1 hb e1 => ?_
    have H := H.ext e1
    refine ⟨_, rfl, ?_⟩
    refine bcase_not (fun h1 => ?_) fun h1 => absurd (hb.1 h1) hbad
    refine bcase_true (by rfl) ?_
    refine bcase_true (by rfl) ?_
    exact wakes15_ok fun h' e => ⟨_, rfl, hk _ (H.hext.trans e)⟩

end Go.Bm
