/- PgD: a script of pages as it comes in as an argument: the law PageExact over it. -/
import Derived.Test.YtlmopdohgipbeaaPgC
import Derived.Test.YtlmopdohgipbeaaDen
set_option linter.unusedVariables false
set_option linter.unusedSimpArgs false
namespace Go.Bm
open Go Go.Den Go.Den.Ytlmopdohgipbeaa

theorem list3 {α : Type} {l : List α} (h : l.length = 3) : ∃ a b c, l = [a, b, c] := by
  match l, h with
  | [a, b, c], _ => exact ⟨a, b, c, rfl⟩
theorem list4 {α : Type} {l : List α} (h : l.length = 4) : ∃ a b c d, l = [a, b, c, d] := by
  match l, h with
  | [a, b, c, d], _ => exact ⟨a, b, c, d, rfl⟩
theorem list6 {α : Type} {l : List α} (h : l.length = 6) : ∃ a b c d e f, l = [a, b, c, d, e, f] := by
  match l, h with
  | [a, b, c, d, e, f], _ => exact ⟨a, b, c, d, e, f, rfl⟩
theorem list7 {α : Type} {l : List α} (h : l.length = 7) : ∃ a b c d e f g, l = [a, b, c, d, e, f, g] := by
  match l, h with
  | [a, b, c, d, e, f, g], _ => exact ⟨a, b, c, d, e, f, g, rfl⟩
noncomputable abbrev TP := Go.Proofs.Try.prog
theorem one_of {P : Program} {h : Heap} {t : TypeId} {cs : List Value} {o : Nat} {v : Value} (k : P.cellsOf t = 1) (H : WDx P h t ((cs.drop o).take (P.cellsOf t))) (hv : cs[o]? = some v) : WDx P h t [v] := by
  rw [k] at H
  have : (cs.drop o).take 1 = [v] := by
    have ho := (List.getElem?_eq_some_iff.1 hv).1
    rw [List.drop_eq_getElem_cons ho]
    have := (List.getElem?_eq_some_iff.1 hv).2
    simp [this]
  rw [this] at H
  exact H
theorem inI_of {n : Int} (h : IntKind.i64.min ≤ n ∧ n ≤ IntKind.i64.max) : InI n := by
  have h1 : IntKind.i64.min = -9223372036854775808 := by decide
  have h2 : IntKind.i64.max = 9223372036854775807 := by decide
  rw [h1, h2] at h
  unfold InI
  omega
theorem u64s_ints {l : List Int} (h : ∀ x ∈ l, IntKind.u64.min ≤ x ∧ x ≤ IntKind.u64.max) : (l.map fun x => (.int .u64 x : Value)) = u64s (l.map Int.toNat) ∧ W64 (l.map Int.toNat) := by
  have h1 : IntKind.u64.min = 0 := by decide
  have h2 : IntKind.u64.max = 18446744073709551615 := by decide
  rw [h1, h2] at h
  constructor
  · unfold u64s
    rw [List.map_map]
    refine List.map_congr_left fun x hx => ?_
    have := h x hx
    show Value.int .u64 x = .int .u64 ((x.toNat : Nat) : Int)
    rw [Int.toNat_of_nonneg this.1]
  · intro y hy
    obtain ⟨x, hx, rfl⟩ := List.mem_map.1 hy
    have := h x hx
    show x.toNat < 18446744073709551616
    omega
theorem k_int : TP.cellsOf T_int = 1 := by kernel_rfl
theorem k_s_uint64 : TP.cellsOf T_s_uint64 = 1 := by kernel_rfl
theorem wd_words {h : Heap} {cs : List Value} (H : WDx TP h T_s_uint64 cs) :
    ∃ q cap, ∃ ws : List Nat, cs = [.slice q ws.length cap] ∧ ws.length < 140737488351300 ∧ rdO h q (ws.length * 1) (u64s ws) ∧ W64 ws := by
  obtain ⟨q, cap, l, rfl, h1, h2, h3, h4, h5⟩ := wd_ints (k := .u64) Go.Proofs.Try.underlying36 Go.Proofs.Try.underlying114 (by kernel_rfl) H
  obtain ⟨e1, e2⟩ := u64s_ints h5
  have k1 : TP.bytesOf T_uint64 = 8 := by kernel_rfl
  rw [k1] at h2
  have hr : reachBytes = 140737488351232 := rfl
  rw [e1] at h4
  exact ⟨q, cap, l.map Int.toNat, by simp, by simp; omega, by simpa using h4, e2⟩
/-- A bitmap that comes in. -/
theorem wd_bitmap {h : Heap} {cs : List Value} (H : WDx TP h T_api_Bitmap cs) :
    ∃ w b q cap, ∃ ws : List Nat, cs = [.int .i64 w, .int .i64 b, .slice q ws.length cap] ∧ InI w ∧ InI b ∧ ws.length < 140737488351300 ∧ rdO h q (ws.length * 1) (u64s ws) ∧ W64 ws := by
  obtain ⟨hl, hf⟩ := wd_struct Go.Proofs.Try.underlying38 H
  have k : TP.cellsOf T_api_Bitmap = 3 := by kernel_rfl
  rw [k] at hl
  obtain ⟨a, b, c, rfl⟩ := list3 hl
  obtain ⟨w, ew, iw⟩ := wd_int Go.Proofs.Try.underlying3 (one_of k_int (hf 0 _ rfl) (v := a) rfl)
  obtain ⟨b', eb, ib⟩ := wd_int Go.Proofs.Try.underlying3 (one_of k_int (hf 1 _ rfl) (v := b) rfl)
  obtain ⟨q, cap, ws, e2, g1, g2, g3⟩ := wd_words (one_of k_s_uint64 (hf 2 _ rfl) (v := c) rfl)
  simp only [List.cons.injEq, and_true] at ew eb e2
  subst ew eb e2
  exact ⟨w, b', q, cap, ws, rfl, inI_of iw, inI_of ib, g1, g2, g3⟩
theorem wd_sheet {h : Heap} {cs : List Value} (H : WDx TP h T_api_Sheet cs) : ∃ w x d s : Int, cs = [.int .i64 w, .int .i64 x, .int .i64 d, .int .i64 s] ∧ InI w ∧ InI x ∧ InI d ∧ InI s := by
  obtain ⟨hl, hf⟩ := wd_struct Go.Proofs.Try.underlying23 H
  have k : TP.cellsOf T_api_Sheet = 4 := by kernel_rfl
  rw [k] at hl
  obtain ⟨a, b, c, d, rfl⟩ := list4 hl
  obtain ⟨w, e0, i0⟩ := wd_int Go.Proofs.Try.underlying3 (one_of k_int (hf 0 _ rfl) (v := a) rfl)
  obtain ⟨x, e1, i1⟩ := wd_int Go.Proofs.Try.underlying3 (one_of k_int (hf 1 _ rfl) (v := b) rfl)
  obtain ⟨y, e2, i2⟩ := wd_int Go.Proofs.Try.underlying3 (one_of k_int (hf 2 _ rfl) (v := c) rfl)
  obtain ⟨z, e3, i3⟩ := wd_int Go.Proofs.Try.underlying3 (one_of k_int (hf 3 _ rfl) (v := d) rfl)
  simp only [List.cons.injEq, and_true] at e0 e1 e2 e3
  subst e0 e1 e2 e3
  exact ⟨w, x, y, z, rfl, inI_of i0, inI_of i1, inI_of i2, inI_of i3⟩
theorem ops_of {h : Heap} {cs : List Value} (H : WDx TP h T_s_burinlaw15_Op cs) : ∃ q len cap, cs = [.slice q len cap] ∧ OpsV h q len := by
  obtain ⟨q, len, cap, rfl, _, _, _, h4⟩ := wd_slice Go.Proofs.Try.underlying24 H
  refine ⟨q, len, cap, rfl, fun i hi => ?_⟩
  obtain ⟨a, cs', ha, hr, hd⟩ := h4 i hi
  obtain ⟨hl, hf⟩ := wd_struct Go.Proofs.Try.underlying40 hd
  have k : TP.cellsOf T_burinlaw15_Op = 7 := by kernel_rfl
  rw [k] at hl hr
  obtain ⟨v0, v1, v2, v3, v4, v5, v6, rfl⟩ := list7 hl
  obtain ⟨d, e0, _⟩ := wd_int Go.Proofs.Try.underlying3 (one_of k_int (hf 0 _ rfl) (v := v0) rfl)
  obtain ⟨x, e1, i1⟩ := wd_int Go.Proofs.Try.underlying3 (one_of k_int (hf 1 _ rfl) (v := v1) rfl)
  obtain ⟨y, e2, i2⟩ := wd_int Go.Proofs.Try.underlying3 (one_of k_int (hf 2 _ rfl) (v := v2) rfl)
  obtain ⟨op, e3, _⟩ := wd_int Go.Proofs.Try.underlying3 (one_of k_int (hf 3 _ rfl) (v := v3) rfl)
  have kb : TP.cellsOf T_api_Bitmap = 3 := by kernel_rfl
  have f4 : WDx TP h T_api_Bitmap (([v0, v1, v2, v3, v4, v5, v6].drop 4).take (TP.cellsOf T_api_Bitmap)) := hf 4 _ rfl
  rw [kb] at f4
  obtain ⟨w, b, q2, cap2, ws, e4, iw, ib, g1, g2, g3⟩ := wd_bitmap f4
  simp only [List.drop_succ_cons, List.drop_zero, List.take_succ_cons, List.take_zero, List.cons.injEq, and_true] at e0 e1 e2 e3 e4
  obtain ⟨e4, e5, e6⟩ := e4
  subst e0 e1 e2 e3 e4 e5 e6
  have c := fun j v hj => hr.2 j v hj
  exact ⟨a, d, x, y, op, w, b, ws, ha, ⟨c 0 _ rfl, c 1 _ rfl, c 2 _ rfl, c 3 _ rfl, c 4 _ rfl, c 5 _ rfl, ⟨q2, cap2, c 6 _ rfl, g2⟩, g3, g1, inI_of i1, inI_of i2, iw, ib⟩⟩
theorem due_of {h : Heap} {cs : List Value} (H : WDx TP h T_s_bool cs) : ∃ q len cap, cs = [.slice q len cap] ∧ DueV h q len := by
  obtain ⟨q, len, cap, rfl, _, _, _, h4⟩ := wd_slice Go.Proofs.Try.underlying25 H
  refine ⟨q, len, cap, rfl, fun i hi => ?_⟩
  obtain ⟨a, cs', ha, hr, hd⟩ := h4 i hi
  obtain ⟨b, rfl⟩ := wd_bool Go.Proofs.Try.underlying4 hd
  have k : TP.cellsOf T_bool = 1 := by kernel_rfl
  rw [k] at hr
  have := hr.2 0 _ rfl
  rw [add_zero'] at this
  exact ⟨a, b, ha, this⟩
theorem script15_arg {h : Heap} {cs : Array Value} (hw : WDx TP h T_burinlaw15_Script cs.toList) :
    ∃ w x d s sq slen scap dq dlen dcap, cs = #[.int .i64 w, .int .i64 x, .int .i64 d, .int .i64 s, .slice sq slen scap, .slice dq dlen dcap] ∧ OpsV h sq slen ∧ DueV h dq dlen ∧ InI w ∧ InI x := by
  obtain ⟨hl, hf⟩ := wd_struct Go.Proofs.Try.underlying27 hw
  have k : TP.cellsOf T_burinlaw15_Script = 6 := by kernel_rfl
  rw [k] at hl
  obtain ⟨v0, v1, v2, v3, v4, v5, hcs⟩ := list6 hl
  rw [hcs] at hf
  have ks : TP.cellsOf T_api_Sheet = 4 := by kernel_rfl
  have k1 : TP.cellsOf T_s_burinlaw15_Op = 1 := by kernel_rfl
  have k2 : TP.cellsOf T_s_bool = 1 := by kernel_rfl
  have f0 : WDx TP h T_api_Sheet (([v0, v1, v2, v3, v4, v5].drop 0).take (TP.cellsOf T_api_Sheet)) := hf 0 _ rfl
  rw [ks] at f0
  obtain ⟨w, x, d, s, e0, iw, ix, _, _⟩ := wd_sheet f0
  obtain ⟨sq, slen, scap, e1, ho⟩ := ops_of (one_of k1 (hf 1 _ rfl) (v := v4) rfl)
  obtain ⟨dq, dlen, dcap, e2, hd⟩ := due_of (one_of k2 (hf 2 _ rfl) (v := v5) rfl)
  simp only [List.drop_zero, List.take_succ_cons, List.take_zero, List.cons.injEq, and_true] at e0 e1 e2
  obtain ⟨a0, a1, a2, a3⟩ := e0
  subst a0 a1 a2 a3 e1 e2
  refine ⟨w, x, d, s, sq, slen, scap, dq, dlen, dcap, ?_, ho, hd, iw, ix⟩
  rw [← hcs]
theorem exact_arg {h : Heap} {cs : Array Value} (hsz : cs.size = TP.cellsOf T_burinlaw15_Script) (hw : WDx TP h T_burinlaw15_Script cs.toList) {K : Value → Heap → Prop} {Kp : List PanicEntry → Heap → Prop} (hk : ∀ h', hext h h' → K (.bool true) h') :
    CP F_burinlaw15_PageExact #[.agg cs] h K Kp := by
  obtain ⟨w, x, d, s, sq, slen, scap, dq, dlen, dcap, rfl, ho, hd, _, _⟩ := script15_arg hw
  exact exact_law ho hd hk

end Go.Bm
