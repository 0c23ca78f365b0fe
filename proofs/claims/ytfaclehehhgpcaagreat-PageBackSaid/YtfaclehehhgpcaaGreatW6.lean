/- The given statement PageBackSaid is proved of the given program; there are no further conditions. W6: put together by wip/tools/bundle.py: PbE RdB RdC RnA RnB RnC Mlaw15PageReads Blaw15PageReads PbK PbL Mlaw15PageBack Blaw15PageBack PbM ArLink2 PbBack. -/
import Derived.Test.YtfaclehehhgpcaaGreatW1
import Derived.Test.YtfaclehehhgpcaaGreatW2
import Derived.Test.YtfaclehehhgpcaaGreatW3
import Derived.Test.YtfaclehehhgpcaaGreatW4
import Derived.Test.YtfaclehehhgpcaaGreatW5
import Derived.OrdersHeld
import Derived.OrdersIn
import Derived.TacticsIn
import Derived.RangeFuncSeq
import Derived.RangeFuncLeaves
import Derived.Test.YtfaclehehhgpcaaGreatProg
import Derived.WalkKit
import Derived.ProofKit
import Derived.OpenShut
import Derived.Carry
import Derived.Deep.SlicePairs
import Derived.Lib.SmallJoins
import Derived.Test.YtfaclehehhgpcaaGreatRows

/- PbE: the law PageEncodes, said of memory. -/
set_option linter.unusedVariables false
set_option linter.unusedSimpArgs false
namespace Go.Bm
open Go Go.Den Go.Den.YtfaclehehhgpcaaGreat
-- (nothing of Go.Ar opened)

theorem ptr_atB {q : Option Addr} {a : Addr} {K : Addr → Prop} (h : q = some a) (H : K a) : ptr q K := by subst h; exact H
structure SheetC (h : Heap) (a : Addr) (w g d s : Int) : Prop where
  c0 : hcell h (a.add 0) = some (.int .i64 w)
  c1 : hcell h (a.add 1) = some (.int .i64 g)
  c2 : hcell h (a.add 2) = some (.int .i64 d)
  c3 : hcell h (a.add 3) = some (.int .i64 s)
def SheetsV (h : Heap) (q : Option Addr) (n : Nat) : Prop := ∀ i, i < n → ∃ a w g d s, q = some a ∧ SheetC h (a.add (i * 4)) w g d s
structure RegC (h : Heap) (a : Addr) (x y op t : Int) (sk : Bool) (w b : Int) (ws : List Nat) (q1 : Option Addr) (cc : Nat) : Prop where
  c0 : hcell h (a.add 0) = some (.int .i64 x)
  c1 : hcell h (a.add 1) = some (.int .i64 y)
  c2 : hcell h (a.add 2) = some (.int .i64 op)
  c3 : hcell h (a.add 3) = some (.int .i64 t)
  c4 : hcell h (a.add 4) = some (.bool sk)
  c5 : hcell h (a.add 5) = some (.int .i64 w)
  c6 : hcell h (a.add 6) = some (.int .i64 b)
  c7 : hcell h (a.add 7) = some (.slice q1 ws.length cc)
  r1 : rdO h q1 (ws.length * 1) (u64s ws)
  w1 : W64 ws
  l1 : ws.length < 140737488351300
def RegsV (h : Heap) (q : Option Addr) (n : Nat) : Prop := ∀ i, i < n → ∃ a x y op t sk w b ws q1 c1, q = some a ∧ RegC h (a.add (i * 8)) x y op t sk w b ws q1 c1

set_option maxRecDepth 100000 in
/-- A region that comes in. -/
theorem wd_region {h : Heap} {cs : List Value} (H : WDx TP h T_api_Region cs) : ∃ x y op t sk w b q1 c1 ws, cs = [.int .i64 x, .int .i64 y, .int .i64 op, .int .i64 t, .bool sk, .int .i64 w, .int .i64 b, .slice q1 (List.length ws) c1] ∧ rdO h q1 (ws.length * 1) (u64s ws) ∧ W64 ws ∧ ws.length < 140737488351300 := by
  obtain ⟨hl, hf⟩ := wd_struct Go.Proofs.Tryz.underlying38 H
  have k : TP.cellsOf T_api_Region = 8 := by kernel_rfl
  rw [k] at hl
  obtain ⟨v0, v1, v2, v3, v4, v5, v6, v7, rfl⟩ : ∃ a b c d e f g i, cs = [a, b, c, d, e, f, g, i] := by
    match cs, hl with
    | [a, b, c, d, e, f, g, i], _ => exact ⟨a, b, c, d, e, f, g, i, rfl⟩
  have kb : TP.cellsOf T_api_Bitmap = 3 := by kernel_rfl
  have kB : TP.cellsOf T_bool = 1 := by kernel_rfl
  obtain ⟨x, e0, _⟩ := wd_int Go.Proofs.Tryz.underlying3 (one_of k_int (hf 0 _ rfl) (v := v0) rfl)
  obtain ⟨y, e1, _⟩ := wd_int Go.Proofs.Tryz.underlying3 (one_of k_int (hf 1 _ rfl) (v := v1) rfl)
  obtain ⟨op, e2, _⟩ := wd_int Go.Proofs.Tryz.underlying3 (one_of k_int (hf 2 _ rfl) (v := v2) rfl)
  obtain ⟨t, e3, _⟩ := wd_int Go.Proofs.Tryz.underlying3 (one_of k_int (hf 3 _ rfl) (v := v3) rfl)
  obtain ⟨sk, e4⟩ := wd_bool Go.Proofs.Tryz.underlying4 (one_of kB (hf 4 _ rfl) (v := v4) rfl)
  have f5 : WDx TP h T_api_Bitmap (([v0, v1, v2, v3, v4, v5, v6, v7].drop 5).take (TP.cellsOf T_api_Bitmap)) := hf 5 _ rfl
  rw [kb] at f5
  obtain ⟨w, b, q1, cap1, ws, e5, _, _, g1, g2, g3⟩ := wd_bitmap f5
  simp only [List.drop_succ_cons, List.drop_zero, List.take_succ_cons, List.take_zero, List.cons.injEq, and_true] at e0 e1 e2 e3 e4 e5
  obtain ⟨e50, e51, e52⟩ := e5
  subst e0 e1 e2 e3 e4 e50 e51 e52
  exact ⟨x, y, op, t, sk, w, b, q1, cap1, ws, rfl, g2, g3, g1⟩
theorem sheets_of {h : Heap} {cs : List Value} (H : WDx TP h T_s_api_Sheet cs) : ∃ q len cap, cs = [.slice q len cap] ∧ SheetsV h q len := by
  obtain ⟨q, len, cap, rfl, _, _, _, h4⟩ := wd_slice Go.Proofs.Tryz.underlying22 H
  refine ⟨q, len, cap, rfl, fun i hi => ?_⟩
  obtain ⟨a, cs', ha, hr, hd⟩ := h4 i hi
  have k : TP.cellsOf T_api_Sheet = 4 := by kernel_rfl
  rw [k] at hr
  obtain ⟨w, g, d, s, rfl, _⟩ := wd_sheet hd
  have c := fun j v hj => hr.2 j v hj
  exact ⟨a, w, g, d, s, ha, ⟨c 0 _ rfl, c 1 _ rfl, c 2 _ rfl, c 3 _ rfl⟩⟩
theorem regs_of {h : Heap} {cs : List Value} (H : WDx TP h T_s_api_Region cs) : ∃ q len cap, cs = [.slice q len cap] ∧ RegsV h q len := by
  obtain ⟨q, len, cap, rfl, _, _, _, h4⟩ := wd_slice Go.Proofs.Tryz.underlying23 H
  refine ⟨q, len, cap, rfl, fun i hi => ?_⟩
  obtain ⟨a, cs', ha, hr, hd⟩ := h4 i hi
  have k : TP.cellsOf T_api_Region = 8 := by kernel_rfl
  rw [k] at hr
  obtain ⟨x, y, op, t, sk, w, b, q1, c1, ws, rfl, g1, g2, g3⟩ := wd_region hd
  have c := fun j v hj => hr.2 j v hj
  exact ⟨a, x, y, op, t, sk, w, b, ws, q1, c1, ha, ⟨c 0 _ rfl, c 1 _ rfl, c 2 _ rfl, c 3 _ rfl, c 4 _ rfl, c 5 _ rfl, c 6 _ rfl, c 7 _ rfl, g1, g2, g3⟩⟩
end Go.Bm

/- RdB: the law ArithReads, said of memory. -/
set_option linter.unusedVariables false
set_option linter.unusedSimpArgs false
namespace Go.Ar
open Go Go.Den Go.Den.YtfaclehehhgpcaaGreat

end Go.Ar

/- RdC: a reading as it comes in as an argument: the law ArithReads over it. -/
set_option linter.unusedVariables false
set_option linter.unusedSimpArgs false
namespace Go.Ar
open Go Go.Den Go.Den.YtfaclehehhgpcaaGreat

theorem u8s_ints {l : List Int} (h : ∀ x ∈ l, IntKind.u8.min ≤ x ∧ x ≤ IntKind.u8.max) : (l.map fun x => (.int .u8 x : Value)) = u8s (l.map Int.toNat) ∧ ∀ x ∈ l.map Int.toNat, x < 256 := by
  have hb : ∀ x ∈ l, 0 ≤ x ∧ x ≤ 255 := fun x hx => by have := h x hx; simpa [IntKind.min, IntKind.max, IntKind.signed, IntKind.bits] using this
  constructor
  · unfold u8s
    rw [List.map_map]
    refine List.map_congr_left fun x hx => ?_
    have := hb x hx
    show Value.int .u8 x = .int .u8 ((x.toNat : Nat) : Int)
    rw [Int.toNat_of_nonneg this.1]
  · intro y hy
    obtain ⟨x, hx, rfl⟩ := List.mem_map.1 hy
    have := hb x hx
    omega
/-- Bytes that come in. -/
theorem wd_bytes {h : Heap} {cs : List Value} (H : WDx Go.Proofs.Tryz.prog h T_s_uint8 cs) :
    ∃ q cap, ∃ bs : List Nat, cs = [.slice q bs.length cap] ∧ bs.length ≤ cap ∧ cap < 140737488351300 ∧ (q = none → cap = 0) ∧ rdO h q (bs.length * 1) (u8s bs) ∧ ∀ x ∈ bs, x < 256 := by
  obtain ⟨q, cap, l, rfl, h1, h2, h3, h4, h5⟩ := wd_ints (k := .u8) Go.Proofs.Tryz.underlying27 Go.Proofs.Tryz.underlying5 (by kernel_rfl) H
  obtain ⟨e1, e2⟩ := u8s_ints h5
  have k1 : Go.Proofs.Tryz.prog.bytesOf T_uint8 = 1 := by kernel_rfl
  rw [k1] at h2
  have hr : reachBytes = 140737488351232 := rfl
  rw [e1] at h4
  refine ⟨q, cap, l.map Int.toNat, by simp, by simpa using h1, by omega, h3, by simpa using h4, e2⟩

end Go.Ar

/- RnA: as DenH, DenI, DenJ, inside a fence: code that ranges over functions, and functions that are ranged over. No program in sight. -/
set_option linter.unusedVariables false
set_option linter.unusedSimpArgs false
namespace Go.Den

/-- What is known of calls of yield: at a heap, what follows a return. -/
abbrev YP := Nat → List Value → Heap → (Value → Heap → Prop) → Prop
def YieldsHP (P : Program) : YP := fun l args h K => ∀ w : World, w.heap = h → YieldAt Fence.wide 0 P l args.toArray w fun e w' => keeps w w' ∧ ∃ v, e = .returned v ∧ K v w'.heap
def yieldOf : Value → Option Nat
  | .func (.yield l) f c => (match f.toList, c.toList with
    | [], [] => some l
    | _, _ => none)
  | _ => none
theorem yieldOf_spec {v : Value} {l : Nat} (h : yieldOf v = some l) : v = .func (.yield l) #[] #[] := by
  unfold yieldOf at h
  split at h
  · rename_i l' f c
    split at h
    · rename_i hf hc
      obtain rfl := Option.some.inj h
      have e1 : f = #[] := by apply Array.toList_inj.1; rw [hf]
      have e2 : c = #[] := by apply Array.toList_inj.1; rw [hc]
      rw [e1, e2]
    · cases h
  · cases h
/-! ### structs of numbers and truths held against one another -/
def eqCellsD (P : Program) : List Field → List Value → List Value → (Bool → Prop) → Prop
  | [], _, _, K => K true
  | f :: fs, cs, ds, K => match f.name != "_", P.underlying f.type, cs[f.offset]?, ds[f.offset]? with
    | true, some (.int _), some (.int k x), some (.int k' y) => needs (k = k') (eqCellsD P fs cs ds fun r => K ((x == y) && r))
    | true, some .bool, some (.bool x), some (.bool y) => eqCellsD P fs cs ds fun r => K ((x == y) && r)
    | _, _, _, _ => False
def structEqD (P : Program) (op : BinOp) (t : TypeId) (cs ds : List Value) (K : Value → Prop) : Prop := match op, P.underlying t, P.eqGuardType P.depth t, P.stoodInHeld t with
  | .eql, some (.struct fs), false, false => eqCellsD P fs.toList cs ds fun r => K (.bool r)
  | .neq, some (.struct fs), false, false => eqCellsD P fs.toList cs ds fun r => K (.bool (!r))
  | _, _, _, _ => False
section
variable {P : Program} {qt : Bool}
theorem wpS_partCell {t : TypeId} {d : TypeDesc} {cs : Array Value} {off : Nat} {v : Value} {h : Heap} {K : Value → Heap → Prop} (hu : P.underlying t = some d) (hd : isAggT P t = false) (hv : cs.toList[off]? = some v) (H : K v h) : wpS P qt (part t cs off) h K := by
  unfold part
  rw [wpS_bind, isAggT_spec t hu, hd]
  simp only [Bool.false_eq_true, if_false]
  have : cs[off]? = some v := by simpa using hv
  simp only [this]
  exact H
theorem equalIn_int {t : TypeId} {k0 : IntKind} (hu : P.underlying t = some (.int k0)) (k : IntKind) (a b : Int) (h : Heap) (K : Bool → Heap → Prop) (d : Nat) : wpS P qt (Op.equalIn (d + 1) t (.int k a) (.int k b)) h K = K (a == b) h := by
  unfold Op.equalIn
  rw [wpS_bind, wpS_underlying hu]
  simp [wpS_pure]
theorem eqCells_const {p : Prop} {cs ds : List Value} : ∀ {fs : List Field}, eqCellsD P fs cs ds (fun _ => p) → p
  | [], H => H
  | f :: fs, H => by
    unfold eqCellsD at H
    split at H
    · exact eqCells_const (needs_iff.1 H).2
    · exact eqCells_const H
    · exact H.elim
def eqBody (d : Nat) (xs ys : Array Value) (f : Field) : Sem (ForInStep (Option Bool × Unit)) := do
  if f.name ≠ "_" then
    if !(← Op.equalIn (d + 1) f.type (← part f.type xs f.offset) (← part f.type ys f.offset)) then pure (ForInStep.done (some false, ())) else pure (ForInStep.yield (none, ()))
  else pure (ForInStep.yield (none, ()))
theorem eqBody_ok {d : Nat} {xs ys : Array Value} {f : Field} {v w : Value} {r : Bool} {dd : TypeDesc} {h : Heap} {K : ForInStep (Option Bool × Unit) → Heap → Prop} (hn : f.name ≠ "_") (hu : P.underlying f.type = some dd) (ha : isAggT P f.type = false)
    (hv : xs.toList[f.offset]? = some v) (hw : ys.toList[f.offset]? = some w) (he : ∀ K' : Bool → Heap → Prop, wpS P qt (Op.equalIn (d + 1) f.type v w) h K' = K' r h) (h1 : r = true → K (.yield (none, ())) h) (h2 : r = false → K (.done (some false, ())) h) : wpS P qt (eqBody d xs ys f) h K := by
  unfold eqBody
  rw [if_pos hn, wpS_bind]
  refine wpS_partCell hu ha hv ?_
  rw [wpS_bind]
  refine wpS_partCell hu ha hw ?_
  rw [wpS_bind, he]
  cases r with
  | true => exact h1 rfl
  | false => exact h2 rfl
theorem loop_eq {d : Nat} {xs ys : Array Value} {h : Heap} : ∀ {fs : List Field} {K : Bool → Prop}, eqCellsD P fs xs.toList ys.toList K →
    wpS P qt (forIn fs ((none, ()) : Option Bool × Unit) fun f _ => eqBody d xs ys f) h (fun r h' => h' = h ∧ ((r.1 = none ∧ K true) ∨ (r.1 = some false ∧ K false))) := by
  intro fs
  induction fs with
  | nil => intro K H; rw [List.forIn_nil]; exact ⟨rfl, .inl ⟨rfl, H⟩⟩
  | cons f fs ih =>
    intro K H
    rw [List.forIn_cons, wpS_bind]
    unfold eqCellsD at H
    split at H
    · rename_i k0 k x k' y hn hu hv hw
      obtain ⟨hk, H2⟩ := needs_iff.1 H
      subst hk
      exact eqBody_ok (by simpa using hn) hu (by unfold isAggT; rw [hu]) hv hw (fun K' => equalIn_int hu k x y h K' d) (fun hr => by rw [hr] at H2; simp only [Bool.true_and] at H2; exact ih H2) (fun hr => by rw [hr] at H2; simp only [Bool.false_and] at H2; exact ⟨rfl, .inr ⟨rfl, eqCells_const H2⟩⟩)
    · rename_i x y hn hu hv hw
      exact eqBody_ok (by simpa using hn) hu (by unfold isAggT; rw [hu]) hv hw (fun K' => equalIn_bool hu x y h K' d) (fun hr => by rw [hr] at H; simp only [Bool.true_and] at H; exact ih H) (fun hr => by rw [hr] at H; simp only [Bool.false_and] at H; exact ⟨rfl, .inr ⟨rfl, eqCells_const H⟩⟩)
    · exact H.elim
theorem equalIn_struct {t : TypeId} {fs : Array Field} {xs ys : Array Value} {h : Heap} {K : Bool → Heap → Prop} {d : Nat} (hu : P.underlying t = some (.struct fs)) (hst : P.stoodInHeld t = false) (H : eqCellsD P fs.toList xs.toList ys.toList fun r => K r h) :
    wpS P qt (Op.equalIn (d + 2) t (.agg xs) (.agg ys)) h K := by
  unfold Op.equalIn
  rw [wpS_bind, wpS_underlying hu]
  simp only
  rw [wpS_bind, wpS_program, hst]
  simp only [Bool.false_eq_true, if_false]
  rw [wpS_bind, ← Array.forIn_toList]
  refine wpS_mono _ (loop_eq (d := d) H) ?_
  rintro r h' ⟨rfl, ⟨h1, h2⟩ | ⟨h1, h2⟩⟩
  · rw [h1]; exact h2
  · rw [h1]; exact h2
theorem structEqD_sound {op : BinOp} {t : TypeId} {xs ys : Array Value} {X Y : Operand} {h : Heap} {K : Value → Heap → Prop} (H : structEqD P op t xs.toList ys.toList fun v => K v h) :
    wpS P qt (do eqGuard op t X Y (.agg xs) (.agg ys); binOp op t (.agg xs) (.agg ys)) h K := by
  have hm : Op.maxDepth = 9998 + 2 := rfl
  have guard : ∀ op, (op = .eql ∨ op = .neq) → P.eqGuardType P.depth t = false → ∀ K' : Unit → Heap → Prop, K' () h → wpS P qt (eqGuard op t X Y (.agg xs) (.agg ys)) h K' := fun op ho hg K' hk => by
    unfold eqGuard
    rcases ho with rfl | rfl
    · simp only
      rw [if_neg (by simp)]
      simp only [wpS_bind, wpS_program, hg]
      exact hk
    · simp only
      rw [if_neg (by simp)]
      simp only [wpS_bind, wpS_program, hg]
      exact hk
  unfold structEqD at H
  split at H
  · rename_i fs hu hg hst
    rw [wpS_bind]
    refine guard _ (.inl rfl) hg _ ?_
    show wpS P qt (do pure (.bool (← Op.equal t (.agg xs) (.agg ys)))) h K
    rw [wpS_bind]
    unfold Op.equal
    rw [hm]
    exact equalIn_struct hu hst H
  · rename_i fs hu hg hst
    rw [wpS_bind]
    refine guard _ (.inr rfl) hg _ ?_
    show wpS P qt (do pure (.bool (!(← Op.equal t (.agg xs) (.agg ys))))) h K
    rw [wpS_bind]
    unfold Op.equal
    rw [hm]
    exact equalIn_struct hu hst H
  · exact H.elim
end
def stepY (P : Program) (C : CallP) (Y : YP) (Q : PostD) (o : Oper) (a : Act) (h : Heap) (K : Act → Heap → Prop) : Prop := match o.op with
  | .call c => (match c.callee with
    | .value f => (match yieldOf (a.eval f) with
      | some l => Y l (c.args.toList.map a.eval) h fun v h' => asResT P o.type v fun v' => K (a.put o.dst v') h'
      | none => stepD P C Q o a h K)
    | _ => stepD P C Q o a h K)
  | .binOp op t x y _ => (match a.eval x, a.eval y with
    | .agg cs, .agg ds => structEqD P op t cs.toList ds.toList fun v => K (a.put o.dst v) h
    | _, _ => stepD P C Q o a h K)
  | _ => stepD P C Q o a h K
theorem stepY_eq {P : Program} {C : CallP} {Y : YP} {Q : PostD} {o : Oper} {a : Act} {h : Heap} {K : Act → Heap → Prop} (hn : ∀ c, o.op ≠ .call c) (hb : ∀ op t x y yt, o.op ≠ .binOp op t x y yt) : stepY P C Y Q o a h K = stepD P C Q o a h K := by
  unfold stepY
  split
  · rename_i c ho; exact absurd ho (hn c)
  · rename_i op t x y yt ho; exact absurd ho (hb op t x y yt)
  · rfl

section
variable {P : Program} {C : CallP} {Q : PostD} {ops : Array Oper}
theorem oper_wide {o : Oper} {a : Act} {w : World} {n : Nat} {next : Act → World → Prop} {Q' : Exit → Act → World → Prop} (h : o.wp P a w next Q') : o.wpIn Fence.wide n P a w next Q' := by
  unfold Oper.wp at h
  refine ⟨fun _ _ => trivial, ?_⟩
  have e : o.semAt Fence.wide.round a.eval = execOp a.eval o := Oper.semAt_none _ _
  rw [e]
  generalize (execOp a.eval o).run P w = r at h
  cases r with
  | ok x w' =>
    cases x <;> simp only [Oper.upon] at h <;> simp only [Oper.uponIn]
    case value u => exact h
    case skip => exact h
    case defer d => exact h
    case enter f args => exact ⟨fun hh => by simp [Fence.wide] at hh, callsIn_wide.2 h⟩
    case row row args => exact ⟨fun hh => by simp [Fence.wide] at hh, fun c cs _ => let ⟨v, w', r, s⟩ := h c cs; ⟨v, w', r, stepsIn_wide.2 s⟩⟩
  | halt x w' =>
    cases x <;> simp only [Oper.upon] at h <;> simp only [Oper.uponIn]
    case panic u => exact h

theorem stepY_wpIn (hC : CallOK P C) {o : Oper} {a : Act} {K : Act → Heap → Prop} {next : Act → World → Prop} {Q' : Exit → Act → World → Prop} {w : World}
    (H : stepY P C (YieldsHP P) Q o a w.heap K) (hK : ∀ a' w', keeps w w' → ((∃ v, a' = a.put o.dst v) ∨ (∃ c, o.op = .defer c)) → K a' w'.heap → next a' w')
    (hp : ∀ c w', keeps w w' → Q (.panic c) a w'.heap → Q' (.panic c) a w') : o.wpIn Fence.wide 0 P a w next Q' := by
  unfold stepY at H
  split at H
  · rename_i c ho
    split at H
    · rename_i f hf
      split at H
      · rename_i l hl
        obtain ⟨fn, tmps, assign, body, hy, hround⟩ := H w rfl
        refine ⟨fun _ _ => trivial, ?_⟩
        have e : o.semAt Fence.wide.round a.eval = execOp a.eval o := Oper.semAt_none _ _
        have hargs : (c.args.toList.map a.eval).toArray = c.args.map a.eval := by apply Array.toList_inj.1; simp
        rw [hargs] at hy
        have hrun : (execOp a.eval o).run P w = .ok (.round l fn tmps assign body) w := by
          unfold execOp
          simp only [ho, resolve, hf, yieldOf_spec hl, Deferred.ofValue]
          simp only [Sem.run_bind, Sem.run_pure, Result.andThen, invoke]
          rw [show (#[] : Array Value) ++ c.args.map a.eval = c.args.map a.eval by simp]
          exact hy
        rw [e, hrun]
        simp only [Oper.uponIn]
        refine ⟨fun hh => by simp [Fence.wide] at hh, hround.mono fun e w' he => ?_⟩
        obtain ⟨hk, v, rfl, hv⟩ := he
        exact hK _ _ hk (.inl ⟨_, rfl⟩) (asResT_sound hv)
      · exact oper_wide (stepD_wp hC H hK hp)
    · exact oper_wide (stepD_wp hC H hK hp)
  · rename_i op t x y yt ho
    split at H
    · rename_i cs ds hx hy
      refine oper_wide ?_
      have h1 : wpS P false (execOp a.eval o) w.heap (nextOK false (fun _ _ _ _ _ => False) (fun _ _ => False) fun v h' => K (a.put o.dst v) h') := by
        unfold execOp
        simp only [ho, hx, hy]
        exact wpS_v (structEqD_sound H)
      obtain ⟨n, w', hr, hk, _, hn⟩ := wpS_run _ h1 rfl
      unfold Oper.wp
      rw [hr]
      cases n <;> simp only [nextOK] at hn <;> simp only [Oper.upon]
      · exact hK _ _ hk (.inl ⟨_, rfl⟩) hn
      · exact hK _ _ hk (.inl ⟨_, rfl⟩) hn.2
      · exact hn.2.elim
    · exact oper_wide (stepD_wp hC H hK hp)
  · exact oper_wide (stepD_wp hC H hK hp)
end

def seqY (P : Program) (C : CallP) (Y : YP) (Q : PostD) (ops : Array Oper) : List Oper → Act → Heap → (Act → Heap → Prop) → Prop
  | [], a, h, K => K a h
  | o :: rest, a, h, K => guardD ops o a (fun a => stepY P C Y Q o a h fun a' h' => seqY P C Y Q ops rest a' h' K) (fun a => seqY P C Y Q ops rest (a.put o.dst undef) h K)
def withY (P : Program) (C : CallP) (Y : YP) (Q : PostD) (ops : Array Oper) (i : Nat) (a : Act) (h : Heap) (k : Act → Heap → Prop) : Prop := match ops[i]? with
  | none => False
  | some o => guardD ops o a (fun a => stepY P C Y Q o a h k) (fun a => k (a.put o.dst undef) h)
def goY (P : Program) (C : CallP) (Y : YP) (Q : PostD) (ops : Array Oper) (ro : Option (Nat → Prop)) (i : Nat) (a : Act) (h : Heap) (k : Act → Heap → Prop) : Prop := match newB ops i with
  | true => withD P C Q ops i a h k
  | false => withY P C Y Q ops i a h fun a' h' => relH ro h h' ∧ k a' h'
def planY (P : Program) (C : CallP) (Y : YP) (Q : PostD) (ops : Array Oper) (ro : Option (Nat → Prop)) : Plan → Act → Heap → (Act → Heap → Prop) → Prop
  | .done, a, h, K => K a h
  | .take i p, a, h, K => withT P C Q ops ro i a h fun a' h' => planY P C Y Q ops ro p a' h' K
  | .go i p, a, h, K => goY P C Y Q ops ro i a h fun a' h' => planY P C Y Q ops ro p a' h' K
  | .alt i p q, a, h, K => goY P C Y Q ops ro i a h (fun a' h' => planY P C Y Q ops ro p a' h' K) ∧ planY P C Y Q ops ro q a h K
  | .bar i _ p, a, h, K => withY P C Y Q ops i a h fun a' h' => planY P C Y Q ops ro p a' h' K
  | .keep _, _, _, _ => False

/-! ### any order, fenced -/
section
variable {P : Program} {md : Region.Mode} {ops : Array Oper} {Q : Exit → Act → World → Prop} {bar : Nat → Bool} {S : World → Prop}
theorem yieldsW {i : Nat} {o : Oper} {v : Value} {a : Act} (hi : ops[i]? = some o) (hy : YieldsIf P ops S o v a) {K : Act → World → Prop} {w : World} (hS : S w) (h : K (a.put o.dst v) w) : wpOpIn Fence.wide 0 P ops Q i K a w := by
  unfold wpOpIn
  simp only [hi]
  rcases hy with ⟨hw, hv⟩ | ⟨hw, rfl⟩
  · rw [if_pos hw]
    refine ⟨fun _ _ => trivial, ?_⟩
    have e : o.semAt Fence.wide.round a.eval = execOp a.eval o := Oper.semAt_none _ _
    rw [e, hv w hS]
    exact h
  · rw [if_neg (by rw [hw]; simp)]
    exact ⟨fun _ _ => trivial, h⟩
theorem putW {j : Nat} {oi oj : Oper} {v : Value} (hj : ops[j]? = some oj) (hap : oi.apart ops oj = true) (hsi : ∀ cs b, oi.op ≠ .select cs b) (hsj : ∀ cs b, oj.op ≠ .select cs b)
    (hQ : ∀ c a w, Q (.panic c) (a.put oi.dst v) w → Q (.panic c) a w) {K : Act → World → Prop} {a : Act} {w : World} (hy : YieldsIf P ops S oi v a) (h : wpOpIn Fence.wide 0 P ops Q j K (a.put oi.dst v) w) :
    wpOpIn Fence.wide 0 P ops Q j (fun a' w' => YieldsIf P ops S oi v a' ∧ K (a'.put oi.dst v) w') a w := by
  obtain ⟨h1, h2, h3⟩ := Oper.apart_spec hap
  have keep : ∀ (a : Act), YieldsIf P ops S oi v a → ∀ u, YieldsIf P ops S oi v (a.put oj.dst u) := fun a hy u => hy.of_same (execOp_put oi hsi a oj.dst u h3) (wanted_put oi a oj.dst u h3)
  have swap : ∀ (a : Act) u, (a.put oi.dst v).put oj.dst u = (a.put oj.dst u).put oi.dst v := fun a u => Act.put_comm a v u h2
  unfold wpOpIn at h ⊢
  simp only [hj] at h ⊢
  rw [wanted_put oj a oi.dst v h1] at h
  by_cases hw : Region.wanted oj (yielded ops a.tmps) = true
  · rw [if_pos hw] at h ⊢
    obtain ⟨_, h⟩ := h
    refine ⟨fun _ _ => trivial, ?_⟩
    have e : ∀ ρ, oj.semAt Fence.wide.round ρ = execOp ρ oj := fun ρ => Oper.semAt_none _ _
    rw [e, execOp_put oj hsj a oi.dst v h1] at h
    rw [e]
    generalize (execOp a.eval oj).run P w = r at h
    cases r with
    | ok x w' =>
      cases x <;> simp only [Oper.uponIn] at h ⊢
      case value u => rw [swap] at h; exact ⟨keep a hy u, h⟩
      case skip => rw [swap] at h; exact ⟨keep a hy _, h⟩
      case defer d =>
        have hy' : YieldsIf P ops S oi v { a with defers := d :: a.defers } := hy.of_same rfl rfl
        refine ⟨keep _ hy' _, ?_⟩
        rw [← swap, ← Act.put_defers]
        exact h
      case enter f args =>
        refine ⟨h.1, h.2.mono fun e w'' he => ?_⟩
        cases e with
        | returned u => simp only [swap] at he; exact ⟨keep a hy u, he⟩
        | panicked c => exact hQ _ _ _ he
        | outgrown => exact he
      case row row args => exact ⟨h.1, h.2.mono fun u w'' he => by rw [swap] at he; exact ⟨keep a hy u, he⟩⟩
      case round l f tmps assign body =>
        refine ⟨h.1, h.2.mono fun e w'' he => ?_⟩
        cases e with
        | returned u => simp only [swap] at he; exact ⟨keep a hy u, he⟩
        | panicked c => exact hQ _ _ _ he
        | outgrown => exact he
    | halt x w' =>
      cases x <;> simp only [Oper.uponIn] at h ⊢
      case panic u => exact hQ _ _ _ h
  · rw [if_neg hw] at h ⊢
    rw [swap] at h
    exact ⟨fun _ _ => trivial, keep a hy _, h.2⟩
def wpAnyEW (P : Program) (md : Region.Mode) (ops : Array Oper) (Q : Exit → Act → World → Prop) (bar : Nat → Bool) (S : World → Prop) : Nat → Array Bool → Act → World → Prop
  | 0, listed, a, w => Region.ready md ops listed = [] ∧ Q .normal a w
  | fuel + 1, listed, a, w =>
    (Region.ready md ops listed = [] → Q .normal a w) ∧
    ∀ i ∈ Region.ready md ops listed, wpOpIn Fence.wide 0 P ops Q i (fun a' w' => (bar i = true → wpAnyIn Fence.wide 0 P md ops Q fuel (listed.setIfInBounds i true) a' w') ∧
      (bar i = false → S w' ∧ wpAnyEW P md ops Q bar S fuel (listed.setIfInBounds i true) a' w')) a w

theorem wpAnyW_of_E : ∀ (fuel : Nat) (listed : Array Bool) (a : Act) (w : World), wpAnyEW P md ops Q bar S fuel listed a w → wpAnyIn Fence.wide 0 P md ops Q fuel listed a w
  | 0, _, _, _, h => h
  | fuel + 1, _, _, _, h => ⟨h.1, fun i hi => wpOpIn_mono (fun a' w' h' => by
      cases hb : bar i with
      | true => exact h'.1 hb
      | false => exact wpAnyW_of_E fuel _ a' w' (h'.2 hb).2) (h.2 i hi)⟩

theorem wpAnyEW_mono {S' : World → Prop} (hS : ∀ w, S w → S' w) : ∀ (fuel : Nat) (listed : Array Bool) (a : Act) (w : World), wpAnyEW P md ops Q bar S fuel listed a w → wpAnyEW P md ops Q bar S' fuel listed a w
  | 0, _, _, _, h => h
  | fuel + 1, _, _, _, h => ⟨h.1, fun i hi => wpOpIn_mono (fun a' w' h' => ⟨h'.1, fun hb => ⟨hS _ (h'.2 hb).1, wpAnyEW_mono hS fuel _ a' w' (h'.2 hb).2⟩⟩) (h.2 i hi)⟩

theorem wpAnyEW_first {i : Nat} {oi : Oper} {v : Value} (Yl : Act → Prop) (hi : ops[i]? = some oi)
    (hY1 : ∀ a w, S w → Yl a → ∀ K : Act → World → Prop, K (a.put oi.dst v) w → wpOpIn Fence.wide 0 P ops Q i K a w)
    (hY2 : ∀ j oj, ops[j]? = some oj → oi.apart ops oj = true → ∀ (K : Act → World → Prop) a w, Yl a → wpOpIn Fence.wide 0 P ops Q j K (a.put oi.dst v) w → wpOpIn Fence.wide 0 P ops Q j (fun a' w' => Yl a' ∧ K (a'.put oi.dst v) w') a w)
    (hB : ∀ j (listed : Array Bool) fuel a' w', bar j = true → ClosedL md ops listed → j ∈ Region.ready md ops listed → i ∈ Region.ready md ops (listed.setIfInBounds j true) →
      (∀ k ok, ops[k]? = some ok → k ≠ i → (listed.setIfInBounds j true).getD k true = false → (∀ e ∈ ok.after, Region.binds md e = true → e.on ≠ i) → oi.apart ops ok = true) →
      Yl a' → wpAnyIn Fence.wide 0 P md ops Q fuel ((listed.setIfInBounds j true).setIfInBounds i true) (a'.put oi.dst v) w' → wpAnyIn Fence.wide 0 P md ops Q (fuel + 1) (listed.setIfInBounds j true) a' w') :
    ∀ (fuel : Nat) (listed : Array Bool) (a : Act) (w : World), ClosedL md ops listed →
      (∀ j oj, ops[j]? = some oj → j ≠ i → listed.getD j true = false → (∀ e ∈ oj.after, Region.binds md e = true → e.on ≠ i) → oi.apart ops oj = true) →
      i ∈ Region.ready md ops listed → bar i = false → Yl a → S w →
      wpAnyEW P md ops Q bar S fuel (listed.setIfInBounds i true) (a.put oi.dst v) w → wpAnyEW P md ops Q bar S (fuel + 1) listed a w := by
  intro fuel
  induction fuel with
  | zero =>
    intro listed a w _ _ hr hbi hy hS H
    refine ⟨fun h => (by rw [h] at hr; cases hr), fun j hj => ?_⟩
    by_cases hji : j = i
    · subst hji
      exact hY1 a w hS hy _ ⟨fun e => (by rw [hbi] at e; cases e), fun _ => ⟨hS, H⟩⟩
    · have := ready_mono hj hji
      rw [H.1] at this
      cases this
  | succ fuel ih =>
    intro listed a w hcl hfree hr hbi hy hS H
    refine ⟨fun h => (by rw [h] at hr; cases hr), fun j hj => ?_⟩
    by_cases hji : j = i
    · subst hji
      exact hY1 a w hS hy _ ⟨fun e => (by rw [hbi] at e; cases e), fun _ => ⟨hS, H⟩⟩
    · have h1 := H.2 j (ready_mono hj hji)
      obtain ⟨hjun, oj, hoj, hall⟩ := mem_ready.1 hj
      have hnot : ∀ e ∈ oj.after, Region.binds md e = true → e.on ≠ i := fun e he hb heq => by
        have h1 := hall e he hb
        have h0 := (mem_ready.1 hr).1
        rw [heq] at h1
        rcases Nat.lt_or_ge i listed.size with h' | h'
        · simp [h'] at h0 h1; rw [h0] at h1; cases h1
        · simp [Array.getElem?_eq_none h'] at h1
      have h2 := hY2 j oj hoj (hfree j oj hoj hji hjun hnot) _ a w hy h1
      have hfree' : ∀ k ok, ops[k]? = some ok → k ≠ i → (listed.setIfInBounds j true).getD k true = false →
          (∀ e ∈ ok.after, Region.binds md e = true → e.on ≠ i) → oi.apart ops ok = true := fun k ok hk hki hun hno => by
        refine hfree k ok hk hki ?_ hno
        by_cases hjk : j = k
        · subst hjk; exact hjun
        · rw [getD_set_ne true hjk] at hun; exact hun
      refine wpOpIn_mono (fun a' w' h3 => ?_) h2
      obtain ⟨hy', h4, h5⟩ := h3
      refine ⟨fun hb => ?_, fun hb => ?_⟩
      · have h6 := h4 hb
        rw [Array.setIfInBounds_comm _ _ (Ne.symm hji)] at h6
        exact hB j listed fuel a' w' hb hcl hj (ready_mono hr (Ne.symm hji)) hfree' hy' h6
      · obtain ⟨hS', h6⟩ := h5 hb
        rw [Array.setIfInBounds_comm _ _ (Ne.symm hji)] at h6
        exact ⟨hS', ih (listed.setIfInBounds j true) a' w' (hcl.set hj) hfree' (ready_mono hr (Ne.symm hji)) hbi hy' hS' h6⟩


theorem anyEW_of : ∀ (fuel : Nat) (listed : Array Bool) (a : Act) (w : World), wpAnyIn Fence.wide 0 P md ops Q fuel listed a w → wpAnyEW P md ops Q (fun _ => false) (fun _ => True) fuel listed a w
  | 0, _, _, _, h => h
  | fuel + 1, _, _, _, h => ⟨h.1, fun i hi => wpOpIn_mono (fun a' w' h' => ⟨fun e => (by cases e), fun _ => ⟨trivial, anyEW_of fuel _ a' w' h'⟩⟩) (h.2 i hi)⟩
theorem anyW_first {i : Nat} {oi : Oper} {v : Value} (hi : ops[i]? = some oi) (hsel : ∀ (j : Nat) (o : Oper) cs b, ops[j]? = some o → o.op ≠ .select cs b) (hQ : ∀ c a w, Q (.panic c) (a.put oi.dst v) w → Q (.panic c) a w)
    (fuel : Nat) (listed : Array Bool) (a : Act) (w : World) (hcl : ClosedL md ops listed)
    (hfree : ∀ j oj, ops[j]? = some oj → j ≠ i → listed.getD j true = false → (∀ e ∈ oj.after, Region.binds md e = true → e.on ≠ i) → oi.apart ops oj = true) (hr : i ∈ Region.ready md ops listed)
    (hy : YieldsIf P ops (fun _ => True) oi v a) (H : wpAnyIn Fence.wide 0 P md ops Q fuel (listed.setIfInBounds i true) (a.put oi.dst v) w) : wpAnyIn Fence.wide 0 P md ops Q (fuel + 1) listed a w :=
  wpAnyW_of_E _ _ _ _ (wpAnyEW_first (bar := fun _ => false) (S := fun _ => True) (fun a' => YieldsIf P ops (fun _ => True) oi v a') hi (fun a' w' hS hy' K hK => yieldsW hi hy' hS hK)
    (fun j oj hj hap K a' w' hy' hh => putW hj hap (fun cs b => hsel i oi cs b hi) (fun cs b => hsel j oj cs b hj) hQ hy' hh) (fun j listed' fuel' a' w' hb => by cases hb) fuel listed a w hcl hfree hr rfl hy trivial (anyEW_of _ _ _ _ H))
end

/-! ### soundness -/
section
variable {P : Program} {C : CallP} {Q : PostD} {ops : Array Oper}
theorem seqY_sound (hC : CallOK P C) (w₀ : World) (Fr : Act → Prop) : ∀ (l : List Oper) (a : Act) (w : World) (K : Act → Heap → Prop), keeps w₀ w → seqY P C (YieldsHP P) Q ops l a w.heap K →
    (∀ a' w', keeps w₀ w' → FrL l a a' → K a' w'.heap → Q .normal a' w'.heap) → (∀ a', FrL l a a' → Fr a') → wpListIn Fence.wide 0 P ops (postOf w₀ Fr Q) l a w
  | [], a, w, K, hk, H, hQ, hF => ⟨hk, hF a (fun W _ => agree.refl W a), hQ a w hk (fun W _ => agree.refl W a) H⟩
  | o :: rest, a, w, K, hk, H, hQ, hF => by
    have hcons : ∀ a1, (∀ W, dstIn W o = true → agree W a a1) → ∀ a', FrL rest a1 a' → FrL (o :: rest) a a' := fun a1 h1 a' h2 W hW => by
      simp only [List.all_cons, Bool.and_eq_true] at hW
      exact (h1 W hW.1).trans (h2 W hW.2)
    have hrec : ∀ a1 w1, keeps w₀ w1 → (∀ W, dstIn W o = true → agree W a a1) → seqY P C (YieldsHP P) Q ops rest a1 w1.heap K → wpListIn Fence.wide 0 P ops (postOf w₀ Fr Q) rest a1 w1 := fun a1 w1 hk1 h1 H1 =>
      seqY_sound hC w₀ Fr rest a1 w1 K hk1 H1 (fun a' w' hk' hf => hQ a' w' hk' (hcons a1 h1 a' hf)) (fun a' hf => hF a' (hcons a1 h1 a' hf))
    unfold wpListIn
    rcases guardD_spec H with ⟨hw, H⟩ | ⟨hw, H⟩
    · rw [if_pos hw]
      exact (stepY_wpIn hC H (fun a' w' hk' hs h => hrec a' w' (hk.trans hk') (fun W hW => step_agree hs hW) h) (fun c w' hk' h => ⟨hk.trans hk', h⟩))
    · rw [if_neg (by rw [hw]; simp)]
      exact ⟨fun _ _ => trivial, hrec _ w hk (fun W hW => (agree.refl W a).put hW undef) H⟩

theorem withY_wpOp (hC : CallOK P C) {w₀ : World} {Fr : Act → Prop} {i : Nat} {a : Act} {w : World} {k : Act → Heap → Prop} {next : Act → World → Prop} (hk : keeps w₀ w) (H : withY P C (YieldsHP P) Q ops i a w.heap k)
    (hnext : ∀ a' w', keeps w₀ w' → (∀ W, ops.toList.all (dstIn W) = true → agree W a a') → k a' w'.heap → next a' w') : wpOpIn Fence.wide 0 P ops (postOf w₀ Fr Q) i next a w := by
  unfold withY at H
  split at H
  · exact H.elim
  · rename_i o ho
    unfold wpOpIn
    simp only [ho]
    have hin : ∀ W, ops.toList.all (dstIn W) = true → dstIn W o = true := fun W hW => List.all_eq_true.1 hW o (by
      have := Array.mem_of_getElem? ho
      simpa using this)
    rcases guardD_spec H with ⟨hw, H⟩ | ⟨hw, H⟩
    · rw [if_pos hw]
      exact (stepY_wpIn hC H (fun a' w' hk' hs h => hnext a' w' (hk.trans hk') (fun W hW => step_agree hs (hin W hW)) h) (fun c w' hk' h => ⟨hk.trans hk', h⟩))
    · rw [if_neg (by rw [hw]; simp)]
      exact ⟨fun _ _ => trivial, hnext _ w hk (fun W hW => (agree.refl W a).put (hin W hW) undef) H⟩

theorem withY_of_new {Y : YP} {i : Nat} {a : Act} {h : Heap} {k : Act → Heap → Prop} (hn : newB ops i = true) (H : withD P C Q ops i a h k) : withY P C Y Q ops i a h k := by
  unfold newB at hn
  unfold withD at H
  unfold withY
  split at hn
  · rename_i o ho
    simp only [ho] at H ⊢
    have hc : ∀ c, o.op ≠ .call c := fun c e => by rw [e] at hn; cases hn
    have hb : ∀ op t x y yt, o.op ≠ .binOp op t x y yt := fun op t x y yt e => by rw [e] at hn; cases hn
    simp only [stepY_eq hc hb]
    exact H
  · cases hn
theorem goY_wpOp (hC : CallOK P C) {ro : Option (Nat → Prop)} {w₀ : World} {Fr : Act → Prop} {i : Nat} {a : Act} {w : World} {k : Act → Heap → Prop} {next : Act → World → Prop} (hk : keeps w₀ w) (H : goY P C (YieldsHP P) Q ops ro i a w.heap k)
    (hnext : ∀ a' w', keeps w₀ w' → (∀ W, ops.toList.all (dstIn W) = true → agree W a a') → relH ro w.heap w'.heap → k a' w'.heap → next a' w') : wpOpIn Fence.wide 0 P ops (postOf w₀ Fr Q) i next a w := by
  unfold goY at H
  split at H
  · rename_i hn; exact withY_wpOp hC hk (withY_of_new hn (new_withD hn H)) fun a' w' h1 h2 h => hnext a' w' h1 h2 (h.1.rel ro) h.2
  · exact withY_wpOp hC hk H fun a' w' h1 h2 h => hnext a' w' h1 h2 h.1 h.2

theorem planY_sound (ro : Option (Nat → Prop)) (hC : CallOK P C) {R : List Tmp} (hQp : PanicOK R Q) (hR : avoidR R ops = true) (w₀ : World) (a₀ : Act) (Fr : Act → Prop) (hs : Region.noSelect ops = true)
    (hF : ∀ a', (∀ W, ops.toList.all (dstIn W) = true → agree W a₀ a') → Fr a') :
    ∀ (p : Plan) (n : Nat) (bars : List Nat) (listed : Array Bool) (a : Act) (w : World), ClosedL .any ops listed → keeps w₀ w →
      (∀ W, ops.toList.all (dstIn W) = true → agree W a₀ a) → planY P C (YieldsHP P) Q ops ro p a w.heap (fun a' h' => Q .normal a' h') →
      (okPlan ops true bars n listed p = true → wpAnyEW P .any ops (postOf w₀ Fr Q) (fun i => bars.contains i) (fun w' => relH ro w.heap w'.heap) n listed a w) ∧
      (∀ m n', n = n' + 1 → okPlan ops false bars n listed p = true → m ∈ headsP p → m ∈ Region.ready .any ops listed →
        wpOpIn Fence.wide 0 P ops (postOf w₀ Fr Q) m (fun a' w' => (bars.contains m = true → wpAnyIn Fence.wide 0 P .any ops (postOf w₀ Fr Q) n' (listed.setIfInBounds m true) a' w') ∧
          (bars.contains m = false → relH ro w.heap w'.heap ∧ wpAnyEW P .any ops (postOf w₀ Fr Q) (fun i => bars.contains i) (fun w' => relH ro w.heap w'.heap) n' (listed.setIfInBounds m true) a' w')) a w) := by
  have hsel := Region.noSelect_spec hs
  have hQ' : ∀ (i : Nat) (o : Oper), ops[i]? = some o → ∀ (v : Value) c a w, postOf w₀ Fr Q (.panic c) (a.put o.dst v) w → postOf w₀ Fr Q (.panic c) a w := fun i o ho v c a w h => ⟨h.1, hQp c a o.dst v _ (avoidR_spec hR ho) h.2⟩
  intro p
  induction p with
  | done =>
    intro n bars listed a w hcl hk hag H
    refine ⟨fun hok => ?_, fun m n' _ _ hm => by cases hm⟩
    have hr : Region.ready .any ops listed = [] := by
      have : (readyL ops listed).isEmpty = true := by cases n <;> exact hok
      simpa [readyL] using this
    cases n with
    | zero => exact ⟨hr, hk, hF a hag, H⟩
    | succ n => exact ⟨fun _ => ⟨hk, hF a hag, H⟩, by rw [hr]; simp⟩
  | take i p ih =>
    intro n bars listed a w hcl hk hag H
    refine ⟨fun hok => ?_, fun m n' _ _ hm => by cases hm⟩
    cases n with
    | zero => cases hok
    | succ n =>
      simp only [okPlan, Bool.and_eq_true] at hok
      obtain ⟨⟨_, ht⟩, hok⟩ := hok
      unfold okTake at ht
      cases ho : ops[i]? with
      | none => rw [ho] at ht; cases ht
      | some o =>
        rw [ho] at ht
        simp only [Bool.and_eq_true, Bool.not_eq_true', List.contains_eq_mem, decide_eq_true_eq, decide_eq_false_iff_not, Bool.or_eq_true] at ht
        obtain ⟨⟨⟨⟨hf, hr⟩, hfree⟩, hbi⟩, hload⟩ := ht
        obtain ⟨v, hv, hy, hyp⟩ := float_take hC ho hf H
        have hbi' : (fun i => bars.contains i) i = false := by simpa using hbi
        have hin : ∀ W, ops.toList.all (dstIn W) = true → agree W a₀ (a.put o.dst v) := fun W hW => (hag W hW).put (List.all_eq_true.1 hW o (by
          have := Array.mem_of_getElem? ho
          simpa using this)) v
        have hrec := (ih n bars (listed.setIfInBounds i true) (a.put o.dst v) w (hcl.set hr) hk hin hv).1 hok
        cases hl : isLoad o.op with
        | false =>
          refine wpAnyEW_first (fun a' => YieldsIf P ops (fun _ => True) o v a') ho (fun a' w' _ hy' K hK => yieldsW ho hy' trivial hK)
            (fun j oj hj hap K a' w' hy' hh => putW hj hap (fun cs b => hsel i o cs b ho) (fun cs b => hsel j oj cs b hj) (hQ' i o ho v) hy' hh)
            (fun j listed' fuel a' w' _ hcl' hrj hri hfr hy' hh => anyW_first ho hsel (hQ' i o ho v) fuel _ a' w' (hcl'.set hrj) hfr hri hy' hh)
            n listed a w hcl (Region.free_spec ho hfree) hr hbi' (hyp hl).yieldsIf (relH.refl ro _) hrec
        | true =>
          refine wpAnyEW_first (fun a' => YieldsIf P ops (fun w' => relH ro w.heap w'.heap) o v a') ho (fun a' w' hS hy' K hK => yieldsW ho hy' hS hK)
            (fun j oj hj hap K a' w' hy' hh => putW hj hap (fun cs b => hsel i o cs b ho) (fun cs b => hsel j oj cs b hj) (hQ' i o ho v) hy' hh)
            (fun j listed' fuel a' w' hb hcl' hrj hri _ _ _ => by
              rcases hload with h | h
              · rw [hl] at h; cases h
              · have hd := depB_spec (List.all_eq_true.1 h j (by simpa using hb))
                have h1 := hcl'.ready hd hrj
                have h2 := (mem_ready.1 hri).1
                have hji : j ≠ i := fun e => by subst e; exact hbi (by simpa using hb)
                rw [getD_set_ne true hji] at h2
                rcases Nat.lt_or_ge i listed'.size with h' | h'
                · simp [h'] at h1 h2; rw [h1] at h2; cases h2
                · simp [Array.getElem?_eq_none h'] at h1)
            n listed a w hcl (Region.free_spec ho hfree) hr hbi' hy (relH.refl ro _) hrec
  | keep p ih =>
    intro n bars listed a w hcl hk hag H
    exact H.elim
  | go i p ih =>
    intro n bars listed a w hcl hk hag H
    have one : ∀ n', okPlan ops true bars n' (listed.setIfInBounds i true) p = true → bars.contains i = false → i ∈ Region.ready .any ops listed →
        wpOpIn Fence.wide 0 P ops (postOf w₀ Fr Q) i (fun a' w' => (bars.contains i = true → wpAnyIn Fence.wide 0 P .any ops (postOf w₀ Fr Q) n' (listed.setIfInBounds i true) a' w') ∧
          (bars.contains i = false → relH ro w.heap w'.heap ∧ wpAnyEW P .any ops (postOf w₀ Fr Q) (fun i => bars.contains i) (fun w' => relH ro w.heap w'.heap) n' (listed.setIfInBounds i true) a' w')) a w := fun n' hok hbi hr => by
      refine goY_wpOp hC hk H fun a' w' hk' hin he h => ⟨fun hb => (by rw [hbi] at hb; cases hb), fun _ => ⟨he, ?_⟩⟩
      exact wpAnyEW_mono (fun w'' hw => he.trans hw) n' _ a' w' ((ih n' bars _ a' w' (hcl.set hr) hk' (fun W hW => (hag W hW).trans (hin W hW)) h).1 hok)
    refine ⟨fun hok => ?_, fun m n' hn hok hm hr => ?_⟩
    · cases n with
      | zero => cases hok
      | succ n =>
        simp only [okPlan, Bool.and_eq_true, Bool.or_eq_true, decide_eq_true_eq, Bool.not_eq_true'] at hok
        obtain ⟨⟨hr, hbi⟩, hok⟩ := hok
        have hr' : Region.ready .any ops listed = [i] := by
          rcases hr with h | h
          · cases h
          · exact h
        refine ⟨fun h => (by rw [hr'] at h; cases h), fun j hj => ?_⟩
        rw [hr'] at hj
        obtain rfl := List.mem_singleton.1 hj
        exact one n hok hbi (by rw [hr']; simp)
    · subst hn
      simp only [okPlan, Bool.and_eq_true, Bool.or_eq_true, decide_eq_true_eq, Bool.not_eq_true'] at hok
      obtain ⟨⟨_, hbi⟩, hok⟩ := hok
      obtain rfl : m = i := List.mem_singleton.1 hm
      exact one n' hok hbi hr
  | alt i p q ihp ihq =>
    intro n bars listed a w hcl hk hag H
    have one : ∀ n', okPlan ops true bars n' (listed.setIfInBounds i true) p = true → bars.contains i = false → i ∈ Region.ready .any ops listed →
        wpOpIn Fence.wide 0 P ops (postOf w₀ Fr Q) i (fun a' w' => (bars.contains i = true → wpAnyIn Fence.wide 0 P .any ops (postOf w₀ Fr Q) n' (listed.setIfInBounds i true) a' w') ∧
          (bars.contains i = false → relH ro w.heap w'.heap ∧ wpAnyEW P .any ops (postOf w₀ Fr Q) (fun i => bars.contains i) (fun w' => relH ro w.heap w'.heap) n' (listed.setIfInBounds i true) a' w')) a w := fun n' hok hbi hr => by
      refine goY_wpOp hC hk H.1 fun a' w' hk' hin he h => ⟨fun hb => (by rw [hbi] at hb; cases hb), fun _ => ⟨he, ?_⟩⟩
      exact wpAnyEW_mono (fun w'' hw => he.trans hw) n' _ a' w' ((ihp n' bars _ a' w' (hcl.set hr) hk' (fun W hW => (hag W hW).trans (hin W hW)) h).1 hok)
    have both : ∀ m n', okPlan ops false bars (n' + 1) listed q = true → okPlan ops true bars n' (listed.setIfInBounds i true) p = true → bars.contains i = false → m ∈ i :: headsP q → m ∈ Region.ready .any ops listed →
        wpOpIn Fence.wide 0 P ops (postOf w₀ Fr Q) m (fun a' w' => (bars.contains m = true → wpAnyIn Fence.wide 0 P .any ops (postOf w₀ Fr Q) n' (listed.setIfInBounds m true) a' w') ∧
          (bars.contains m = false → relH ro w.heap w'.heap ∧ wpAnyEW P .any ops (postOf w₀ Fr Q) (fun i => bars.contains i) (fun w' => relH ro w.heap w'.heap) n' (listed.setIfInBounds m true) a' w')) a w := fun m n' hq hp hbi hm hr => by
      rcases List.mem_cons.1 hm with rfl | hm
      · exact one n' hp hbi hr
      · exact (ihq (n' + 1) bars listed a w hcl hk hag H.2).2 m n' rfl hq hm hr
    refine ⟨fun hok => ?_, fun m n' hn hok hm hr => ?_⟩
    · cases n with
      | zero => cases hok
      | succ n =>
        simp only [okPlan, Bool.and_eq_true, Bool.or_eq_true, decide_eq_true_eq, Bool.not_eq_true'] at hok
        obtain ⟨⟨⟨hr, hbi⟩, hok1⟩, hok2⟩ := hok
        have hr' : Region.ready .any ops listed = i :: headsP q := by
          rcases hr with h | h
          · cases h
          · exact h
        refine ⟨fun h => (by rw [hr'] at h; cases h), fun j hj => ?_⟩
        exact both j n hok2 hok1 hbi (by rw [hr'] at hj; exact hj) hj
    · subst hn
      simp only [okPlan, Bool.and_eq_true, Bool.or_eq_true, decide_eq_true_eq, Bool.not_eq_true'] at hok
      obtain ⟨⟨⟨_, hbi⟩, hok1⟩, hok2⟩ := hok
      exact both m n' hok2 hok1 hbi hm hr
  | bar i bars' p ih =>
    intro n bars listed a w hcl hk hag H
    refine ⟨fun hok => ?_, fun m n' _ _ hm => by cases hm⟩
    cases n with
    | zero => cases hok
    | succ n =>
      simp only [okPlan, Bool.and_eq_true, decide_eq_true_eq] at hok
      obtain ⟨⟨⟨_, hr⟩, hbi⟩, hok⟩ := hok
      have hr' : Region.ready .any ops listed = [i] := hr
      refine ⟨fun h => (by rw [hr'] at h; cases h), fun j hj => ?_⟩
      rw [hr'] at hj
      obtain rfl := List.mem_singleton.1 hj
      refine withY_wpOp hC hk H fun a' w' hk' hin h => ⟨fun _ => ?_, fun hb => (by have hb : bars.contains j = false := hb; rw [hbi] at hb; cases hb)⟩
      exact wpAnyW_of_E n _ a' w' ((ih n bars' _ a' w' (hcl.set (by rw [hr']; simp)) hk' (fun W hW => (hag W hW).trans (hin W hW)) h).1 hok)

end
end Go.Den

/- RnB: as DenJ and DenK, inside a fence: whole bodies that range over functions. No program in sight. -/
set_option linter.unusedVariables false
set_option linter.unusedSimpArgs false
namespace Go.Den

structure HintsY extends Hints where
  rng : Nat → Option (List CT) := fun _ => none

/-! ### leaving a round -/
/-- The ways out of a round: 0 is a return; an exit; a goto. -/
def keyX : Exit → Option Nat
  | .ret => some 0
  | .exit id => some (2 * id + 1)
  | .goto t => some (2 * t + 2)
  | _ => none
def jumpsOf : Code → List Nat
  | .ret => [0]
  | .exit id => [2 * id + 1]
  | .goto t => [2 * t + 2]
  | .seq a b => jumpsOf a ++ jumpsOf b
  | .cond _ a b => jumpsOf a ++ jumpsOf b
  | .block id c => (jumpsOf c).filter fun k => !(Nat.beq k (2 * id + 1))
  | .loop c => jumpsOf c
  | _ => []
def exitK : Nat → Exit
  | 0 => .ret
  | n + 1 => match Nat.beq (n % 2) 0 with
    | true => .exit (n / 2)
    | false => .goto (n / 2)
def codeK : Nat → Code
  | 0 => .ret
  | n + 1 => match Nat.beq (n % 2) 0 with
    | true => .exit (n / 2)
    | false => .goto (n / 2)
theorem exitK_key {e : Exit} {k : Nat} (h : keyX e = some k) : exitK k = e ∧ ((e = .ret ∧ codeK k = .ret) ∨ (∃ id, e = .exit id ∧ codeK k = .exit id) ∨ ∃ t, e = .goto t ∧ codeK k = .goto t) := by
  cases e with
  | ret =>
    obtain rfl := Option.some.inj h
    exact ⟨rfl, .inl ⟨rfl, rfl⟩⟩
  | exit id =>
    obtain rfl := Option.some.inj h
    have h1 : Nat.beq (2 * id % 2) 0 = true := by rw [Nat.mul_mod_right]; rfl
    have h2 : 2 * id / 2 = id := by omega
    refine ⟨?_, .inr (.inl ⟨id, rfl, ?_⟩)⟩
    · show (match Nat.beq (2 * id % 2) 0 with | true => Exit.exit (2 * id / 2) | false => .goto (2 * id / 2)) = _
      rw [h1, h2]
    · show (match Nat.beq (2 * id % 2) 0 with | true => Code.exit (2 * id / 2) | false => .goto (2 * id / 2)) = _
      rw [h1, h2]
  | goto t =>
    obtain rfl := Option.some.inj h
    have h1 : Nat.beq ((2 * t + 1) % 2) 0 = false := by rw [show (2 * t + 1) % 2 = 1 by omega]; rfl
    have h2 : (2 * t + 1) / 2 = t := by omega
    refine ⟨?_, .inr (.inr ⟨t, rfl, ?_⟩)⟩
    · show (match Nat.beq ((2 * t + 1) % 2) 0 with | true => Exit.exit ((2 * t + 1) / 2) | false => .goto ((2 * t + 1) / 2)) = _
      rw [h1, h2]
    · show (match Nat.beq ((2 * t + 1) % 2) 0 with | true => Code.exit ((2 * t + 1) / 2) | false => .goto ((2 * t + 1) / 2)) = _
      rw [h1, h2]
  | normal => cases h
  | panic c => cases h
  | outgrown => cases h

def objAt (h : Heap) (l : Nat) (o : Obj) : Prop := h[l]? = some o
def putO (h : Heap) (l : Nat) (o : Obj) : Heap := h.setIfInBounds l o
def mark (D : Nat) (a : Act) : Act := { a with defers := { target := .collected D, args := #[] } :: a.defers }
/-- A function's value, with what it has captured. -/
def funD (v : Value) (K : FuncId → List Value → Prop) : Prop := match v with
  | .func (.func g) first lb => (match first.toList with
    | [] => K g lb.toList
    | _ => False)
  | _ => False
theorem funD_spec {v : Value} {K : FuncId → List Value → Prop} (H : funD v K) : ∃ g lb, v = .func (.func g) #[] lb ∧ K g lb.toList := by
  unfold funD at H
  split at H
  · rename_i g first lb
    split at H
    · rename_i hf
      have e : first = #[] := by apply Array.toList_inj.1; rw [hf]
      exact ⟨g, lb, by rw [e], H⟩
    · exact H.elim
  · exact H.elim
def roundQ (l : Nat) (oR oB : Obj) (oJ : Nat → Obj) (js : List Nat) (K : Value → Heap → Prop) : PostD := fun e _ h => match e with
  | .normal => objAt h l oB ∧ K (.bool true) (putO h l oR)
  | e => (match keyX e with
    | some k => (match js.contains k with
      | true => objAt h l oB ∧ K (.bool false) (putO h l (oJ k))
      | false => False)
    | none => False)
def assignQ (l : Nat) (oR oB : Obj) (next : Act → Heap → Prop) : PostD := fun e a h => match e with
  | .normal => objAt h l oR ∧ next a (putO h l oB)
  | _ => False
def afterQ (l : Nat) (oJ oXJ : Nat → Obj) (Q : PostD) (a : Act) (h : Heap) : List Nat → Prop
  | [] => False
  | k :: js => (objAt h l (oJ k) ∧ Q (exitK k) a (putO h l (oXJ k))) ∨ afterQ l oJ oXJ Q a h js
def allTs : List CT → (List Value → Prop) → Prop
  | [], p => p []
  | t :: ts, p => allC t fun v => allTs ts fun vs => p (v :: vs)
def putTs : List Tmp → List Value → Act → Act
  | p :: ps, v :: vs, a => putTs ps vs (a.put (some p) v)
  | _, _, a => a
def noDefB (ops : Array Oper) : Bool := ops.toList.all fun o => match o.op with
  | .defer _ => false
  | _ => true

def denY (P : Program) (C : CallP) (Y : YP) (H : HintsY) : Bool → Code → PostD → Act → Heap → Prop
  | _, .skip, Q, a, h => Q .normal a h
  | top, .region id ops draw, Q, a, h => (match top || noDefB ops with
    | true => (match draw with
      | false => seqY P C Y Q ops ops.toList a h fun a' h' => Q .normal a' h'
      | true => (match H.plan id with
        | some (bars, p) => (match checkPlan ops bars (stripK p) && avoidR H.keep ops with
          | true => keepD (fun ro p => planY P C Y Q ops ro p a h fun a' h' => Q .normal a' h') p
          | false => False)
        | none => False))
    | false => False)
  | top, .seq x y, Q, a, h => (match hintAt H.join y with
    | none => denY P C Y H top x (seqQ (fun a' h' => denY P C Y H top y Q a' h') Q) a h
    | some (S, W) => (match okW W x && inS W S with
      | true => joinD S W (fun Q' a' h' => denY P C Y H top x Q' a' h') (fun Q' a' h' => denY P C Y H top y Q' a' h') Q a h
      | false => False))
  | top, .cond c x y, Q, a, h => (match a.eval c with
    | .bool b => bcase b (denY P C Y H top x Q a h) (denY P C Y H top y Q a h)
    | _ => False)
  | top, .block id c, Q, a, h => denY P C Y H top c (blockQ id Q) a h
  | top, .loop c, Q, a, h => (match hintAt H.loop c with
    | none => False
    | some (S, W) => (match okW W c && inS W S with
      | true => loopD S W (fun Q' a' h' => denY P C Y H top c Q' a' h') Q a h
      | false => False))
  | _, .exit id, Q, a, h => Q (.exit id) a h
  | _, .label _, Q, a, h => Q .normal a h
  | _, .goto l, Q, a, h => Q (.goto l) a h
  | _, .ret, Q, a, h => Q .ret a h
  | true, .rangeFunc g ps x y, Q, a, h => (match (headId y).bind H.rng with
    | some ts => (match Nat.beq ts.length ps.toList.length with
      | true => funD (a.eval g) fun gf lb => ∀ (oR oB oX : Obj) (oJ oXJ : Nat → Obj),
          (∀ (h' : Heap) (K : Value → Heap → Prop), objAt h' (h.size + 1) oR → allTs ts fun vs =>
            denY P C Y H false x (assignQ (h.size + 1) oR oB fun a1 h1 => denY P C Y H false y (roundQ (h.size + 1) oR oB oJ (jumpsOf y) K) a1 h1) (putTs ps.toList vs { a with defers := [] }) h' → Y (h.size + 1) vs h' K) →
          C gf (.func (.yield (h.size + 1)) #[] #[] :: lb).toArray ((h.push (.deferred (some []))).push oR)
            (fun _ h2 => (objAt h2 (h.size + 1) oR ∧ Q .normal (mark h.size a) (putO h2 (h.size + 1) oX)) ∨ afterQ (h.size + 1) oJ oXJ Q (mark h.size a) h2 (jumpsOf y)) (fun c h2 => Q (.panic c) (mark h.size a) h2)
      | false => False)
    | none => False)
  | _, _, _, _, _ => False

/-! ### soundness -/
/-- The fence of a function's own frame, and of a round's. -/
def FR : Option Nat → Fence
  | none => Fence.wide
  | some l => Fence.wide.inRound l

section
variable {P : Program} {ops : Array Oper} {Q : Exit → Act → World → Prop} {r : Nat}
theorem oper_round {o : Oper} {a : Act} {w : World} {next : Act → World → Prop} (hd : ∀ c, o.op ≠ .defer c) (h : o.wpIn Fence.wide 0 P a w next Q) : o.wpIn (Fence.wide.inRound r) 0 P a w next Q := by
  refine ⟨fun _ _ => trivial, ?_⟩
  have h := h.2
  have e1 : o.semAt Fence.wide.round a.eval = execOp a.eval o := Oper.semAt_none _ _
  have e2 : o.semAt (Fence.wide.inRound r).round a.eval = execOp a.eval o := Oper.semAt_eq _ _ _ hd
  rw [e1] at h
  rw [e2]
  exact h
theorem no_def {ops : Array Oper} (h : noDefB ops = true) {o : Oper} (ho : o ∈ ops.toList) : ∀ c, o.op ≠ .defer c := fun c e => by
  have := List.all_eq_true.1 h o ho
  rw [e] at this
  cases this
theorem list_round : ∀ (l : List Oper) (a : Act) (w : World), (∀ o ∈ l, ∀ c, o.op ≠ .defer c) → wpListIn Fence.wide 0 P ops Q l a w → wpListIn (Fence.wide.inRound r) 0 P ops Q l a w
  | [], a, w, _, h => h
  | o :: rest, a, w, hd, h => by
    unfold wpListIn at h ⊢
    by_cases hw : Region.wanted o (yielded ops a.tmps) = true
    · rw [if_pos hw] at h ⊢
      exact Oper.wpIn_mono (fun a' w' h' => list_round rest a' w' (fun o ho => hd o (List.mem_cons_of_mem _ ho)) h') (oper_round (hd o (List.mem_cons_self ..)) h)
    · rw [if_neg hw] at h ⊢
      exact ⟨fun _ _ => trivial, list_round rest _ w (fun o ho => hd o (List.mem_cons_of_mem _ ho)) h.2⟩
theorem op_round {i : Nat} {a : Act} {w : World} {K : Act → World → Prop} (hd : ∀ o ∈ ops.toList, ∀ c, o.op ≠ .defer c) (h : wpOpIn Fence.wide 0 P ops Q i K a w) : wpOpIn (Fence.wide.inRound r) 0 P ops Q i K a w := by
  unfold wpOpIn at h ⊢
  cases ho : ops[i]? with
  | none => simp only [ho] at h ⊢; exact h
  | some o =>
    simp only [ho] at h ⊢
    have hm : o ∈ ops.toList := by have := Array.mem_of_getElem? ho; simpa using this
    by_cases hw : Region.wanted o (yielded ops a.tmps) = true
    · rw [if_pos hw] at h ⊢
      exact oper_round (hd o hm) h
    · rw [if_neg hw] at h ⊢
      exact ⟨fun _ _ => trivial, h.2⟩
theorem any_round {md : Region.Mode} (hd : ∀ o ∈ ops.toList, ∀ c, o.op ≠ .defer c) : ∀ (fuel : Nat) (listed : Array Bool) (a : Act) (w : World), wpAnyIn Fence.wide 0 P md ops Q fuel listed a w → wpAnyIn (Fence.wide.inRound r) 0 P md ops Q fuel listed a w
  | 0, _, _, _, h => h
  | fuel + 1, _, _, _, h => ⟨h.1, fun i hi => wpOpIn_mono (fun a' w' h' => any_round hd fuel _ a' w' h') (op_round hd (h.2 i hi))⟩
end

section
variable {P : Program} {H : HintsY} {F : Fence} {n : Nat}
theorem wpIn_loop_ex {c : Code} {Q : Exit → Act → World → Prop} {a : Act} {w : World} (I : Nat → Act → World → Prop) (h₀ : ∃ n, I n a w)
    (round : ∀ m a w, I m a w → c.wpIn F n P (Exit.then (fun a' w' => ∃ m', m' < m ∧ I m' a' w') Q) a w) : (Code.loop c).wpIn F n P Q a w := by
  classical
  let μ : Act → World → Nat := fun a w => if h : ∃ n, I n a w then Classical.choose (least h) else 0
  refine wpIn_loop (fun a w => ∃ n, I n a w) μ h₀ fun a w hI => ?_
  have hs := Classical.choose_spec (least hI)
  refine wpIn_mono (round _ a w hs.1) fun e a' w' h => ?_
  cases e with
  | normal =>
    obtain ⟨m, hlt, hm⟩ := h
    refine ⟨⟨m, hm⟩, ?_⟩
    have h1 : μ a' w' = Classical.choose (least ⟨m, hm⟩) := dif_pos ⟨m, hm⟩
    have h2 : μ a w = Classical.choose (least hI) := dif_pos hI
    rw [h1, h2]
    exact Nat.lt_of_le_of_lt ((Classical.choose_spec (least ⟨m, hm⟩)).2 m hm) hlt
  | _ => exact h

theorem allC_of {t : CT} {p : Value → Prop} (h : ∀ v, p v) : allC t p := by
  cases t <;> first
    | exact fun x => h _
    | exact fun q n c => h _
theorem allTs_of : ∀ {ts : List CT} {q : List Value → Prop}, (∀ vs, vs.length = ts.length → q vs) → allTs ts q
  | [], q, h => h [] rfl
  | t :: ts, q, h => allC_of fun v => allTs_of fun vs hl => h (v :: vs) (by simp [hl])
theorem putTs_zip : ∀ (ps : List Tmp) (vs : List Value) (a : Act), putTs ps vs a = { a with tmps := (ps.zip vs).foldl (fun t (p, v) => t.setIfInBounds p v) a.tmps }
  | [], vs, a => by simp [putTs]
  | p :: ps, [], a => by simp [putTs]
  | p :: ps, v :: vs, a => by
    rw [putTs, putTs_zip ps vs]
    rfl
theorem afterQ_spec {l : Nat} {oJ oXJ : Nat → Obj} {Q : PostD} {a : Act} {h : Heap} : ∀ {js : List Nat}, afterQ l oJ oXJ Q a h js → ∃ k, objAt h l (oJ k) ∧ Q (exitK k) a (putO h l (oXJ k))
  | k :: js, H => by
    rcases H with H | H
    · exact ⟨k, H⟩
    · exact afterQ_spec H

theorem denY_sound (hm : P.follows .mixedOrders = true) : ∀ (c : Code) (ro : Option Nat) (w₀ : World) (Q : PostD) (a : Act) (w : World), keeps w₀ w → PanicOK H.keep Q → denY P (CallsHP P) (YieldsHP P) H ro.isNone c Q a w.heap →
    c.wpIn (FR ro) 0 P (postC w₀ c a Q) a w := by
  have hC := callsHP_ok P
  intro c
  induction c with
  | skip => intro ro w₀ Q a w hk hp h; exact wpIn_skip ⟨hk, fun W _ => agree.refl W a, h⟩
  | region id ops draw =>
    intro ro w₀ Q a w hk hp h
    simp only [denY] at h
    split at h
    · rename_i hok
      have hdef : ∀ l, ro = some l → ∀ o ∈ ops.toList, ∀ c, o.op ≠ .defer c := fun l hl o ho => by
        rw [hl] at hok
        exact no_def (by simpa using hok) ho
      split at h
      · have h1 := seqY_sound hC w₀ _ ops.toList a w _ hk h (fun _ _ _ _ h => h) (fun a' hf W hW => hf W hW)
        refine wpIn_region_list ?_
        cases ro with
        | none => exact h1
        | some l => exact list_round _ _ _ (hdef l rfl) h1
      · split at h
        · rename_i bars p hpl
          split at h
          · rename_i hc
            simp only [checkPlan, noSel, Bool.and_eq_true] at hc
            obtain ⟨hc, hav⟩ := hc
            refine wpIn_region_any hm ?_
            obtain ⟨ro', h⟩ := keepD_spec h
            have h1 := wpAnyW_of_E _ _ _ _ ((planY_sound ro' hC hp hav w₀ a _ hc.1 (fun a' hf W hW => hf W hW) (stripK p) _ bars _ a { w with drawn := w.drawn + 1 } (ClosedL.start _) ⟨hk.1, hk.2.1, hk.2.2⟩ (fun W _ => agree.refl W a) h).1 hc.2)
            cases ro with
            | none => exact h1
            | some l => exact any_round (hdef l rfl) _ _ _ _ h1
          · exact h.elim
        · exact h.elim
    · exact h.elim
  | seq x y ihx ihy =>
    intro ro w₀ Q a w hk hp h
    have hseq : ∀ a1 w1, frC x a a1 → keeps w₀ w1 → denY P (CallsHP P) (YieldsHP P) H ro.isNone y Q a1 w1.heap → y.wpIn (FR ro) 0 P (postC w₀ (.seq x y) a Q) a1 w1 := fun a1 w1 hf hk1 h1 => by
      refine wpIn_mono (ihy ro w₀ Q a1 w1 hk1 hp h1) fun e a' w' h2 => ?_
      have hfr : frC y a1 a' → frC (.seq x y) a a' := fun hf2 W hW => by
        simp only [okW, Bool.and_eq_true] at hW
        exact (hf W hW.1).trans (hf2 W hW.2)
      cases e <;> first | exact h2 | exact ⟨h2.1, hfr h2.2.1, h2.2.2⟩
    have hfx : ∀ a', frC x a a' → frC (.seq x y) a a' := fun a' hf W hW => by
      simp only [okW, Bool.and_eq_true] at hW
      exact hf W hW.1
    simp only [denY] at h
    split at h
    · refine wpIn_seq (wpIn_mono (ihx ro w₀ _ a w hk (hp.seqQ _) h) fun e a1 w1 h1 => ?_)
      cases e with
      | normal => exact hseq a1 w1 h1.2.1 h1.1 h1.2.2
      | panic c => exact h1
      | outgrown => exact h1
      | exit id => exact ⟨h1.1, hfx _ h1.2.1, h1.2.2⟩
      | goto l => exact ⟨h1.1, hfx _ h1.2.1, h1.2.2⟩
      | ret => exact ⟨h1.1, hfx _ h1.2.1, h1.2.2⟩
    · rename_i S W hj
      split at h
      · rename_i hok
        simp only [Bool.and_eq_true] at hok
        obtain ⟨K, h1, h2⟩ := h
        refine wpIn_seq (wpIn_mono (ihx ro w₀ _ a w hk (hp.joinQ S K) h1) fun e a1 w1 h1 => ?_)
        cases e with
        | normal =>
          obtain ⟨ht, hK⟩ := headOK_spec h1.2.2
          have h3 := allCs_spec (h2 w1.heap (fun i => a1.tmps.getD i undef)) ht hK
          rw [← patch_self (h1.2.1 W hok.1)] at h3
          exact hseq a1 w1 h1.2.1 h1.1 h3
        | panic c => exact h1
        | outgrown => exact h1
        | exit id => exact ⟨h1.1, hfx _ h1.2.1, h1.2.2⟩
        | goto l => exact ⟨h1.1, hfx _ h1.2.1, h1.2.2⟩
        | ret => exact ⟨h1.1, hfx _ h1.2.1, h1.2.2⟩
      · exact h.elim
  | cond c x y ihx ihy =>
    intro ro w₀ Q a w hk hp h
    simp only [denY] at h
    split at h
    · rename_i b hb
      unfold bcase at h
      cases b with
      | true =>
        refine wpIn_cond_true hb (wpIn_mono (ihx ro w₀ Q a w hk hp h) fun e a' w' h2 => ?_)
        have hfr : frC x a a' → frC (.cond c x y) a a' := fun hf W hW => by
          simp only [okW, Bool.and_eq_true] at hW
          exact hf W hW.1
        cases e <;> first | exact h2 | exact ⟨h2.1, hfr h2.2.1, h2.2.2⟩
      | false =>
        refine wpIn_cond_false hb (wpIn_mono (ihy ro w₀ Q a w hk hp h) fun e a' w' h2 => ?_)
        have hfr : frC y a a' → frC (.cond c x y) a a' := fun hf W hW => by
          simp only [okW, Bool.and_eq_true] at hW
          exact hf W hW.2
        cases e <;> first | exact h2 | exact ⟨h2.1, hfr h2.2.1, h2.2.2⟩
    · exact h.elim
  | block id c ih =>
    intro ro w₀ Q a w hk hp h
    refine wpIn_block (wpIn_mono (ih ro w₀ _ a w hk (hp.blockQ id) h) fun e a' w' h2 => ?_)
    cases e with
    | exit id' =>
      obtain ⟨h1, h3, h4⟩ := h2
      simp only [blockQ] at h4
      simp only [Exit.inBlock]
      split at h4
      · rename_i hb
        rw [if_pos (Nat.eq_of_beq_eq_true hb)]
        exact ⟨h1, h3, h4⟩
      · rename_i hb
        rw [if_neg (fun e => by subst e; rw [Nat.beq_refl] at hb; cases hb)]
        exact ⟨h1, h3, h4⟩
    | normal => exact h2
    | goto l => exact h2
    | ret => exact h2
    | panic c => exact h2
    | outgrown => exact h2
  | loop c ih =>
    intro ro w₀ Q a w hk hp h
    simp only [denY] at h
    split at h
    · exact h.elim
    · rename_i S W hj
      split at h
      · rename_i hok
        simp only [Bool.and_eq_true] at hok
        obtain ⟨J, ⟨n, h0⟩, hround⟩ := h
        obtain ⟨ht, hJ⟩ := headOK_spec h0
        refine wpIn_loop_ex (fun n a' w' => keeps w₀ w' ∧ frC c a a' ∧ ∃ vs u, typBs S vs = true ∧ a' = patch a S vs W u ∧ J n vs w'.heap)
          ⟨n, hk, fun W' _ => agree.refl W' a, valsOf S a, (fun i => a.tmps.getD i undef), ht, patch_self (agree.refl W a), hJ⟩ ?_
        rintro n a' w' ⟨hk', hf', vs, u, htv, rfl, hJn⟩
        have h1 := allCs_spec (hround n w'.heap u) htv hJn
        refine wpIn_mono (ih ro w₀ _ _ w' hk' (hp.loopQ S J n) h1) fun e a'' w'' h2 => ?_
        have hfr : frC c (patch a S vs W u) a'' → frC c a a'' := fun hf2 W' hW => (hf' W' hW).trans (hf2 W' hW)
        cases e with
        | normal =>
          obtain ⟨h3, h4, m, hlt, h5⟩ := h2
          obtain ⟨ht2, hJ2⟩ := headOK_spec h5
          exact ⟨m, hlt, h3, hfr h4, valsOf S a'', (fun i => a''.tmps.getD i undef), ht2, patch_self (hfr h4 W hok.1), hJ2⟩
        | panic c => exact h2
        | outgrown => exact h2
        | exit id => exact ⟨h2.1, hfr h2.2.1, h2.2.2⟩
        | goto l => exact ⟨h2.1, hfr h2.2.1, h2.2.2⟩
        | ret => exact ⟨h2.1, hfr h2.2.1, h2.2.2⟩
      · exact h.elim
  | rangeFunc g ps x y ihx ihy =>
    intro ro w₀ Q a w hk hp h
    cases ro with
    | some l => exact h.elim
    | none =>
      simp only [Option.isNone_none, denY] at h
      split at h
      · rename_i ts hts
        split at h
        · rename_i hlen
          have hlen := Nat.eq_of_beq_eq_true hlen
          obtain ⟨gf, lb, hg, h⟩ := funD_spec h
          refine wpIn_rangeFunc fun fn hfn => ?_
          obtain ⟨rec, hrec⟩ : ∃ rec : LoopState → Option Code → Loop, rec = fun st pe => { state := st, pending := pe, fn, tmps := a.tmps, params := ps, assign := x, body := y, defers := w.heap.size } := ⟨_, rfl⟩
          obtain ⟨W1, hW1⟩ : ∃ W1, (w.alloc (.deferred (some []))).alloc (.loop (rec .ready none)) = W1 := ⟨_, rfl⟩
          have hh1 : W1.heap = (w.heap.push (.deferred (some []))).push (.loop (rec .ready none)) := by rw [← hW1]; rfl
          have hk1 : keeps w W1 := by rw [← hW1]; exact keeps.refl w
          have H1 := h (.loop (rec .ready none)) (.loop (rec .busy none)) (.loop (rec .exhausted none)) (fun k => .loop (rec .done (some (codeK k)))) (fun k => .loop (rec .exhausted (some (codeK k)))) ?_
          · rw [← hh1] at H1
            obtain ⟨fn', h1, h2, h3⟩ := H1.1
            have hargs : (.func (.yield (w.heap.size + 1)) #[] #[] :: lb.toList).toArray = #[.func (.yield (w.heap.size + 1)) #[] #[]] ++ lb := by apply Array.toList_inj.1; simp
            rw [hargs] at H1
            refine ⟨w.heap.size + 1, [{ target := .collected w.heap.size, args := #[] }], W1, { target := .fn (.func gf) lb, args := #[.func (.yield (w.heap.size + 1)) #[] #[]] }, W1, gf,
              #[.func (.yield (w.heap.size + 1)) #[] #[]] ++ lb, W1, ?_, ?_, fun _ _ => trivial, ?_, fun hh => by simp [FR, Fence.wide] at hh, ?_⟩
            · rw [← hW1, hrec]; exact run_enterLoop_outer _ _ _ _ _
            · simp only [resolve, hg]
              simp [go_sem]
            · unfold invoke callFunc
              simp only [Sem.run_bind, run_program, Result.andThen, h1, h2, h3, Bool.false_eq_true, if_false, Sem.run_pure]
            · refine (callsIn_wide.2 (H1.2 W1 rfl)).mono fun e w3 he => ?_
              obtain ⟨hk3, he⟩ := he
              have hk3 := hk.trans (hk1.trans hk3)
              cases e with
              | outgrown => exact he.elim
              | panicked c => exact ⟨hk3, he⟩
              | returned v =>
                rcases he with ⟨hl, hq⟩ | hq
                · refine ⟨none, w3.putObj (w.heap.size + 1) (.loop (rec .exhausted none)), ?_, ?_⟩
                  · have := run_endLoop (P := P) hl (by rw [hrec]; simp)
                    rw [hrec] at this ⊢
                    exact this
                  · exact ⟨hk3, (fun W hW => by cases hW), hq⟩
                · obtain ⟨k, hl, hq⟩ := afterQ_spec hq
                  refine ⟨some (codeK k), w3.putObj (w.heap.size + 1) (.loop (rec .exhausted (some (codeK k)))), ?_, ?_⟩
                  · have := run_endLoop (P := P) hl (by rw [hrec]; simp)
                    rw [hrec] at this ⊢
                    exact this
                  · have hq : Q (exitK k) (mark w.heap.size a) (w3.putObj (w.heap.size + 1) (.loop (rec .exhausted (some (codeK k))))).heap := hq
                    generalize w3.putObj (w.heap.size + 1) (.loop (rec .exhausted (some (codeK k)))) = w4, hw4 : w3.putObj (w.heap.size + 1) (.loop (rec .exhausted (some (codeK k)))) = w4 at hq ⊢
                    have hk4 : keeps w₀ w4 := by rw [← hw4]; exact hk3
                    unfold exitK at hq
                    unfold codeK
                    split at hq
                    · exact wpIn_ret ⟨hk4, (fun W hW => by cases hW), hq⟩
                    · split at hq
                      · rename_i hb
                        simp only [hb]
                        exact wpIn_exit ⟨hk4, (fun W hW => by cases hW), hq⟩
                      · rename_i hb
                        simp only [hb]
                        exact wpIn_goto ⟨hk4, (fun W hW => by cases hW), hq⟩
          · intro h' K hready
            refine allTs_of fun vs hvl hd w' hw' => ?_
            subst hw'
            have hsz : vs.toArray.size = (rec .ready none).params.size := by
              rw [hrec]
              simp only [List.size_toArray, hvl]
              simpa using hlen
            have hy := run_yield (P := P) (args := vs.toArray) hready hsz
            refine ⟨_, _, _, _, hy, roundIn_of_wpIn trivial ?_⟩
            have hact : ({ tmps := ((rec .ready none).params.zip vs.toArray).foldl (fun tmps (t, a) => tmps.setIfInBounds t a) (rec .ready none).tmps, defers := [] } : Act) = putTs ps.toList vs { a with defers := [] } := by
              rw [putTs_zip, hrec]
              congr 1
              rw [← Array.foldl_toList]
              simp
            rw [hact]
            have hx := ihx (some (w.heap.size + 1)) w' _ _ w' (keeps.refl w') (fun c a d v h _ hh => hh.elim) hd
            rw [show (rec .ready none).assign = x by rw [hrec]]
            refine wpIn_mono hx fun e a1 w1 h1 => ?_
            cases e with
            | normal =>
              obtain ⟨k1, _, hl1, hb⟩ := h1
              refine ⟨w1.putObj (w.heap.size + 1) (.loop (rec .busy none)), ?_, ?_⟩
              · have := run_beginRound (P := P) hl1 (by rw [hrec])
                rw [hrec] at this ⊢
                exact this
              · rw [show (rec .ready none).body = y by rw [hrec]]
                refine wpIn_mono (ihy (some (w.heap.size + 1)) w' _ a1 (w1.putObj (w.heap.size + 1) (.loop (rec .busy none))) k1 (fun c a d v h _ hh => hh.elim) hb) fun e a2 w2 h2 => ?_
                have out : ∀ e, keyX e ≠ none → keeps w' w2 ∧ roundQ (w.heap.size + 1) (.loop (rec .ready none)) (.loop (rec .busy none)) (fun k => .loop (rec .done (some (codeK k)))) (jumpsOf y) K e a2 w2.heap → ∃ k, keyX e = some k ∧
                    (Instr.endRound (w.heap.size + 1) (some (codeK k))).run P w2 = .ok (.bool false) (w2.putObj (w.heap.size + 1) (.loop (rec .done (some (codeK k))))) ∧ keeps w' (w2.putObj (w.heap.size + 1) (.loop (rec .done (some (codeK k))))) ∧
                    K (.bool false) (w2.putObj (w.heap.size + 1) (.loop (rec .done (some (codeK k))))).heap := fun e hne he => by
                  obtain ⟨k2, he⟩ := he
                  cases hke : keyX e with
                  | none => exact absurd hke hne
                  | some k =>
                    have he' : objAt w2.heap (w.heap.size + 1) (.loop (rec .busy none)) ∧ K (.bool false) (putO w2.heap (w.heap.size + 1) (.loop (rec .done (some (codeK k))))) := by
                      cases e <;> simp only [roundQ, hke] at he <;> first
                        | (cases hke; done)
                        | (split at he
                           · exact he
                           · exact he.elim)
                    refine ⟨k, rfl, ?_, k2, he'.2⟩
                    have := run_endRound (P := P) (some (codeK k)) he'.1
                    rw [hrec] at this ⊢
                    exact this
                cases e with
                | normal =>
                  obtain ⟨k2, _, hl2, hK⟩ := h2
                  refine ⟨.bool true, w2.putObj (w.heap.size + 1) (.loop (rec .ready none)), ?_, k2, _, rfl, hK⟩
                  have := run_endRound (P := P) none hl2
                  rw [hrec] at this ⊢
                  exact this
                | ret =>
                  obtain ⟨k, hk', h3, h4, h5⟩ := out .ret (by simp [keyX]) ⟨h2.1, h2.2.2⟩
                  obtain rfl := Option.some.inj hk'
                  exact ⟨.bool false, _, h3, h4, _, rfl, h5⟩
                | exit id =>
                  obtain ⟨k, hk', h3, h4, h5⟩ := out (.exit id) (by simp [keyX]) ⟨h2.1, h2.2.2⟩
                  have hc : codeK k = .exit id := by
                    rcases (exitK_key hk').2 with ⟨e1, _⟩ | ⟨id', e1, e2⟩ | ⟨t', e1, _⟩
                    · cases e1
                    · rw [e2]; cases e1; rfl
                    · cases e1
                  rw [hc] at h3 h4 h5
                  exact ⟨.bool false, _, h3, h4, _, rfl, h5⟩
                | goto t =>
                  obtain ⟨k, hk', h3, h4, h5⟩ := out (.goto t) (by simp [keyX]) ⟨h2.1, h2.2.2⟩
                  have hc : codeK k = .goto t := by
                    rcases (exitK_key hk').2 with ⟨e1, _⟩ | ⟨id', e1, e2⟩ | ⟨t', e1, e2⟩
                    · cases e1
                    · cases e1
                    · rw [e2]; cases e1; rfl
                  rw [hc] at h3 h4 h5
                  exact ⟨.bool false, _, h3, h4, _, rfl, h5⟩
                | panic c => exact h2.2.elim
                | outgrown => exact h2.elim
            | panic c => exact h1.2.elim
            | outgrown => exact h1.elim
            | ret => exact h1.2.2.elim
            | exit id => exact h1.2.2.elim
            | goto t => exact h1.2.2.elim
        · exact h.elim
      · exact h.elim
  | exit id => intro ro w₀ Q a w hk hp h; exact wpIn_exit ⟨hk, fun W _ => agree.refl W a, h⟩
  | scope c ih => intro ro w₀ Q a w hk hp h; cases ro <;> exact h.elim
  | label l => intro ro w₀ Q a w hk hp h; exact wpIn_label ⟨hk, fun W _ => agree.refl W a, h⟩
  | goto l => intro ro w₀ Q a w hk hp h; exact wpIn_goto ⟨hk, fun W _ => agree.refl W a, h⟩
  | ret => intro ro w₀ Q a w hk hp h; exact wpIn_ret ⟨hk, fun W _ => agree.refl W a, h⟩
  | refuse why => intro ro w₀ Q a w hk hp h; cases ro <;> exact h.elim

end
end Go.Den

/- RnC: a function that ranges over functions, or is ranged over: the condition of its body is enough for its call. No program in sight. -/
set_option linter.unusedVariables false
set_option linter.unusedSimpArgs false
namespace Go.Den

/-- Behind a body: with nothing deferred, or with the mark of one range over a function. -/
def endY (Res : Heap → Prop) (ds : List Deferred) (h : Heap) : Prop := match ds with
  | [] => Res h
  | [d] => (match d.target with
    | .collected D => objAt h D (.deferred (some [])) ∧ Res (putO h D (.deferred none))
    | _ => False)
  | _ => False
def fnQY (P : Program) (rs : List ResultVar) (K : Value → Heap → Prop) (Kp : List PanicEntry → Heap → Prop) : PostD := fun e a h => match e with
  | .normal => endY (fun h' => resD P a h' rs fun vs => K (retV vs) h') a.defers h
  | .ret => endY (fun h' => resD P a h' rs fun vs => K (retV vs) h') a.defers h
  | .panic c => endY (fun h' => Kp c h') a.defers h
  | _ => False
def fnY (P : Program) (C : CallP) (Y : YP) (H : HintsY) (fn : Func) (args : List Value) (h : Heap) (K : Value → Heap → Prop) (Kp : List PanicEntry → Heap → Prop) : Prop :=
  match fn.body with
  | some c => denY P C Y H true c (fnQY P fn.results.toList K Kp) ⟨(args ++ List.replicate (fn.ntmps - args.length) undef).toArray, []⟩ h
  | none => False

section
variable {P : Program}
theorem fnQY_panic (rs : List ResultVar) (K : Value → Heap → Prop) (Kp : List PanicEntry → Heap → Prop) (R : List Tmp) : PanicOK R (fnQY P rs K Kp) := fun c a d v h _ hh => by
  simp only [fnQY, put_defers] at hh ⊢
  exact hh
theorem endY_leaves {fn : Func} {tmps : Array Value} {R : Ending → World → Prop} {Res : Heap → Prop} {ds : List Deferred} {w w0 : World} {u : FrameMode} (hu : u ≠ .run) (hk : keeps w0 w) (H : endY Res ds w.heap)
    (hR : ∀ w', keeps w0 w' → Res w'.heap → LeavesIn Fence.wide 0 P fn tmps R [] u w') : LeavesInM Fence.wide 0 P fn tmps R ds u w := by
  unfold endY at H
  split at H
  · exact hR w hk H
  · rename_i d
    split at H
    · rename_i D hd
      refine ⟨hu, .inl ⟨D, w.putObj D (.deferred none), hd, run_takeDeferred H.1, hR _ hk H.2⟩⟩
    · exact H.elim
  · exact H.elim
theorem callsHP_ofY {f : FuncId} {fn : Func} {args : List Value} {h : Heap} {K : Value → Heap → Prop} {Kp : List PanicEntry → Heap → Prop} (Hn : HintsY) (hm : P.follows .mixedOrders = true)
    (hf : P.funcs[f]? = some fn) (hn : (fn.name == "runtime.NumGoroutine") = false) (H : fnY P (CallsHP P) (YieldsHP P) Hn fn args h K Kp) : CallsHP P f args.toArray h K Kp := by
  unfold fnY at H
  split at H
  · rename_i c hb
    refine ⟨⟨fn, hf, hn, by rw [hb]; rfl⟩, fun w hw => ?_⟩
    subst hw
    refine callsIn_wide.1 (callsIn_of_wp_marks (n := 0) hf hb trivial ?_)
    have hact : (⟨args.toArray ++ Array.replicate (fn.ntmps - args.toArray.size) undef, []⟩ : Act) = ⟨(args ++ List.replicate (fn.ntmps - args.length) undef).toArray, []⟩ := by
      congr 1
      apply Array.toList_inj.1
      simp
    rw [hact]
    have h1 := denY_sound hm c none w _ _ w (keeps.refl w) (fnQY_panic _ K Kp _) H
    refine wpIn_mono (F := Fence.wide) (n := 0) h1 fun e a w' he => ?_
    have res : ∀ w'', keeps w w'' → resD P a w''.heap fn.results.toList (fun vs => K (retV vs) w''.heap) → LeavesIn Fence.wide 0 P fn a.tmps (fun e w' => keeps w w' ∧ match e with
        | .returned v => K v w'.heap
        | .panicked c => Kp c w'.heap
        | .outgrown => False) [] .returning w'' := fun w'' hk hr => by
      obtain ⟨v, hv, hkv⟩ := results_run hr
      exact ⟨v, hv, hk, hkv⟩
    cases e with
    | normal =>
      obtain ⟨h2, _, h3⟩ := he
      exact endY_leaves (Res := fun h' => resD P a h' fn.results.toList fun vs => K (retV vs) h') (by simp) h2 h3 res
    | ret =>
      obtain ⟨h2, _, h3⟩ := he
      exact endY_leaves (Res := fun h' => resD P a h' fn.results.toList fun vs => K (retV vs) h') (by simp) h2 h3 res
    | panic c =>
      obtain ⟨h2, h3⟩ := he
      exact endY_leaves (Res := fun h' => Kp c h') (by simp) h2 h3 fun w'' hk hr => ⟨hk, hr⟩
    | outgrown => exact he.elim
    | exit id => exact he.2.2.elim
    | goto l => exact he.2.2.elim
  · exact H.elim
end
end Go.Den

/- Written by gen.py: the conditions of the functions of law15PageReads. -/
set_option linter.unusedVariables false
set_option linter.unusedSimpArgs false
namespace Go.Den.YtfaclehehhgpcaaGreat
open Go Go.Den

/- burin/burinlaw15.PageReads -/
end Go.Den.YtfaclehehhgpcaaGreat

/- Written by gen.py: each condition of the functions of law15PageReads is the one of its body; so it is enough for its call. -/
set_option linter.unusedVariables false
set_option linter.unusedSimpArgs false
namespace Go.Den.YtfaclehehhgpcaaGreat
open Go Go.Den

end Go.Den.YtfaclehehhgpcaaGreat

/- PbK: the law PageReads, said of memory. -/
set_option linter.unusedVariables false
set_option linter.unusedSimpArgs false
namespace Go.Bm
open Go Go.Den Go.Den.YtfaclehehhgpcaaGreat
open Go.Ar (u8s wd_bytes)

set_option maxRecDepth 100000 in
set_option maxHeartbeats 4000000 in
theorem eqReg_ok {hB : Heap} {a b : Option Addr} {ac bc : Nat} {x y op t w g : Int} {sk : Bool} {xs : List Nat} (ha : rdO hB a (xs.length * 1) (u64s xs)) (hb : rdO hB b (xs.length * 1) (u64s xs)) (hlen : xs.length < 140737488351300)
    {K : Value → Heap → Prop} {Kp : List PanicEntry → Heap → Prop} (hk : ∀ h, hext hB h → K (.bool true) h) :
    CP F_burinref0_EqRegion #[.agg #[.int .i64 x, .int .i64 y, .int .i64 op, .int .i64 t, .bool sk, .int .i64 w, .int .i64 g, .slice a xs.length ac], .agg #[.int .i64 x, .int .i64 y, .int .i64 op, .int .i64 t, .bool sk, .int .i64 w, .int .i64 g, .slice b xs.length bc]] hB K Kp := by
  refine call_burinref0_EqRegion ?_
  unfold burinref0_EqRegion
  have H := Hp.nil hB []
  refine newC_hp H fun r1 h H => ?_
  refine newC_hp H fun r2 h H => ?_
  have H : Hp hB [] h [⟨r1, true, T_api_Region, [.int .i64 x, .int .i64 y, .int .i64 op, .int .i64 t, .bool sk, .int .i64 w, .int .i64 g, .slice a xs.length ac]⟩, ⟨r2, true, T_api_Region, [.int .i64 x, .int .i64 y, .int .i64 op, .int .i64 t, .bool sk, .int .i64 w, .int .i64 g, .slice b xs.length bc]⟩] := H
  refine ldI_of (hpA H 0 rfl rfl) (ldI_of (hpA H 1 rfl rfl) ?_)
  refine bcase_true (by simp) ?_
  refine ldI_of (hpA H 0 rfl rfl) (ldI_of (hpA H 1 rfl rfl) ?_)
  refine bcase_true (by simp) ?_
  refine ldI_of (hpA H 0 rfl rfl) (ldI_of (hpA H 1 rfl rfl) ?_)
  refine bcase_true (by simp) ?_
  refine ldI_of (hpA H 0 rfl rfl) (ldI_of (hpA H 1 rfl rfl) ?_)
  refine bcase_true (by simp) ?_
  refine ldB_of (hpA H 0 rfl rfl) (ldB_of (hpA H 1 rfl rfl) ?_)
  refine bcase_true (by simp) ?_
  refine ldI_of (hpB H 0 rfl rfl) (ldI_of (hpB H 0 rfl rfl) (ldS_of (hpB H 0 rfl rfl) (ldI_of (hpB H 1 rfl rfl) (ldI_of (hpB H 1 rfl rfl) (ldS_of (hpB H 1 rfl rfl) ?_)))))
  refine eqB_ok (xs := xs) (ys := xs) (H.rdO ha) (H.rdO hb) hlen fun h e => ?_
  refine ⟨_, rfl, ?_⟩
  rw [decide_eq_true ⟨rfl, rfl, rfl⟩]
  exact hk _ (H.hext.trans e)
/-- Rows of bytes that come in. -/
structure BytesC (h : Heap) (a : Addr) (b : List Nat) (q : Option Addr) (c : Nat) : Prop where
  c0 : hcell h a = some (.slice q b.length c)
  r1 : rdO h q (b.length * 1) (u8s b)
  b8 : ∀ x ∈ b, x < 256
  bl : b.length < 140737488351300
  cap : b.length ≤ c
def ByteRowsV (h : Heap) (q : Option Addr) (n : Nat) : Prop := ∀ i, i < n → ∃ a b q1 c1, q = some a ∧ BytesC h (a.add (i * 1)) b q1 c1
theorem byteRows_of {h : Heap} {cs : List Value} (H : WDx TP h T_s_s_uint8 cs) : ∃ q len cap, cs = [.slice q len cap] ∧ ByteRowsV h q len := by
  obtain ⟨q, len, cap, rfl, _, _, _, h4⟩ := wd_slice Go.Proofs.Tryz.underlying24 H
  refine ⟨q, len, cap, rfl, fun i hi => ?_⟩
  obtain ⟨a, cs', ha, hr, hd⟩ := h4 i hi
  have k : TP.cellsOf T_s_uint8 = 1 := by kernel_rfl
  rw [k] at hr
  obtain ⟨q1, c1, bs, rfl, g1, g2, _, g3, g4⟩ := wd_bytes hd
  have c0 := hr.2 0 _ rfl
  rw [Go.Ar.add_add', Nat.add_zero] at c0
  exact ⟨a, bs, q1, c1, ha, ⟨c0, g3, g4, by omega, g1⟩⟩
theorem RgR.len {b : List Nat} {e x y op t w g : Int} {sk : Bool} {ys : List Nat} (h : RgR b e x y op t sk w g ys) : ys.length < 140737488351300 := by
  rcases h with ⟨_, _, _, _, _, _, _, _, _, rfl⟩ | ⟨_, _, _, _, _, _, _, _, _, _, _, _, _, _, _, _, _, _, _, s1, g1⟩
  · exact Nat.zero_lt_succ _
  · exact g1.len
theorem forms_of {h : Heap} {cs : Array Value} (hw : WDx TP h T_burinlaw15_Forms cs.toList) : ∃ q0 n0 c0 q1 n1 c1 q2 n2 c2, cs = #[.slice q0 n0 c0, .slice q1 n1 c1, .slice q2 n2 c2] ∧ SheetsV h q0 n0 ∧ RegsV h q1 n1 ∧ ByteRowsV h q2 n2 := by
  obtain ⟨hl, hf⟩ := wd_struct Go.Proofs.Tryz.underlying26 hw
  have k : TP.cellsOf T_burinlaw15_Forms = 3 := by kernel_rfl
  rw [k] at hl
  obtain ⟨v0, v1, v2, hcs⟩ := list3 hl
  rw [hcs] at hf
  have k0 : TP.cellsOf T_s_api_Sheet = 1 := by kernel_rfl
  have k1 : TP.cellsOf T_s_api_Region = 1 := by kernel_rfl
  have k2 : TP.cellsOf T_s_s_uint8 = 1 := by kernel_rfl
  obtain ⟨q0, n0, c0, e0, g0⟩ := sheets_of (one_of k0 (hf 0 _ rfl) (v := v0) rfl)
  obtain ⟨q1, n1, c1, e1, g1⟩ := regs_of (one_of k1 (hf 1 _ rfl) (v := v1) rfl)
  obtain ⟨q2, n2, c2, e2, g2⟩ := byteRows_of (one_of k2 (hf 2 _ rfl) (v := v2) rfl)
  simp only [List.cons.injEq, and_true] at e0 e1 e2
  subst e0 e1 e2
  exact ⟨q0, n0, c0, q1, n1, c1, q2, n2, c2, by apply Array.toList_inj.1; rw [hcs], g0, g1, g2⟩
end Go.Bm

/- PbL: plain law: what is written of a sheet, of a region, is read as that. -/
set_option linter.unusedVariables false
set_option linter.unusedSimpArgs false
namespace Go.Bm
open Go Go.Den Go.Den.YtfaclehehhgpcaaGreat
-- (nothing of Go.Ar opened)

theorem drop_head {b : List Nat} {k x : Nat} {l : List Nat} (h : b.drop k = x :: l) : b[k]? = some x ∧ b.drop (k + 1) = l := by
  have h1 : (b.drop k)[0]? = some x := by rw [h]; rfl
  rw [List.getElem?_drop, Nat.add_zero] at h1
  refine ⟨h1, ?_⟩
  have h2 : (b.drop k).drop 1 = l := by rw [h]; rfl
  rw [List.drop_drop] at h2
  exact h2
theorem grpF_small {f m : Nat} (h : m < 128) : grpF f m = [m] := by
  cases f with
  | zero => show [m % 128] = [m]; rw [Nat.mod_eq_of_lt h]
  | succ f => show (if m < 128 then [m] else _) = _; rw [if_pos h]
theorem grpF_big {f m : Nat} (h : ¬ m < 128) : grpF (f + 1) m = (m % 128 + 128) :: grpF f (m / 128) := by
  show (if m < 128 then [m] else _) = _; rw [if_neg h]
theorem pow9 {m j : Nat} (h : m * 128 ^ j < 128 ^ 9) (hm : 0 < m) : j < 9 := by
  rcases Nat.lt_or_ge j 9 with h1 | h1
  · exact h1
  · have h2 : 128 ^ 9 ≤ 128 ^ j := Nat.pow_le_pow_right (by decide) h1
    have h3 : 1 * 128 ^ j ≤ m * 128 ^ j := Nat.mul_le_mul_right _ hm
    omega
theorem pow_step {m j : Nat} : m % 128 * 128 ^ j + m / 128 * 128 ^ (j + 1) = m * 128 ^ j := by
  have h := Nat.div_add_mod m 128
  have e : 128 ^ (j + 1) = 128 * 128 ^ j := by rw [Nat.pow_succ, Nat.mul_comm]
  rw [e, ← Nat.mul_assoc, ← Nat.add_mul]
  congr 1
  omega
theorem varF_grp {b : List Nat} {i : Nat} {rest : List Nat} : ∀ (f j m acc : Nat), f + j = 10 → b.drop (i + j) = grpF f m ++ rest → m * 128 ^ j < 128 ^ 9 → (0 < j → 0 < m) → varF b i f j acc = (0, acc + m * 128 ^ j, i + j + (grpF f m).length)
  | 0, j, m, acc, hfj, _, hm, h0 => by
    have := pow9 hm (h0 (by omega))
    omega
  | f + 1, j, m, acc, hfj, hb, hm, h0 => by
    unfold varF
    by_cases h1 : m < 128
    · rw [grpF_small h1] at hb ⊢
      obtain ⟨hx, _⟩ := drop_head hb
      rw [hx]
      dsimp only
      rw [if_neg (fun hh => by
        rcases hh with ⟨h2, h3⟩ | ⟨h2, h3⟩
        · have := pow9 hm (by omega); omega
        · have := h0 h2; omega), if_pos h1, Nat.mod_eq_of_lt h1]
      rfl
    · rw [grpF_big h1] at hb ⊢
      obtain ⟨hx, hd⟩ := drop_head hb
      have hj := pow9 hm (by omega)
      rw [hx]
      dsimp only
      rw [if_neg (fun hh => by omega), if_neg (by omega)]
      have hmod : (m % 128 + 128) % 128 = m % 128 := by omega
      have hst := @pow_step m j
      rw [hmod, varF_grp f (j + 1) (m / 128) _ (by omega) (by rw [← Nat.add_assoc]; exact hd) (by omega) (fun _ => by omega)]
      rw [List.length_cons]
      congr 2
      · omega
      · omega
theorem varF_cut {b : List Nat} {i : Nat} : ∀ (f j m acc : Nat), f + j = 10 → b.drop (i + j) = (grpF f m).dropLast → m * 128 ^ j < 128 ^ 9 → (0 < j → 0 < m) → (varF b i f j acc).1 = 14
  | 0, j, m, acc, hfj, _, hm, h0 => by
    have := pow9 hm (h0 (by omega))
    omega
  | f + 1, j, m, acc, hfj, hb, hm, h0 => by
    unfold varF
    by_cases h1 : m < 128
    · rw [grpF_small h1] at hb
      have hn : b[i + j]? = none := by
        have h2 : (b.drop (i + j))[0]? = none := by rw [hb]; rfl
        rw [List.getElem?_drop, Nat.add_zero] at h2
        exact h2
      rw [hn]
    · rw [grpF_big h1] at hb
      have hne : grpF f (m / 128) ≠ [] := fun hh => by have := (grpF_len f (m / 128)).1; rw [hh] at this; cases this
      rw [List.dropLast_cons_of_ne_nil hne] at hb
      obtain ⟨hx, hd⟩ := drop_head hb
      have hj := pow9 hm (by omega)
      rw [hx]
      dsimp only
      rw [if_neg (fun hh => by omega), if_neg (by omega)]
      have hst := @pow_step m j
      exact varF_cut f (j + 1) (m / 128) _ (by omega) (by rw [← Nat.add_assoc]; exact hd) (by omega) (fun _ => by omega)
theorem numP_at {b : List Nat} {i n : Nat} {rest : List Nat} (h : b.drop i = grp n ++ rest) (hn : n < 128 ^ 9) : numP b i = .ok (n, i + (grp n).length) ∧ b.drop (i + (grp n).length) = rest := by
  have h1 := varF_grp 10 0 n 0 rfl (by rw [Nat.add_zero]; exact h) (by rw [Nat.pow_zero, Nat.mul_one]; exact hn) (fun hh => by omega)
  constructor
  · unfold numP varP
    rw [h1]
    dsimp only
    rw [if_pos rfl, Nat.pow_zero, Nat.mul_one, Nat.zero_add, Nat.add_zero]
    rfl
  · rw [← List.drop_drop, h, List.drop_left]
theorem numP_cut {b : List Nat} {i n : Nat} (h : b.drop i = (grp n).dropLast) (hn : n < 128 ^ 9) : numP b i = .error 150 := by
  have h1 := varF_cut (b := b) (i := i) 10 0 n 0 rfl (by rw [Nat.add_zero]; exact h) (by rw [Nat.pow_zero, Nat.mul_one]; exact hn) (fun hh => by omega)
  unfold numP varP
  rw [h1, if_neg (by decide)]
theorem lt9 {n : Nat} (h : n ≤ 1048576) : n < 128 ^ 9 := Nat.lt_of_le_of_lt h (by decide)
theorem placeP_at {b : List Nat} {i n : Nat} {rest : List Nat} (h : b.drop i = grp n ++ rest) (hn : n ≤ 1048576) : placeP b i = .ok (n, i + (grp n).length) ∧ b.drop (i + (grp n).length) = rest := by
  obtain ⟨h1, h2⟩ := numP_at h (lt9 hn)
  refine ⟨?_, h2⟩
  unfold placeP
  rw [h1]
  dsimp only
  rw [if_neg (by omega)]
theorem sizeP_at {b : List Nat} {i w g : Nat} {rest : List Nat} (h : b.drop i = grp w ++ (grp g ++ rest)) (hP : SizeP (w : Int) (g : Int)) : ∃ i', sizeP b i = .ok ((w, g), i') ∧ b.drop i' = rest := by
  obtain ⟨W, G, e1, e2, hW1, hW2, hG1, hG2, hWG⟩ := size_nat hP
  obtain rfl : w = W := by omega
  obtain rfl : g = G := by omega
  obtain ⟨h1, h2⟩ := numP_at h (lt9 hW2)
  obtain ⟨h3, h4⟩ := numP_at h2 (lt9 hG2)
  refine ⟨_, ?_, h4⟩
  unfold sizeP
  rw [h1]
  dsimp only
  rw [if_neg (by omega), h3]
  dsimp only
  rw [if_neg (by omega), if_neg (by omega)]
theorem byteP_at {b : List Nat} {i x : Nat} {rest : List Nat} (h : b.drop i = x :: rest) : byteP b i = .ok (x, i + 1) ∧ b.drop (i + 1) = rest := by
  obtain ⟨h1, h2⟩ := drop_head h
  exact ⟨by unfold byteP; rw [h1], h2⟩
theorem wrB_nat (n : Nat) : wrB (n : Int) = grp n := by
  unfold wrB
  rw [if_neg (by omega), Int.toNat_natCast]
theorem wrB_byte (n : Nat) : wrB (-(n : Int) - 1) = [n] := by
  unfold wrB
  rw [if_pos (by omega)]
  congr 1
  omega
/-- A sheet's bytes. -/
def shB (w g d s : Nat) : List Nat := grp w ++ (grp g ++ (d :: grp s))
theorem wrt_sheet (w g d s : Nat) : wrt [(w : Int), (g : Int), -(d : Int) - 1, (s : Int)] = shB w g d s := by
  unfold wrt shB
  simp only [List.flatMap_cons, List.flatMap_nil, List.append_nil, wrB_nat, wrB_byte, List.singleton_append]
section
variable {w g d s : Nat} (hP : SizeP (w : Int) (g : Int)) (hd : d ≤ 1) (hs : s ≤ 1048576)
include hP hd hs
theorem sheetPR_b : sheetPR (shB w g d s) = .ok (w, g, d, s) := by
  obtain ⟨i1, h1, h2⟩ := sizeP_at (b := shB w g d s) (i := 0) rfl hP
  obtain ⟨h3, h4⟩ := byteP_at h2
  obtain ⟨h5, h6⟩ := placeP_at (rest := []) (by rw [h4, List.append_nil]) hs
  have h7 : (shB w g d s).length ≤ i1 + 1 + (grp s).length := List.drop_eq_nil_iff.1 h6
  unfold sheetPR
  rw [h1]
  dsimp only
  rw [h3]
  dsimp only
  rw [if_neg (by omega), h5]
  dsimp only
  rw [if_neg (by omega)]
theorem sheetPR_more : sheetPR (shB w g d s ++ [0]) = .error 150 := by
  have e : shB w g d s ++ [0] = grp w ++ (grp g ++ (d :: (grp s ++ [0]))) := by unfold shB; simp only [List.append_assoc, List.cons_append]
  obtain ⟨i1, h1, h2⟩ := sizeP_at (b := shB w g d s ++ [0]) (i := 0) (by rw [List.drop_zero]; exact e) hP
  obtain ⟨h3, h4⟩ := byteP_at h2
  obtain ⟨h5, h6⟩ := placeP_at (rest := [0]) h4 hs
  have h7 : i1 + 1 + (grp s).length < (shB w g d s ++ [0]).length := by
    rcases Nat.lt_or_ge (i1 + 1 + (grp s).length) (shB w g d s ++ [0]).length with h | h
    · exact h
    · rw [List.drop_eq_nil_iff.2 h] at h6; cases h6
  unfold sheetPR
  rw [h1]
  dsimp only
  rw [h3]
  dsimp only
  rw [if_neg (by omega), h5]
  dsimp only
  rw [if_pos h7]
theorem sheetPR_less : sheetPR (shB w g d s).dropLast = .error 150 := by
  have hne : grp s ≠ [] := fun hh => by have := (grp_len s).1; rw [hh] at this; cases this
  have e : (shB w g d s).dropLast = grp w ++ (grp g ++ (d :: (grp s).dropLast)) := by
    unfold shB
    rw [List.dropLast_append_of_ne_nil (by simp), List.dropLast_append_of_ne_nil (by simp), List.dropLast_cons_of_ne_nil hne]
  obtain ⟨i1, h1, h2⟩ := sizeP_at (b := (shB w g d s).dropLast) (i := 0) (by rw [List.drop_zero]; exact e) hP
  obtain ⟨h3, h4⟩ := byteP_at h2
  have h5 := numP_cut h4 (lt9 hs)
  unfold sheetPR
  rw [h1]
  dsimp only
  rw [h3]
  dsimp only
  rw [if_neg (by omega)]
  unfold placeP
  rw [h5]
end
theorem shB_len (w g d s : Nat) : 4 ≤ (shB w g d s).length := by
  have h1 := (grp_len w).1
  have h2 := (grp_len g).1
  have h3 := (grp_len s).1
  unfold shB
  rw [List.length_append, List.length_append, List.length_cons]
  omega
theorem EncSh.back {w g d s : Int} {e : Int} {bs : List Nat} (h : EncSh w g d s e bs) (he : e = 0) : shRes bs = (0, w.toNat, g.toNat, d.toNat, s.toNat) ∧ ((w.toNat : Int) = w ∧ (g.toNat : Int) = g ∧ (d.toNat : Int) = d ∧ (s.toNat : Int) = s) ∧ shRes (bs ++ [0]) = (150, 0, 0, 0, 0) ∧ shRes bs.dropLast = (150, 0, 0, 0, 0) ∧ 4 ≤ bs.length ∧ ∀ x ∈ bs, x < 256 := by
  rcases h with ⟨_, rfl, _⟩ | ⟨⟨hP, hd, hs0, hs⟩, _, rfl⟩
  · cases he
  · have hP2 := hP
    unfold SizeP at hP2
    obtain ⟨W, rfl⟩ : ∃ W : Nat, w = (W : Int) := ⟨w.toNat, by omega⟩
    obtain ⟨G, rfl⟩ : ∃ G : Nat, g = (G : Int) := ⟨g.toNat, by omega⟩
    obtain ⟨D, rfl⟩ : ∃ D : Nat, d = (D : Int) := ⟨d.toNat, by omega⟩
    obtain ⟨S, rfl⟩ : ∃ S : Nat, s = (S : Int) := ⟨s.toNat, by omega⟩
    have hD : D ≤ 1 := by omega
    have hS : S ≤ 1048576 := by omega
    rw [wrt_sheet]
    simp only [Int.toNat_natCast]
    refine ⟨?_, by simp, ?_, ?_, shB_len _ _ _ _, ?_⟩
    · unfold shRes; rw [sheetPR_b hP hD hS]
    · unfold shRes; rw [sheetPR_more hP hD hS]
    · unfold shRes; rw [sheetPR_less hP hD hS]
    · intro x hx
      unfold shB at hx
      rcases List.mem_append.1 hx with hx | hx
      · exact grp_lt x hx
      · rcases List.mem_append.1 hx with hx | hx
        · exact grp_lt x hx
        · rcases List.mem_cons.1 hx with rfl | hx
          · omega
          · exact grp_lt x hx
/-! ### regions -/
theorem howR_nat {op t : Int} {sk : Bool} (ho : 0 ≤ op ∧ op ≤ 4) (ht : 0 ≤ t ∧ t < 4) : ∃ how : Nat, howR op t sk = (how : Int) ∧ how ≤ 39 ∧ ((how / 8 : Nat) : Int) = op ∧ ((how % 4 : Nat) : Int) = t ∧ Nat.beq (how / 4 % 2) 1 = sk := by
  obtain ⟨O, rfl⟩ : ∃ O : Nat, op = (O : Int) := ⟨op.toNat, by omega⟩
  obtain ⟨T, rfl⟩ : ∃ T : Nat, t = (T : Int) := ⟨t.toNat, by omega⟩
  cases sk with
  | false =>
    refine ⟨T + 8 * O, by unfold howR; simp, by omega, by omega, by omega, ?_⟩
    have : (T + 8 * O) / 4 % 2 = 0 := by omega
    rw [this]; rfl
  | true =>
    refine ⟨T + 8 * O + 4, by unfold howR; simp, by omega, by omega, by omega, ?_⟩
    have : (T + 8 * O + 4) / 4 % 2 = 1 := by omega
    rw [this]; rfl
theorem EncRg.back {x y op t w b : Int} {sk : Bool} {ws : List Nat} {e : Int} {bs : List Nat} (h : EncRg x y op t sk w b ws e bs) (he : e = 0) (hw : W64 ws)
    {e' x' y' op' t' w' b' : Int} {sk' : Bool} {ys : List Nat} (h' : RgR bs e' x' y' op' t' sk' w' b' ys) : e' = 0 ∧ x' = x ∧ y' = y ∧ op' = op ∧ t' = t ∧ sk' = sk ∧ w' = w ∧ b' = b ∧ ys = ws := by
  rcases h with ⟨_, rfl, _⟩ | ⟨⟨hx, hy, ho, ht, hm⟩, _, ds, hg, rfl⟩
  · cases he
  · obtain ⟨how, h1, h2, h3, h4, h5⟩ := howR_nat (sk := sk) ho ht
    have hP := hm.1
    have hP2 := hP
    unfold SizeP at hP2
    obtain ⟨X, rfl⟩ : ∃ X : Nat, x = (X : Int) := ⟨x.toNat, by omega⟩
    obtain ⟨Y, rfl⟩ : ∃ Y : Nat, y = (Y : Int) := ⟨y.toNat, by omega⟩
    obtain ⟨W, rfl⟩ : ∃ W : Nat, w = (W : Int) := ⟨w.toNat, by omega⟩
    obtain ⟨G, rfl⟩ : ∃ G : Nat, b = (G : Int) := ⟨b.toNat, by omega⟩
    have e0 : wrt [(X : Int), (Y : Int), (W : Int), (G : Int), -(howR op t sk) - 1] ++ ds = grp X ++ (grp Y ++ (grp W ++ (grp G ++ (how :: ds)))) := by
      rw [h1]
      unfold wrt
      simp only [List.flatMap_cons, List.flatMap_nil, List.append_nil, wrB_nat, wrB_byte, List.append_assoc, List.singleton_append]
    rw [e0] at h'
    obtain ⟨bs, hbs⟩ : ∃ bs, bs = grp X ++ (grp Y ++ (grp W ++ (grp G ++ (how :: ds)))) := ⟨_, rfl⟩
    rw [← hbs] at h'
    obtain ⟨p1, q1⟩ := placeP_at (b := bs) (i := 0) (n := X) (by rw [hbs]; rfl) (by omega)
    obtain ⟨p2, q2⟩ := placeP_at q1 (by omega)
    obtain ⟨i3, p3, q3⟩ := sizeP_at q2 hP
    obtain ⟨p4, q4⟩ := byteP_at q3
    have hreg : regPR bs = .ok (X, Y, W, G, how, i3 + 1) := by
      unfold regPR
      rw [p1]; dsimp only
      rw [p2]; dsimp only
      rw [p3]; dsimp only
      rw [p4]; dsimp only
      rw [if_neg (by omega)]
    rcases h' with ⟨hr, _⟩ | ⟨x0, y0, w0, h0, hw0, i0, hr, _, _, _, _, rfl, rfl, rfl, rfl, rfl, rfl, rfl, rfl, s1, g1⟩
    · rw [hreg] at hr; cases hr
    · rw [hreg] at hr
      injection hr with hr
      simp only [Prod.mk.injEq] at hr
      obtain ⟨rfl, rfl, rfl, rfl, rfl, rfl⟩ := hr
      rw [q4, h4, h5] at g1
      rw [← h4] at hg
      obtain ⟨_, _, _, _, r⟩ := g_back (t := how % 4) (by omega) hm hw hg (by rw [h4]; exact g1)
      exact ⟨rfl, rfl, rfl, h3, h4, h5, rfl, rfl, r⟩
end Go.Bm

/- Written by gen.py: the conditions of the functions of law15PageBack. -/
set_option linter.unusedVariables false
set_option linter.unusedSimpArgs false
namespace Go.Den.YtfaclehehhgpcaaGreat
open Go Go.Den

/- burin/burinlaw15.PageBack -/
set_option maxRecDepth 100000 in
def burinlaw15_PageBack (C : CallP) (Y : YP) (a0_1 : Option Addr) (a0_1n : Nat) (a0_1c : Nat) (a0_2 : Option Addr) (a0_2n : Nat) (a0_2c : Nat) (a0_3 : Option Addr) (a0_3n : Nat) (a0_3c : Nat) (h : Heap) (K : Value → Heap → Prop) (Kp : List PanicEntry → Heap → Prop) : Prop :=
newC h [.slice a0_1 a0_1n a0_1c, .slice a0_2 a0_2n a0_2c, .slice a0_3 a0_3n a0_3c] T_burinlaw15_Forms fun r_4 h_5 =>
∃ K_6 : List Value → Heap → Prop, (
∃ J_9 : Nat → List Value → Heap → Prop, (∃ n_11, J_9 n_11 [.int .i64 0] h_5) ∧ ∀ (n_11 : Nat) (h_12 : Heap) (u_13 : Nat → Value) (x_14 : Int), J_9 n_11 [.int .i64 x_14] h_12 → (
ldS h_12 ((⟨r_4, 0, none⟩ : Addr).add 0) fun x_15 x_15n x_15c =>
bcase (decide (x_14 < (x_15n : Int))) (
bcase (decide (x_14 < (20 : Int))) (
ldS h_12 ((⟨r_4, 0, none⟩ : Addr).add 0) fun x_16 x_16n x_16c =>
needs (0 ≤ x_14 ∧ x_14 < (x_16n : Int)) <|
ptr x_16 fun a_17 =>
ldI h_12 ((a_17.add (x_14.toNat * 4)).add 0) .i64 fun x_18 =>
ldI h_12 ((a_17.add (x_14.toNat * 4)).add 1) .i64 fun x_19 =>
ldI h_12 ((a_17.add (x_14.toNat * 4)).add 2) .i64 fun x_20 =>
ldI h_12 ((a_17.add (x_14.toNat * 4)).add 3) .i64 fun x_21 =>
C F_page_EncodeSheet #[.agg #[.int .i64 x_18, .int .i64 x_19, .int .i64 x_20, .int .i64 x_21]] h_12 (fun v_22 h_23 =>
∃ (r_24 : Option Addr) (r_24n : Nat) (r_24c : Nat), ∃ (r_25 : Int), v_22 = .tuple #[.slice r_24 r_24n r_24c, .int .i64 r_25] ∧ (
bcase (r_25 != (0 : Int)) (
bindI (IntKind.i64.wrap (x_14 + (1 : Int))) fun z_26 =>
∃ m_10, m_10 < n_11 ∧ J_9 m_10 [.int .i64 z_26] h_23) <|
C F_burinref0_Copy #[.slice r_24 r_24n r_24c] h_23 (fun v_27 h_28 =>
∃ (r_29 : Option Addr) (r_29n : Nat) (r_29c : Nat), v_27 = .slice r_29 r_29n r_29c ∧ (
C F_page_DecodeSheet #[.slice r_29 r_29n r_29c] h_28 (fun v_30 h_31 =>
∃ (r_32 : Int) (r_33 : Int) (r_34 : Int) (r_35 : Int), ∃ (r_36 : Int), v_30 = .tuple #[.agg #[.int .i64 r_32, .int .i64 r_33, .int .i64 r_34, .int .i64 r_35], .int .i64 r_36] ∧ (
newC h_31 [.int .i64 0, .int .i64 0, .int .i64 0, .int .i64 0] T_api_Sheet fun r_37 h_38 =>
stV h_38 ((⟨r_37, 0, none⟩ : Addr).add 0) (.int .i64 r_32) fun h_39 =>
stV h_39 ((⟨r_37, 0, none⟩ : Addr).add 1) (.int .i64 r_33) fun h_40 =>
stV h_40 ((⟨r_37, 0, none⟩ : Addr).add 2) (.int .i64 r_34) fun h_41 =>
stV h_41 ((⟨r_37, 0, none⟩ : Addr).add 3) (.int .i64 r_35) fun h_42 =>
C F_burinref0_Copy #[.slice r_24 r_24n r_24c] h_42 (fun v_43 h_44 =>
∃ (r_45 : Option Addr) (r_45n : Nat) (r_45c : Nat), v_43 = .slice r_45 r_45n r_45c ∧ (
newC h_44 [.int .u8 0] T_uint8 fun r_46 h_47 =>
appC h_47 T_uint8 1 1 [.int .u8 0] r_45 (r_45n) (r_45c) (some ⟨r_46, 0, none⟩) (1) fun q_48 q_48n q_48c h_49 =>
C F_page_DecodeSheet #[.slice q_48 q_48n q_48c] h_49 (fun v_50 h_51 =>
∃ (r_52 : Int) (r_53 : Int) (r_54 : Int) (r_55 : Int), ∃ (r_56 : Int), v_50 = .tuple #[.agg #[.int .i64 r_52, .int .i64 r_53, .int .i64 r_54, .int .i64 r_55], .int .i64 r_56] ∧ (
newC h_51 [.int .i64 0, .int .i64 0, .int .i64 0, .int .i64 0] T_api_Sheet fun r_57 h_58 =>
stV h_58 ((⟨r_57, 0, none⟩ : Addr).add 0) (.int .i64 r_52) fun h_59 =>
stV h_59 ((⟨r_57, 0, none⟩ : Addr).add 1) (.int .i64 r_53) fun h_60 =>
stV h_60 ((⟨r_57, 0, none⟩ : Addr).add 2) (.int .i64 r_54) fun h_61 =>
stV h_61 ((⟨r_57, 0, none⟩ : Addr).add 3) (.int .i64 r_55) fun h_62 =>
bcase (r_36 != (0 : Int)) (
K (.bool false) h_62) <|
ldI h_62 ((⟨r_37, 0, none⟩ : Addr).add 0) .i64 fun x_63 =>
ldI h_62 ((⟨r_37, 0, none⟩ : Addr).add 1) .i64 fun x_64 =>
ldI h_62 ((⟨r_37, 0, none⟩ : Addr).add 2) .i64 fun x_65 =>
ldI h_62 ((⟨r_37, 0, none⟩ : Addr).add 3) .i64 fun x_66 =>
ldS h_62 ((⟨r_4, 0, none⟩ : Addr).add 0) fun x_67 x_67n x_67c =>
needs (0 ≤ x_14 ∧ x_14 < (x_67n : Int)) <|
ptr x_67 fun a_68 =>
ldI h_62 ((a_68.add (x_14.toNat * 4)).add 0) .i64 fun x_69 =>
ldI h_62 ((a_68.add (x_14.toNat * 4)).add 1) .i64 fun x_70 =>
ldI h_62 ((a_68.add (x_14.toNat * 4)).add 2) .i64 fun x_71 =>
ldI h_62 ((a_68.add (x_14.toNat * 4)).add 3) .i64 fun x_72 =>
needs (IntKind.i64 = IntKind.i64) <|
needs (IntKind.i64 = IntKind.i64) <|
needs (IntKind.i64 = IntKind.i64) <|
needs (IntKind.i64 = IntKind.i64) <|
bcase (!((x_63 == x_69) && ((x_64 == x_70) && ((x_65 == x_71) && ((x_66 == x_72) && true))))) (
K (.bool false) h_62) <|
bcase (r_56 != (150 : Int)) (
K (.bool false) h_62) <|
bcase (decide ((r_24n : Int) < (4 : Int))) (
K (.bool false) h_62) <|
bindI (IntKind.i64.wrap ((r_24n : Int) - (1 : Int))) fun z_73 =>
needs (0 ≤ z_73 ∧ z_73 ≤ ((r_24c : Nat) : Int)) <|
C F_burinref0_Copy #[.slice (subA r_24 (r_24c) (0) 1) (z_73.toNat - 0) (r_24c - 0)] h_62 (fun v_74 h_75 =>
∃ (r_76 : Option Addr) (r_76n : Nat) (r_76c : Nat), v_74 = .slice r_76 r_76n r_76c ∧ (
C F_page_DecodeSheet #[.slice r_76 r_76n r_76c] h_75 (fun v_77 h_78 =>
∃ (r_79 : Int) (r_80 : Int) (r_81 : Int) (r_82 : Int), ∃ (r_83 : Int), v_77 = .tuple #[.agg #[.int .i64 r_79, .int .i64 r_80, .int .i64 r_81, .int .i64 r_82], .int .i64 r_83] ∧ (
bcase (r_83 != (150 : Int)) (
K (.bool false) h_78) <|
bindI (IntKind.i64.wrap (x_14 + (1 : Int))) fun z_84 =>
∃ m_10, m_10 < n_11 ∧ J_9 m_10 [.int .i64 z_84] h_78)) (Kp))) (Kp))) (Kp))) (Kp))) (Kp))) (Kp))) (Kp)) <|
K_6 [] h_12) <|
K_6 [] h_12)) ∧ ∀ (h_7 : Heap) (u_8 : Nat → Value) , K_6 [] h_7 → (
∃ J_85 : Nat → List Value → Heap → Prop, (∃ n_87, J_85 n_87 [.int .i64 0] h_7) ∧ ∀ (n_87 : Nat) (h_88 : Heap) (u_89 : Nat → Value) (x_90 : Int), J_85 n_87 [.int .i64 x_90] h_88 → (
ldS h_88 ((⟨r_4, 0, none⟩ : Addr).add 1) fun x_91 x_91n x_91c =>
bcase (decide (x_90 < (x_91n : Int))) (
bcase (decide (x_90 < (4 : Int))) (
ldS h_88 ((⟨r_4, 0, none⟩ : Addr).add 1) fun x_92 x_92n x_92c =>
needs (0 ≤ x_90 ∧ x_90 < (x_92n : Int)) <|
ptr x_92 fun a_93 =>
ldI h_88 ((a_93.add (x_90.toNat * 8)).add 0) .i64 fun x_94 =>
ldI h_88 ((a_93.add (x_90.toNat * 8)).add 1) .i64 fun x_95 =>
ldI h_88 ((a_93.add (x_90.toNat * 8)).add 2) .i64 fun x_96 =>
ldI h_88 ((a_93.add (x_90.toNat * 8)).add 3) .i64 fun x_97 =>
ldB h_88 ((a_93.add (x_90.toNat * 8)).add 4) fun x_98 =>
ldI h_88 ((a_93.add (x_90.toNat * 8)).add 5) .i64 fun x_99 =>
ldI h_88 ((a_93.add (x_90.toNat * 8)).add 6) .i64 fun x_100 =>
ldS h_88 ((a_93.add (x_90.toNat * 8)).add 7) fun x_101 x_101n x_101c =>
newC h_88 [.int .i64 0, .int .i64 0, .int .i64 0, .int .i64 0, .bool false, .int .i64 0, .int .i64 0, .slice none 0 0] T_api_Region fun r_102 h_103 =>
stV h_103 ((⟨r_102, 0, none⟩ : Addr).add 0) (.int .i64 x_94) fun h_104 =>
stV h_104 ((⟨r_102, 0, none⟩ : Addr).add 1) (.int .i64 x_95) fun h_105 =>
stV h_105 ((⟨r_102, 0, none⟩ : Addr).add 2) (.int .i64 x_96) fun h_106 =>
stV h_106 ((⟨r_102, 0, none⟩ : Addr).add 3) (.int .i64 x_97) fun h_107 =>
stV h_107 ((⟨r_102, 0, none⟩ : Addr).add 4) (.bool x_98) fun h_108 =>
stV h_108 ((⟨r_102, 0, none⟩ : Addr).add 5) (.int .i64 x_99) fun h_109 =>
stV h_109 ((⟨r_102, 0, none⟩ : Addr).add 6) (.int .i64 x_100) fun h_110 =>
stV h_110 ((⟨r_102, 0, none⟩ : Addr).add 7) (.slice x_101 x_101n x_101c) fun h_111 =>
∃ K_112 : List Value → Heap → Prop, (
ldS h_111 (((⟨r_102, 0, none⟩ : Addr).add 5).add 2) fun x_115 x_115n x_115c =>
bcase (decide ((x_115n : Int) > (375 : Int))) (
bindI (IntKind.i64.wrap (x_90 + (1 : Int))) fun z_116 =>
∃ m_86, m_86 < n_87 ∧ J_85 m_86 [.int .i64 z_116] h_111) <|
ldI h_111 (((⟨r_102, 0, none⟩ : Addr).add 5).add 0) .i64 fun x_117 =>
ldI h_111 (((⟨r_102, 0, none⟩ : Addr).add 5).add 1) .i64 fun x_118 =>
ldS h_111 (((⟨r_102, 0, none⟩ : Addr).add 5).add 2) fun x_119 x_119n x_119c =>
C F_burinref0_May #[.agg #[.int .i64 x_117, .int .i64 x_118, .slice x_119 x_119n x_119c]] h_111 (fun v_120 h_121 =>
∃ (r_122 : Bool), v_120 = .bool r_122 ∧ (
bcase r_122 (
ldI h_121 (((⟨r_102, 0, none⟩ : Addr).add 5).add 0) .i64 fun x_123 =>
ldI h_121 (((⟨r_102, 0, none⟩ : Addr).add 5).add 1) .i64 fun x_124 =>
bindI (IntKind.i64.wrap (x_123 * x_124)) fun z_125 =>
bcase (decide (z_125 > (6000 : Int))) (
bindI (IntKind.i64.wrap (x_90 + (1 : Int))) fun z_126 =>
∃ m_86, m_86 < n_87 ∧ J_85 m_86 [.int .i64 z_126] h_121) <|
K_112 [] h_121) <|
K_112 [] h_121)) (Kp)) ∧ ∀ (h_113 : Heap) (u_114 : Nat → Value) , K_112 [] h_113 → (
ldI h_113 ((⟨r_102, 0, none⟩ : Addr).add 0) .i64 fun x_127 =>
ldI h_113 ((⟨r_102, 0, none⟩ : Addr).add 1) .i64 fun x_128 =>
ldI h_113 ((⟨r_102, 0, none⟩ : Addr).add 2) .i64 fun x_129 =>
ldI h_113 ((⟨r_102, 0, none⟩ : Addr).add 3) .i64 fun x_130 =>
ldB h_113 ((⟨r_102, 0, none⟩ : Addr).add 4) fun x_131 =>
ldI h_113 ((⟨r_102, 0, none⟩ : Addr).add 5) .i64 fun x_132 =>
ldI h_113 ((⟨r_102, 0, none⟩ : Addr).add 6) .i64 fun x_133 =>
ldS h_113 ((⟨r_102, 0, none⟩ : Addr).add 7) fun x_134 x_134n x_134c =>
C F_page_EncodeRegion #[.agg #[.int .i64 x_127, .int .i64 x_128, .int .i64 x_129, .int .i64 x_130, .bool x_131, .int .i64 x_132, .int .i64 x_133, .slice x_134 x_134n x_134c]] h_113 (fun v_135 h_136 =>
∃ (r_137 : Option Addr) (r_137n : Nat) (r_137c : Nat), ∃ (r_138 : Int), v_135 = .tuple #[.slice r_137 r_137n r_137c, .int .i64 r_138] ∧ (
bcase (r_138 != (0 : Int)) (
bindI (IntKind.i64.wrap (x_90 + (1 : Int))) fun z_139 =>
∃ m_86, m_86 < n_87 ∧ J_85 m_86 [.int .i64 z_139] h_136) <|
C F_burinref0_Copy #[.slice r_137 r_137n r_137c] h_136 (fun v_140 h_141 =>
∃ (r_142 : Option Addr) (r_142n : Nat) (r_142c : Nat), v_140 = .slice r_142 r_142n r_142c ∧ (
C F_page_DecodeRegion #[.slice r_142 r_142n r_142c] h_141 (fun v_143 h_144 =>
∃ (r_145 : Int) (r_146 : Int) (r_147 : Int) (r_148 : Int) (r_149 : Bool) (r_150 : Int) (r_151 : Int) (r_152 : Option Addr) (r_152n : Nat) (r_152c : Nat), ∃ (r_153 : Int), v_143 = .tuple #[.agg #[.int .i64 r_145, .int .i64 r_146, .int .i64 r_147, .int .i64 r_148, .bool r_149, .int .i64 r_150, .int .i64 r_151, .slice r_152 r_152n r_152c], .int .i64 r_153] ∧ (
newC h_144 [.int .i64 0, .int .i64 0, .int .i64 0, .int .i64 0, .bool false, .int .i64 0, .int .i64 0, .slice none 0 0] T_api_Region fun r_154 h_155 =>
stV h_155 ((⟨r_154, 0, none⟩ : Addr).add 0) (.int .i64 r_145) fun h_156 =>
stV h_156 ((⟨r_154, 0, none⟩ : Addr).add 1) (.int .i64 r_146) fun h_157 =>
stV h_157 ((⟨r_154, 0, none⟩ : Addr).add 2) (.int .i64 r_147) fun h_158 =>
stV h_158 ((⟨r_154, 0, none⟩ : Addr).add 3) (.int .i64 r_148) fun h_159 =>
stV h_159 ((⟨r_154, 0, none⟩ : Addr).add 4) (.bool r_149) fun h_160 =>
stV h_160 ((⟨r_154, 0, none⟩ : Addr).add 5) (.int .i64 r_150) fun h_161 =>
stV h_161 ((⟨r_154, 0, none⟩ : Addr).add 6) (.int .i64 r_151) fun h_162 =>
stV h_162 ((⟨r_154, 0, none⟩ : Addr).add 7) (.slice r_152 r_152n r_152c) fun h_163 =>
bcase (r_153 != (0 : Int)) (
K (.bool false) h_163) <|
ldI h_163 ((⟨r_154, 0, none⟩ : Addr).add 0) .i64 fun x_164 =>
ldI h_163 ((⟨r_154, 0, none⟩ : Addr).add 1) .i64 fun x_165 =>
ldI h_163 ((⟨r_154, 0, none⟩ : Addr).add 2) .i64 fun x_166 =>
ldI h_163 ((⟨r_154, 0, none⟩ : Addr).add 3) .i64 fun x_167 =>
ldB h_163 ((⟨r_154, 0, none⟩ : Addr).add 4) fun x_168 =>
ldI h_163 ((⟨r_154, 0, none⟩ : Addr).add 5) .i64 fun x_169 =>
ldI h_163 ((⟨r_154, 0, none⟩ : Addr).add 6) .i64 fun x_170 =>
ldS h_163 ((⟨r_154, 0, none⟩ : Addr).add 7) fun x_171 x_171n x_171c =>
ldI h_163 ((⟨r_102, 0, none⟩ : Addr).add 0) .i64 fun x_172 =>
ldI h_163 ((⟨r_102, 0, none⟩ : Addr).add 1) .i64 fun x_173 =>
ldI h_163 ((⟨r_102, 0, none⟩ : Addr).add 2) .i64 fun x_174 =>
ldI h_163 ((⟨r_102, 0, none⟩ : Addr).add 3) .i64 fun x_175 =>
ldB h_163 ((⟨r_102, 0, none⟩ : Addr).add 4) fun x_176 =>
ldI h_163 ((⟨r_102, 0, none⟩ : Addr).add 5) .i64 fun x_177 =>
ldI h_163 ((⟨r_102, 0, none⟩ : Addr).add 6) .i64 fun x_178 =>
ldS h_163 ((⟨r_102, 0, none⟩ : Addr).add 7) fun x_179 x_179n x_179c =>
C F_burinref0_EqRegion #[.agg #[.int .i64 x_164, .int .i64 x_165, .int .i64 x_166, .int .i64 x_167, .bool x_168, .int .i64 x_169, .int .i64 x_170, .slice x_171 x_171n x_171c], .agg #[.int .i64 x_172, .int .i64 x_173, .int .i64 x_174, .int .i64 x_175, .bool x_176, .int .i64 x_177, .int .i64 x_178, .slice x_179 x_179n x_179c]] h_163 (fun v_180 h_181 =>
∃ (r_182 : Bool), v_180 = .bool r_182 ∧ (
bcase (!r_182) (
K (.bool false) h_181) <|
bindI (IntKind.i64.wrap (x_90 + (1 : Int))) fun z_183 =>
∃ m_86, m_86 < n_87 ∧ J_85 m_86 [.int .i64 z_183] h_181)) (Kp))) (Kp))) (Kp))) (Kp))) <|
C F_burinlaw15_wakes #[] h_88 (fun v_184 h_185 =>
∃ (r_186 : Bool), v_184 = .bool r_186 ∧ (
K (.bool r_186) h_185)) (Kp)) <|
C F_burinlaw15_wakes #[] h_88 (fun v_187 h_188 =>
∃ (r_189 : Bool), v_187 = .bool r_189 ∧ (
K (.bool r_189) h_188)) (Kp)))

end Go.Den.YtfaclehehhgpcaaGreat

/- Written by gen.py: each condition of the functions of law15PageBack is the one of its body; so it is enough for its call. -/
set_option linter.unusedVariables false
set_option linter.unusedSimpArgs false
namespace Go.Den.YtfaclehehhgpcaaGreat
open Go Go.Den

noncomputable def hints_burinlaw15_PageBack : HintsY := HintsY.mk (Hints.mk (fun i => bif Nat.beq i 8 then some ([9], .take 0 <| .take 1 <| .take 2 <| .take 4 <| .take 6 <| .take 3 <| .take 5 <| .take 7 <| .take 8 <| .bar 9 [] <| .take 10 <| .take 11 <| .take 12 <| .take 13 <| .take 14 <| .take 15 <| .take 16 <| .take 17 <| .take 18 <| .take 19 <| .done) else (none))
  (fun i => bif Nat.beq i 2 then some ([(3, .int .i64)], 19342813113834066795234300) else (bif Nat.beq i 14 then some ([(10, .int .i64)], 2787593149816327873349151670246978393013252) else (none)))
  (fun i => bif Nat.beq i 13 then some ([], 19342813113834066795234300) else (bif Nat.beq i 18 then some ([], 1329226728134315644674405563577139200) else (none))) []) (fun i => none)
set_option maxRecDepth 100000 in
theorem eq_burinlaw15_PageBack (C : CallP) (Y : YP) (a0_1 : Option Addr) (a0_1n : Nat) (a0_1c : Nat) (a0_2 : Option Addr) (a0_2n : Nat) (a0_2c : Nat) (a0_3 : Option Addr) (a0_3n : Nat) (a0_3c : Nat) (h : Heap) (K : Value → Heap → Prop) (Kp : List PanicEntry → Heap → Prop) :
    fnY Go.Proofs.Tryz.prog C Y hints_burinlaw15_PageBack Go.Proofs.Tryz.f5 [.agg #[.slice a0_1 a0_1n a0_1c, .slice a0_2 a0_2n a0_2c, .slice a0_3 a0_3n a0_3c]] h K Kp = burinlaw15_PageBack C Y a0_1 a0_1n a0_1c a0_2 a0_2n a0_2c a0_3 a0_3n a0_3c h K Kp := by kernel_rfl

theorem call_burinlaw15_PageBack {a0_1 : Option Addr} {a0_1n : Nat} {a0_1c : Nat} {a0_2 : Option Addr} {a0_2n : Nat} {a0_2c : Nat} {a0_3 : Option Addr} {a0_3n : Nat} {a0_3c : Nat} {h : Heap} {K : Value → Heap → Prop} {Kp : List PanicEntry → Heap → Prop} (H : burinlaw15_PageBack (CallsHP Go.Proofs.Tryz.prog) (YieldsHP Go.Proofs.Tryz.prog) a0_1 a0_1n a0_1c a0_2 a0_2n a0_2c a0_3 a0_3n a0_3c h K Kp) : CallsHP Go.Proofs.Tryz.prog F_burinlaw15_PageBack #[.agg #[.slice a0_1 a0_1n a0_1c, .slice a0_2 a0_2n a0_2c, .slice a0_3 a0_3n a0_3c]] h K Kp :=
  callsHP_ofY hints_burinlaw15_PageBack (by kernel_rfl) Go.Proofs.Tryz.func5 (by kernel_rfl) (by rw [eq_burinlaw15_PageBack]; exact H)

end Go.Den.YtfaclehehhgpcaaGreat

/- PbM: the law PageBack, said of memory. -/
set_option linter.unusedVariables false
set_option linter.unusedSimpArgs false
namespace Go.Bm
open Go Go.Den Go.Den.YtfaclehehhgpcaaGreat
open Go.Ar (u8s u8s_length u8s_cells)

theorem slot_le {t : TypeId} {n c : Nat} {q : Option Addr} {xs : List Value} {D : List Ent} (hd : Slot t 1 D q n c xs) : n ≤ c := by
  obtain ⟨hl, ⟨_, _, h2, _⟩ | ⟨b, rest, _, _, h2⟩⟩ := hd
  · omega
  · rw [List.length_append] at h2; omega
theorem EncRg.len2 {x y op t w b : Int} {sk : Bool} {ws : List Nat} {e : Int} {bs : List Nat} (h : EncRg x y op t sk w b ws e bs) : bs.length ≤ 70000000000100 := by
  rcases h with ⟨_, _, rfl⟩ | ⟨_, _, ds, g, rfl⟩
  · exact Nat.zero_le _
  · have h1 := g.len2
    have h2 := wrt_len [x, y, w, b, -(howR op t sk) - 1]
    have h3 : ([x, y, w, b, -(howR op t sk) - 1] : List Int).length = 5 := rfl
    rw [List.length_append]
    omega
theorem EncRg.b8 {x y op t w b : Int} {sk : Bool} {ws : List Nat} {e : Int} {bs : List Nat} (h : EncRg x y op t sk w b ws e bs) : ∀ z ∈ bs, z < 256 := by
  rcases h with ⟨_, _, rfl⟩ | ⟨hR, _, ds, g, rfl⟩
  · intro z hz; cases hz
  · intro z hz
    rcases List.mem_append.1 hz with hz | hz
    · obtain ⟨k1, k2, k3, k4, k5⟩ := reg_b (sk := sk) hR
      unfold wrt at hz
      obtain ⟨v, hv, hz⟩ := List.mem_flatMap.1 hz
      unfold wrB at hz
      split at hz
      · rw [List.mem_singleton.1 hz]
        simp only [List.mem_cons, List.not_mem_nil, or_false] at hv
        rcases hv with rfl | rfl | rfl | rfl | rfl <;> omega
      · exact grp_lt z hz
    · exact g.bytes.1 z hz
section
variable {hB : Heap} {q : Option Addr} {c : Nat} {bs : List Nat} {K : Value → Heap → Prop} {Kp : List PanicEntry → Heap → Prop}
theorem copy_ok (hr : rdO hB q (bs.length * 1) (u8s bs)) (hl : bs.length ≤ 70368744177664) (hk : ∀ D q' c' h', Slot T_uint8 1 D q' bs.length c' (u8s bs) → Hp hB [] h' D → K (.slice q' bs.length c') h') :
    CP F_burinref0_Copy #[.slice q bs.length c] hB K Kp := by
  refine call_burinref0_Copy ?_
  unfold burinref0_Copy
  refine Slot.appN (A := []) (B := []) (D := []) (n := 0) (m := bs.length) (new := u8s bs) (Slot.nil T_uint8 1) (Hp.nil hB []) rfl (by decide) hr (by rw [u8s_length, Nat.mul_one]) (u8s_cells bs) (by omega) fun D q' c' h' hs H => ?_
  rw [Nat.zero_add, List.nil_append] at hs
  rw [Nat.zero_add]
  rw [List.nil_append, List.append_nil] at H
  exact hk D q' c' h' hs H
theorem rdO_take {h : Heap} {n m : Nat} {vs : List Value} (hr : rdO h q n vs) (hm : m ≤ n) : rdO h q m (vs.take m) := by
  cases q with
  | none =>
    have h0 : vs = [] := hr
    rw [h0]
    exact List.take_nil
  | some a =>
    refine ⟨by rw [List.length_take, hr.1]; omega, fun j v hj => ?_⟩
    rw [List.getElem?_take] at hj
    split at hj
    · exact hr.2 j v hj
    · cases hj
theorem rdO_less {h : Heap} (hr : rdO h q (bs.length * 1) (u8s bs)) : rdO h (subA q c 0 1) (bs.dropLast.length * 1) (u8s bs.dropLast) ∨ c = 0 := by
  by_cases hc : c = 0
  · exact .inr hc
  · have h1 : u8s bs.dropLast = (u8s bs).take (bs.dropLast.length * 1) := by
      rw [List.length_dropLast, Nat.mul_one, List.dropLast_eq_take]
      simp [u8s]
    rw [h1]
    have h2 : subA q c 0 1 = q := by
      unfold subA
      rw [if_neg hc]
      cases q with
      | none => rfl
      | some a => show some (a.add (0 * 1)) = some a; rw [Nat.zero_mul]; rfl
    rw [h2]
    exact .inl (rdO_take hr (by rw [List.length_dropLast]; omega))
end
set_option maxRecDepth 100000 in
set_option maxHeartbeats 8000000 in
theorem pBack_law {hB : Heap} {sq rq fq : Option Addr} {sn sc rn rc fn fc : Nat} (hs : SheetsV hB sq sn) (hr : RegsV hB rq rn) {K : Value → Heap → Prop} {Kp : List PanicEntry → Heap → Prop} (hk : ∀ h', hext hB h' → K (.bool true) h') :
    CP F_burinlaw15_PageBack #[.agg #[.slice sq sn sc, .slice rq rn rc, .slice fq fn fc]] hB K Kp := by
  refine call_burinlaw15_PageBack ?_
  unfold burinlaw15_PageBack
  have fr : ∀ {h : Heap} {L : List Ent} {c : Addr} {v : Value}, Hp hB [] h L → hcell hB c = some v → hcell h c = some v := fun H hc => H.fr.cell (by simp) hc
  have H := Hp.nil hB []
  refine newC_hp H fun r4 h H => ?_
  obtain ⟨R4, hR4⟩ : ∃ R4 : Ent, R4 = ⟨r4, true, T_burinlaw15_Forms, [.slice sq sn sc, .slice rq rn rc, .slice fq fn fc]⟩ := ⟨_, rfl⟩
  have H : Hp hB [] h [R4] := by rw [hR4]; exact H
  have r4p : ∀ {h : Heap} {L : List Ent} {K : Option Addr → Nat → Nat → Prop} (k : Nat), Hp hB [] h L → L[k]? = some R4 → K sq sn sc → ldS h ((⟨r4, 0, none⟩ : Addr).add 0) K := fun {h L K} k H h0 hK => by
    refine ldS_of (hpA H k (by rw [h0, hR4]) rfl) hK
  have r4q : ∀ {h : Heap} {L : List Ent} {K : Option Addr → Nat → Nat → Prop} (k : Nat), Hp hB [] h L → L[k]? = some R4 → K rq rn rc → ldS h ((⟨r4, 0, none⟩ : Addr).add 1) K := fun {h L K} k H h0 hK => by
    refine ldS_of (hpA H k (by rw [h0, hR4]) rfl) hK
  refine ⟨fun _ h' => Hp hB [] h' [R4], ?_, ?_⟩
  · refine ⟨fun m vs h' => ∃ i : Nat, i + m = 20 ∧ vs = [.int .i64 (i : Nat)] ∧ Hp hB [] h' [R4], ⟨20, 0, rfl, rfl, H⟩, ?_⟩
    clear H
    rintro m h u xi ⟨i, him, hxx, H⟩
    injection hxx with hxx
    injection hxx with _ hxx
    subst xi
    refine r4p 0 H rfl ?_
    refine bcase_dec (fun h1 => ?_) fun h1 => H
    refine bcase_dec (fun h2 => ?_) fun h2 => H
    obtain ⟨a, w, g, d, s, hsq, hC⟩ := hs i (by omega)
    have hnd : 0 ≤ ((i : Nat) : Int) ∧ ((i : Nat) : Int) < ((sn : Nat) : Int) := by omega
    have nx : IntKind.i64.wrap ((i : Nat) + (1 : Int)) = ((i + 1 : Nat) : Int) := i64_at _ _ (by omega) (by omega) (by omega)
    have next : ∀ {h' : Heap} {Y : List Ent}, Hp hB [] h' (R4 :: Y) → bindI (IntKind.i64.wrap ((i : Nat) + (1 : Int))) fun z => ∃ m', m' < m ∧ ∃ i' : Nat, i' + m' = 20 ∧ [Value.int .i64 z] = [.int .i64 (i' : Nat)] ∧ Hp hB [] h' [R4] := fun {h' Y} H => bindI_of _ nx ⟨m - 1, by omega, i + 1, by omega, rfl, H.take 1⟩
    refine r4p 0 H rfl ?_
    refine needs_of hnd (ptr_atB hsq ?_)
    rw [Int.toNat_natCast]
    refine ldI_of (fr H hC.c0) (ldI_of (fr H hC.c1) (ldI_of (fr H hC.c2) (ldI_of (fr H hC.c3) ?_)))
    refine encSheet_ok fun e bs D qo co h' henc hsl H' => ?_
    replace H := H.join H' hsl.w
    clear H'
    refine ⟨_, _, _, _, rfl, ?_⟩
    refine bcase_ne (fun h3 => next H) fun h3 => ?_
    have hlen := henc.len
    obtain ⟨hres, ⟨ew, eg, ed, es⟩, hres2, hres3, h4, hb8⟩ := henc.back h3
    have H : Hp hB [] h' (R4 :: D) := H
    refine copy_ok (Slot.rdO' hsl H fun e he => List.mem_cons_of_mem _ he) (by omega) fun D2 q2 c2 h' hsl2 H' => ?_
    replace H := H.join H' hsl2.w
    clear H'
    refine ⟨_, _, _, rfl, ?_⟩
    refine decSheet_ok ⟨hb8, by omega⟩ (Slot.rdO' hsl2 H fun e he => List.mem_append_right _ he) fun h' e => ?_
    have H := Hp.pre (H.ext e)
    rw [hres]
    refine ⟨_, _, _, _, _, rfl, ?_⟩
    refine newC_hp H fun r37 h H => ?_
    have H := H.rot
    repeat first | with_reducible refine stA H 0 (by with_unfolding_all exact rfl) (by with_unfolding_all exact rfl) (by with_unfolding_all exact rfl) fun h H => ?_ | with_reducible refine st0 H 0 (by with_unfolding_all exact rfl) (by with_unfolding_all exact rfl) (by with_unfolding_all exact rfl) fun h H => ?_ | with_reducible refine stB H 0 (by with_unfolding_all exact rfl) (by with_unfolding_all exact rfl) (by with_unfolding_all exact rfl) fun h H => ?_
    have H : Hp hB [] h (⟨r37, true, T_api_Sheet, [.int .i64 (w.toNat : Nat), .int .i64 (g.toNat : Nat), .int .i64 (d.toNat : Nat), .int .i64 (s.toNat : Nat)]⟩ :: R4 :: D) := H
    refine copy_ok (Slot.rdO' hsl H fun e he => List.mem_cons_of_mem _ (List.mem_cons_of_mem _ he)) (by omega) fun D3 q3 c3 h' hsl3 H' => ?_
    replace H := H.join H' hsl3.w
    clear H'
    refine ⟨_, _, _, rfl, ?_⟩
    refine newC_hp H fun r46 h H => ?_
    have H := Hp.swap H
    replace H : Hp hB [] h (((⟨r37, true, T_api_Sheet, [.int .i64 (w.toNat : Nat), .int .i64 (g.toNat : Nat), .int .i64 (d.toNat : Nat), .int .i64 (s.toNat : Nat)]⟩ :: R4 :: D) ++ [⟨r46, true, T_uint8, u8s [0]⟩]) ++ (D3 ++ [])) := H.as (by rw [List.append_nil]; rfl)
    refine Slot.app (m := 1) (new := u8s [0]) hsl3 H rfl (Hp.rdO_mem (rest := []) (cs := u8s [0]) H (List.mem_append_left _ (List.mem_append_right _ (List.mem_singleton.2 rfl))) rfl) rfl (u8s_cells _) (by decide) (by omega) fun D4 q4 c4 h' hsl4 H => ?_
    have e4 : u8s bs ++ u8s [0] = u8s (bs ++ [0]) := by simp [u8s]
    rw [e4, show bs.length + 1 = (bs ++ [0]).length by simp] at hsl4
    rw [show bs.length + 1 = (bs ++ [0]).length by simp]
    have hl4 : (bs ++ [0]).length = bs.length + 1 := by simp
    refine decSheet_ok ⟨fun x hx => by rcases List.mem_append.1 hx with hx | hx; exact hb8 x hx; rw [List.mem_singleton.1 hx]; decide, by omega⟩ (Slot.rdO' hsl4 H fun e he => List.mem_append_right _ (List.mem_append_left _ he)) fun h' e => ?_
    have H := Hp.pre (Hp.pre (H.ext e))
    rw [hres2]
    refine ⟨_, _, _, _, _, rfl, ?_⟩
    refine newC_hp H fun r57 h H => ?_
    have H := H.rot
    repeat first | with_reducible refine stA H 0 (by with_unfolding_all exact rfl) (by with_unfolding_all exact rfl) (by with_unfolding_all exact rfl) fun h H => ?_ | with_reducible refine st0 H 0 (by with_unfolding_all exact rfl) (by with_unfolding_all exact rfl) (by with_unfolding_all exact rfl) fun h H => ?_ | with_reducible refine stB H 0 (by with_unfolding_all exact rfl) (by with_unfolding_all exact rfl) (by with_unfolding_all exact rfl) fun h H => ?_
    have H := Hp.suf (X := [_]) H
    refine bcase_false (by rfl) ?_
    refine ldI_of (hpA H 0 rfl rfl) (ldI_of (hpA H 0 rfl rfl) (ldI_of (hpA H 0 rfl rfl) (ldI_of (hpA H 0 rfl rfl) ?_)))
    refine r4p 1 H rfl ?_
    refine needs_of hnd (ptr_atB hsq ?_)
    refine ldI_of (fr H hC.c0) (ldI_of (fr H hC.c1) (ldI_of (fr H hC.c2) (ldI_of (fr H hC.c3) ?_)))
    refine needs_of rfl (needs_of rfl (needs_of rfl (needs_of rfl ?_)))
    rw [ew, eg, ed, es]
    refine bcase_false (by simp) ?_
    refine bcase_false (by rfl) ?_
    refine bcase_dec (fun h5 => absurd h5 (by omega)) fun _ => ?_
    have hdl : bs.dropLast.length = bs.length - 1 := List.length_dropLast
    refine bindI_of (((bs.dropLast.length : Nat) : Int)) (by exact i64_at _ _ (by omega) (by omega) (by omega)) ?_
    have hco := slot_le hsl
    refine needs_of (by omega) ?_
    rw [Int.toNat_natCast, Nat.sub_zero]
    refine copy_ok ((rdO_less (c := co) (Slot.rdO' hsl H fun e he => List.mem_cons_of_mem _ (List.mem_cons_of_mem _ he))).resolve_right (by omega)) (by omega) fun D5 q5 c5 h' hsl5 H' => ?_
    replace H := H.join H' hsl5.w
    clear H'
    refine ⟨_, _, _, rfl, ?_⟩
    refine decSheet_ok ⟨fun x hx => hb8 x (List.dropLast_subset _ hx), by omega⟩ (Slot.rdO' hsl5 H fun e he => List.mem_append_right _ he) fun h' e => ?_
    have H := H.ext e
    rw [hres3]
    refine ⟨_, _, _, _, _, rfl, ?_⟩
    refine bcase_false (by rfl) ?_
    exact next (Hp.suf (X := [_]) (Y := R4 :: (D ++ D5)) H)
  clear H
  rintro h u H
  refine ⟨fun m vs h' => ∃ i : Nat, i + m = 4 ∧ vs = [.int .i64 (i : Nat)] ∧ Hp hB [] h' [R4], ⟨4, 0, rfl, rfl, H⟩, ?_⟩
  clear H
  rintro m h u xi ⟨i, him, hxx, H⟩
  injection hxx with hxx
  injection hxx with _ hxx
  subst xi
  refine r4q 0 H rfl ?_
  refine bcase_dec (fun h1 => ?_) fun h1 => wakes15_ok fun h' e => ⟨_, rfl, hk _ (H.hext.trans e)⟩
  refine bcase_dec (fun h2 => ?_) fun h2 => wakes15_ok fun h' e => ⟨_, rfl, hk _ (H.hext.trans e)⟩
  obtain ⟨a, x, y, op, t, sk, w, b, ws, q1, c1, hrq, hC⟩ := hr i (by omega)
  have hnd : 0 ≤ ((i : Nat) : Int) ∧ ((i : Nat) : Int) < ((rn : Nat) : Int) := by omega
  have nx : IntKind.i64.wrap ((i : Nat) + (1 : Int)) = ((i + 1 : Nat) : Int) := i64_at _ _ (by omega) (by omega) (by omega)
  have next : ∀ {h' : Heap} {Y : List Ent}, Hp hB [] h' (R4 :: Y) → bindI (IntKind.i64.wrap ((i : Nat) + (1 : Int))) fun z => ∃ m', m' < m ∧ ∃ i' : Nat, i' + m' = 4 ∧ [Value.int .i64 z] = [.int .i64 (i' : Nat)] ∧ Hp hB [] h' [R4] := fun {h' Y} H => bindI_of _ nx ⟨m - 1, by omega, i + 1, by omega, rfl, H.take 1⟩
  refine r4q 0 H rfl ?_
  refine needs_of hnd (ptr_atB hrq ?_)
  rw [Int.toNat_natCast]
  refine ldI_of (fr H hC.c0) (ldI_of (fr H hC.c1) (ldI_of (fr H hC.c2) (ldI_of (fr H hC.c3) (ldB_of (fr H hC.c4) (ldI_of (fr H hC.c5) (ldI_of (fr H hC.c6) (ldS_of (fr H hC.c7) ?_)))))))
  refine newC_hp H fun r57 h H => ?_
  repeat first | with_reducible refine stA H 1 (by with_unfolding_all exact rfl) (by with_unfolding_all exact rfl) (by with_unfolding_all exact rfl) fun h H => ?_ | with_reducible refine st0 H 1 (by with_unfolding_all exact rfl) (by with_unfolding_all exact rfl) (by with_unfolding_all exact rfl) fun h H => ?_ | with_reducible refine stB H 1 (by with_unfolding_all exact rfl) (by with_unfolding_all exact rfl) (by with_unfolding_all exact rfl) fun h H => ?_
  have H : Hp hB [] h [R4, ⟨r57, true, T_api_Region, [.int .i64 x, .int .i64 y, .int .i64 op, .int .i64 t, .bool sk, .int .i64 w, .int .i64 b, .slice q1 ws.length c1]⟩] := H
  refine ⟨fun _ h' => ws.length ≤ 375 ∧ Hp hB [] h' [R4, ⟨r57, true, T_api_Region, [.int .i64 x, .int .i64 y, .int .i64 op, .int .i64 t, .bool sk, .int .i64 w, .int .i64 b, .slice q1 ws.length c1]⟩], ?_, ?_⟩
  · refine ldS_of (hpB H 1 rfl rfl) ?_
    refine bcase_dec (fun h3 => next H) fun h3 => ?_
    have h375 : ws.length ≤ 375 := by omega
    refine ldI_of (hpB H 1 rfl rfl) (ldI_of (hpB H 1 rfl rfl) (ldS_of (hpB H 1 rfl rfl) ?_))
    refine may_ok (H.rdO hC.r1) hC.w1 hC.l1 fun bb h hbb e => ?_
    have H := H.ext e
    refine ⟨_, rfl, ?_⟩
    refine bcase_of (fun h4 => ?_) fun h4 => ⟨h375, H⟩
    refine ldI_of (hpB H 1 rfl rfl) (ldI_of (hpB H 1 rfl rfl) ?_)
    refine bindI_gen fun z hz => ?_
    exact bcase_dec (fun h5 => next H) fun h5 => ⟨h375, H⟩
  clear H
  rintro h u ⟨h375, H⟩
  refine (ldI_of (hpA H 1 rfl rfl) (ldI_of (hpA H 1 rfl rfl) (ldI_of (hpA H 1 rfl rfl) (ldI_of (hpA H 1 rfl rfl) (ldB_of (hpA H 1 rfl rfl) (ldI_of (hpA H 1 rfl rfl) (ldI_of (hpA H 1 rfl rfl) (ldS_of (hpA H 1 rfl rfl) ?_))))))))
  refine encRegion_ok (H.rdO hC.r1) hC.w1 hC.l1 fun e bs D qo co h' henc hsl H' => ?_
  replace H := H.join H' hsl.w
  clear H'
  refine ⟨_, _, _, _, rfl, ?_⟩
  refine bcase_ne (fun h3 => next H) fun h3 => ?_
  have hlen := henc.len2
  have H : Hp hB [] h' ([R4, ⟨r57, true, T_api_Region, [.int .i64 x, .int .i64 y, .int .i64 op, .int .i64 t, .bool sk, .int .i64 w, .int .i64 b, .slice q1 ws.length c1]⟩] ++ D) := H
  refine copy_ok (Slot.rdO' hsl H fun e he => List.mem_append_right _ he) (by omega) fun D2 q2 c2 h' hsl2 H' => ?_
  replace H := H.join H' hsl2.w
  clear H'
  refine ⟨_, _, _, rfl, ?_⟩
  refine decRegion_ok ⟨henc.b8, by omega⟩ (Slot.rdO' hsl2 H fun e he => List.mem_append_right _ he) (slot_le hsl2) fun e' x' y' op' t' sk' w' b' ys D3 q3 c3 h' hR hsl3 H' => ?_
  replace H := (Hp.pre (Hp.pre H)).join H' hsl3.w
  clear H'
  have hyl := hR.len
  obtain ⟨rfl, rfl, rfl, rfl, rfl, rfl, rfl, rfl, rfl⟩ := henc.back h3 hC.w1 hR
  refine ⟨_, _, _, _, _, _, _, _, _, _, _, rfl, ?_⟩
  refine newC_hp H fun r154 h H => ?_
  have H := H.rot
  repeat first | with_reducible refine stA H 0 (by with_unfolding_all exact rfl) (by with_unfolding_all exact rfl) (by with_unfolding_all exact rfl) fun h H => ?_ | with_reducible refine st0 H 0 (by with_unfolding_all exact rfl) (by with_unfolding_all exact rfl) (by with_unfolding_all exact rfl) fun h H => ?_ | with_reducible refine stB H 0 (by with_unfolding_all exact rfl) (by with_unfolding_all exact rfl) (by with_unfolding_all exact rfl) fun h H => ?_
  refine bcase_false (by rfl) ?_
  refine (ldI_of (hpA H 0 rfl rfl) (ldI_of (hpA H 0 rfl rfl) (ldI_of (hpA H 0 rfl rfl) (ldI_of (hpA H 0 rfl rfl) (ldB_of (hpA H 0 rfl rfl) (ldI_of (hpA H 0 rfl rfl) (ldI_of (hpA H 0 rfl rfl) (ldS_of (hpA H 0 rfl rfl) ?_))))))))
  refine (ldI_of (hpA H 2 rfl rfl) (ldI_of (hpA H 2 rfl rfl) (ldI_of (hpA H 2 rfl rfl) (ldI_of (hpA H 2 rfl rfl) (ldB_of (hpA H 2 rfl rfl) (ldI_of (hpA H 2 rfl rfl) (ldI_of (hpA H 2 rfl rfl) (ldS_of (hpA H 2 rfl rfl) ?_))))))))
  refine eqReg_ok (xs := ys) (Slot.rdO' hsl3 H fun e he => List.mem_cons_of_mem _ (List.mem_cons_of_mem _ (List.mem_cons_of_mem _ he))) (H.rdO hC.r1) hyl fun h' e => ?_
  have H := H.ext e
  refine ⟨_, rfl, ?_⟩
  refine bcase_false (by rfl) ?_
  exact next (Hp.suf (X := [_]) (Y := R4 :: _) H)
theorem pBack_arg {h : Heap} {cs : Array Value} (hsz : cs.size = TP.cellsOf T_burinlaw15_Forms) (hw : WDx TP h T_burinlaw15_Forms cs.toList) {K : Value → Heap → Prop} {Kp : List PanicEntry → Heap → Prop} (hk : ∀ h', hext h h' → K (.bool true) h') :
    CP F_burinlaw15_PageBack #[.agg cs] h K Kp := by
  obtain ⟨q0, n0, c0, q1, n1, c1, q2, n2, c2, rfl, g0, g1, g2⟩ := forms_of hw
  exact pBack_law g0 g1 hk
end Go.Bm

/- ArLink2: what a law's walk hands on. -/
namespace Go.Proofs.YtfaclehehhgpcaaGreat
open Go.ChangeShapes Go.WideShapes Go.ChangeAt Go.RowKit
set_option linter.unusedVariables false

theorem own : ownKnob Tryz.prog.godebug = none := by kernel_rfl
theorem laidOut : laidOutB Tryz.prog = true := by kernel_rfl

/-- What a call that keeps all old rows leaves, as a row's statement asks it. -/
theorem below_of {W W' : World} (hk : Go.Den.keeps W W') (h : Go.Den.hext W.heap W'.heap) : Below W.heap.size W W' :=
  ⟨hk.1, hk.2.1, hk.2.2, h.1, fun k hlt => h.2 k hlt⟩

theorem walk_of {f : FuncId} {args : Array Value} {W : World}
    (h : Calls Tryz.prog f args W fun e w' => Go.Den.keeps W w' ∧ match e with
      | .returned v => v = .bool true ∧ Go.Den.hext W.heap w'.heap
      | .panicked c => False
      | .outgrown => False) : Calls Tryz.prog f args W fun e W' => e = .returned (.bool true) ∧ Below W.heap.size W W' := by
  refine h.mono fun e W' he => ?_
  obtain ⟨hk, he⟩ := he
  cases e with
  | returned v => exact ⟨by rw [he.1], below_of hk he.2⟩
  | panicked c => exact he.elim
  | outgrown => exact he.elim

end Go.Proofs.YtfaclehehhgpcaaGreat

/- PbBack: the given statement PageBackSaid. -/
namespace Go.Proofs.YtfaclehehhgpcaaGreat
open Go.ChangeShapes Go.WideShapes Go.ChangeAt Go.RowKit
set_option linter.unusedVariables false

theorem pageBack_walk (W : World) {cs : Array Value} (hsz : cs.size = Tryz.prog.cellsOf 26) (hw : Go.Den.WDx Tryz.prog W.heap 26 cs.toList) : Calls Tryz.prog 5 #[.agg cs] W fun e W' => e = .returned (.bool true) ∧ Below W.heap.size W W' :=
  walk_of ((Go.Bm.pBack_arg (h := W.heap) (K := fun v h' => v = .bool true ∧ Go.Den.hext W.heap h') (Kp := fun _ _ => False) hsz hw fun h' e => ⟨rfl, e⟩).2 W rfl)

set_option maxRecDepth 100000 in
theorem pageBack_lifted (os : Os) (started : os.Started) (H : Type) (enc : TypeId × Value → H) :
    ReturnsInHanded {} Tryz.checked os 5 .any (Rows.pageBackSpec.pre6 enc Tryz.prog Tryz.f5 Rows.pageBackRow.domain false) (Rows.pageBackSpec.post enc Tryz.prog Tryz.f5 false true false false) := by
  refine returnsInHanded_of_change_sized (C := Tryz.checked) own started (by kernel_rfl) Tryz.func5
    (ChangeSpec.witness6 (enc := enc) (C := Tryz.checked) false ⟨#[], #[.agg #[.slice none 0 0, .slice none 0 0, .slice none 0 0]], []⟩ 8 (by kernel_rfl) (by kernel_rfl) (by kernel_rfl) (by kernel_rfl)) ?_
  intro W base args ds gs before hval0 hW hcnd hz _
  have hval : ∀ (j : Nat) t v, Tryz.f5.params[j]? = some t → args[j]? = some v → Value.okWide Tryz.prog W .any base t v := hval0
  have hz : ∀ n ∈ DataW.weightsEach Tryz.prog (Tryz.f5.params.toList ++ Rows.pageBackSpec.plain.varTypes Tryz.prog) (ds ++ gs), n ≤ reachBytes := fun n hn => by simpa using List.all_eq_true.1 hz n hn
  have hW' := hW
  obtain ⟨p, q, hA0, hV, rfl, hfz, hnd⟩ := hW
  have hA : DataW.TrodAll enc Tryz.prog W 0 (fun _ => true) true Tryz.f5.params.toList args.toList ds p := hA0
  rw [Tryz.params5] at hA hval hz
  obtain ⟨v0, vs0, d0, ds0, p0, q0, hargs, rfl, rfl, h0, r0⟩ := trodAll_cons hA
  obtain ⟨rfl, rfl, rfl⟩ := trodAll_nil r0
  obtain rfl : args = #[v0] := by cases args; simp_all
  obtain ⟨rfl, rfl⟩ := trodVars_none hV
  obtain ⟨cs, rfl, hsz⟩ := okWide_struct Tryz.underlying26 (hval 0 26 v0 rfl rfl)
  have hwd : Go.Den.WDx Tryz.prog W.heap 26 cs.toList := by
    obtain ⟨f, hf⟩ := h0
    exact ⟨f, Go.Den.wd_of hf fun n hn => hz n (DataW.weights_mem_each (j := 0) rfl rfl n hn)⟩
  clear hA0 hval0
  simp only [List.append_nil] at hW'
  refine (pageBack_walk W hsz hwd).mono fun e W' ⟨he, hb⟩ => ?_
  subst he
  refine ⟨_, rfl, [d0], [], _, [], p0, [], hW', ?_, ?_, ?_, hb.frame _, fun h => Bool.noConfusion h⟩
  · exact trodAll_cons_mk (shut_bool Go.Proofs.Tryz.underlying4 _) trodAll_mk0
  · exact ⟨p0, [], Below.trod laidOut (by kernel_rfl) (of_decide_eq_true (by kernel_rfl)) h0 hb (fun x hx => by simpa using hW'.lt x hx), rfl, (List.append_nil p0).symm⟩
  · rfl

theorem pageBack_over : Rows.pageBackRow.holds Tryz.pinned (OpenSpec.ofChange Rows.pageBackSpec) :=
  OpenClaim.holds_of_wide 5 Tryz.f5 rfl rfl rfl rfl rfl rfl rfl ⟨rfl, rfl, rfl, rfl, rfl⟩ rfl rfl rfl rfl rfl (by kernel_rfl) Tryz.func5 (by kernel_rfl)
    (of_decide_eq_true (by kernel_rfl)) (by unfold Func.isWrapper; first | (rw [if_pos (by decide +kernel)]; kernel_rfl) | (rw [if_neg (by decide +kernel)]; exact ⟨rfl, rfl⟩))
    (fun os started H enc _ => pageBack_lifted os started H enc)

theorem pageBack_proved : Rows.PageBackSaid := pageBack_over

#print axioms pageBack_proved
end Go.Proofs.YtfaclehehhgpcaaGreat
