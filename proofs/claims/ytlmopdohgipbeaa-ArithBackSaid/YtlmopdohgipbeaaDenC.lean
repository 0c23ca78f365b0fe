/- DenC: the conditions of DenB are enough for the model's own operations: loads, stores, arithmetic, building. No program in sight. -/
import Derived.Test.YtlmopdohgipbeaaDenB
set_option linter.unusedVariables false
set_option linter.unusedSimpArgs false
namespace Go.Den

section
variable {P : Program} {qt : Bool}

theorem wpS_underlying {t : TypeId} {d : TypeDesc} (hu : P.underlying t = some d) (h : Heap) (K : TypeDesc → Heap → Prop) :
    wpS P qt (underlying t) h K = K d h := by
  unfold underlying
  rw [wpS_bind]
  simp only [program, wpS, hu]
  rfl
theorem wpS_typeInfo {t : TypeId} {i : TypeInfo} (hi : P.info? t = some i) (h : Heap) (K : TypeInfo → Heap → Prop) :
    wpS P qt (typeInfo t) h K = K i h := by
  unfold typeInfo
  rw [wpS_bind]
  simp only [program, wpS, hi]
  rfl
theorem wpS_sizeOf {t : TypeId} {n : Nat} (hn : sizeT P t = some n) (h : Heap) (K : Nat → Heap → Prop) : wpS P qt (sizeOf t) h K = K n h := by
  unfold sizeT at hn
  split at hn
  · rename_i i hi
    simp only [Option.some.injEq] at hn
    subst hn
    unfold sizeOf
    rw [wpS_bind, wpS_typeInfo hi]
    rfl
  · cases hn
theorem wpS_zeroValue {t : TypeId} {i : TypeInfo} {z : Value} (hi : P.info? t = some i) (hz : i.zero = some z) (h : Heap) (K : Value → Heap → Prop) :
    wpS P qt (zeroValue t) h K = K z h := by
  unfold zeroValue
  rw [wpS_bind, wpS_typeInfo hi]
  simp only [hz]
  rfl
theorem zeroT_spec {t : TypeId} {z : List Value} (hz : zeroT P t = some z) : ∃ i v, P.info? t = some i ∧ i.zero = some v ∧ v.cells.toList = z := by
  unfold zeroT at hz
  split at hz
  · rename_i i hi
    split at hz
    · rename_i v hv
      exact ⟨i, v, hi, hv, Option.some.inj hz⟩
    · cases hz
  · cases hz
theorem sizeT_spec {t : TypeId} {n : Nat} (hn : sizeT P t = some n) : ∃ i, P.info? t = some i ∧ i.size = n := by
  unfold sizeT at hn
  split at hn
  · rename_i i hi
    exact ⟨i, hi, Option.some.inj hn⟩
  · cases hn
theorem isAggT_spec (t : TypeId) {d : TypeDesc} (hu : P.underlying t = some d) (h : Heap) (K : Bool → Heap → Prop) :
    wpS P qt (isAgg t) h K = K (isAggT P t) h := by
  unfold isAgg isAggT
  rw [wpS_bind, wpS_underlying hu, hu]
  cases d <;> rfl

theorem wpS_load (a : Addr) (m : Mode) (h : Heap) (K : Value → Heap → Prop) : wpS P qt (load a m) h K = ∃ v, hcell h a = some v ∧ K v h := rfl
theorem wpS_store (a : Addr) (v : Value) (m : Mode) (h : Heap) (K : Unit → Heap → Prop) :
    wpS P qt (store a v m) h K = (qt = false ∧ v.oneCell' = true ∧ (hcell h a).isSome = true ∧ hfrozen h a = false ∧ K () (hset h a v)) := rfl

theorem loadCellsFrom_ok (a : Addr) (h : Heap) (K : Array Value → Heap → Prop) : ∀ (vs : List Value) (i : Nat) (acc : Array Value),
    (∀ j v, vs[j]? = some v → hcell h (a.add (i + j)) = some v) → K (acc ++ vs.toArray) h → wpS P qt (loadCellsFrom a i vs.length acc) h K
  | [], _, acc, _, H => by simpa [loadCellsFrom, wpS_pure] using H
  | v :: vs, i, acc, hc, H => by
    simp only [List.length_cons, loadCellsFrom]
    rw [wpS_bind, wpS_load]
    refine ⟨v, by simpa using hc 0 v rfl, ?_⟩
    refine loadCellsFrom_ok a h K vs (i + 1) (acc.push v) (fun j u hu => ?_) (by simpa using H)
    have := hc (j + 1) u (by simpa using hu)
    rw [show i + 1 + j = i + (j + 1) by omega]
    exact this
theorem loadCells_ok {a : Addr} {h : Heap} {K : Array Value → Heap → Prop} {n : Nat} {vs : List Value} (hr : rdAll h a n vs) (H : K vs.toArray h) :
    wpS P qt (loadCells a n) h K := by
  unfold loadCells
  rw [← hr.1]
  exact loadCellsFrom_ok a h K vs 0 #[] (fun j v hj => by rw [Nat.zero_add]; exact hr.2 j v hj) (by simpa using H)

theorem ldCs_some {h : Heap} {a : Addr} : ∀ {ts : List CT} {i : Nat} {K : List Value → Prop}, ldCs h a i ts K →
    ∃ vs, vs.length = ts.length ∧ (∀ j v, vs[j]? = some v → hcell h (a.add (i + j)) = some v) ∧ K vs
  | [], _, _, H => ⟨[], rfl, by simp, H⟩
  | t :: ts, i, K, H => by
    obtain ⟨v, hv, H⟩ := ldC_some H
    obtain ⟨vs, hl, hc, H⟩ := ldCs_some H
    refine ⟨v :: vs, by simp [hl], fun j u hu => ?_, H⟩
    cases j with
    | zero => simp at hu; subst hu; exact hv
    | succ j =>
      have := hc j u (by simpa using hu)
      rw [show i + (j + 1) = i + 1 + j by omega]
      exact this

theorem underlying_of_cts {t : TypeId} {f : Nat} {x : List CT} (h : cts P (f + 1) t = some x) : ∃ d, P.underlying t = some d := by
  unfold cts at h
  cases hu : P.underlying t with
  | none => rw [hu] at h; cases h
  | some d => exact ⟨d, rfl⟩

theorem loadD_sound {t : TypeId} {h : Heap} {a : Addr} {K : Value → Heap → Prop} (H : loadD P t h a fun v => K v h) : wpS P qt (loadVar t a) h K := by
  unfold loadD at H
  unfold loadVar
  cases hu : P.underlying t with
  | none =>
    simp only [isAggT, hu, cts] at H
  | some d =>
  rw [wpS_bind, isAggT_spec t hu]
  cases hg : isAggT P t with
  | false =>
    simp only [hg] at H
    split at H
    · rename_i c hc
      obtain ⟨v, hv, hk⟩ := ldC_some H
      simp only [Bool.false_eq_true, if_false]
      exact ⟨v, hv, hk⟩
    · exact H.elim
  | true =>
    simp only [hg] at H
    simp only [if_true]
    split at H
    · rename_i ts n hts hn
      split at H
      · rename_i hl
        have hl := Nat.eq_of_beq_eq_true hl
        obtain ⟨vs, hvl, hvc, hk⟩ := ldCs_some H
        rw [wpS_bind, wpS_sizeOf hn, wpS_bind]
        exact loadCells_ok ⟨hvl.trans hl, fun j v hj => by have := hvc j v hj; rwa [Nat.zero_add] at this⟩ (by rw [wpS_pure]; exact hk)
      · exact H.elim
    · rename_i n hts hn
      obtain ⟨cs, hr, hk⟩ := H
      rw [wpS_bind, wpS_sizeOf hn, wpS_bind]
      exact loadCells_ok hr (by rw [wpS_pure]; exact hk)
    · exact H.elim

theorem stVs_sound {a : Addr} {K : Unit → Heap → Prop} : ∀ {vs : List Value} {h : Heap} {i : Nat}, stVs h a i vs (fun h' => K () h') → wpS P false (storeCells a vs i) h K
  | [], h, i, H => by unfold storeCells; exact H
  | v :: vs, h, i, ⟨h1, h2, h3, H⟩ => by
    unfold storeCells
    rw [wpS_bind, wpS_store]
    exact ⟨rfl, h1, h2, h3, stVs_sound H⟩

theorem cells_of_one {v : Value} (h : v.oneCell' = true) : v.cells = #[v] := by cases v <;> first | rfl | cases h

theorem storeD_sound {t : TypeId} {h : Heap} {a : Addr} {v : Value} {K : Unit → Heap → Prop} (H : storeD P t h a v fun h' => K () h') : wpS P false (storeVar t a v) h K := by
  unfold storeD at H
  unfold storeVar
  split at H
  · rename_i hg hn
    rw [wpS_bind, wpS_sizeOf hn]
    have hc := cells_of_one H.1
    have hadd : a.add 0 = a := by simp [Addr.add]
    simp only [hc, List.size_toArray, List.length_cons, List.length_nil, ne_eq, not_true, if_false]
    unfold storeCells
    rw [wpS_bind, hadd, wpS_store]
    exact ⟨rfl, H.1, H.2.1, H.2.2.1, by unfold storeCells; exact H.2.2.2⟩
  · rename_i n hg hn
    split at H
    · rename_i cs
      obtain ⟨hl, H⟩ := needs_iff.1 H
      rw [wpS_bind, wpS_sizeOf hn]
      have : ¬ (Value.agg cs).cells.size ≠ n := by simp [Value.cells]; simpa using hl
      rw [if_neg this]
      exact stVs_sound H
    · exact H.elim
  · exact H.elim

theorem intD_sound {op : BinOp} {k k' : IntKind} {x y : Int} {h : Heap} {K : Value → Heap → Prop} (t : TypeId) (H : intD op k x k' y fun v => K v h) :
    wpS P qt (binOp op t (.int k x) (.int k' y)) h K := by
  cases op <;> simp only [intD] at H <;> (have hk := (needs_iff.1 H).1; have H' := (needs_iff.1 H).2; clear H) <;> first
    | (have hy : ¬ y < 0 := by omega
       simp only [binOp, Op.shift, if_neg hy]
       exact H')
    | (subst hk
       simp only [binOp, Op.intArith, Op.intBits, Op.intCmp, if_neg (show ¬ (k ≠ k) by simp)]
       exact H')
    | (obtain ⟨hk, hy⟩ := hk
       subst hk
       simp only [binOp, Op.intDiv, if_neg hy, if_neg (show ¬ (k ≠ k) by simp)]
       exact H')

theorem whenB_iff {b : Bool} {K : Prop} : whenB b K ↔ b = true ∧ K := by cases b <;> simp [whenB]
theorem isTy_spec {t : TypeId} {c : TypeDesc → Bool} (h : isTy P t c = true) : ∃ d, P.underlying t = some d ∧ c d = true := by
  unfold isTy at h
  split at h
  · rename_i d hd
    exact ⟨d, hd, h⟩
  · cases h
theorem isB_spec {d : TypeDesc} (h : isB d = true) : d = .bool := by cases d <;> first | rfl | cases h
theorem isP_spec {d : TypeDesc} (h : isP d = true) : ∃ e, d = .pointer e := by cases d <;> first | exact ⟨_, rfl⟩ | cases h
theorem isS_spec {d : TypeDesc} (h : isS d = true) : ∃ e, d = .slice e := by cases d <;> first | exact ⟨_, rfl⟩ | cases h

theorem equalIn_ptr_none {t e : TypeId} (hu : P.underlying t = some (.pointer e)) (p : Option Addr) (h : Heap) (K : Bool → Heap → Prop) (d : Nat) :
    wpS P qt (Op.equalIn (d + 1) t (.pointer p) (.pointer none)) h K = K p.isNone h := by
  unfold Op.equalIn
  rw [wpS_bind, wpS_underlying hu]
  cases p <;> rfl
theorem equalIn_slice_none {t e : TypeId} (hu : P.underlying t = some (.slice e)) (p : Option Addr) (n c n' c' : Nat) (h : Heap) (K : Bool → Heap → Prop) (d : Nat) :
    wpS P qt (Op.equalIn (d + 1) t (.slice p n c) (.slice none n' c')) h K = K p.isNone h := by
  unfold Op.equalIn
  rw [wpS_bind, wpS_underlying hu]
  cases p <;> rfl
theorem equalIn_bool {t : TypeId} (hu : P.underlying t = some .bool) (a b : Bool) (h : Heap) (K : Bool → Heap → Prop) (d : Nat) :
    wpS P qt (Op.equalIn (d + 1) t (.bool a) (.bool b)) h K = K (a == b) h := by
  unfold Op.equalIn
  rw [wpS_bind, wpS_underlying hu]
  rfl

theorem eqD_sound {op : BinOp} {t : TypeId} {x y : Value} {r : Bool} {h : Heap} {K : Value → Heap → Prop} (X Y : Operand)
    (hg : (op = .eql ∨ op = .neq) → wpS P qt (eqGuard op t X Y x y) h fun _ h' => h' = h)
    (hb : (op = .eql → binOp op t x y = do pure (.bool (← Op.equal t x y))) ∧ (op = .neq → binOp op t x y = do pure (.bool (!(← Op.equal t x y)))))
    (he : ∀ K' : Bool → Heap → Prop, wpS P qt (Op.equal t x y) h K' = K' r h) (H : eqD op r fun v => K v h) :
    wpS P qt (do eqGuard op t X Y x y; binOp op t x y) h K := by
  rw [wpS_bind]
  unfold eqD at H
  split at H
  · refine wpS_mono _ (hg (.inl rfl)) fun _ h' e => ?_
    subst e
    rw [hb.1 rfl, wpS_bind, he]
    exact H
  · refine wpS_mono _ (hg (.inr rfl)) fun _ h' e => ?_
    subst e
    rw [hb.2 rfl, wpS_bind, he]
    exact H
  · exact H.elim

theorem binD_sound {op : BinOp} {t : TypeId} {x y : Value} {h : Heap} {K : Value → Heap → Prop} (X Y : Operand) (H : binD P op t x y fun v => K v h) :
    wpS P qt (do eqGuard op t X Y x y; binOp op t x y) h K := by
  have hm : Op.maxDepth = 9999 + 1 := rfl
  unfold binD at H
  split at H
  · rename_i k a k' b
    rw [wpS_bind]
    have hg : eqGuard op t X Y (.int k a) (.int k' b) = pure () := by
      unfold eqGuard
      cases op <;> rfl
    rw [hg, wpS_pure]
    exact intD_sound t H
  · rename_i a b
    obtain ⟨ht, H⟩ := whenB_iff.1 H
    obtain ⟨d, hu, hd⟩ := isTy_spec ht
    obtain rfl := isB_spec hd
    refine eqD_sound X Y (fun h => ?_) ⟨fun e => by subst e; rfl, fun e => by subst e; rfl⟩ (fun K' => by unfold Op.equal; rw [hm, equalIn_bool hu]) H
    rcases h with rfl | rfl <;> rfl
  · rename_i p
    obtain ⟨ht, H⟩ := whenB_iff.1 H
    obtain ⟨d, hu, hd⟩ := isTy_spec ht
    obtain ⟨e, rfl⟩ := isP_spec hd
    refine eqD_sound X Y (fun h => ?_) ⟨fun e => by subst e; cases p <;> rfl, fun e => by subst e; cases p <;> rfl⟩ (fun K' => by unfold Op.equal; rw [hm, equalIn_ptr_none hu]) H
    rcases h with rfl | rfl <;> rfl
  · rename_i p n c n' c'
    obtain ⟨ht, H⟩ := whenB_iff.1 H
    obtain ⟨d, hu, hd⟩ := isTy_spec ht
    obtain ⟨e, rfl⟩ := isS_spec hd
    refine eqD_sound X Y (fun h => ?_) ⟨fun e => by subst e; rfl, fun e => by subst e; rfl⟩ (fun K' => by unfold Op.equal; rw [hm, equalIn_slice_none hu]) H
    rcases h with rfl | rfl <;> rfl
  · exact H.elim

theorem unD_sound {op : UnOp} {x : Value} {h : Heap} {K : Value → Heap → Prop} (H : unD op x fun v => K v h) : wpS P qt (Op.unary op x) h K := by
  unfold unD at H
  split at H
  · exact H
  · exact H
  · exact H
  · exact H.elim

/-! ### building -/
theorem putL_length : ∀ (vs cells : List Value) (off : Nat), (putL cells off vs).length = cells.length
  | [], _, _ => rfl
  | v :: vs, cells, off => by simp [putL, putL_length vs]

theorem fold_putL : ∀ (vs : List Value) (off k : Nat) (cells : Array Value),
    ((vs.zipIdx k).foldl (fun (cs : Array Value) (x : Value × Nat) => cs.setIfInBounds (off + x.2) x.1) cells).toList = putL cells.toList (off + k) vs
  | [], _, _, _ => rfl
  | v :: vs, off, k, cells => by
    simp only [List.zipIdx_cons, List.foldl_cons, putL]
    rw [fold_putL vs off (k + 1), Array.toList_setIfInBounds]
    rfl

theorem fillD_sound (place : Nat → Option (Nat × Nat)) : ∀ (parts : List (Nat × Value)) (l : List (Nat × Nat × Value)) (cells : List Value) (K : List Value → Prop),
    (parts.map fun x => (place x.1).map fun y => (y.1, y.2, x.2)) = l.map some → fillD l cells K → ∃ cs, Instr.fill place cells.toArray parts = some cs ∧ K cs.toList
  | [], [], cells, K, _, H => ⟨cells.toArray, rfl, by simpa [fillD] using H⟩
  | [], _ :: _, _, _, h, _ => by simp at h
  | _ :: _, [], _, _, h, _ => by simp at h
  | (i, v) :: parts, (off, size, v') :: l, cells, K, hp, H => by
    simp only [List.map_cons, List.cons.injEq] at hp
    obtain ⟨h1, h2⟩ := hp
    cases hpl : place i with
    | none => rw [hpl] at h1; cases h1
    | some os =>
      obtain ⟨o, s⟩ := os
      rw [hpl] at h1
      simp only [Option.map_some, Option.some.injEq, Prod.mk.injEq] at h1
      obtain ⟨rfl, rfl, rfl⟩ := h1
      obtain ⟨⟨hs, hb⟩, H⟩ := needs_iff.1 H
      obtain ⟨cs, hc, hk⟩ := fillD_sound place parts l _ K h2 H
      refine ⟨cs, ?_, hk⟩
      have hs' : v.cells.size = s := by simpa using hs
      simp only [Instr.fill, hpl]
      have : ¬ ((v.cells.size ≠ s || decide (o + v.cells.size > cells.toArray.size)) = true) := by simp [hs']; omega
      rw [if_neg this]
      rw [← hc]
      congr 1
      apply Array.toList_inj.1
      have := fold_putL v.cells.toList o 0 cells.toArray
      simp only [Nat.add_zero] at this
      rw [← this]
      rw [← Array.foldl_toList]
      simp only [Array.toList_zipIdx]

theorem placesD_spec {fs : Array Field} : ∀ {parts : List (Nat × Value)} {l : List (Nat × Nat × Value)}, placesD P fs parts = some l →
    ∀ (pl : Array (Nat × Nat)), (∀ (i : Nat) (f : Field), fs[i]? = some f → ∀ n, sizeT P f.type = some n → pl[i]? = some (f.offset, n)) →
    (parts.map fun x => (pl[x.1]?).map fun y => (y.1, y.2, x.2)) = l.map some
  | [], l, h, _, _ => by simp [placesD] at h; subst h; rfl
  | (i, v) :: rest, l, h, pl, hpl => by
    unfold placesD at h
    split at h
    · cases h
    · rename_i f hf
      split at h
      · rename_i n l' hn hl'
        simp only [Option.some.injEq] at h
        subst h
        simp only [List.map_cons]
        rw [hpl i f hf n hn, placesD_spec hl' pl hpl]
        rfl
      · cases h

theorem mapM_places : ∀ (fs : List Field), (∀ f ∈ fs, ∃ i, P.info? f.type = some i) → ∀ (h : Heap) (K : List (Nat × Nat) → Heap → Prop),
    K (fs.map fun f => (f.offset, ((P.info? f.type).map (·.size)).getD 0)) h → wpS P qt (fs.mapM fun f => do pure (f.offset, ← sizeOf f.type)) h K
  | [], _, h, K, H => by simp only [List.mapM_nil, wpS_pure]; exact H
  | f :: fs, hf, h, K, H => by
    obtain ⟨i, hi⟩ := hf f (by simp)
    simp only [List.mapM_cons]
    rw [wpS_bind, wpS_bind]
    unfold sizeOf
    rw [wpS_bind, wpS_typeInfo hi, wpS_pure, wpS_pure, wpS_bind]
    refine mapM_places fs (fun g hg => hf g (by simp [hg])) h _ ?_
    rw [wpS_pure]
    simpa [hi] using H

theorem allInfo_spec : ∀ {fs : List Field}, allInfo P fs = true → ∀ f ∈ fs, ∃ i, P.info? f.type = some i
  | [], _, f, hf => by cases hf
  | g :: fs, h, f, hf => by
    unfold allInfo at h
    split at h
    · rename_i i hi
      rcases List.mem_cons.1 hf with rfl | hf
      · exact ⟨i, hi⟩
      · exact allInfo_spec h f hf
    · cases h
theorem buildD_sound {t : TypeId} {parts : Array (Nat × Value)} {h : Heap} {K : Value → Heap → Prop}
    (H : buildD P t parts.toList fun v => K v h) : wpS P qt (Instr.build t parts) h K := by
  unfold buildD at H
  split at H
  · rename_i fs z hu hz
    obtain ⟨i, v, hi, hv, hvz⟩ := zeroT_spec hz
    split at H
    · rename_i l hl hall
      unfold Instr.build
      rw [wpS_bind, wpS_zeroValue hi hv, wpS_bind, wpS_underlying hu]
      simp only []
      rw [wpS_bind, Array.mapM_eq_mapM_toList]
      have hmap : ∀ (s : Sem (List (Nat × Nat))) (K' : Array (Nat × Nat) → Heap → Prop), wpS P qt (List.toArray <$> s) h K' = wpS P qt s h fun l h' => K' l.toArray h' := fun s K' => by
        show wpS P qt (s.bind (fun a => pure a.toArray)) h K' = _
        exact wpS_bind s _ h K'
      rw [hmap]
      refine mapM_places fs.toList (allInfo_spec hall) h _ ?_
      obtain ⟨cs, hc, hk⟩ := fillD_sound (((fs.toList.map fun f => (f.offset, ((P.info? f.type).map (·.size)).getD 0)).toArray)[·]?) parts.toList l z _
        (placesD_spec hl _ (fun i f hf n hn => by
          obtain ⟨inf, h1, h2⟩ := sizeT_spec hn
          have : fs.toList[i]? = some f := by simpa using hf
          simp [this, h1, h2])) H
      have hz' : v.cells = z.toArray := by rw [← hvz]
      rw [hz', hc]
      simpa [wpS_pure] using hk
    · exact H.elim
  · rename_i m e z hu hz
    obtain ⟨i, v, hi, hv, hvz⟩ := zeroT_spec hz
    split at H
    · rename_i n hn
      unfold Instr.build
      rw [wpS_bind, wpS_zeroValue hi hv, wpS_bind, wpS_underlying hu]
      simp only []
      rw [wpS_bind, wpS_sizeOf hn]
      obtain ⟨cs, hc, hk⟩ := fillD_sound (fun i => some (i * n, n)) parts.toList (rowsD n parts.toList) z _ (by
        generalize parts.toList = ps
        induction ps with
        | nil => rfl
        | cons p ps ih => obtain ⟨a, b⟩ := p; simp only [List.map_cons, rowsD, ih]; rfl) H
      have hz' : v.cells = z.toArray := by rw [← hvz]
      rw [hz', hc]
      simpa [wpS_pure] using hk
    · exact H.elim
  · exact H.elim

theorem repZ_length (z : List Value) : ∀ n, (repZ z n).length = n * z.length
  | 0 => by simp [repZ]
  | n + 1 => by simp [repZ, repZ_length z n, Nat.succ_mul, Nat.add_comm]
theorem repZ_get (z : List Value) (hz : 0 < z.length) : ∀ (n j : Nat), j < n * z.length → (repZ z n)[j]? = z[j % z.length]?
  | 0, j, h => by omega
  | n + 1, j, h => by
    unfold repZ
    by_cases hj : j < z.length
    · rw [List.getElem?_append_left hj, Nat.mod_eq_of_lt hj]
    · rw [List.getElem?_append_right (by omega), repZ_get z hz n (j - z.length) (by rw [Nat.succ_mul] at h; omega)]
      congr 1
      exact (Nat.mod_eq_sub_mod (by omega)).symm
theorem repZ_range (z : Array Value) (n : Nat) (hz : 0 < z.size) : ((Array.range (n * z.size)).map fun i => z[i % z.size]!) = (repZ z.toList n).toArray := by
  have hzl : z.toList.length = z.size := by simp
  apply Array.ext_getElem?
  intro j
  by_cases hj : j < n * z.size
  · have h1 := repZ_get z.toList (by omega) n j (by rw [hzl]; exact hj)
    rw [hzl] at h1
    have hm : j % z.size < z.size := Nat.mod_lt _ hz
    simp [h1, hj, hm]
  · have : (repZ z.toList n).length ≤ j := by rw [repZ_length, hzl]; omega
    simp [this, hj]

theorem buildSliceD_sound {t : TypeId} {len : Nat} {parts : Array (Nat × Value)} {h : Heap} {K : Value → Heap → Prop}
    (H : buildSliceD P t len parts.toList h K) : wpS P false (Instr.buildSlice t len parts) h K := by
  unfold buildSliceD at H
  split at H
  · rename_i e hu
    split at H
    · rename_i n z hn hz
      obtain ⟨i, v, hi, hv, hvz⟩ := zeroT_spec hz
      obtain ⟨⟨hle, hzl, hpos⟩, H⟩ := needs_iff.1 H
      unfold Instr.buildSlice
      rw [wpS_bind, wpS_underlying hu]
      simp only []
      rw [wpS_bind, wpS_sizeOf hn]
      have h24 : ¬ (len * n > 2 ^ 24) := by have : (2 : Nat) ^ 24 = 16777216 := rfl; omega
      rw [if_neg h24]
      have hvs : v.cells.size = n := by have : v.cells.toList.length = n := by rw [hvz]; exact hzl
                                        simpa using this
      obtain ⟨cs, hc, hk⟩ := fillD_sound (fun i => some (i * n, n)) parts.toList (rowsD n parts.toList) (repZ z len) _ (by
        generalize parts.toList = ps
        induction ps with
        | nil => rfl
        | cons p ps ih => obtain ⟨a, b⟩ := p; simp only [List.map_cons, rowsD, ih]; rfl) H
      have hcells : ∀ zz : Array Value, (len * n = 0 → zz = #[]) → (len * n ≠ 0 → zz = v.cells) →
          ((Array.range (len * n)).map fun i => zz[i % zz.size]!) = (repZ z len).toArray := fun zz h0 h1 => by
        by_cases hl : len * n = 0
        · have hl0 : len = 0 := by
            rcases Nat.mul_eq_zero.1 hl with h | h
            · exact h
            · omega
          subst hl0
          simp [repZ]
        · rw [h1 hl]
          have := repZ_range v.cells len (by omega)
          rw [hvs] at this
          rw [hvs, this, hvz]
      by_cases hl : len * n = 0
      · rw [if_pos hl, wpS_bind, wpS_pure, hcells #[] (fun _ => rfl) (fun h => absurd hl h), hc]
        simp only []
        rw [wpS_bind]
        unfold newRow
        rw [wpS_bind]
        simpa [newObj, wpS, wpS_pure] using hk
      · rw [if_neg hl, wpS_bind, wpS_zeroValue hi hv, wpS_bind, wpS_pure, hcells v.cells (fun h => absurd h hl) (fun _ => rfl), hc]
        simp only []
        rw [wpS_bind]
        unfold newRow
        rw [wpS_bind]
        simpa [newObj, wpS, wpS_pure] using hk
    · exact H.elim
  · exact H.elim

end
end Go.Den
