/- DenI: the conditions of a whole region, in the text's order and in a checked order, and the proof that they are enough. No program in sight. -/
import Derived.Test.YtlmopdohgipbeaaDenH
set_option linter.unusedVariables false
set_option linter.unusedSimpArgs false
namespace Go.Den

/-- What follows a piece of code, said of the heap. -/
abbrev PostD := Exit → Act → Heap → Prop

def deferD (a : Act) (dst : Option Tmp) (f : Value) (args : List Value) (K : Act → Prop) : Prop := match f with
  | .func fn first captured => K (({ a with defers := { target := .fn fn captured, args := (first.toList ++ args).toArray } :: a.defers } : Act).put dst undef)
  | _ => False

/-- One operation, carried out. -/
def stepD (P : Program) (C : CallP) (Q : PostD) (o : Oper) (a : Act) (h : Heap) (K : Act → Heap → Prop) : Prop := match o.op with
  | .panic x => (match a.eval x with
    | .iface t v => Q (.panic [{ v := .iface t v, recovered := false }]) a h
    | _ => False)
  | .defer c => (match c.callee with
    | .value f => deferD a o.dst (a.eval f) (c.args.toList.map a.eval) fun a' => K a' h
    | _ => False)
  | op => opD P C (fun c h' => Q (.panic c) a h') a.eval op o.type h fun v h' => K (a.put o.dst v) h'

/-- Is it carried out? -/
def guardD (ops : Array Oper) (o : Oper) (a : Act) (run skip : Act → Prop) : Prop := match o.guard with
  | none => run a
  | some (j, want) => (match (ops[j]?).bind (·.dst) with
    | some d => (match a.tmps[d]? with
      | some (.bool b) => bcase b
          (match want with | true => run (a.put (some d) (.bool true)) | false => skip (a.put (some d) (.bool true)))
          (match want with | true => skip (a.put (some d) (.bool false)) | false => run (a.put (some d) (.bool false)))
      | _ => skip a)
    | none => skip a)

def seqD (P : Program) (C : CallP) (Q : PostD) (ops : Array Oper) : List Oper → Act → Heap → (Act → Heap → Prop) → Prop
  | [], a, h, K => K a h
  | o :: rest, a, h, K => guardD ops o a (fun a => stepD P C Q o a h fun a' h' => seqD P C Q ops rest a' h' K) (fun a => seqD P C Q ops rest (a.put o.dst undef) h K)

inductive Plan where
  | done
  | take (i : Nat) (p : Plan)
  | go (i : Nat) (p : Plan)
  | alt (i : Nat) (p : Plan) (q : Plan)
  | bar (i : Nat) (bars : List Nat) (p : Plan)
  | keep (p : Plan)

def withD (P : Program) (C : CallP) (Q : PostD) (ops : Array Oper) (i : Nat) (a : Act) (h : Heap) (k : Act → Heap → Prop) : Prop := match ops[i]? with
  | none => False
  | some o => guardD ops o a (fun a => stepD P C Q o a h k) (fun a => k (a.put o.dst undef) h)
def newB (ops : Array Oper) (i : Nat) : Bool := match ops[i]? with
  | some o => isNew o.op
  | none => false
/-- What an effect must leave as it is: all that was there, or the rows that loads have looked at. -/
def relH : Option (Nat → Prop) → Heap → Heap → Prop
  | none => hext
  | some R => hkeep R
def takeR (ro : Option (Nat → Prop)) (o : Oper) (a : Act) (X : Prop) : Prop := match ro with
  | none => X
  | some R => (match o.op with
    | .load _ x => (match a.eval x with
      | .pointer (some ad) => R ad.block ∧ X
      | _ => X)
    | _ => X)
def withT (P : Program) (C : CallP) (Q : PostD) (ops : Array Oper) (ro : Option (Nat → Prop)) (i : Nat) (a : Act) (h : Heap) (k : Act → Heap → Prop) : Prop := match ops[i]? with
  | none => False
  | some o => guardD ops o a (fun a => stepD P C Q o a h fun a' h' => takeR ro o a (k a' h')) (fun a => k (a.put o.dst undef) h)
def goD (P : Program) (C : CallP) (Q : PostD) (ops : Array Oper) (ro : Option (Nat → Prop)) (i : Nat) (a : Act) (h : Heap) (k : Act → Heap → Prop) : Prop := match newB ops i with
  | true => withD P C Q ops i a h k
  | false => withD P C Q ops i a h fun a' h' => relH ro h h' ∧ k a' h'

def planD (P : Program) (C : CallP) (Q : PostD) (ops : Array Oper) (ro : Option (Nat → Prop)) : Plan → Act → Heap → (Act → Heap → Prop) → Prop
  | .done, a, h, K => K a h
  | .take i p, a, h, K => withT P C Q ops ro i a h fun a' h' => planD P C Q ops ro p a' h' K
  | .go i p, a, h, K => goD P C Q ops ro i a h fun a' h' => planD P C Q ops ro p a' h' K
  | .alt i p q, a, h, K => goD P C Q ops ro i a h (fun a' h' => planD P C Q ops ro p a' h' K) ∧ planD P C Q ops ro q a h K
  | .bar i _ p, a, h, K => withD P C Q ops i a h fun a' h' => planD P C Q ops ro p a' h' K
  | .keep _, _, _, _ => False

/-- The plan at a region: with 'keep' ahead of it, the rows that loads look at are named. -/
def stripK : Plan → Plan
  | .keep p => p
  | p => p
def keepD (D : Option (Nat → Prop) → Plan → Prop) : Plan → Prop
  | .keep p => ∃ R : Nat → Prop, D (some R) p
  | p => D none p
theorem keepD_spec {D : Option (Nat → Prop) → Plan → Prop} {p : Plan} (H : keepD D p) : ∃ ro, D ro (stripK p) := by
  cases p <;> first | exact ⟨none, H⟩ | (obtain ⟨R, H⟩ := H; exact ⟨some R, H⟩)

/-! ### the check of a plan -/
def readyL (ops : Array Oper) (listed : Array Bool) : List Nat := Region.ready .any ops listed
def okTake (ops : Array Oper) (bars : List Nat) (listed : Array Bool) (i : Nat) : Bool := match ops[i]? with
  | none => false
  | some o => isFloat o.op && (readyL ops listed).contains i && Region.free .any ops listed i && !bars.contains i && (!isLoad o.op || bars.all fun b => depB .any ops b i)
def headsP : Plan → List Nat
  | .go i _ => [i]
  | .alt i _ q => i :: headsP q
  | _ => []
def okPlan (ops : Array Oper) : Bool → List Nat → Nat → Array Bool → Plan → Bool
  | _, _, _, listed, .done => (readyL ops listed).isEmpty
  | _, _, _, _, .keep _ => false
  | _, _, 0, _, _ => false
  | top, bars, n + 1, listed, .take i p => top && okTake ops bars listed i && okPlan ops true bars n (listed.setIfInBounds i true) p
  | top, bars, n + 1, listed, .go i p => (!top || decide (readyL ops listed = [i])) && !bars.contains i && okPlan ops true bars n (listed.setIfInBounds i true) p
  | top, bars, n + 1, listed, .alt i p q => (!top || decide (readyL ops listed = i :: headsP q)) && !bars.contains i && okPlan ops true bars n (listed.setIfInBounds i true) p && okPlan ops false bars (n + 1) listed q
  | top, bars, n + 1, listed, .bar i bars' p => top && decide (readyL ops listed = [i]) && bars.contains i && okPlan ops true bars' n (listed.setIfInBounds i true) p

def noSel (ops : Array Oper) : Bool := Region.noSelect ops
def checkPlan (ops : Array Oper) (bars : List Nat) (p : Plan) : Bool := noSel ops && okPlan ops true bars ops.size (Array.replicate ops.size false) p

/-! ### soundness -/
section
variable {P : Program} {C : CallP} {Q : PostD} {ops : Array Oper}

theorem put_same (a : Act) (d : Tmp) (v : Value) (h : a.tmps[d]? = some v) : a.put (some d) v = a := by
  unfold Act.put
  have : a.tmps.setIfInBounds d v = a.tmps := by
    apply Array.ext_getElem?
    intro i
    by_cases hi : d = i
    · subst hi
      obtain ⟨hlt, hv⟩ := Array.getElem?_eq_some_iff.1 h
      simp [hlt, hv]
    · rw [Array.getElem?_setIfInBounds_ne hi]
  simp [this]

theorem guardD_spec {o : Oper} {a : Act} {run skip : Act → Prop} (H : guardD ops o a run skip) :
    (Region.wanted o (yielded ops a.tmps) = true ∧ run a) ∨ (Region.wanted o (yielded ops a.tmps) = false ∧ skip a) := by
  unfold guardD at H
  unfold Region.wanted
  split at H
  · rename_i hg
    rw [hg]
    exact .inl ⟨rfl, H⟩
  · rename_i j want hg
    rw [hg]
    simp only [yielded]
    split at H
    · rename_i d hd
      rw [hd]
      simp only [Option.bind_some]
      split at H
      · rename_i b hb
        simp only [hb]
        unfold bcase at H
        cases b
        · rw [put_same a d _ hb] at H
          cases want
          · exact .inl ⟨rfl, H⟩
          · exact .inr ⟨rfl, H⟩
        · rw [put_same a d _ hb] at H
          cases want
          · exact .inr ⟨rfl, H⟩
          · exact .inl ⟨rfl, H⟩
      · rename_i hn
        refine .inr ⟨?_, H⟩
        cases hv : a.tmps[d]? with
        | none => simp
        | some u => cases u <;> first | (exact absurd hv (hn _)) | simp
    · rename_i hd
      rw [hd]
      exact .inr ⟨by simp, H⟩

theorem stepD_wp (hC : CallOK P C) {o : Oper} {a : Act} {K : Act → Heap → Prop} {next : Act → World → Prop} {Q' : Exit → Act → World → Prop} {w : World}
    (H : stepD P C Q o a w.heap K) (hK : ∀ a' w', keeps w w' → ((∃ v, a' = a.put o.dst v) ∨ (∃ c, o.op = .defer c)) → K a' w'.heap → next a' w')
    (hp : ∀ c w', keeps w w' → Q (.panic c) a w'.heap → Q' (.panic c) a w') : o.wp P a w next Q' := by
  unfold stepD at H
  split at H
  · rename_i x ho
    split at H
    · rename_i t v hv
      unfold Oper.wp execOp
      simp only [ho, hv]
      exact hp _ _ (keeps.refl w) H
    · exact H.elim
  · rename_i c ho
    split at H
    · rename_i f hf
      unfold deferD at H
      split at H
      · rename_i fn first captured hv
        unfold Oper.wp execOp
        simp only [ho, resolve, hf, hv, Deferred.ofValue]
        have : (first.toList ++ c.args.toList.map a.eval).toArray = first ++ c.args.map a.eval := by apply Array.toList_inj.1; simp
        rw [this] at H
        exact hK _ _ (keeps.refl w) (.inr ⟨c, ho⟩) H
      · exact H.elim
    · exact H.elim
  · exact opD_wp hC H (fun v w' hk h => hK _ _ hk (.inl ⟨v, rfl⟩) h) hp

/-- The temporaries outside a set are as they were. -/
def agree (W : Nat) (a a' : Act) : Prop := a'.defers = a.defers ∧ a'.tmps.size = a.tmps.size ∧ ∀ i, W.testBit i = false → a'.tmps[i]? = a.tmps[i]?
theorem agree.refl (W : Nat) (a : Act) : agree W a a := ⟨rfl, rfl, fun _ _ => rfl⟩
theorem agree.trans {W : Nat} {a b c : Act} (h : agree W a b) (k : agree W b c) : agree W a c :=
  ⟨k.1.trans h.1, k.2.1.trans h.2.1, fun i hi => (k.2.2 i hi).trans (h.2.2 i hi)⟩
def dstIn (W : Nat) (o : Oper) : Bool := match o.op with
  | .defer _ => false
  | _ => (match o.dst with
    | some d => W.testBit d
    | none => true)
theorem agree.put {W : Nat} {a b : Act} {o : Oper} (h : agree W a b) (ho : dstIn W o = true) (v : Value) : agree W a (b.put o.dst v) := by
  refine h.trans ?_
  have : ∀ d, o.dst = some d → W.testBit d = true := fun d hd => by
    unfold dstIn at ho
    rw [hd] at ho
    split at ho
    · cases ho
    · exact ho
  cases hd : o.dst with
  | none => exact agree.refl _ _
  | some d =>
    refine ⟨rfl, by simp [Act.put], fun i hi => ?_⟩
    have hne : d ≠ i := fun e => by subst e; rw [this d hd] at hi; cases hi
    simp [Act.put, Array.getElem?_setIfInBounds_ne hne]
theorem dstIn_defer {W : Nat} {o : Oper} {c : Call} (h : o.op = .defer c) : dstIn W o = false := by simp [dstIn, h]

/-- The frame of a list of operations. -/
def FrL (l : List Oper) (a a' : Act) : Prop := ∀ W, l.all (dstIn W) = true → agree W a a'

theorem step_agree {o : Oper} {a a' : Act} (h : (∃ v, a' = a.put o.dst v) ∨ ∃ c, o.op = .defer c) {W : Nat} (hW : dstIn W o = true) : agree W a a' := by
  rcases h with ⟨v, rfl⟩ | ⟨c, hc⟩
  · exact (agree.refl W a).put hW v
  · rw [dstIn_defer hc] at hW; cases hW

/-- What the model is to show behind a region. -/
def postOf (w₀ : World) (Fr : Act → Prop) (Q : PostD) : Exit → Act → World → Prop
  | .panic c, a, w => keeps w₀ w ∧ Q (.panic c) a w.heap
  | .outgrown, _, _ => False
  | e, a, w => keeps w₀ w ∧ Fr a ∧ Q e a w.heap

theorem seqD_sound (hC : CallOK P C) (w₀ : World) (Fr : Act → Prop) : ∀ (l : List Oper) (a : Act) (w : World) (K : Act → Heap → Prop), keeps w₀ w → seqD P C Q ops l a w.heap K →
    (∀ a' w', keeps w₀ w' → FrL l a a' → K a' w'.heap → Q .normal a' w'.heap) → (∀ a', FrL l a a' → Fr a') → wpList P ops (postOf w₀ Fr Q) l a w
  | [], a, w, K, hk, H, hQ, hF => ⟨hk, hF a (fun W _ => agree.refl W a), hQ a w hk (fun W _ => agree.refl W a) H⟩
  | o :: rest, a, w, K, hk, H, hQ, hF => by
    have hcons : ∀ a1, (∀ W, dstIn W o = true → agree W a a1) → ∀ a', FrL rest a1 a' → FrL (o :: rest) a a' := fun a1 h1 a' h2 W hW => by
      simp only [List.all_cons, Bool.and_eq_true] at hW
      exact (h1 W hW.1).trans (h2 W hW.2)
    have hrec : ∀ a1 w1, keeps w₀ w1 → (∀ W, dstIn W o = true → agree W a a1) → seqD P C Q ops rest a1 w1.heap K → wpList P ops (postOf w₀ Fr Q) rest a1 w1 := fun a1 w1 hk1 h1 H1 =>
      seqD_sound hC w₀ Fr rest a1 w1 K hk1 H1 (fun a' w' hk' hf => hQ a' w' hk' (hcons a1 h1 a' hf)) (fun a' hf => hF a' (hcons a1 h1 a' hf))
    unfold wpList
    rcases guardD_spec H with ⟨hw, H⟩ | ⟨hw, H⟩
    · rw [if_pos hw]
      exact .inl (stepD_wp hC H (fun a' w' hk' hs h => hrec a' w' (hk.trans hk') (fun W hW => step_agree hs hW) h) (fun c w' hk' h => ⟨hk.trans hk', h⟩))
    · rw [if_neg (by rw [hw]; simp)]
      exact hrec _ w hk (fun W hW => (agree.refl W a).put hW undef) H

theorem float_not_defer {o : Oper} (h : isFloat o.op = true) : (∀ x, o.op ≠ .panic x) ∧ ∀ c, o.op ≠ .defer c :=
  ⟨fun x e => (by rw [e] at h; cases h), fun c e => (by rw [e] at h; cases h)⟩

theorem stepD_op {o : Oper} {a : Act} {h : Heap} {K : Act → Heap → Prop} (hf : (∀ x, o.op ≠ .panic x) ∧ ∀ c, o.op ≠ .defer c) (H : stepD P C Q o a h K) :
    opD P C (fun c h' => Q (.panic c) a h') a.eval o.op o.type h fun v h' => K (a.put o.dst v) h' := by
  unfold stepD at H
  split at H
  · rename_i x ho; exact absurd ho (hf.1 x)
  · rename_i c ho; exact absurd ho (hf.2 c)
  · exact H


theorem relH.refl (ro : Option (Nat → Prop)) (h : Heap) : relH ro h h := by
  cases ro with
  | none => exact hext.refl h
  | some R => exact hkeep.refl R h
theorem relH.trans {ro : Option (Nat → Prop)} {a b c : Heap} (h : relH ro a b) (k : relH ro b c) : relH ro a c := by
  cases ro with
  | none => exact hext.trans h k
  | some R => exact hkeep.trans h k
theorem hext.rel {h h' : Heap} (e : hext h h') (ro : Option (Nat → Prop)) : relH ro h h' := by
  cases ro with
  | none => exact e
  | some R => exact e.keep R
/-- The rows in question. -/
def rowsR : Option (Nat → Prop) → Nat → Prop
  | none => fun _ => True
  | some R => R
theorem relH.keep {ro : Option (Nat → Prop)} {h h' : Heap} (e : relH ro h h') : hkeep (rowsR ro) h h' := by
  cases ro with
  | none => exact hext.keep e _
  | some R => exact e
theorem takeR_spec {ro : Option (Nat → Prop)} {o : Oper} {a : Act} {X : Prop} (H : takeR ro o a X) : blkOK (rowsR ro) a.eval o.op ∧ X := by
  cases ro with
  | none => exact ⟨by unfold blkOK rowsR; split <;> first | trivial | (split <;> trivial), H⟩
  | some R =>
    unfold takeR at H
    simp only at H
    unfold blkOK rowsR
    generalize o.op = op at H ⊢
    cases op <;> first | exact ⟨trivial, H⟩ | skip
    case load t x =>
      simp only at H ⊢
      generalize a.eval x = v at H ⊢
      cases v <;> first | exact ⟨trivial, H⟩ | skip
      case pointer q =>
        cases q with
        | none => exact ⟨trivial, H⟩
        | some ad => exact H

theorem float_take (hC : CallOK P C) {ro : Option (Nat → Prop)} {i : Nat} {o : Oper} {a : Act} {h : Heap} {k : Act → Heap → Prop} (hi : ops[i]? = some o) (hf : isFloat o.op = true) (H : withT P C Q ops ro i a h k) :
    ∃ v, k (a.put o.dst v) h ∧ YieldsIf P ops (fun w => relH ro h w.heap) o v a ∧ (isLoad o.op = false → Yields P ops o v a) := by
  unfold withT at H
  rw [hi] at H
  rcases guardD_spec H with ⟨hw, H⟩ | ⟨hw, H⟩
  · obtain ⟨v, hv, hd⟩ := opD_det hf (stepD_op (float_not_defer hf) H)
    obtain ⟨hb, hv⟩ := takeR_spec hv
    have run : ∀ w : World, (isLoad o.op = true → relH ro h w.heap) → (execOp a.eval o).run P w = .ok (.value v) w := fun w he => by
      have h1 := opD_sound (qt := true) hC (o := o) (fun _ => hf) (hd (rowsR ro) (fun _ => hb) w.heap (fun v' _ => v' = v) (fun e => (he e).keep) rfl)
      obtain ⟨n, w', hr, hk, hw', hn⟩ := wpS_run _ h1 (w := w) rfl
      rw [hw' rfl] at hr
      rw [hr]
      cases n <;> simp only [nextOK] at hn
      · rw [hn]
      · cases hn.1
      · cases hn.1
    exact ⟨v, hv, .inl ⟨hw, fun w he => run w fun _ => he⟩, fun hl => .inl ⟨hw, fun w => run w fun e => by rw [hl] at e; cases e⟩⟩
  · exact ⟨undef, H, .inr ⟨hw, rfl⟩, fun _ => .inr ⟨hw, rfl⟩⟩

theorem withD_wpOp (hC : CallOK P C) {w₀ : World} {Fr : Act → Prop} {i : Nat} {a : Act} {w : World} {k : Act → Heap → Prop} {next : Act → World → Prop} (hk : keeps w₀ w) (H : withD P C Q ops i a w.heap k)
    (hnext : ∀ a' w', keeps w₀ w' → (∀ W, ops.toList.all (dstIn W) = true → agree W a a') → k a' w'.heap → next a' w') : wpOp P ops (postOf w₀ Fr Q) i next a w := by
  unfold withD at H
  split at H
  · exact H.elim
  · rename_i o ho
    unfold wpOp
    simp only [ho]
    have hin : ∀ W, ops.toList.all (dstIn W) = true → dstIn W o = true := fun W hW => List.all_eq_true.1 hW o (by
      have := Array.mem_of_getElem? ho
      simpa using this)
    rcases guardD_spec H with ⟨hw, H⟩ | ⟨hw, H⟩
    · rw [if_pos hw]
      exact .inl (stepD_wp hC H (fun a' w' hk' hs h => hnext a' w' (hk.trans hk') (fun W hW => step_agree hs (hin W hW)) h) (fun c w' hk' h => ⟨hk.trans hk', h⟩))
    · rw [if_neg (by rw [hw]; simp)]
      exact hnext _ w hk (fun W hW => (agree.refl W a).put (hin W hW) undef) H

theorem new_withD {i : Nat} {a : Act} {h : Heap} {k : Act → Heap → Prop} (hn : newB ops i = true) (H : withD P C Q ops i a h k) : withD P C Q ops i a h fun a' h' => hext h h' ∧ k a' h' := by
  unfold newB at hn
  split at hn
  · rename_i o ho
    unfold withD at H ⊢
    simp only [ho] at H ⊢
    have hstep : ∀ a, stepD P C Q o a h k → stepD P C Q o a h fun a' h' => hext h h' ∧ k a' h' := fun a H => by
      have hnd : (∀ x, o.op ≠ .panic x) ∧ ∀ c, o.op ≠ .defer c := ⟨fun x e => (by rw [e] at hn; cases hn), fun c e => (by rw [e] at hn; cases hn)⟩
      have h1 := opD_new hn (stepD_op hnd H)
      unfold stepD
      split
      · rename_i x ho; exact absurd ho (hnd.1 x)
      · rename_i c ho; exact absurd ho (hnd.2 c)
      · exact h1
    unfold guardD at H ⊢
    split at H
    · exact hstep _ H
    · rename_i j want hg
      split at H
      · split at H
        · rename_i b hb
          cases b
          · cases want
            · exact hstep _ H
            · exact ⟨hext.refl h, H⟩
          · cases want
            · exact ⟨hext.refl h, H⟩
            · exact hstep _ H
        · exact ⟨hext.refl h, H⟩
      · exact ⟨hext.refl h, H⟩
  · cases hn
theorem goD_wpOp (hC : CallOK P C) {ro : Option (Nat → Prop)} {w₀ : World} {Fr : Act → Prop} {i : Nat} {a : Act} {w : World} {k : Act → Heap → Prop} {next : Act → World → Prop} (hk : keeps w₀ w) (H : goD P C Q ops ro i a w.heap k)
    (hnext : ∀ a' w', keeps w₀ w' → (∀ W, ops.toList.all (dstIn W) = true → agree W a a') → relH ro w.heap w'.heap → k a' w'.heap → next a' w') : wpOp P ops (postOf w₀ Fr Q) i next a w := by
  unfold goD at H
  split at H
  · rename_i hn; exact withD_wpOp hC hk (new_withD hn H) fun a' w' h1 h2 h => hnext a' w' h1 h2 (h.1.rel ro) h.2
  · exact withD_wpOp hC hk H fun a' w' h1 h2 h => hnext a' w' h1 h2 h.1 h.2

/-- Panics do not look at the temporaries. -/
def PanicOK (Q : PostD) : Prop := ∀ c (a : Act) d v h, Q (.panic c) (a.put d v) h → Q (.panic c) a h

theorem planD_sound (ro : Option (Nat → Prop)) (hC : CallOK P C) (hQp : PanicOK Q) (w₀ : World) (a₀ : Act) (Fr : Act → Prop) (hs : Region.noSelect ops = true)
    (hF : ∀ a', (∀ W, ops.toList.all (dstIn W) = true → agree W a₀ a') → Fr a') :
    ∀ (p : Plan) (n : Nat) (bars : List Nat) (listed : Array Bool) (a : Act) (w : World), ClosedL .any ops listed → keeps w₀ w →
      (∀ W, ops.toList.all (dstIn W) = true → agree W a₀ a) → planD P C Q ops ro p a w.heap (fun a' h' => Q .normal a' h') →
      (okPlan ops true bars n listed p = true → wpAnyE P .any ops (postOf w₀ Fr Q) (fun i => bars.contains i) (fun w' => relH ro w.heap w'.heap) n listed a w) ∧
      (∀ m n', n = n' + 1 → okPlan ops false bars n listed p = true → m ∈ headsP p → m ∈ Region.ready .any ops listed →
        wpOp P ops (postOf w₀ Fr Q) m (fun a' w' => (bars.contains m = true → wpAny P .any ops (postOf w₀ Fr Q) n' (listed.setIfInBounds m true) a' w') ∧
          (bars.contains m = false → relH ro w.heap w'.heap ∧ wpAnyE P .any ops (postOf w₀ Fr Q) (fun i => bars.contains i) (fun w' => relH ro w.heap w'.heap) n' (listed.setIfInBounds m true) a' w')) a w) := by
  have hsel := Region.noSelect_spec hs
  have hQ' : ∀ (d : Option Tmp) (v : Value) c a w, postOf w₀ Fr Q (.panic c) (a.put d v) w → postOf w₀ Fr Q (.panic c) a w := fun d v c a w h => ⟨h.1, hQp c a d v _ h.2⟩
  intro p
  induction p with
  | done =>
    intro n bars listed a w hcl hk hag H
    refine ⟨fun hok => ?_, fun m n' _ _ hm => by cases hm⟩
    have hr : Region.ready .any ops listed = [] := by
      have : (readyL ops listed).isEmpty = true := by cases n <;> exact hok
      simpa [readyL] using this
    cases n with
    | zero => exact ⟨hr, hk, hF a hag, H⟩
    | succ n => exact ⟨fun _ => ⟨hk, hF a hag, H⟩, by rw [hr]; simp⟩
  | take i p ih =>
    intro n bars listed a w hcl hk hag H
    refine ⟨fun hok => ?_, fun m n' _ _ hm => by cases hm⟩
    cases n with
    | zero => cases hok
    | succ n =>
      simp only [okPlan, Bool.and_eq_true] at hok
      obtain ⟨⟨_, ht⟩, hok⟩ := hok
      unfold okTake at ht
      cases ho : ops[i]? with
      | none => rw [ho] at ht; cases ht
      | some o =>
        rw [ho] at ht
        simp only [Bool.and_eq_true, Bool.not_eq_true', List.contains_eq_mem, decide_eq_true_eq, decide_eq_false_iff_not, Bool.or_eq_true] at ht
        obtain ⟨⟨⟨⟨hf, hr⟩, hfree⟩, hbi⟩, hload⟩ := ht
        obtain ⟨v, hv, hy, hyp⟩ := float_take hC ho hf H
        have hbi' : (fun i => bars.contains i) i = false := by simpa using hbi
        have hin : ∀ W, ops.toList.all (dstIn W) = true → agree W a₀ (a.put o.dst v) := fun W hW => (hag W hW).put (List.all_eq_true.1 hW o (by
          have := Array.mem_of_getElem? ho
          simpa using this)) v
        have hrec := (ih n bars (listed.setIfInBounds i true) (a.put o.dst v) w (hcl.set hr) hk hin hv).1 hok
        cases hl : isLoad o.op with
        | false =>
          refine wpAnyE_first (fun a' => Yields P ops o v a') ho (fun a' w' _ hy' K hK => hy'.wpOp ho hK)
            (fun j oj hj hap K a' w' hy' hh => wpOp_put hj hap (fun cs b => hsel i o cs b ho) (fun cs b => hsel j oj cs b hj) (hQ' o.dst v) hy' hh)
            (fun j listed' fuel a' w' _ _ _ hri hfr hy' hh => wpAny_first ho hsel (hQ' o.dst v) fuel _ a' w' hfr hri hy' hh)
            n listed a w hcl (Region.free_spec ho hfree) hr hbi' (hyp hl) (relH.refl ro _) hrec
        | true =>
          refine wpAnyE_first (fun a' => YieldsIf P ops (fun w' => relH ro w.heap w'.heap) o v a') ho (fun a' w' hS hy' K hK => hy'.wpOp ho hS hK)
            (fun j oj hj hap K a' w' hy' hh => wpOp_putIf hj hap (fun cs b => hsel i o cs b ho) (fun cs b => hsel j oj cs b hj) (hQ' o.dst v) hy' hh)
            (fun j listed' fuel a' w' hb hcl' hrj hri _ _ _ => by
              rcases hload with h | h
              · rw [hl] at h; cases h
              · have hd := depB_spec (List.all_eq_true.1 h j (by simpa using hb))
                have h1 := hcl'.ready hd hrj
                have h2 := (mem_ready.1 hri).1
                have hji : j ≠ i := fun e => by subst e; exact hbi (by simpa using hb)
                rw [getD_set_ne true hji] at h2
                rcases Nat.lt_or_ge i listed'.size with h' | h'
                · simp [h'] at h1 h2; rw [h1] at h2; cases h2
                · simp [Array.getElem?_eq_none h'] at h1)
            n listed a w hcl (Region.free_spec ho hfree) hr hbi' hy (relH.refl ro _) hrec
  | keep p ih =>
    intro n bars listed a w hcl hk hag H
    exact H.elim
  | go i p ih =>
    intro n bars listed a w hcl hk hag H
    have one : ∀ n', okPlan ops true bars n' (listed.setIfInBounds i true) p = true → bars.contains i = false → i ∈ Region.ready .any ops listed →
        wpOp P ops (postOf w₀ Fr Q) i (fun a' w' => (bars.contains i = true → wpAny P .any ops (postOf w₀ Fr Q) n' (listed.setIfInBounds i true) a' w') ∧
          (bars.contains i = false → relH ro w.heap w'.heap ∧ wpAnyE P .any ops (postOf w₀ Fr Q) (fun i => bars.contains i) (fun w' => relH ro w.heap w'.heap) n' (listed.setIfInBounds i true) a' w')) a w := fun n' hok hbi hr => by
      refine goD_wpOp hC hk H fun a' w' hk' hin he h => ⟨fun hb => (by rw [hbi] at hb; cases hb), fun _ => ⟨he, ?_⟩⟩
      exact wpAnyE_mono (fun w'' hw => he.trans hw) n' _ a' w' ((ih n' bars _ a' w' (hcl.set hr) hk' (fun W hW => (hag W hW).trans (hin W hW)) h).1 hok)
    refine ⟨fun hok => ?_, fun m n' hn hok hm hr => ?_⟩
    · cases n with
      | zero => cases hok
      | succ n =>
        simp only [okPlan, Bool.and_eq_true, Bool.or_eq_true, decide_eq_true_eq, Bool.not_eq_true'] at hok
        obtain ⟨⟨hr, hbi⟩, hok⟩ := hok
        have hr' : Region.ready .any ops listed = [i] := by
          rcases hr with h | h
          · cases h
          · exact h
        refine ⟨fun h => (by rw [hr'] at h; cases h), fun j hj => ?_⟩
        rw [hr'] at hj
        obtain rfl := List.mem_singleton.1 hj
        exact one n hok hbi (by rw [hr']; simp)
    · subst hn
      simp only [okPlan, Bool.and_eq_true, Bool.or_eq_true, decide_eq_true_eq, Bool.not_eq_true'] at hok
      obtain ⟨⟨_, hbi⟩, hok⟩ := hok
      obtain rfl : m = i := List.mem_singleton.1 hm
      exact one n' hok hbi hr
  | alt i p q ihp ihq =>
    intro n bars listed a w hcl hk hag H
    have one : ∀ n', okPlan ops true bars n' (listed.setIfInBounds i true) p = true → bars.contains i = false → i ∈ Region.ready .any ops listed →
        wpOp P ops (postOf w₀ Fr Q) i (fun a' w' => (bars.contains i = true → wpAny P .any ops (postOf w₀ Fr Q) n' (listed.setIfInBounds i true) a' w') ∧
          (bars.contains i = false → relH ro w.heap w'.heap ∧ wpAnyE P .any ops (postOf w₀ Fr Q) (fun i => bars.contains i) (fun w' => relH ro w.heap w'.heap) n' (listed.setIfInBounds i true) a' w')) a w := fun n' hok hbi hr => by
      refine goD_wpOp hC hk H.1 fun a' w' hk' hin he h => ⟨fun hb => (by rw [hbi] at hb; cases hb), fun _ => ⟨he, ?_⟩⟩
      exact wpAnyE_mono (fun w'' hw => he.trans hw) n' _ a' w' ((ihp n' bars _ a' w' (hcl.set hr) hk' (fun W hW => (hag W hW).trans (hin W hW)) h).1 hok)
    have both : ∀ m n', okPlan ops false bars (n' + 1) listed q = true → okPlan ops true bars n' (listed.setIfInBounds i true) p = true → bars.contains i = false → m ∈ i :: headsP q → m ∈ Region.ready .any ops listed →
        wpOp P ops (postOf w₀ Fr Q) m (fun a' w' => (bars.contains m = true → wpAny P .any ops (postOf w₀ Fr Q) n' (listed.setIfInBounds m true) a' w') ∧
          (bars.contains m = false → relH ro w.heap w'.heap ∧ wpAnyE P .any ops (postOf w₀ Fr Q) (fun i => bars.contains i) (fun w' => relH ro w.heap w'.heap) n' (listed.setIfInBounds m true) a' w')) a w := fun m n' hq hp hbi hm hr => by
      rcases List.mem_cons.1 hm with rfl | hm
      · exact one n' hp hbi hr
      · exact (ihq (n' + 1) bars listed a w hcl hk hag H.2).2 m n' rfl hq hm hr
    refine ⟨fun hok => ?_, fun m n' hn hok hm hr => ?_⟩
    · cases n with
      | zero => cases hok
      | succ n =>
        simp only [okPlan, Bool.and_eq_true, Bool.or_eq_true, decide_eq_true_eq, Bool.not_eq_true'] at hok
        obtain ⟨⟨⟨hr, hbi⟩, hok1⟩, hok2⟩ := hok
        have hr' : Region.ready .any ops listed = i :: headsP q := by
          rcases hr with h | h
          · cases h
          · exact h
        refine ⟨fun h => (by rw [hr'] at h; cases h), fun j hj => ?_⟩
        exact both j n hok2 hok1 hbi (by rw [hr'] at hj; exact hj) hj
    · subst hn
      simp only [okPlan, Bool.and_eq_true, Bool.or_eq_true, decide_eq_true_eq, Bool.not_eq_true'] at hok
      obtain ⟨⟨⟨_, hbi⟩, hok1⟩, hok2⟩ := hok
      exact both m n' hok2 hok1 hbi hm hr
  | bar i bars' p ih =>
    intro n bars listed a w hcl hk hag H
    refine ⟨fun hok => ?_, fun m n' _ _ hm => by cases hm⟩
    cases n with
    | zero => cases hok
    | succ n =>
      simp only [okPlan, Bool.and_eq_true, decide_eq_true_eq] at hok
      obtain ⟨⟨⟨_, hr⟩, hbi⟩, hok⟩ := hok
      have hr' : Region.ready .any ops listed = [i] := hr
      refine ⟨fun h => (by rw [hr'] at h; cases h), fun j hj => ?_⟩
      rw [hr'] at hj
      obtain rfl := List.mem_singleton.1 hj
      refine withD_wpOp hC hk H fun a' w' hk' hin h => ⟨fun _ => ?_, fun hb => (by have hb : bars.contains j = false := hb; rw [hbi] at hb; cases hb)⟩
      exact wpAny_of_E n _ a' w' ((ih n bars' _ a' w' (hcl.set (by rw [hr']; simp)) hk' (fun W hW => (hag W hW).trans (hin W hW)) h).1 hok)

end
end Go.Den
