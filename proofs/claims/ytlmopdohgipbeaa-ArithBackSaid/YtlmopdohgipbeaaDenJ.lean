/- DenJ: the condition of a whole body, with loops and joins, and the proof that it is enough. No program in sight. -/
import Derived.Test.YtlmopdohgipbeaaDenI
set_option linter.unusedVariables false
set_option linter.unusedSimpArgs false
namespace Go.Den

abbrev Slots := List (Nat × CT)

structure Hints where
  plan : Nat → Option (List Nat × Plan) := fun _ => none
  loop : Nat → Option (Slots × Nat) := fun _ => none
  join : Nat → Option (Slots × Nat) := fun _ => none

def headId : Code → Option Nat
  | .region id _ _ => some id
  | .seq a b => match headId a with
    | some i => some i
    | none => headId b
  | .cond _ a b => match headId a with
    | some i => some i
    | none => headId b
  | .block _ c => headId c
  | .loop c => headId c
  | .scope c => headId c
  | _ => none

def okW (W : Nat) : Code → Bool
  | .skip => true
  | .exit _ => true
  | .label _ => true
  | .goto _ => true
  | .ret => true
  | .region _ ops _ => ops.toList.all (dstIn W)
  | .seq a b => okW W a && okW W b
  | .cond _ a b => okW W a && okW W b
  | .block _ c => okW W c
  | .loop c => okW W c
  | .scope c => okW W c
  | _ => false

def kindB : IntKind → IntKind → Bool
  | .i8, .i8 => true | .i16, .i16 => true | .i32, .i32 => true | .i64, .i64 => true
  | .u8, .u8 => true | .u16, .u16 => true | .u32, .u32 => true | .u64, .u64 => true
  | _, _ => false
def typB : CT → Value → Bool
  | .int k, .int k' _ => kindB k k'
  | .bool, .bool _ => true
  | .ptr, .pointer _ => true
  | .slc, .slice _ _ _ => true
  | .str, .string _ => true
  | .any, _ => true
  | _, _ => false
def typBs : Slots → List Value → Bool
  | [], [] => true
  | (_, t) :: ts, v :: vs => match typB t v with
    | true => typBs ts vs
    | false => false
  | _, _ => false
def allC : CT → (Value → Prop) → Prop
  | .int k, p => ∀ x : Int, p (.int k x)
  | .bool, p => ∀ b : Bool, p (.bool b)
  | .ptr, p => ∀ q : Option Addr, p (.pointer q)
  | .slc, p => ∀ (q : Option Addr) (n c : Nat), p (.slice q n c)
  | .str, p => ∀ s : ByteArray, p (.string s)
  | .any, p => ∀ v : Value, p v
def allCs : Slots → (List Value → Prop) → Prop
  | [], p => p []
  | (_, t) :: ts, p => allC t fun v => allCs ts fun vs => p (v :: vs)

theorem allC_spec {t : CT} {p : Value → Prop} (h : allC t p) {v : Value} (hv : typB t v = true) : p v := by
  cases t <;> cases v <;> first
    | (cases hv; done)
    | exact h _
    | exact h _ _ _
    | (rename_i k k' x
       have : k = k' := by cases k <;> cases k' <;> first | rfl | cases hv
       subst this
       exact h _)
theorem allCs_spec : ∀ {S : Slots} {p : List Value → Prop}, allCs S p → ∀ {vs : List Value}, typBs S vs = true → p vs
  | [], p, h, [], _ => h
  | [], _, _, _ :: _, hv => by cases hv
  | _ :: _, _, _, [], hv => by cases hv
  | (i, t) :: S, p, h, v :: vs, hv => by
    unfold typBs at hv
    split at hv
    · rename_i ht
      exact allCs_spec (allC_spec h ht) hv
    · cases hv

def valsOf (S : Slots) (a : Act) : List Value := match S with
  | [] => []
  | (i, _) :: S => a.tmps.getD i undef :: valsOf S a
def lookS (i : Nat) : Slots → List Value → Option Value
  | (j, _) :: S, v :: vs => match Nat.beq j i with
    | true => some v
    | false => lookS i S vs
  | _, _ => none
def pickL (S : Slots) (vs : List Value) (W : Nat) (u : Nat → Value) (i : Nat) (v : Value) : Value := match lookS i S vs with
  | some x => x
  | none => match W.testBit i with
    | true => u i
    | false => v
def patchL (S : Slots) (vs : List Value) (W : Nat) (u : Nat → Value) : Nat → List Value → List Value
  | _, [] => []
  | i, v :: rest => pickL S vs W u i v :: patchL S vs W u (i + 1) rest
def patch (a : Act) (S : Slots) (vs : List Value) (W : Nat) (u : Nat → Value) : Act := { a with tmps := (patchL S vs W u 0 a.tmps.toList).toArray }

def headOK (S : Slots) (J : List Value → Heap → Prop) (a : Act) (h : Heap) : Prop := match typBs S (valsOf S a) with
  | true => J (valsOf S a) h
  | false => False
def loopQ (S : Slots) (J : Nat → List Value → Heap → Prop) (n : Nat) (Q : PostD) : PostD := fun e a h => match e with
  | .normal => ∃ m, m < n ∧ headOK S (J m) a h
  | e => Q e a h
def joinQ (S : Slots) (K : List Value → Heap → Prop) (Q : PostD) : PostD := fun e a h => match e with
  | .normal => headOK S K a h
  | e => Q e a h
def seqQ (next : Act → Heap → Prop) (Q : PostD) : PostD := fun e a h => match e with
  | .normal => next a h
  | e => Q e a h
def blockQ (id : Nat) (Q : PostD) : PostD := fun e a h => match e with
  | .exit id' => (match Nat.beq id' id with
    | true => Q .normal a h
    | false => Q (.exit id') a h)
  | e => Q e a h
def noGotoQ (Q : PostD) : PostD := fun e a h => match e with
  | .goto _ => False
  | e => Q e a h
def inS (W : Nat) : Slots → Bool
  | [] => true
  | (i, _) :: S => match W.testBit i with
    | true => inS W S
    | false => false
def loopD (S : Slots) (W : Nat) (D : PostD → Act → Heap → Prop) (Q : PostD) (a : Act) (h : Heap) : Prop :=
  ∃ J : Nat → List Value → Heap → Prop, (∃ n, headOK S (J n) a h) ∧ ∀ (n : Nat) (h' : Heap) (u : Nat → Value), allCs S fun vs => J n vs h' → D (loopQ S J n Q) (patch a S vs W u) h'
def joinD (S : Slots) (W : Nat) (D D' : PostD → Act → Heap → Prop) (Q : PostD) (a : Act) (h : Heap) : Prop :=
  ∃ K : List Value → Heap → Prop, D (joinQ S K Q) a h ∧ ∀ (h' : Heap) (u : Nat → Value), allCs S fun vs => K vs h' → D' Q (patch a S vs W u) h'

def hintAt (f : Nat → Option (Slots × Nat)) (c : Code) : Option (Slots × Nat) := match headId c with
  | some i => f i
  | none => none

def den (P : Program) (C : CallP) (H : Hints) : Code → PostD → Act → Heap → Prop
  | .skip, Q, a, h => Q .normal a h
  | .region id ops draw, Q, a, h => (match draw with
    | false => seqD P C Q ops ops.toList a h fun a' h' => Q .normal a' h'
    | true => (match H.plan id with
      | some (bars, p) => (match checkPlan ops bars (stripK p) with
        | true => keepD (fun ro p => planD P C Q ops ro p a h fun a' h' => Q .normal a' h') p
        | false => False)
      | none => False))
  | .seq x y, Q, a, h => (match hintAt H.join y with
    | none => den P C H x (seqQ (fun a' h' => den P C H y Q a' h') Q) a h
    | some (S, W) => (match okW W x && inS W S with
      | true => joinD S W (fun Q' a' h' => den P C H x Q' a' h') (fun Q' a' h' => den P C H y Q' a' h') Q a h
      | false => False))
  | .cond c x y, Q, a, h => (match a.eval c with
    | .bool b => bcase b (den P C H x Q a h) (den P C H y Q a h)
    | _ => False)
  | .block id c, Q, a, h => den P C H c (blockQ id Q) a h
  | .loop c, Q, a, h => (match hintAt H.loop c with
    | none => False
    | some (S, W) => (match okW W c && inS W S with
      | true => loopD S W (fun Q' a' h' => den P C H c Q' a' h') Q a h
      | false => False))
  | .exit id, Q, a, h => Q (.exit id) a h
  | .scope c, Q, a, h => den P C H c (noGotoQ Q) a h
  | .label _, Q, a, h => Q .normal a h
  | .goto l, Q, a, h => Q (.goto l) a h
  | .ret, Q, a, h => Q .ret a h
  | .rangeFunc _ _ _ _, _, _, _ => False
  | .refuse _, _, _, _ => False

/-! ### soundness -/
section
variable {P : Program} {C : CallP} {H : Hints}

theorem inS_spec {W : Nat} : ∀ {S : Slots}, inS W S = true → ∀ s ∈ S, W.testBit s.1 = true
  | [], _, s, hs => by cases hs
  | (i, t) :: S, h, s, hs => by
    unfold inS at h
    split at h
    · rename_i hi
      rcases List.mem_cons.1 hs with rfl | hs
      · exact hi
      · exact inS_spec h s hs
    · cases h

theorem lookS_mem {i : Nat} {x : Value} : ∀ {S : Slots} {vs : List Value}, lookS i S vs = some x → ∃ t, (i, t) ∈ S
  | [], _, h => by cases h
  | _ :: _, [], h => by cases h
  | (j, t) :: S, v :: vs, h => by
    unfold lookS at h
    split at h
    · rename_i hb
      have := Nat.eq_of_beq_eq_true hb
      exact ⟨t, by simp [this]⟩
    · obtain ⟨t', ht⟩ := lookS_mem h
      exact ⟨t', by simp [ht]⟩
theorem lookS_vals {a : Act} {i : Nat} {x : Value} : ∀ {S : Slots}, lookS i S (valsOf S a) = some x → x = a.tmps.getD i undef
  | [], h => by cases h
  | (j, t) :: S, h => by
    unfold valsOf lookS at h
    split at h
    · rename_i hb
      have := Nat.eq_of_beq_eq_true hb
      subst this
      exact (Option.some.inj h).symm
    · exact lookS_vals h

theorem patchL_get (S : Slots) (vs : List Value) (W : Nat) (u : Nat → Value) : ∀ (l : List Value) (k i : Nat), (patchL S vs W u k l)[i]? = (l[i]?).map (pickL S vs W u (k + i))
  | [], k, i => by simp [patchL]
  | v :: l, k, 0 => by simp [patchL]
  | v :: l, k, i + 1 => by
    simp only [patchL, List.getElem?_cons_succ]
    rw [patchL_get S vs W u l (k + 1) i]
    congr 2
    omega
theorem patch_get (a : Act) (S : Slots) (vs : List Value) (W : Nat) (u : Nat → Value) (i : Nat) : (patch a S vs W u).tmps[i]? = (a.tmps[i]?).map (pickL S vs W u i) := by
  unfold patch
  simp only [List.getElem?_toArray]
  rw [patchL_get]
  simp
theorem patch_size (a : Act) (S : Slots) (vs : List Value) (W : Nat) (u : Nat → Value) : (patch a S vs W u).tmps.size = a.tmps.size := by
  have : ∀ (l : List Value) (k : Nat), (patchL S vs W u k l).length = l.length := by
    intro l
    induction l with
    | nil => intro k; rfl
    | cons v l ih => intro k; simp [patchL, ih]
  simp [patch, this]

theorem agree_patch {a : Act} {S : Slots} {W : Nat} (hS : inS W S = true) (vs : List Value) (u : Nat → Value) : agree W a (patch a S vs W u) := by
  refine ⟨rfl, patch_size _ _ _ _ _, fun i hi => ?_⟩
  rw [patch_get]
  cases a.tmps[i]? with
  | none => rfl
  | some v =>
    simp only [Option.map_some, Option.some.injEq]
    unfold pickL
    cases hl : lookS i S vs with
    | none => simp only [hi]
    | some x =>
      obtain ⟨t, ht⟩ := lookS_mem hl
      have := inS_spec hS _ ht
      rw [hi] at this
      cases this

theorem patch_self {a a' : Act} {S : Slots} {W : Nat} (h : agree W a a') : a' = patch a S (valsOf S a') W (fun i => a'.tmps.getD i undef) := by
  have ht : a'.tmps = (patch a S (valsOf S a') W (fun i => a'.tmps.getD i undef)).tmps := by
    apply Array.ext_getElem?
    intro i
    rw [patch_get]
    cases hv : a.tmps[i]? with
    | none =>
      have : a.tmps.size ≤ i := Array.getElem?_eq_none_iff.1 hv
      simp only [Option.map_none]
      exact Array.getElem?_eq_none (by rw [h.2.1]; exact this)
    | some v =>
      have hlt : i < a'.tmps.size := by rw [h.2.1]; exact (Array.getElem?_eq_some_iff.1 hv).1
      simp only [Option.map_some]
      unfold pickL
      cases hl : lookS i S (valsOf S a') with
      | some x =>
        have := lookS_vals hl
        simp [hlt, this]
      | none =>
        cases hw : W.testBit i with
        | true => simp [hlt]
        | false =>
          have := h.2.2 i hw
          rw [this, hv]
  cases a' with
  | mk t d =>
    simp only at ht
    unfold patch at ht ⊢
    simp only [Act.mk.injEq]
    exact ⟨ht, h.1⟩

theorem headOK_spec {S : Slots} {J : List Value → Heap → Prop} {a : Act} {h : Heap} (hh : headOK S J a h) : typBs S (valsOf S a) = true ∧ J (valsOf S a) h := by
  unfold headOK at hh
  split at hh
  · rename_i ht; exact ⟨ht, hh⟩
  · exact hh.elim

theorem least {p : Nat → Prop} (h : ∃ n, p n) : ∃ n, p n ∧ ∀ m, p m → n ≤ m := by
  obtain ⟨n, hn⟩ := h
  induction n using Nat.strongRecOn with
  | _ n ih =>
    by_cases hm : ∃ m, m < n ∧ p m
    · obtain ⟨m, hlt, hp⟩ := hm
      exact ih m hlt hp
    · exact ⟨n, hn, fun m hp => Nat.le_of_not_lt fun hlt => hm ⟨m, hlt, hp⟩⟩

theorem wp_loop_ex {c : Code} {Q : Exit → Act → World → Prop} {a : Act} {w : World} (I : Nat → Act → World → Prop) (h₀ : ∃ n, I n a w)
    (round : ∀ n a w, I n a w → c.wp P (Exit.then (fun a' w' => ∃ m, m < n ∧ I m a' w') Q) a w) : (Code.loop c).wp P Q a w := by
  classical
  let μ : Act → World → Nat := fun a w => if h : ∃ n, I n a w then Classical.choose (least h) else 0
  refine wp_loop (fun a w => ∃ n, I n a w) μ h₀ fun a w hI => ?_
  have hs := Classical.choose_spec (least hI)
  refine wp_mono (round _ a w hs.1) fun e a' w' h => ?_
  cases e with
  | normal =>
    obtain ⟨m, hlt, hm⟩ := h
    refine ⟨⟨m, hm⟩, ?_⟩
    have h1 : μ a' w' = Classical.choose (least ⟨m, hm⟩) := dif_pos ⟨m, hm⟩
    have h2 : μ a w = Classical.choose (least hI) := dif_pos hI
    rw [h1, h2]
    exact Nat.lt_of_le_of_lt ((Classical.choose_spec (least ⟨m, hm⟩)).2 m hm) hlt
  | _ => exact h

def frC (c : Code) (a a' : Act) : Prop := ∀ W, okW W c = true → agree W a a'
def postC (w₀ : World) (c : Code) (a : Act) (Q : PostD) : Exit → Act → World → Prop := postOf w₀ (frC c a) Q

theorem PanicOK.seqQ {Q : PostD} (h : PanicOK Q) (next : Act → Heap → Prop) : PanicOK (seqQ next Q) := fun c a d v hp hh => h c a d v hp hh
theorem PanicOK.loopQ {Q : PostD} (h : PanicOK Q) (S : Slots) (J : Nat → List Value → Heap → Prop) (n : Nat) : PanicOK (loopQ S J n Q) := fun c a d v hp hh => h c a d v hp hh
theorem PanicOK.joinQ {Q : PostD} (h : PanicOK Q) (S : Slots) (K : List Value → Heap → Prop) : PanicOK (joinQ S K Q) := fun c a d v hp hh => h c a d v hp hh
theorem PanicOK.blockQ {Q : PostD} (h : PanicOK Q) (id : Nat) : PanicOK (blockQ id Q) := fun c a d v hp hh => h c a d v hp hh
theorem PanicOK.noGotoQ {Q : PostD} (h : PanicOK Q) : PanicOK (noGotoQ Q) := fun c a d v hp hh => h c a d v hp hh

theorem den_sound (hC : CallOK P C) (hm : P.follows .mixedOrders = true) (w₀ : World) : ∀ (c : Code) (Q : PostD) (a : Act) (w : World), keeps w₀ w → PanicOK Q → den P C H c Q a w.heap →
    c.wp P (postC w₀ c a Q) a w := by
  intro c
  induction c with
  | skip => intro Q a w hk hp h; exact wp_skip ⟨hk, fun W _ => agree.refl W a, h⟩
  | region id ops draw =>
    intro Q a w hk hp h
    cases draw with
    | false => exact wp_region_list (seqD_sound hC w₀ _ ops.toList a w _ hk h (fun _ _ _ _ h => h) (fun a' hf W hW => hf W hW))
    | true =>
      simp only [den] at h
      split at h
      · rename_i bars p hpl
        split at h
        · rename_i hc
          simp only [checkPlan, noSel, Bool.and_eq_true] at hc
          refine wp_region_any hm ?_
          obtain ⟨ro, h⟩ := keepD_spec h
          exact wpAny_of_E _ _ _ _ ((planD_sound ro hC hp w₀ a _ hc.1 (fun a' hf W hW => hf W hW) (stripK p) _ bars _ a { w with drawn := w.drawn + 1 } (ClosedL.start _) ⟨hk.1, hk.2.1, hk.2.2⟩ (fun W _ => agree.refl W a) h).1 hc.2)
        · exact h.elim
      · exact h.elim
  | seq x y ihx ihy =>
    intro Q a w hk hp h
    have hseq : ∀ a1 w1, frC x a a1 → keeps w₀ w1 → den P C H y Q a1 w1.heap → y.wp P (postC w₀ (.seq x y) a Q) a1 w1 := fun a1 w1 hf hk1 h1 => by
      refine wp_mono (ihy Q a1 w1 hk1 hp h1) fun e a' w' h2 => ?_
      have hfr : frC y a1 a' → frC (.seq x y) a a' := fun hf2 W hW => by
        simp only [okW, Bool.and_eq_true] at hW
        exact (hf W hW.1).trans (hf2 W hW.2)
      cases e <;> first | exact h2 | exact ⟨h2.1, hfr h2.2.1, h2.2.2⟩
    have hfx : ∀ a', frC x a a' → frC (.seq x y) a a' := fun a' hf W hW => by
      simp only [okW, Bool.and_eq_true] at hW
      exact hf W hW.1
    simp only [den] at h
    split at h
    · refine wp_seq (wp_mono (ihx _ a w hk (hp.seqQ _) h) fun e a1 w1 h1 => ?_)
      cases e with
      | normal => exact hseq a1 w1 h1.2.1 h1.1 h1.2.2
      | panic c => exact h1
      | outgrown => exact h1
      | exit id => exact ⟨h1.1, hfx _ h1.2.1, h1.2.2⟩
      | goto l => exact ⟨h1.1, hfx _ h1.2.1, h1.2.2⟩
      | ret => exact ⟨h1.1, hfx _ h1.2.1, h1.2.2⟩
    · rename_i S W hj
      split at h
      · rename_i hok
        simp only [Bool.and_eq_true] at hok
        obtain ⟨K, h1, h2⟩ := h
        refine wp_seq (wp_mono (ihx _ a w hk (hp.joinQ S K) h1) fun e a1 w1 h1 => ?_)
        cases e with
        | normal =>
          obtain ⟨ht, hK⟩ := headOK_spec h1.2.2
          have h3 := allCs_spec (h2 w1.heap (fun i => a1.tmps.getD i undef)) ht hK
          rw [← patch_self (h1.2.1 W hok.1)] at h3
          exact hseq a1 w1 h1.2.1 h1.1 h3
        | panic c => exact h1
        | outgrown => exact h1
        | exit id => exact ⟨h1.1, hfx _ h1.2.1, h1.2.2⟩
        | goto l => exact ⟨h1.1, hfx _ h1.2.1, h1.2.2⟩
        | ret => exact ⟨h1.1, hfx _ h1.2.1, h1.2.2⟩
      · exact h.elim
  | cond c x y ihx ihy =>
    intro Q a w hk hp h
    simp only [den] at h
    split at h
    · rename_i b hb
      unfold bcase at h
      cases b with
      | true =>
        refine wp_cond_true hb (wp_mono (ihx Q a w hk hp h) fun e a' w' h2 => ?_)
        have hfr : frC x a a' → frC (.cond c x y) a a' := fun hf W hW => by
          simp only [okW, Bool.and_eq_true] at hW
          exact hf W hW.1
        cases e <;> first | exact h2 | exact ⟨h2.1, hfr h2.2.1, h2.2.2⟩
      | false =>
        refine wp_cond_false hb (wp_mono (ihy Q a w hk hp h) fun e a' w' h2 => ?_)
        have hfr : frC y a a' → frC (.cond c x y) a a' := fun hf W hW => by
          simp only [okW, Bool.and_eq_true] at hW
          exact hf W hW.2
        cases e <;> first | exact h2 | exact ⟨h2.1, hfr h2.2.1, h2.2.2⟩
    · exact h.elim
  | block id c ih =>
    intro Q a w hk hp h
    refine wp_block (wp_mono (ih _ a w hk (hp.blockQ id) h) fun e a' w' h2 => ?_)
    cases e with
    | exit id' =>
      obtain ⟨h1, h3, h4⟩ := h2
      simp only [blockQ] at h4
      simp only [Exit.inBlock]
      split at h4
      · rename_i hb
        rw [if_pos (Nat.eq_of_beq_eq_true hb)]
        exact ⟨h1, h3, h4⟩
      · rename_i hb
        rw [if_neg (fun e => by subst e; rw [Nat.beq_refl] at hb; cases hb)]
        exact ⟨h1, h3, h4⟩
    | normal => exact h2
    | goto l => exact h2
    | ret => exact h2
    | panic c => exact h2
    | outgrown => exact h2
  | loop c ih =>
    intro Q a w hk hp h
    simp only [den] at h
    split at h
    · exact h.elim
    · rename_i S W hj
      split at h
      · rename_i hok
        simp only [Bool.and_eq_true] at hok
        obtain ⟨J, ⟨n, h0⟩, hround⟩ := h
        obtain ⟨ht, hJ⟩ := headOK_spec h0
        refine wp_loop_ex (fun n a' w' => keeps w₀ w' ∧ frC c a a' ∧ ∃ vs u, typBs S vs = true ∧ a' = patch a S vs W u ∧ J n vs w'.heap)
          ⟨n, hk, fun W' _ => agree.refl W' a, valsOf S a, (fun i => a.tmps.getD i undef), ht, patch_self (agree.refl W a), hJ⟩ ?_
        rintro n a' w' ⟨hk', hf', vs, u, htv, rfl, hJn⟩
        have h1 := allCs_spec (hround n w'.heap u) htv hJn
        refine wp_mono (ih _ _ w' hk' (hp.loopQ S J n) h1) fun e a'' w'' h2 => ?_
        have hfr : frC c (patch a S vs W u) a'' → frC c a a'' := fun hf2 W' hW => (hf' W' hW).trans (hf2 W' hW)
        cases e with
        | normal =>
          obtain ⟨h3, h4, m, hlt, h5⟩ := h2
          obtain ⟨ht2, hJ2⟩ := headOK_spec h5
          exact ⟨m, hlt, h3, hfr h4, valsOf S a'', (fun i => a''.tmps.getD i undef), ht2, patch_self (hfr h4 W hok.1), hJ2⟩
        | panic c => exact h2
        | outgrown => exact h2
        | exit id => exact ⟨h2.1, hfr h2.2.1, h2.2.2⟩
        | goto l => exact ⟨h2.1, hfr h2.2.1, h2.2.2⟩
        | ret => exact ⟨h2.1, hfr h2.2.1, h2.2.2⟩
      · exact h.elim
  | rangeFunc f ps x y => intro Q a w hk hp h; exact h.elim
  | exit id => intro Q a w hk hp h; exact wp_exit ⟨hk, fun W _ => agree.refl W a, h⟩
  | scope c ih =>
    intro Q a w hk hp h
    refine wp_scope_straight (wp_mono (ih _ a w hk hp.noGotoQ h) fun e a' w' h2 => ?_)
    cases e with
    | goto l => exact h2.2.2.elim
    | normal => exact h2
    | exit id => exact h2
    | ret => exact h2
    | panic c => exact h2
    | outgrown => exact h2
  | label l => intro Q a w hk hp h; exact wp_label ⟨hk, fun W _ => agree.refl W a, h⟩
  | goto l => intro Q a w hk hp h; exact wp_goto ⟨hk, fun W _ => agree.refl W a, h⟩
  | ret => intro Q a w hk hp h; exact wp_ret ⟨hk, fun W _ => agree.refl W a, h⟩
  | refuse why => intro Q a w hk hp h; exact h.elim

end
end Go.Den
