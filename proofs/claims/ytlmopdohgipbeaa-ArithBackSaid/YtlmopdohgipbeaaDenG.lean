/- DenG: what an operation that only looks yields does not hang on what is made beside it; operations that only make memory leave the old memory as it is. No program in sight. -/
import Derived.Test.YtlmopdohgipbeaaDenF
set_option linter.unusedVariables false
set_option linter.unusedSimpArgs false
namespace Go.Den

/-- The heap has grown, all that was there is as it was. -/
def hext (h h' : Heap) : Prop := h.size ≤ h'.size ∧ ∀ b, b < h.size → h'[b]? = h[b]?
theorem hext.refl (h : Heap) : hext h h := ⟨Nat.le_refl _, fun _ _ => rfl⟩
theorem hext.trans {a b c : Heap} (h : hext a b) (k : hext b c) : hext a c :=
  ⟨Nat.le_trans h.1 k.1, fun i hi => (k.2 i (Nat.lt_of_lt_of_le hi h.1)).trans (h.2 i hi)⟩
theorem hext.push (h : Heap) (o : Obj) : hext h (h.push o) := ⟨by simp, fun b hb => by rw [Array.getElem?_push_lt hb]; simp [hb]⟩
theorem hext.cell {h h' : Heap} (e : hext h h') {a : Addr} {v : Value} (hc : hcell h a = some v) : hcell h' a = some v := by
  have hlt : a.block < h.size := by
    rcases Nat.lt_or_ge a.block h.size with hlt | hge
    · exact hlt
    · simp [hcell, Array.getElem?_eq_none hge] at hc
  unfold hcell at hc ⊢
  rw [e.2 _ hlt]
  exact hc

/-- The heap has grown, the rows that 'R' names are as they were. -/
def hkeep (R : Nat → Prop) (h h' : Heap) : Prop := h.size ≤ h'.size ∧ ∀ b, b < h.size → R b → h'[b]? = h[b]?
theorem hkeep.refl (R : Nat → Prop) (h : Heap) : hkeep R h h := ⟨Nat.le_refl _, fun _ _ _ => rfl⟩
theorem hkeep.trans {R : Nat → Prop} {a b c : Heap} (h : hkeep R a b) (k : hkeep R b c) : hkeep R a c :=
  ⟨Nat.le_trans h.1 k.1, fun i hi hr => (k.2 i (Nat.lt_of_lt_of_le hi h.1) hr).trans (h.2 i hi hr)⟩
theorem hext.keep {h h' : Heap} (e : hext h h') (R : Nat → Prop) : hkeep R h h' := ⟨e.1, fun b hb _ => e.2 b hb⟩
theorem hkeep.ext {h h' : Heap} (e : hkeep (fun _ => True) h h') : hext h h' := ⟨e.1, fun b hb => e.2 b hb trivial⟩
theorem hkeep.cell {R : Nat → Prop} {h h' : Heap} (e : hkeep R h h') {a : Addr} (ha : R a.block) {v : Value} (hc : hcell h a = some v) : hcell h' a = some v := by
  have hlt : a.block < h.size := by
    rcases Nat.lt_or_ge a.block h.size with hlt | hge
    · exact hlt
    · simp [hcell, Array.getElem?_eq_none hge] at hc
  unfold hcell at hc ⊢
  rw [e.2 _ hlt ha]
  exact hc
theorem add_blockG (a : Addr) (n : Nat) : (a.add n).block = a.block := by
  unfold Addr.add; split <;> rfl
/-- Which rows a load looks at. -/
def blkOK (R : Nat → Prop) (ρ : Operand → Value) (o : Op) : Prop := match o with
  | .load _ x => (match ρ x with
    | .pointer (some a) => R a.block
    | _ => True)
  | _ => True

section
variable {P : Program}

theorem needs_det {p : Prop} [Decidable p] {v : Value} {K : Value → Prop} (H : needs p (K v)) : ∃ v, K v ∧ ∀ K' : Value → Prop, K' v → needs p (K' v) :=
  ⟨v, (needs_iff.1 H).2, fun _ hk => needs_of (needs_iff.1 H).1 hk⟩
theorem intD_det {op : BinOp} {k k' : IntKind} {x y : Int} {K : Value → Prop} (H : intD op k x k' y K) : ∃ v, K v ∧ ∀ K' : Value → Prop, K' v → intD op k x k' y K' := by
  cases op <;> exact ⟨_, (needs_iff.1 H).2, fun _ hk => needs_of (needs_iff.1 H).1 hk⟩
theorem eqD_det {op : BinOp} {r : Bool} {K : Value → Prop} (H : eqD op r K) : ∃ v, K v ∧ ∀ K' : Value → Prop, K' v → eqD op r K' := by
  cases op <;> first | exact ⟨_, H, fun _ hk => hk⟩ | exact H.elim
theorem whenB_det {b : Bool} {D : (Value → Prop) → Prop} {K : Value → Prop} (hd : ∀ {K}, D K → ∃ v, K v ∧ ∀ K' : Value → Prop, K' v → D K') (H : whenB b (D K)) :
    ∃ v, K v ∧ ∀ K' : Value → Prop, K' v → whenB b (D K') := by
  obtain ⟨hb, H⟩ := whenB_iff.1 H
  obtain ⟨v, hv, h⟩ := hd H
  exact ⟨v, hv, fun K' hk => whenB_iff.2 ⟨hb, h K' hk⟩⟩
theorem binD_det {op : BinOp} {t : TypeId} {x y : Value} {K : Value → Prop} (H : binD P op t x y K) : ∃ v, K v ∧ ∀ K' : Value → Prop, K' v → binD P op t x y K' := by
  unfold binD at H
  split at H
  · exact intD_det H
  · exact whenB_det (D := eqD op _) eqD_det H
  · exact whenB_det (D := eqD op _) eqD_det H
  · exact whenB_det (D := eqD op _) eqD_det H
  · exact H.elim
theorem unD_det {op : UnOp} {x : Value} {K : Value → Prop} (H : unD op x K) : ∃ v, K v ∧ ∀ K' : Value → Prop, K' v → unD op x K' := by
  unfold unD at H
  split at H
  · exact ⟨_, H, fun _ hk => hk⟩
  · exact ⟨_, H, fun _ hk => hk⟩
  · exact ⟨_, H, fun _ hk => hk⟩
  · exact H.elim
theorem convD_det {src dst : TypeId} {x : Value} {K : Value → Prop} (H : convD P dst src x K) : ∃ v, K v ∧ ∀ K' : Value → Prop, K' v → convD P dst src x K' := by
  unfold convD at H
  split at H
  · rename_i d k k' n h1 h2
    exact ⟨_, H, fun _ hk => by unfold convD; rw [h1, h2]; exact hk⟩
  · exact H.elim
theorem nilD_det {x : Value} {K : Value → Prop} (H : nilD x K) : ∃ v, K v ∧ ∀ K' : Value → Prop, K' v → nilD x K' := by
  unfold nilD at H
  split at H
  · obtain ⟨a, rfl, H⟩ := ptr_some H
    exact ⟨_, H, fun _ hk => hk⟩
  · exact ⟨_, H, fun _ hk => hk⟩
  · exact ⟨_, H, fun _ hk => hk⟩
  · exact H.elim
theorem fieldAddrD_det {s : TypeId} {x : Value} {f : Nat} {K : Value → Prop} (H : fieldAddrD P s x f K) : ∃ v, K v ∧ ∀ K' : Value → Prop, K' v → fieldAddrD P s x f K' := by
  unfold fieldAddrD at H
  split at H
  · rename_i fs a hu
    split at H
    · rename_i fd hf
      split at H
      · rename_i n hn
        exact ⟨_, H, fun _ hk => by unfold fieldAddrD; rw [hu]; simp only [hf, hn]; exact hk⟩
      · exact H.elim
    · exact H.elim
  · exact H.elim
theorem partD_det {t : TypeId} {cs : List Value} {off : Nat} {K : Value → Prop} (H : partD P t cs off K) : ∃ v, K v ∧ ∀ K' : Value → Prop, K' v → partD P t cs off K' := by
  unfold partD at H
  split at H
  · exact H.elim
  rename_i d hd
  split at H
  · rename_i n h1 h2
    exact ⟨_, H, fun _ hk => by unfold partD; rw [hd, h1, h2]; exact hk⟩
  · rename_i n h1 h2
    split at H
    · rename_i v hv
      exact ⟨_, H, fun _ hk => by unfold partD; rw [hd, h1, h2]; simp only [hv]; exact hk⟩
    · exact H.elim
  · exact H.elim
theorem fieldD_det {t : TypeId} {x : Value} {f : Nat} {K : Value → Prop} (H : fieldD P t x f K) : ∃ v, K v ∧ ∀ K' : Value → Prop, K' v → fieldD P t x f K' := by
  unfold fieldD at H
  split at H
  · rename_i fs cs hu
    split at H
    · rename_i fd hf
      obtain ⟨v, hv, hd⟩ := partD_det H
      exact ⟨v, hv, fun K' hk => by unfold fieldD; rw [hu]; simp only [hf]; exact hd K' hk⟩
    · exact H.elim
  · exact H.elim
theorem indexAddrD_det {t : TypeId} {x i : Value} {K : Value → Prop} (H : indexAddrD P t x i K) : ∃ v, K v ∧ ∀ K' : Value → Prop, K' v → indexAddrD P t x i K' := by
  unfold indexAddrD at H
  split at H
  · rename_i e b n c k j hu
    split at H
    · rename_i sz hsz
      obtain ⟨hj, H⟩ := needs_iff.1 H
      obtain ⟨a, rfl, H⟩ := ptr_some H
      exact ⟨_, H, fun _ hk => by unfold indexAddrD; rw [hu]; simp only [hsz]; exact needs_of hj hk⟩
    · exact H.elim
  · rename_i n e a k j hu
    split at H
    · rename_i sz hsz
      exact ⟨_, (needs_iff.1 H).2, fun _ hk => by unfold indexAddrD; rw [hu]; simp only [hsz]; exact needs_of (needs_iff.1 H).1 hk⟩
    · exact H.elim
  · exact H.elim
theorem bndD_det {x : Value} {y : Nat} {K : Nat → Prop} (H : bndD x y K) : ∃ n, K n ∧ ∀ K' : Nat → Prop, K' n → bndD x y K' := by
  unfold bndD at H
  split at H
  · exact ⟨_, (needs_iff.1 H).2, fun _ hk => needs_of (needs_iff.1 H).1 hk⟩
  · exact H.elim
theorem optD_det {x : Option Value} {d y : Nat} {K : Nat → Prop} (H : optD x d y K) : ∃ n, K n ∧ ∀ K' : Nat → Prop, K' n → optD x d y K' := by
  cases x with
  | none => exact ⟨_, H, fun _ hk => hk⟩
  | some v => exact bndD_det H
theorem slcD_det {t : TypeId} {x : Value} {lo hi mx : Option Value} {K : Value → Prop} (H : slcD P t x lo hi mx K) : ∃ v, K v ∧ ∀ K' : Value → Prop, K' v → slcD P t x lo hi mx K' := by
  unfold slcD at H
  split at H
  · rename_i e q len cap hu
    split at H
    · rename_i sz hsz
      split at H
      · exact H.elim
      · rename_i hb
        obtain ⟨m, H, hm⟩ := optD_det H
        obtain ⟨k, H, hk⟩ := optD_det H
        obtain ⟨l, H, hl⟩ := optD_det H
        exact ⟨_, H, fun _ hv => by unfold slcD; rw [hu]; simp only [hsz, hb]; exact hm _ (hk _ (hl _ hv))⟩
    · exact H.elim
  · rename_i s hu
    split at H
    · obtain ⟨k, H, hk⟩ := optD_det H
      obtain ⟨l, H, hl⟩ := optD_det H
      exact ⟨_, H, fun _ hv => by unfold slcD; rw [hu]; exact hk _ (hl _ hv)⟩
    · exact H.elim
  · exact H.elim
theorem fillD_det : ∀ {l : List (Nat × Nat × Value)} {cs : List Value} {K : List Value → Prop}, fillD l cs K → ∃ v, K v ∧ ∀ K' : List Value → Prop, K' v → fillD l cs K'
  | [], cs, K, H => ⟨cs, H, fun _ hk => hk⟩
  | (off, size, v) :: l, cs, K, H => by
    obtain ⟨hp, H⟩ := needs_iff.1 H
    obtain ⟨v, hv, hd⟩ := fillD_det H
    exact ⟨v, hv, fun K' hk => needs_of hp (hd K' hk)⟩
theorem buildD_det {t : TypeId} {parts : List (Nat × Value)} {K : Value → Prop} (H : buildD P t parts K) : ∃ v, K v ∧ ∀ K' : Value → Prop, K' v → buildD P t parts K' := by
  unfold buildD at H
  split at H
  · rename_i fs z hu hz
    split at H
    · rename_i l h1 h2
      obtain ⟨v, hv, hd⟩ := fillD_det H
      exact ⟨_, hv, fun K' hk => by unfold buildD; rw [hu, hz]; simp only [h1, h2]; exact hd _ hk⟩
    · exact H.elim
  · rename_i m e z hu hz
    split at H
    · rename_i n hn
      obtain ⟨v, hv, hd⟩ := fillD_det H
      exact ⟨_, hv, fun K' hk => by unfold buildD; rw [hu, hz]; simp only [hn]; exact hd _ hk⟩
    · exact H.elim
  · exact H.elim
theorem lenD_det {t : TypeId} {x : Value} {K : Value → Prop} (H : lenD P t x K) : ∃ v, K v ∧ ∀ K' : Value → Prop, K' v → lenD P t x K' := by
  unfold lenD at H
  split at H
  · rename_i hu; exact ⟨_, H, fun _ hk => by unfold lenD; rw [hu]; exact hk⟩
  · rename_i hu; exact ⟨_, H, fun _ hk => by unfold lenD; rw [hu]; exact hk⟩
  · rename_i hu; exact ⟨_, H, fun _ hk => by unfold lenD; rw [hu]; exact hk⟩
  · exact H.elim
theorem capD_det {t : TypeId} {x : Value} {K : Value → Prop} (H : capD P t x K) : ∃ v, K v ∧ ∀ K' : Value → Prop, K' v → capD P t x K' := by
  unfold capD at H
  split at H
  · rename_i hu; exact ⟨_, H, fun _ hk => by unfold capD; rw [hu]; exact hk⟩
  · exact H.elim
theorem minsD_det {k : IntKind} : ∀ {l : List Value} {x : Int} {K : Value → Prop}, minsD k x l K → ∃ v, K v ∧ ∀ K' : Value → Prop, K' v → minsD k x l K'
  | [], x, K, H => ⟨_, H, fun _ hk => hk⟩
  | .int k' y :: rest, x, K, H => minsD_det (l := rest) H
  | .bool _ :: _, _, _, H | .float _ _ :: _, _, _, H | .complex _ _ _ :: _, _, _, H | .string _ :: _, _, _, H | .pointer _ :: _, _, _, H | .slice _ _ _ :: _, _, _, H | .map _ :: _, _, _, H | .chan _ :: _, _, _, H
  | .func _ _ _ :: _, _, _, H | .nilFunc :: _, _, _, H | .iface _ _ :: _, _, _, H | .nilIface :: _, _, _, H | .agg _ :: _, _, _, H | .tuple _ :: _, _, _, H => H.elim
theorem maxsD_det {k : IntKind} : ∀ {l : List Value} {x : Int} {K : Value → Prop}, maxsD k x l K → ∃ v, K v ∧ ∀ K' : Value → Prop, K' v → maxsD k x l K'
  | [], x, K, H => ⟨_, H, fun _ hk => hk⟩
  | .int k' y :: rest, x, K, H => maxsD_det (l := rest) H
  | .bool _ :: _, _, _, H | .float _ _ :: _, _, _, H | .complex _ _ _ :: _, _, _, H | .string _ :: _, _, _, H | .pointer _ :: _, _, _, H | .slice _ _ _ :: _, _, _, H | .map _ :: _, _, _, H | .chan _ :: _, _, _, H
  | .func _ _ _ :: _, _, _, H | .nilFunc :: _, _, _, H | .iface _ _ :: _, _, _, H | .nilIface :: _, _, _, H | .agg _ :: _, _, _, H | .tuple _ :: _, _, _, H => H.elim

theorem ldC_det {h : Heap} {a : Addr} {t : CT} {K : Value → Prop} (H : ldC h a t K) : ∃ v, K v ∧ ∀ (R : Nat → Prop) (hR : R a.block) (h' : Heap) (K' : Value → Prop), hkeep R h h' → K' v → ldC h' a t K' := by
  cases t <;> simp only [ldC, ldI, ldB, ldP, ldS, ldT, ldV] at H ⊢
  · obtain ⟨x, hc, hk⟩ := H; exact ⟨_, hk, fun R hR h' K' e hk' => ⟨x, e.cell hR hc, hk'⟩⟩
  · obtain ⟨x, hc, hk⟩ := H; exact ⟨_, hk, fun R hR h' K' e hk' => ⟨x, e.cell hR hc, hk'⟩⟩
  · obtain ⟨x, hc, hk⟩ := H; exact ⟨_, hk, fun R hR h' K' e hk' => ⟨x, e.cell hR hc, hk'⟩⟩
  · obtain ⟨x, y, z, hc, hk⟩ := H; exact ⟨_, hk, fun R hR h' K' e hk' => ⟨x, y, z, e.cell hR hc, hk'⟩⟩
  · obtain ⟨x, hc, hk⟩ := H; exact ⟨_, hk, fun R hR h' K' e hk' => ⟨x, e.cell hR hc, hk'⟩⟩
  · obtain ⟨x, hc, hk⟩ := H; exact ⟨_, hk, fun R hR h' K' e hk' => ⟨x, e.cell hR hc, hk'⟩⟩
theorem ldCs_det {h : Heap} {a : Addr} : ∀ {ts : List CT} {i : Nat} {K : List Value → Prop}, ldCs h a i ts K → ∃ v, K v ∧ ∀ (R : Nat → Prop) (hR : R a.block) (h' : Heap) (K' : List Value → Prop), hkeep R h h' → K' v → ldCs h' a i ts K'
  | [], i, K, H => ⟨_, H, fun _ _ _ _ _ hk => hk⟩
  | t :: ts, i, K, H => by
    obtain ⟨v, H, hv⟩ := ldC_det H
    obtain ⟨vs, H, hvs⟩ := ldCs_det H
    exact ⟨_, H, fun R hR h' K' e hk => hv R (by rw [add_blockG]; exact hR) h' _ e (hvs R hR h' _ e hk)⟩
theorem loadD_det {t : TypeId} {h : Heap} {a : Addr} {K : Value → Prop} (H : loadD P t h a K) : ∃ v, K v ∧ ∀ (R : Nat → Prop) (hR : R a.block) (h' : Heap) (K' : Value → Prop), hkeep R h h' → K' v → loadD P t h' a K' := by
  unfold loadD at H
  split at H
  · rename_i hg
    split at H
    · rename_i c hc
      obtain ⟨v, H, hv⟩ := ldC_det H
      exact ⟨v, H, fun R hR h' K' e hk => by unfold loadD; rw [hg]; simp only [hc]; exact hv R hR h' K' e hk⟩
    · exact H.elim
  · rename_i hg
    split at H
    · rename_i ts n h1 h2
      split at H
      · rename_i h3
        obtain ⟨vs, H, hv⟩ := ldCs_det H
        exact ⟨_, H, fun R hR h' K' e hk => by unfold loadD; rw [hg, h1, h2]; simp only [h3]; exact hv R hR h' _ e hk⟩
      · exact H.elim
    · rename_i n h1 h2
      obtain ⟨cs, hr, H⟩ := H
      exact ⟨_, H, fun R hR h' K' e hk => by unfold loadD; rw [hg, h1, h2]; exact ⟨cs, ⟨hr.1, fun j v hj => e.cell (by rw [add_blockG]; exact hR) (hr.2 j v hj)⟩, hk⟩⟩
    · exact H.elim

theorem builtinD_det {b : Builtin} {ts : List TypeId} {args : List Value} {h : Heap} {K : Value → Heap → Prop} (hf : isFloat (.call { callee := .builtin b, args := #[], argTypes := #[] }) = true)
    (H : builtinD P b ts args h K) : ∃ v, K v h ∧ ∀ (h' : Heap) (K' : Value → Heap → Prop), K' v h' → builtinD P b ts args h' K' := by
  unfold builtinD at H
  split at H
  · obtain ⟨v, hv, hd⟩ := lenD_det H; exact ⟨v, hv, fun h' K' hk => hd (fun v => K' v h') hk⟩
  · obtain ⟨v, hv, hd⟩ := capD_det H; exact ⟨v, hv, fun h' K' hk => hd (fun v => K' v h') hk⟩
  · cases hf
  · cases hf
  · obtain ⟨v, hv, hd⟩ := minsD_det H; exact ⟨v, hv, fun h' K' hk => hd (fun v => K' v h') hk⟩
  · obtain ⟨v, hv, hd⟩ := maxsD_det H; exact ⟨v, hv, fun h' K' hk => hd (fun v => K' v h') hk⟩
  · exact H.elim

/-- An operation that only looks: one value, in every heap that has grown out of this one; and, if it is no load, in every heap. -/
theorem opD_det {C : CallP} {Kp : List PanicEntry → Heap → Prop} {ρ : Operand → Value} {o : Op} {ty : TypeId} {h : Heap} {K : Value → Heap → Prop} (hf : isFloat o = true) (H : opD P C Kp ρ o ty h K) :
    ∃ v, K v h ∧ ∀ (R : Nat → Prop) (hR : isLoad o = true → blkOK R ρ o) (h' : Heap) (K' : Value → Heap → Prop), (isLoad o = true → hkeep R h h') → K' v h' → opD P C Kp ρ o ty h' K' := by
  cases o <;> first | (cases hf; done) | skip
  case move x => exact ⟨_, H, fun _ _ _ _ _ hk => hk⟩
  case assign x => exact ⟨_, H, fun _ _ _ _ _ hk => hk⟩
  case pick c x y =>
    simp only [opD] at H ⊢
    split at H
    · rename_i b hb
      cases b
      · exact ⟨_, H, fun _ _ _ _ _ hk => hk⟩
      · exact ⟨_, H, fun _ _ _ _ _ hk => hk⟩
    · exact H.elim
  case build t parts => simp only [opD] at H ⊢; obtain ⟨v, hv, hd⟩ := buildD_det H; exact ⟨v, hv, fun _ _ h' K' _ hk => hd (fun v => K' v h') hk⟩
  case load t x =>
    simp only [opD] at H ⊢
    split at H
    · rename_i a ha
      obtain ⟨v, hv, hd⟩ := loadD_det H
      exact ⟨v, hv, fun R hR h' K' e hk => hd R (by have h1 := hR rfl; simp only [blkOK, ha] at h1; exact h1) h' (fun v => K' v h') (e rfl) hk⟩
    · exact H.elim
  case nilCheck x => simp only [opD] at H ⊢; obtain ⟨v, hv, hd⟩ := nilD_det H; exact ⟨v, hv, fun _ _ h' K' _ hk => hd (fun v => K' v h') hk⟩
  case binOp op t x y u => simp only [opD] at H ⊢; obtain ⟨v, hv, hd⟩ := binD_det H; exact ⟨v, hv, fun _ _ h' K' _ hk => hd (fun v => K' v h') hk⟩
  case unOp op t x => simp only [opD] at H ⊢; obtain ⟨v, hv, hd⟩ := unD_det H; exact ⟨v, hv, fun _ _ h' K' _ hk => hd (fun v => K' v h') hk⟩
  case convert s d x => simp only [opD] at H ⊢; obtain ⟨v, hv, hd⟩ := convD_det H; exact ⟨v, hv, fun _ _ h' K' _ hk => hd (fun v => K' v h') hk⟩
  case makeInterface t x =>
    simp only [opD] at H ⊢
    split at H
    · exact H.elim
    · rename_i d hn hd
      exact ⟨_, H, fun _ _ _ _ _ hk => hk⟩
    · exact H.elim
  case makeFunc fn first captured => exact ⟨_, H, fun _ _ _ _ _ hk => hk⟩
  case slice t x lo hi mx => simp only [opD] at H ⊢; obtain ⟨v, hv, hd⟩ := slcD_det H; exact ⟨v, hv, fun _ _ h' K' _ hk => hd (fun v => K' v h') hk⟩
  case fieldAddr s x f => simp only [opD] at H ⊢; obtain ⟨v, hv, hd⟩ := fieldAddrD_det H; exact ⟨v, hv, fun _ _ h' K' _ hk => hd (fun v => K' v h') hk⟩
  case field t x f => simp only [opD] at H ⊢; obtain ⟨v, hv, hd⟩ := fieldD_det H; exact ⟨v, hv, fun _ _ h' K' _ hk => hd (fun v => K' v h') hk⟩
  case indexAddr t x i => simp only [opD] at H ⊢; obtain ⟨v, hv, hd⟩ := indexAddrD_det H; exact ⟨v, hv, fun _ _ h' K' _ hk => hd (fun v => K' v h') hk⟩
  case extract x i =>
    simp only [opD] at H ⊢
    split at H
    · rename_i vs hv
      split at H
      · rename_i v hi
        exact ⟨_, H, fun _ _ _ _ _ hk => hk⟩
      · exact H.elim
    · exact H.elim
  case call c =>
    obtain ⟨callee, args, argTypes⟩ := c
    cases callee with
    | value f => cases hf
    | invoke r m => cases hf
    | builtin b =>
      have hf' : isFloat (.call { callee := .builtin b, args := #[], argTypes := #[] }) = true := hf
      obtain ⟨v, hv, hd⟩ := builtinD_det hf' H
      exact ⟨v, hv, fun _ _ h' K' _ hk => hd h' K' hk⟩

theorem opD_new {C : CallP} {Kp : List PanicEntry → Heap → Prop} {ρ : Operand → Value} {o : Op} {ty : TypeId} {h : Heap} {K : Value → Heap → Prop} (hf : isNew o = true) (H : opD P C Kp ρ o ty h K) :
    opD P C Kp ρ o ty h fun v h' => hext h h' ∧ K v h' := by
  cases o <;> first | (cases hf; done) | skip
  case alloc t =>
    simp only [opD] at H ⊢
    split
    · rename_i z hz; rw [hz] at H; exact ⟨hext.push _ _, H⟩
    · rename_i hz; rw [hz] at H; exact H
  case box t x => exact ⟨hext.push _ _, H⟩
  case buildSlice t n parts =>
    simp only [opD, buildSliceD] at H ⊢
    split at H
    · rename_i e hu
      split at H
      · rename_i m z h1 h2
        obtain ⟨hp, H⟩ := needs_iff.1 H
        obtain ⟨v, hv, hd⟩ := fillD_det H
        exact needs_of hp (hd _ ⟨hext.push _ _, hv⟩)
      · exact H.elim
    · exact H.elim
  case makeSlice t l c =>
    simp only [opD, mkD] at H ⊢
    split at H
    · rename_i e kl x kc y hu hl hc
      split at H
      · rename_i sz by_ z0 z h1 h2 h3
        split at H
        · rename_i hb
          exact needs_of (needs_iff.1 H).1 ⟨hext.push _ _, (needs_iff.1 H).2⟩
        · exact H.elim
      · exact H.elim
    · exact H.elim

end
end Go.Den
