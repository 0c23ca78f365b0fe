/- DenF: one operation: its condition is enough for the model's weakest condition of that operation. No program in sight. -/
import Derived.Test.YtlmopdohgipbeaaDenE
set_option linter.unusedVariables false
set_option linter.unusedSimpArgs false
namespace Go.Den

section
variable {P : Program} {qt : Bool} {C : CallP} {Kp : List PanicEntry → Heap → Prop}

/-- What follows an operation. -/
def nextOK (qt : Bool) (C : CallP) (Kp : List PanicEntry → Heap → Prop) (K : Value → Heap → Prop) : Next → Heap → Prop
  | .value v, h => K v h
  | .skip, h => qt = false ∧ K undef h
  | .enter f args, h => qt = false ∧ C f args h K Kp
  | _, _ => False

theorem wpS_v {s : Sem Value} {h : Heap} {K : Value → Heap → Prop} (H : wpS P qt s h K) : wpS P qt (do let v ← s; pure (Next.value v)) h (nextOK qt C Kp K) := by
  rw [wpS_bind]
  exact wpS_mono s H fun v h' hk => hk
theorem wpS_u {s : Sem Unit} {h : Heap} {K : Value → Heap → Prop} (hq : qt = false) (H : wpS P qt s h fun _ h' => K undef h') : wpS P qt (do s; pure Next.skip) h (nextOK qt C Kp K) := by
  rw [wpS_bind]
  exact wpS_mono s H fun v h' hk => ⟨hq, hk⟩

theorem wpS_sureAddr (a : Addr) (h : Heap) (K : Addr → Heap → Prop) : wpS P qt (Instr.sureAddr (.pointer (some a))) h K = K a h := rfl
theorem wpS_asIntOf (k : IntKind) (j : Int) (h : Heap) (K : IntKind × Int → Heap → Prop) : wpS P qt (asIntOf (.int k j)) h K = K (k, j) h := rfl
theorem wpS_program (h : Heap) (K : Program → Heap → Prop) : wpS P qt program h K = K P h := rfl
theorem lenD_sound {t ty : TypeId} {x : Value} {h : Heap} {K : Value → Heap → Prop} (H : lenD P t x fun v => K v h) : wpS P qt (Builtin.len_ #[t] ty #[x]) h K := by
  unfold lenD at H
  unfold Builtin.len_
  simp only [List.getElem?_toArray, List.getElem?_cons_zero]
  split at H
  · rename_i e q n c hu
    rw [wpS_bind, wpS_underlying hu]
    exact H
  · rename_i s hu
    rw [wpS_bind, wpS_underlying hu]
    exact H
  · rename_i n e hu
    rw [wpS_bind, wpS_underlying hu]
    exact H
  · exact H.elim
theorem capD_sound {t ty : TypeId} {x : Value} {h : Heap} {K : Value → Heap → Prop} (H : capD P t x fun v => K v h) : wpS P qt (Builtin.cap_ #[t] ty #[x]) h K := by
  unfold capD at H
  unfold Builtin.cap_
  simp only [List.getElem?_toArray, List.getElem?_cons_zero]
  split at H
  · rename_i e q n c hu
    rw [wpS_bind, wpS_underlying hu]
    exact H
  · exact H.elim
theorem minsD_sound {k : IntKind} {h : Heap} {K : Value → Heap → Prop} : ∀ {l : List Value} {x : Int}, (minsD k x l fun v => K v h) → wpS P qt (l.foldlM Builtin.min2 (.int k x)) h K
  | [], x, H => H
  | .int k' y :: rest, x, H => by
    simp only [List.foldlM_cons]
    rw [wpS_bind]
    exact minsD_sound (l := rest) H
  | .bool _ :: _, _, H | .float _ _ :: _, _, H | .complex _ _ _ :: _, _, H | .string _ :: _, _, H | .pointer _ :: _, _, H | .slice _ _ _ :: _, _, H | .map _ :: _, _, H | .chan _ :: _, _, H
  | .func _ _ _ :: _, _, H | .nilFunc :: _, _, H | .iface _ _ :: _, _, H | .nilIface :: _, _, H | .agg _ :: _, _, H | .tuple _ :: _, _, H => H.elim
theorem maxsD_sound {k : IntKind} {h : Heap} {K : Value → Heap → Prop} : ∀ {l : List Value} {x : Int}, (maxsD k x l fun v => K v h) → wpS P qt (l.foldlM Builtin.max2 (.int k x)) h K
  | [], x, H => H
  | .int k' y :: rest, x, H => by
    simp only [List.foldlM_cons]
    rw [wpS_bind]
    exact maxsD_sound (l := rest) H
  | .bool _ :: _, _, H | .float _ _ :: _, _, H | .complex _ _ _ :: _, _, H | .string _ :: _, _, H | .pointer _ :: _, _, H | .slice _ _ _ :: _, _, H | .map _ :: _, _, H | .chan _ :: _, _, H
  | .func _ _ _ :: _, _, H | .nilFunc :: _, _, H | .iface _ _ :: _, _, H | .nilIface :: _, _, H | .agg _ :: _, _, H | .tuple _ :: _, _, H => H.elim

theorem builtinD_sound {b : Builtin} {ts : Array TypeId} {ty : TypeId} {consts : Array Bool} {args : Array Value} {h : Heap} {K : Value → Heap → Prop}
    (hq : qt = true → isFloat (.call { callee := .builtin b, args := #[], argTypes := #[] }) = true) (H : builtinD P b ts.toList args.toList h K) : wpS P qt (builtin b ts ty consts args) h (nextOK qt C Kp K) := by
  obtain ⟨ts⟩ := ts
  obtain ⟨args⟩ := args
  unfold builtinD at H
  split at H
  · rename_i t x ht hx
    simp only at ht hx
    subst ht hx
    exact wpS_v (lenD_sound H)
  · rename_i t x ht hx
    simp only at ht hx
    subst ht hx
    exact wpS_v (capD_sound H)
  · rename_i t u s x ht hx
    simp only at ht hx
    subst ht hx
    cases qt
    · exact wpS_v (appD_sound H)
    · cases hq rfl
  · rename_i t u d s ht hx
    simp only at ht hx
    subst ht hx
    cases qt
    · exact wpS_v (copD_sound H)
    · cases hq rfl
  · rename_i k x rest hx
    simp only at hx
    subst hx
    exact wpS_v (minsD_sound H)
  · rename_i k x rest hx
    simp only at hx
    subst hx
    exact wpS_v (maxsD_sound H)
  · exact H.elim

theorem callD_sound (hC : CallOK P C) (hq : qt = false) {t : TypeId} {f : Value} {args : Array Value} {h : Heap} {K : Value → Heap → Prop} (H : callD C Kp f args.toList h fun v h' => asResT P t v fun v' => K v' h') :
    wpS P qt (do let d ← Deferred.ofValue f args; invoke d.target d.args) h (nextOK qt C Kp K) := by
  unfold callD at H
  split at H
  · rename_i g first captured
    have H := hC.mono H (fun v h' hk => asResT_sound hk) (fun _ _ hk => hk)
    obtain ⟨fn', h1, h2, h3⟩ := hC.enter H
    rw [wpS_bind]
    show wpS P qt (invoke (.fn (.func g) captured) (first ++ args)) h _
    unfold invoke callFunc
    rw [wpS_bind, wpS_program]
    simp only [h1, h2, h3, Bool.false_eq_true, if_false]
    rw [wpS_pure]
    have hargs : (first.toList ++ args.toList ++ captured.toList).toArray = first ++ args ++ captured := by
      apply Array.toList_inj.1; simp
    rw [hargs] at H
    exact ⟨hq, H⟩
  · exact H.elim

theorem fieldAddrD_sound {s : TypeId} {x : Value} {f : Nat} {h : Heap} {K : Value → Heap → Prop} (H : fieldAddrD P s x f fun v => K v h) : wpS P qt (Instr.fieldAt s x f) h K := by
  unfold fieldAddrD at H
  split at H
  · rename_i fs a hu
    split at H
    · rename_i fd hfd
      split at H
      · rename_i n hn
        unfold Instr.fieldAt
        rw [wpS_bind, wpS_underlying hu]
        simp only [hfd]
        rw [wpS_bind, wpS_sureAddr, wpS_bind]
        unfold fieldPlace
        rw [wpS_bind, wpS_sizeOf hn, if_neg (by omega)]
        exact H
      · exact H.elim
    · exact H.elim
  · exact H.elim
theorem ptr_some {q : Option Addr} {K : Addr → Prop} (H : ptr q K) : ∃ a, q = some a ∧ K a := by
  cases q with
  | none => exact H.elim
  | some a => exact ⟨a, rfl, H⟩
theorem indexAddrD_sound {t : TypeId} {x i : Value} {h : Heap} {K : Value → Heap → Prop} (H : indexAddrD P t x i fun v => K v h) : wpS P qt (Instr.indexAt t x i) h K := by
  unfold indexAddrD at H
  split at H
  · rename_i e b n c k j hu
    split at H
    · rename_i sz hsz
      obtain ⟨hj, H⟩ := needs_iff.1 H
      obtain ⟨a, rfl, H⟩ := ptr_some H
      unfold Instr.indexAt
      rw [wpS_bind, wpS_asIntOf]
      simp only []
      rw [wpS_bind, wpS_underlying hu]
      simp only []
      rw [wpS_bind, wpS_pure, wpS_bind, wpS_underlying hu]
      simp only [if_pos hj]
      rw [wpS_bind, wpS_sizeOf hsz]
      exact H
    · exact H.elim
  · rename_i n e a k j hu
    split at H
    · rename_i sz hsz
      obtain ⟨hj, H⟩ := needs_iff.1 H
      unfold Instr.indexAt
      rw [wpS_bind, wpS_asIntOf]
      simp only []
      rw [wpS_bind, wpS_underlying hu]
      simp only []
      rw [wpS_bind, wpS_sureAddr, wpS_bind, wpS_pure, wpS_bind, wpS_underlying hu]
      simp only [if_pos hj]
      rw [wpS_bind, wpS_sizeOf hsz]
      exact H
    · exact H.elim
  · exact H.elim
theorem partD_sound {t : TypeId} {cs : Array Value} {off : Nat} {h : Heap} {K : Value → Heap → Prop} (H : partD P t cs.toList off fun v => K v h) : wpS P qt (part t cs off) h K := by
  unfold partD at H
  split at H
  · exact H.elim
  rename_i d hd
  unfold part
  rw [wpS_bind, isAggT_spec t hd]
  split at H
  · rename_i n ha hn
    rw [ha]
    simp only [if_true]
    rw [wpS_bind, wpS_sizeOf hn]
    have : cs.extract off (off + n) = ((cs.toList.drop off).take n).toArray := by
      apply Array.toList_inj.1
      simp [Array.toList_extract, List.extract_eq_take_drop]
    rw [this]
    exact H
  · rename_i n ha hn
    rw [ha]
    simp only [Bool.false_eq_true, if_false]
    split at H
    · rename_i v hv
      have : cs[off]? = some v := by simpa using hv
      simp only [this]
      exact H
    · exact H.elim
  · exact H.elim

theorem fieldD_sound {t : TypeId} {x : Value} {f : Nat} {h : Heap} {K : Value → Heap → Prop} (H : fieldD P t x f fun v => K v h) : wpS P qt (Instr.field t x f) h K := by
  unfold fieldD at H
  split at H
  · rename_i fs cs hu
    split at H
    · rename_i fd hfd
      unfold Instr.field
      rw [wpS_bind, wpS_underlying hu]
      simp only [hfd]
      rw [wpS_bind]
      exact partD_sound H
    · exact H.elim
  · exact H.elim
theorem convD_sound {src dst : TypeId} {x : Value} {h : Heap} {K : Value → Heap → Prop} (H : convD P dst src x fun v => K v h) : wpS P qt (convert src dst x) h K := by
  unfold convD at H
  split at H
  · rename_i d k k' n hs hd
    unfold convert
    rw [wpS_bind, wpS_underlying hs, wpS_bind, wpS_underlying hd]
    cases d <;> exact H
  · exact H.elim

theorem map_parts (parts : Array (Nat × Operand)) (ρ : Operand → Value) : (parts.map fun (i, x) => (i, ρ x)).toList = parts.toList.map fun x => (x.1, ρ x.2) := by
  simp
theorem toArray_map (l : Array Operand) (ρ : Operand → Value) : (l.toList.map ρ).toArray = l.map ρ := by
  apply Array.toList_inj.1; simp
theorem option_map_eq (l : Option Operand) (ρ : Operand → Value) : l.map ρ = l.map ρ := rfl

/-- One operation: its condition is enough. -/
theorem opD_sound (hC : CallOK P C) {ρ : Operand → Value} {o : Oper} {h : Heap} {K : Value → Heap → Prop} (hq : qt = true → isFloat o.op = true) (H : opD P C Kp ρ o.op o.type h K) :
    wpS P qt (execOp ρ o) h (nextOK qt C Kp K) := by
  unfold opD at H
  unfold execOp
  split at H
  · rename_i x ho
    simp only [ho]
    exact H
  · rename_i x ho
    simp only [ho]
    exact H
  · rename_i c x y ho
    simp only [ho]
    split at H
    · rename_i b hb
      rw [hb, wpS_bind]
      cases b <;> exact H
    · exact H.elim
  · rename_i t ho
    simp only [ho]
    split at H
    · rename_i z hz
      obtain ⟨i, v, hi, hv, hvz⟩ := zeroT_spec hz
      cases qt
      case true => rw [ho] at hq; cases hq rfl
      refine wpS_v ?_
      unfold Instr.alloc
      rw [wpS_bind, wpS_zeroValue hi hv]
      simp only []
      unfold newVar newRow
      rw [wpS_bind, wpS_bind]
      have : v.cells = z.toArray := by rw [← hvz]
      rw [this]
      exact ⟨rfl, H⟩
    · exact H.elim
  · rename_i t x ho
    simp only [ho]
    cases qt
    case true => rw [ho] at hq; cases hq rfl
    exact wpS_v ⟨rfl, H⟩
  · rename_i t parts ho
    simp only [ho]
    refine wpS_v (buildD_sound ?_)
    rw [map_parts]
    exact H
  · rename_i t n parts ho
    simp only [ho]
    cases qt
    case true => rw [ho] at hq; cases hq rfl
    refine wpS_v (buildSliceD_sound ?_)
    rw [map_parts]
    exact H
  · rename_i t x ho
    simp only [ho]
    split at H
    · rename_i a ha
      refine wpS_v ?_
      unfold Instr.loadAt
      rw [ha, wpS_bind, wpS_sureAddr]
      exact loadD_sound H
    · exact H.elim
  · rename_i t x v ho
    simp only [ho]
    split at H
    · rename_i a ha
      cases qt
      case true => rw [ho] at hq; cases hq rfl
      refine wpS_u rfl ?_
      unfold Instr.storeAt
      rw [ha, wpS_bind, wpS_sureAddr]
      exact storeD_sound H
    · exact H.elim
  · rename_i x ho
    simp only [ho]
    unfold nilD at H
    split at H
    · rename_i p hp
      obtain ⟨a, rfl, H⟩ := ptr_some H
      rw [hp]
      exact H
    · rename_i g first captured hp
      rw [hp]
      exact H
    · rename_i t v hp
      rw [hp]
      exact H
    · exact H.elim
  · rename_i op t x y yt ho
    simp only [ho]
    exact wpS_v (binD_sound x y H)
  · rename_i op t x ho
    simp only [ho]
    exact wpS_v (unD_sound H)
  · rename_i src dst x ho
    simp only [ho]
    exact wpS_v (convD_sound H)
  · rename_i t x ho
    simp only [ho]
    refine wpS_v ?_
    unfold Instr.makeInterface
    split at H
    · exact H.elim
    · rename_i d hn hu
      rw [wpS_bind, wpS_underlying hu]
      cases d <;> first | exact H | exact absurd rfl (hn _)
    · exact H.elim
  · rename_i fn first captured ho
    simp only [ho]
    refine wpS_v ?_
    unfold Instr.makeFunc
    rw [toArray_map, toArray_map] at H
    exact H
  · rename_i t l c ho
    simp only [ho]
    cases qt
    case true => rw [ho] at hq; cases hq rfl
    exact wpS_v (mkD_sound H)
  · rename_i t x lo hi mx ho
    simp only [ho]
    exact wpS_v (slcD_sound H)
  · rename_i s x f ho
    simp only [ho]
    exact wpS_v (fieldAddrD_sound H)
  · rename_i t x f ho
    simp only [ho]
    exact wpS_v (fieldD_sound H)
  · rename_i t x i ho
    simp only [ho]
    exact wpS_v (indexAddrD_sound H)
  · rename_i x i ho
    simp only [ho]
    split at H
    · rename_i vs hv
      split at H
      · rename_i v hi
        refine wpS_v ?_
        unfold Instr.extract
        rw [hv]
        have : vs[i]? = some v := by simpa using hi
        simp only [this]
        exact H
      · exact H.elim
    · exact H.elim
  · rename_i c ho
    simp only [ho]
    unfold resolve
    split at H
    · rename_i f hf
      simp only [hf]
      have hm : (c.args.toList.map ρ) = (c.args.map ρ).toList := by simp
      rw [hm] at H
      cases qt
      case true =>
        have := hq rfl
        rw [ho] at this
        simp only [isFloat, hf] at this
        cases this
      exact callD_sound hC rfl H
    · rename_i b hb
      simp only [hb]
      have hm : (c.args.toList.map ρ) = (c.args.map ρ).toList := by simp
      rw [hm] at H
      rw [wpS_bind, wpS_pure]
      refine builtinD_sound (fun e => ?_) H
      have := hq e
      rw [ho] at this
      simp only [isFloat, hb] at this
      exact this
    · exact H.elim
  · exact H.elim

/-- An operation's condition is enough for the model's own. -/
theorem opD_wp (hC : CallOK P C) {o : Oper} {a : Act} {K : Value → Heap → Prop} {next : Act → World → Prop} {Q : Exit → Act → World → Prop} {w : World}
    (H : opD P C Kp a.eval o.op o.type w.heap K) (hK : ∀ v w', keeps w w' → K v w'.heap → next (a.put o.dst v) w') (hp : ∀ c w', keeps w w' → Kp c w'.heap → Q (.panic c) a w') :
    o.wp P a w next Q := by
  obtain ⟨n, w', hr, hk, _, hn⟩ := wpS_run _ (opD_sound (qt := false) hC (o := o) (fun e => by cases e) H) rfl
  unfold Oper.wp
  rw [hr]
  cases n <;> simp only [nextOK] at hn <;> simp only [Oper.upon]
  · exact hK _ _ hk hn
  · exact hK _ _ hk hn.2
  · refine (hC.calls hn.2 rfl).mono fun e w'' h => ?_
    cases e with
    | returned v => exact hK _ _ (hk.trans h.1) h.2
    | panicked c => exact hp _ _ (hk.trans h.1) h.2
    | outgrown => exact h.2.elim

end
end Go.Den
