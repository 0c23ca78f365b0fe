/- DenK: a function: the condition of its body is enough for its call. No program in sight. -/
import Derived.Test.YtlmopdohgipbeaaDenJ
set_option linter.unusedVariables false
set_option linter.unusedSimpArgs false
namespace Go.Den

/-- A call, said of the heap. -/
def CallsHP (P : Program) : CallP := fun f args h K Kp =>
  (∃ fn, P.funcs[f]? = some fn ∧ (fn.name == "runtime.NumGoroutine") = false ∧ fn.body.isNone = false) ∧
  ∀ w : World, w.heap = h → Calls P f args w fun e w' => keeps w w' ∧ match e with
    | .returned v => K v w'.heap
    | .panicked c => Kp c w'.heap
    | .outgrown => False

theorem callsHP_ok (P : Program) : CallOK P (CallsHP P) where
  mono := fun h hk hp => ⟨h.1, fun w hw => (h.2 w hw).mono fun e w' he => ⟨he.1, by
    cases e with
    | returned v => exact hk _ _ he.2
    | panicked c => exact hp _ _ he.2
    | outgrown => exact he.2⟩⟩
  enter := fun h => h.1
  calls := fun h w hw => h.2 w hw

def resD (P : Program) (a : Act) (h : Heap) : List ResultVar → (List Value → Prop) → Prop
  | [], K => K []
  | .tmp t :: rs, K => resD P a h rs fun vs => K (a.tmps.getD t undef :: vs)
  | .cell t ty :: rs, K => (match a.tmps.getD t undef with
    | .pointer (some ad) => loadD P ty h ad fun v => resD P a h rs fun vs => K (v :: vs)
    | _ => False)
def retV : List Value → Value
  | [v] => v
  | vs => .tuple vs.toArray
def fnQ (P : Program) (rs : List ResultVar) (K : Value → Heap → Prop) (Kp : List PanicEntry → Heap → Prop) : PostD := fun e a h => match e with
  | .normal => (match a.defers with
    | [] => resD P a h rs fun vs => K (retV vs) h
    | _ :: _ => False)
  | .ret => (match a.defers with
    | [] => resD P a h rs fun vs => K (retV vs) h
    | _ :: _ => False)
  | .panic c => (match a.defers with
    | [] => Kp c h
    | _ :: _ => False)
  | _ => False

section
variable {P : Program}

theorem put_defers (a : Act) (d : Option Tmp) (v : Value) : (a.put d v).defers = a.defers := by cases d <;> rfl
theorem fnQ_panic (rs : List ResultVar) (K : Value → Heap → Prop) (Kp : List PanicEntry → Heap → Prop) : PanicOK (fnQ P rs K Kp) := fun c a d v h hh => by
  simp only [fnQ, put_defers] at hh ⊢
  exact hh

theorem resD_sound {a : Act} {h : Heap} : ∀ {rs : List ResultVar} {K : List Value → Heap → Prop}, (resD P a h rs fun vs => K vs h) →
    wpS P true (rs.mapM fun r => match r with | .tmp t => pure (a.tmps.getD t undef) | .cell p t => do loadVar t (← asAddr (a.tmps.getD p undef))) h K
  | [], K, H => by simp only [List.mapM_nil, wpS_pure]; exact H
  | .tmp t :: rs, K, H => by
    simp only [List.mapM_cons]
    rw [wpS_bind, wpS_pure, wpS_bind]
    refine resD_sound (rs := rs) (K := fun vs h' => wpS P true (pure (a.tmps.getD t undef :: vs)) h' K) ?_
    exact H
  | .cell t ty :: rs, K, H => by
    unfold resD at H
    split at H
    · rename_i ad had
      simp only [List.mapM_cons]
      rw [wpS_bind, had, wpS_bind]
      show wpS P true (loadVar ty ad) h _
      refine loadD_sound ?_
      obtain ⟨v, hv, hd⟩ := loadD_det H
      refine hd (fun _ => True) trivial h _ (hkeep.refl _ h) ?_
      rw [wpS_bind]
      refine resD_sound (rs := rs) (K := fun vs h' => wpS P true (pure (v :: vs)) h' K) ?_
      exact hv
    · exact H.elim

theorem results_run {fn : Func} {a : Act} {w : World} {K : Value → Heap → Prop} (H : resD P a w.heap fn.results.toList fun vs => K (retV vs) w.heap) :
    ∃ v, (results fn a.tmps).run P w = .ok v w ∧ K v w.heap := by
  have h1 : wpS P true (results fn a.tmps) w.heap fun v h' => K v w.heap := by
    unfold results
    rw [wpS_bind, Array.mapM_eq_mapM_toList]
    have hmap : ∀ (s : Sem (List Value)) (K' : Array Value → Heap → Prop), wpS P true (List.toArray <$> s) w.heap K' = wpS P true s w.heap fun l h' => K' l.toArray h' := fun s K' => by
      show wpS P true (s.bind (fun a => pure a.toArray)) w.heap K' = _
      exact wpS_bind s _ w.heap K'
    rw [hmap]
    refine resD_sound (K := fun vs h' => wpS P true (pure (if h : vs.toArray.size = 1 then vs.toArray[0] else .tuple vs.toArray)) h' fun v _ => K v w.heap) ?_
    have conv : ∀ vs : List Value, K (retV vs) w.heap → K (if h : vs.toArray.size = 1 then vs.toArray[0] else .tuple vs.toArray) w.heap := fun vs hk => by
      match vs, hk with
      | [], hk => exact hk
      | [v], hk => exact hk
      | v :: u :: vs, hk => simpa [retV] using hk
    have mono : ∀ (rs : List ResultVar) (K1 K2 : List Value → Prop), resD P a w.heap rs K1 → (∀ vs, K1 vs → K2 vs) → resD P a w.heap rs K2 := by
      intro rs
      induction rs with
      | nil => intro K1 K2 h m; exact m _ h
      | cons r rs ih =>
        intro K1 K2 h m
        cases r with
        | tmp t => exact ih _ _ h fun vs hk => m _ hk
        | cell t ty =>
          simp only [resD] at h ⊢
          split at h
          · obtain ⟨v, hv, hd⟩ := loadD_det h
            exact hd (fun _ => True) trivial _ _ (hkeep.refl _ _) (ih _ _ hv fun vs hk => m _ hk)
          · exact h.elim
    exact mono _ _ _ H fun vs hk => conv vs hk
  obtain ⟨v, w', hr, _, hw, hk⟩ := wpS_run _ h1 (w := w) rfl
  rw [hw rfl] at hr
  exact ⟨v, hr, hk⟩

/-- What is to be shown of a function's body. -/
def fnD (P : Program) (C : CallP) (H : Hints) (fn : Func) (args : List Value) (h : Heap) (K : Value → Heap → Prop) (Kp : List PanicEntry → Heap → Prop) : Prop :=
  match fn.body with
  | some c => den P C H c (fnQ P fn.results.toList K Kp) ⟨(args ++ List.replicate (fn.ntmps - args.length) undef).toArray, []⟩ h
  | none => False

theorem callsHP_of {f : FuncId} {fn : Func} {args : List Value} {h : Heap} {K : Value → Heap → Prop} {Kp : List PanicEntry → Heap → Prop} (Hn : Hints) (hm : P.follows .mixedOrders = true)
    (hf : P.funcs[f]? = some fn) (hn : (fn.name == "runtime.NumGoroutine") = false) (H : fnD P (CallsHP P) Hn fn args h K Kp) : CallsHP P f args.toArray h K Kp := by
  unfold fnD at H
  split at H
  · rename_i c hb
    refine ⟨⟨fn, hf, hn, by rw [hb]; rfl⟩, fun w hw => ?_⟩
    subst hw
    refine calls_of_wp hf hb ?_
    have hact : (⟨args.toArray ++ Array.replicate (fn.ntmps - args.toArray.size) undef, []⟩ : Act) = ⟨(args ++ List.replicate (fn.ntmps - args.length) undef).toArray, []⟩ := by
      congr 1
      apply Array.toList_inj.1
      simp
    rw [hact]
    refine wp_mono (den_sound (callsHP_ok P) hm w c _ _ w (keeps.refl w) (fnQ_panic _ K Kp) H) fun e a w' he => ?_
    cases e with
    | normal =>
      obtain ⟨h1, _, h3⟩ := he
      simp only [fnQ] at h3
      split at h3
      · rename_i hd
        obtain ⟨v, hr, hk⟩ := results_run h3
        exact ⟨hd, v, hr, h1, hk⟩
      · exact h3.elim
    | ret =>
      obtain ⟨h1, _, h3⟩ := he
      simp only [fnQ] at h3
      split at h3
      · rename_i hd
        obtain ⟨v, hr, hk⟩ := results_run h3
        exact ⟨hd, v, hr, h1, hk⟩
      · exact h3.elim
    | panic c =>
      obtain ⟨h1, h3⟩ := he
      simp only [fnQ] at h3
      split at h3
      · rename_i hd
        exact ⟨hd, h1, h3⟩
      · exact h3.elim
    | outgrown => exact he.elim
    | exit id => exact he.2.2.elim
    | goto l => exact he.2.2.elim
  · exact H.elim

end
end Go.Den
