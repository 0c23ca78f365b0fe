/- DenE: the conditions of DenD are enough for the model's own operations. No program in sight. -/
import Derived.Test.YtlmopdohgipbeaaDenD
set_option linter.unusedVariables false
set_option linter.unusedSimpArgs false
namespace Go.Den

section
variable {P : Program} {qt : Bool}

theorem wpS_purec {α : Type} (a : α) (h : Heap) (K : α → Heap → Prop) : wpS P qt (Sem.pure a) h K = K a h := rfl

theorem exR_some : ∀ (r : RT) (p : Value → Prop), exR r p → ∃ v, p v
  | .cell _, _, h => exC_some _ _ h
  | .agg ts, p, h => by obtain ⟨vs, hv⟩ := exCs_some ts (fun vs => p (.agg vs.toArray)) h; exact ⟨_, hv⟩
  | .big _, _, ⟨cs, _, h⟩ => ⟨.agg cs.toArray, h⟩
theorem exRs_some : ∀ (rs : List RT) (p : List Value → Prop), exRs rs p → ∃ vs, p vs
  | [], _, h => ⟨[], h⟩
  | r :: rs, _, h => by
    obtain ⟨v, hv⟩ := exR_some r _ h
    obtain ⟨vs, h'⟩ := exRs_some rs _ hv
    exact ⟨_, h'⟩
theorem asRes_sound {ts : List TypeId} {v : Value} {K : Value → Prop} (H : asRes P ts v K) : K v := by
  unfold asRes at H
  split at H
  · exact H
  · split at H
    · obtain ⟨v', rfl, hk⟩ := exR_some _ _ H
      exact hk
    · exact H.elim
  · split at H
    · obtain ⟨vs, rfl, hk⟩ := exRs_some _ _ H
      exact hk
    · exact H.elim

theorem asResT_sound {t : TypeId} {v : Value} {K : Value → Prop} (H : asResT P t v K) : K v := by
  unfold asResT at H
  split at H
  · exact asRes_sound H
  · exact asRes_sound H
  · exact H.elim

theorem firstCells_ok {q : Option Addr} {n sz : Nat} {cs : List Value} {h : Heap} {K : Array Value → Heap → Prop} {l c : Nat} (hr : rdO h q (n * sz) cs) (H : K cs.toArray h) :
    wpS P qt (Builtin.firstCells sz n (.slice q l c)) h K := by
  cases q with
  | some a => exact loadCells_ok hr H
  | none =>
    have : cs = [] := hr
    subst this
    exact H

theorem growBy_le (need : Nat) : ∀ (r c : Nat), c ≤ need + (need + 768) / 4 → Builtin.growBy need r c ≤ need + (need + 768) / 4
  | 0, c, h => h
  | r + 1, c, h => by
    unfold Builtin.growBy
    split
    · exact h
    · exact growBy_le need r _ (by omega)
theorem nextslicecap_le {need c : Nat} (h : ¬ need ≤ c) : Builtin.nextslicecap need c ≤ 2 * need + 192 := by
  unfold Builtin.nextslicecap
  split
  · omega
  · split
    · omega
    · exact Nat.le_trans (growBy_le need 4 c (by omega)) (by omega)

theorem cut_appendCap (need old : Nat) (e : TypeId) (t : Nat) : need ≤ (Question.appendCap need old e).cut t := Nat.le_add_right _ _

theorem bytesT_spec {t : TypeId} {n : Nat} (hn : bytesT P t = some n) : ∃ i, P.info? t = some i ∧ i.bytes = n := by
  unfold bytesT at hn
  split at hn
  · rename_i i hi
    exact ⟨i, hi, Option.some.inj hn⟩
  · cases hn

theorem notInt_spec {o : Option TypeDesc} (h : notInt o = true) : ∃ d, o = some d ∧ ∀ k, d ≠ .int k := by
  unfold notInt at h
  split at h
  · cases h
  · rename_i d hd
    exact ⟨d, rfl, fun k e => hd k (by rw [e])⟩
  · cases h

theorem appD_sound {sT xT ty : TypeId} {s x : Value} {h : Heap} {K : Value → Heap → Prop} (H : appD P sT xT s x h K) :
    wpS P false (Builtin.append_ #[sT, xT] ty #[s, x]) h K := by
  unfold appD at H
  split at H
  case h_2 => exact H.elim
  rename_i e base n c src m cm hu hni
  split at H
  case h_2 => exact H.elim
  rename_i sz by_ z0 z hsz hby hz
  split at H
  case h_2 => exact H.elim
  rename_i hbb
  simp only [Bool.and_eq_true, Nat.ble_eq, Nat.blt_eq] at hbb
  obtain ⟨d, hd, hdi⟩ := notInt_spec hni
  obtain ⟨i, zv, hi, hzv, hzz⟩ := zeroT_spec hz
  obtain ⟨i', hi', hb'⟩ := bytesT_spec hby
  have hii : i' = i := Option.some.inj (hi'.symm.trans hi)
  subst hii
  obtain ⟨new, hnew, H⟩ := H
  unfold Builtin.append_
  simp only [List.getElem?_toArray, List.getElem?_cons_zero, List.getElem?_cons_succ]
  rw [wpS_bind, wpS_underlying hu]
  simp only []
  rw [wpS_bind, wpS_sizeOf hsz, wpS_bind, wpS_underlying hd, wpS_bind, wpS_pure]
  split
  · exact absurd rfl (hdi _)
  simp only [Bool.false_eq_true, if_false, Builtin.lenOf, Bool.not_false, if_true]
  rw [wpS_bind, wpS_pure]
  by_cases hroom : n + m ≤ c
  · rw [if_pos hroom] at H
    simp only [if_pos hroom]
    rw [wpS_bind]
    refine firstCells_ok hnew ?_
    cases base with
    | none => exact H
    | some a =>
      simp only []
      rw [wpS_bind]
      exact stVs_sound (vs := new) H
  · rw [if_neg hroom] at H
    obtain ⟨hbytes, old, hold, H⟩ := H
    rw [if_neg hroom]
    rw [wpS_bind, wpS_typeInfo hi]
    have hmax : ¬ ((((n + m : Nat) : Int) > IntKind.i64.max) ∧ (False ∨ i'.bytes = 0)) := by
      rintro ⟨_, h | h⟩
      · exact h
      · omega
    rw [if_neg hmax, wpS_bind, wpS_typeInfo hi]
    have hcap : ¬ (Builtin.nextslicecap (n + m) c * i'.bytes > 2 ^ 48) := by
      have h1 := nextslicecap_le hroom
      have h2 : Builtin.nextslicecap (n + m) c * i'.bytes ≤ (2 * (n + m) + 192) * i'.bytes := Nat.mul_le_mul_right _ h1
      have h3 : (2 * (n + m) + 192) * i'.bytes = 2 * ((n + m) * i'.bytes) + 192 * i'.bytes := by rw [Nat.add_mul, Nat.mul_assoc]
      have h4 : (2 : Nat) ^ 48 = 281474976710656 := rfl
      rw [hb'] at h2 h3 ⊢
      omega
    rw [if_neg hcap, wpS_bind]
    unfold choose
    show false = false ∧ (if Question.forced (.appendCap (n + m) c e) then _ else _)
    refine ⟨rfl, ?_⟩
    rw [if_neg (by simp [Question.forced])]
    intro t
    rw [wpS_purec, wpS_bind, wpS_typeInfo hi, wpS_bind]
    have hroomS : ∀ (x : Nat) (K' : Unit → Heap → Prop), K' () h → wpS P false (askRoom x) h K' := fun x K' hk => by
      unfold askRoom
      split
      · exact hk
      · exact hk
    refine hroomS _ _ ?_
    rw [wpS_bind]
    refine firstCells_ok hold ?_
    rw [wpS_bind]
    refine firstCells_ok hnew ?_
    rw [wpS_bind, wpS_zeroValue hi hzv]
    unfold newRow
    rw [wpS_bind, wpS_bind]
    have hH := H _ (cut_appendCap (n + m) c e t)
    have hzs : zv.cells.size = (z0 :: z).length := by rw [← hzz]; simp
    have hrest : Builtin.zeroCells zv.cells ((Question.appendCap (n + m) c e).cut t - (n + m)) = (repZ (z0 :: z) ((Question.appendCap (n + m) c e).cut t - (n + m))).toArray := by
      unfold Builtin.zeroCells
      rw [repZ_range _ _ (by rw [hzs]; simp), hzz]
    rw [hrest]
    simpa [newObj, wpS, wpS_pure] using hH

theorem copD_sound {dT sT ty : TypeId} {d s : Value} {h : Heap} {K : Value → Heap → Prop} (H : copD P dT d s h K) :
    wpS P false (Builtin.copy_ #[dT, sT] ty #[d, s]) h K := by
  unfold copD at H
  split at H
  case h_2 => exact H.elim
  rename_i e base dl dc src sl sc hu
  split at H
  case h_2 => exact H.elim
  rename_i sz hsz
  obtain ⟨new, hnew, H⟩ := H
  unfold Builtin.copy_
  simp only [List.getElem?_toArray, List.getElem?_cons_zero, List.getElem?_cons_succ]
  rw [wpS_bind, wpS_underlying hu]
  simp only []
  rw [wpS_bind]
  simp only [Builtin.lenOf, wpS_pure]
  rw [wpS_bind, wpS_sizeOf hsz, wpS_bind]
  refine firstCells_ok hnew ?_
  cases base with
  | none => exact H
  | some a =>
    simp only []
    rw [wpS_bind]
    exact stVs_sound (vs := new) H

theorem bndD_sound {x : Value} {y : Nat} {code : BoundsCode} {h : Heap} {K : Nat → Heap → Prop} (H : bndD x y fun n => K n h) : wpS P qt (Instr.sliceBound x y code) h K := by
  unfold bndD at H
  split at H
  · rename_i k i
    obtain ⟨hb, H⟩ := needs_iff.1 H
    unfold Instr.sliceBound
    rw [wpS_bind]
    simp only [asIntOf, wpS_pure, if_pos hb]
    exact H
  · exact H.elim

theorem slcD_sound {t : TypeId} {x : Value} {lo hi mx : Option Value} {h : Heap} {K : Value → Heap → Prop} (H : slcD P t x lo hi mx fun v => K v h) :
    wpS P qt (Instr.sliceAt t x lo hi mx) h K := by
  unfold slcD at H
  split at H
  · rename_i e q len cap hu
    split at H
    case h_2 => exact H.elim
    rename_i sz hsz
    split at H
    · exact H.elim
    rename_i hbad
    unfold Instr.sliceAt
    rw [wpS_bind, wpS_underlying hu]
    simp only []
    unfold Instr.slice
    rw [wpS_bind, wpS_underlying hu]
    simp only []
    rw [wpS_bind]
    unfold Instr.sliceBounds
    have tail : ∀ (m k l : Nat), K (.slice (subA q m l sz) (k - l) (m - l)) h →
        wpS P qt (pure (l, k, m)) h fun a h' => wpS P qt (do
          let size ← sizeOf e
          pure (Value.slice (if a.2.2 = a.1 then q else q.map (·.add (a.1 * size))) (a.2.1 - a.1) (a.2.2 - a.1))) h' K := fun m k l H => by
      rw [wpS_pure, wpS_bind, wpS_sizeOf hsz]
      exact H
    cases mx with
    | none =>
      replace H := optD_none H
      rw [wpS_bind, wpS_pure]
      cases hi with
      | none =>
        replace H := optD_none H
        rw [wpS_bind, wpS_pure]
        cases lo with
        | none => exact tail cap len 0 H
        | some v => exact (wpS_bind _ _ _ _).mpr (bndD_sound (bndD_mono (optD_some H) fun l H => tail cap len l H))
      | some u =>
        rw [wpS_bind]
        refine bndD_sound (bndD_mono (optD_some H) fun k H => ?_)
        cases lo with
        | none => exact tail cap k 0 H
        | some v => exact (wpS_bind _ _ _ _).mpr (bndD_sound (bndD_mono (optD_some H) fun l H => tail cap k l H))
    | some u3 =>
      cases hi with
      | none => cases hbad
      | some u =>
        rw [wpS_bind]
        refine bndD_sound (bndD_mono (optD_some H) fun m H => ?_)
        rw [wpS_bind]
        refine bndD_sound (bndD_mono (optD_some H) fun k H => ?_)
        cases lo with
        | none => exact tail m k 0 H
        | some v => exact (wpS_bind _ _ _ _).mpr (bndD_sound (bndD_mono (optD_some H) fun l H => tail m k l H))
  · rename_i s hu
    unfold Instr.sliceAt
    rw [wpS_bind, wpS_underlying hu]
    simp only []
    unfold Instr.slice
    rw [wpS_bind, wpS_underlying hu]
    simp only []
    cases mx with
    | some _ => exact H.elim
    | none =>
    simp only [Option.isSome_none, Bool.false_eq_true, if_false]
    rw [wpS_bind]
    unfold Instr.sliceBounds
    rw [wpS_bind, wpS_pure]
    replace H : optD hi s.size s.size fun k => optD lo 0 k fun l => K (.string (s.extract l k)) h := H
    cases hi with
    | none =>
      replace H := optD_none H
      rw [wpS_bind, wpS_pure]
      cases lo with
      | none => exact H
      | some v => exact (wpS_bind _ _ _ _).mpr (bndD_sound (bndD_mono (optD_some H) fun l H => H))
    | some u =>
      rw [wpS_bind]
      refine bndD_sound (bndD_mono (optD_some H) fun k H => ?_)
      cases lo with
      | none => exact H
      | some v => exact (wpS_bind _ _ _ _).mpr (bndD_sound (bndD_mono (optD_some H) fun l H => H))
  · exact H.elim

theorem mkD_sound {t : TypeId} {len cap : Value} {h : Heap} {K : Value → Heap → Prop} (H : mkD P t len cap h K) : wpS P false (Instr.makeSlice t len cap) h K := by
  unfold mkD at H
  split at H
  case h_2 => exact H.elim
  rename_i e kl l kc c hu
  split at H
  case h_2 => exact H.elim
  rename_i sz by_ z0 z hsz hby hz
  split at H
  case h_2 => exact H.elim
  rename_i hbl
  have hzl := Nat.eq_of_beq_eq_true hbl
  obtain ⟨⟨h0, hlc, hc63, hb48⟩, H⟩ := needs_iff.1 H
  obtain ⟨i, zv, hi, hzv, hzz⟩ := zeroT_spec hz
  obtain ⟨i', hi', hb'⟩ := bytesT_spec hby
  have hii : i' = i := Option.some.inj (hi'.symm.trans hi)
  subst hii
  have hwl : IntKind.i64.wrap l = l := IntWalk.i64_in _ (by omega)
  have hwc : IntKind.i64.wrap c = c := IntWalk.i64_in _ (by omega)
  unfold Instr.makeSlice
  rw [wpS_bind, wpS_underlying hu]
  simp only []
  rw [wpS_bind]
  simp only [asInt, asIntOf]
  rw [wpS_bind, wpS_pure, wpS_pure, wpS_bind, wpS_bind, wpS_pure, wpS_pure, wpS_bind, wpS_typeInfo hi]
  simp only [hwl, hwc]
  have h48 : (2 : Int) ^ 48 = 281474976710656 := rfl
  have hbad : ((decide (c < 0) || decide ((i'.bytes : Int) * c > 2 ^ 48)) || decide (l < 0) || decide (l > c)) = false := by
    rw [hb']
    simp only [Bool.or_eq_false_iff, decide_eq_false_iff_not]
    omega
  rw [hbad]
  simp only [Bool.false_eq_true, if_false]
  rw [wpS_bind]
  have hroomS : ∀ (x : Nat) (K' : Unit → Heap → Prop), K' () h → wpS P false (askRoom x) h K' := fun x K' hk => by
    unfold askRoom
    split
    · exact hk
    · exact hk
  refine hroomS _ _ ?_
  rw [wpS_bind, wpS_sizeOf hsz]
  have hzs : zv.cells.size = sz := by rw [← hzl, ← hzz]; simp
  have hpos : 0 < sz := by rw [← hzl]; simp
  have hcells : ∀ zz : Array Value, (c.toNat * sz ≠ 0 → zz = zv.cells) →
      ((Array.range (c.toNat * sz)).map fun i => zz[i % zz.size]!) = (repZ (z0 :: z) c.toNat).toArray := fun zz h1 => by
    by_cases hl : c.toNat * sz = 0
    · have hl0 : c.toNat = 0 := by
        rcases Nat.mul_eq_zero.1 hl with h | h
        · exact h
        · omega
      simp [repZ, hl0]
    · rw [h1 hl]
      have := repZ_range zv.cells c.toNat (by omega)
      rw [hzs] at this
      rw [hzs, this, hzz]
  by_cases hn : c.toNat * sz = 0
  · rw [if_pos hn, wpS_bind, wpS_pure, hcells #[] (fun h => absurd hn h)]
    rw [wpS_bind]
    unfold newRow
    rw [wpS_bind]
    simpa [newObj, wpS, wpS_pure] using H
  · rw [if_neg hn, wpS_bind, wpS_zeroValue hi hzv, wpS_bind, wpS_pure, hcells zv.cells (fun _ => rfl)]
    rw [wpS_bind]
    unfold newRow
    rw [wpS_bind]
    simpa [newObj, wpS, wpS_pure] using H

end
end Go.Den
