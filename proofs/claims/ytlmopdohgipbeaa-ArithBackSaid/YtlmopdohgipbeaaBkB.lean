/- BkB: coder and decoder in step: what is decoded are the decisions; no byte above 8f behind an ff. No Go, no memory. -/
import Derived.Test.YtlmopdohgipbeaaBkA
set_option linter.unusedVariables false
set_option linter.unusedSimpArgs false
namespace Go.Ar

theorem outM_t (s : Cod) (t : Nat) : outM { s with t := t } = outM s := rfl
theorem outM_ct (s : Cod) : (outM s).c = s.c % 2 ^ (27 - (outM s).t) ∧ ((outM s).t = 7 ∨ (outM s).t = 8) := by
  unfold outM outTail
  split
  · split
    · refine ⟨?_, .inl rfl⟩; show s.c % 134217728 % 1048576 = s.c % 1048576; omega
    · refine ⟨?_, .inr rfl⟩; show s.c % 134217728 % 524288 = s.c % 524288; omega
  · split
    · exact ⟨rfl, .inl rfl⟩
    · exact ⟨rfl, .inr rfl⟩

theorem Fut.shift {E : List Nat} {s : Cod} {A : Nat} (h : Fut E (shiftM s) (2 * A)) (ht : 1 ≤ s.t) (ht2 : s.t ≤ 12) (hc : s.c < 2 ^ (28 - s.t)) : Fut E s A := by
  have key : Fut E { s with a := 2 * s.a, c := s.c * 2 ^ 1, t := s.t - 1 } (A * 2 ^ 1) := by
    rw [Nat.pow_one, Nat.mul_comm s.c 2, Nat.mul_comm A 2]
    unfold shiftM at h
    simp only [] at h
    split at h
    · rename_i h1
      have h1 : s.t - 1 = 0 := h1
      have : s.t = 1 := by omega
      rw [this] at hc
      exact h.out h1 (by show 2 * s.c < 2 ^ 28; omega)
    · exact h
  exact key.near ht (by omega)

theorem Fut.renew {E : List Nat} : ∀ (k : Nat) {s : Cod}, Mid s → s.a < 0x8000 → 0x8000 ≤ s.a * 2 ^ k → Fut E (renewM k s) (renewM k s).a → Fut E s s.a
  | 0, s, h, ha, hk, _ => by simp at hk; omega
  | k + 1, s, h, ha, hk, hF => by
    obtain ⟨h1, h2, h3, h4, h5, h6⟩ := shiftM_mid h ha
    have hc := h.ca
    unfold renewM at hF
    simp only [] at hF
    split at hF
    · rw [h2] at hF
      exact hF.shift h.t1 h.t12 (by omega)
    · rename_i hlt
      have hk' : 0x8000 ≤ (shiftM s).a * 2 ^ k := by
        rw [h2]
        rw [Nat.pow_succ] at hk
        have : s.a * (2 ^ k * 2) = 2 * s.a * 2 ^ k := by rw [Nat.mul_comm (2 ^ k) 2, ← Nat.mul_assoc, Nat.mul_comm s.a 2]
        omega
      have := Fut.renew k h1 (by omega) hk' hF
      rw [h2] at this
      exact this.shift h.t1 h.t12 (by omega)

/-- The code that Flush makes. -/
def codeE (s : Cod) : List Nat := s.bs ++ [s.l]
theorem flushC_mod (s : Cod) : 32768 ∣ flushC s + 1 := by
  unfold flushC
  simp only []
  split <;> omega
theorem fut_flush {s : Cod} (hs : Wf s) : Fut (codeE (flushM s)) s s.a := by
  have hca := hs.ca
  have ht1 := hs.t1
  have ht2 := hs.t12
  have hlo := hs.lo
  have hhi := hs.hi
  have hf1 : s.c ≤ flushC s ∧ flushC s + 1 ≤ s.c + s.a := by
    unfold flushC
    simp only []
    split <;> omega
  have hmod := flushC_mod s
  generalize hcf : flushC s = cf at hf1 hmod
  -- the states
  have hF : flushM s = flushS (flushS { s with c := cf, done := true }) := by unfold flushM; rw [hcf]
  generalize hS0 : ({ s with c := cf, done := true } : Cod) = S0 at hF
  have hS0t : S0.t = s.t := by rw [← hS0]
  have hS0c : S0.c = cf := by rw [← hS0]
  have hS1 : flushS S0 = outM { S0 with c := S0.c * 2 ^ S0.t, t := S0.t - S0.t } := (outM_t { S0 with c := S0.c * 2 ^ S0.t } _).symm
  generalize hG1 : flushS S0 = S1 at hF hS1
  have hS2 : flushM s = outM { S1 with c := S1.c * 2 ^ S1.t, t := S1.t - S1.t } := hF.trans (outM_t { S1 with c := S1.c * 2 ^ S1.t } _).symm
  generalize hG2 : flushM s = F at hS2
  obtain ⟨hc1, ht1'⟩ := outM_ct { S0 with c := S0.c * 2 ^ S0.t, t := S0.t - S0.t }
  obtain ⟨hc2, ht2'⟩ := outM_ct { S1 with c := S1.c * 2 ^ S1.t, t := S1.t - S1.t }
  rw [← hS1] at hc1 ht1'
  rw [← hS2] at hc2 ht2'
  have hc1 : S1.c = cf * 2 ^ s.t % 2 ^ (27 - S1.t) := by rw [hc1, ← hS0c, ← hS0t]
  have hc2 : F.c = S1.c * 2 ^ S1.t % 2 ^ (27 - F.t) := hc2
  -- the last interval
  have hdv : 2 ^ (27 - F.t) ≤ F.c + 2 ^ (s.t + S1.t) := by
    have e1 : F.c = cf * 2 ^ (s.t + S1.t) % 2 ^ (27 - F.t) := by
      rw [hc2, hc1, ← Nat.mul_mod_mul_right, ← Nat.pow_add, Nat.mul_assoc, ← Nat.pow_add, Nat.mod_mod_of_dvd]
      exact Nat.pow_dvd_pow 2 (by omega)
    have e2 : (F.c + 2 ^ (s.t + S1.t)) % 2 ^ (27 - F.t) = 0 := by
      rw [e1, Nat.mod_add_mod, ← Nat.succ_mul]
      refine Nat.mod_eq_zero_of_dvd (Nat.dvd_trans (Nat.pow_dvd_pow 2 (show 27 - F.t ≤ 15 + (s.t + S1.t) by omega)) ?_)
      rw [Nat.pow_add]
      exact Nat.mul_dvd_mul_right hmod _
    have e3 := Nat.two_pow_pos (s.t + S1.t)
    exact Nat.le_of_dvd (by omega) (Nat.dvd_of_mod_eq_zero e2)
  have hclt : F.c < 2 ^ (27 - F.t) := by rw [hc2]; exact Nat.mod_lt _ (Nat.two_pow_pos _)
  have hEl : F.bs.length + 1 = (codeE F).length := by simp [codeE]
  have hpre : ∀ j v, F.bs[j]? = some v → fE (codeE F) j = v := fun j v hj => by
    unfold fE codeE
    rw [List.getD_eq_getElem?_getD, List.getElem?_append_left (List.getElem?_eq_some_iff.1 hj).1, hj]; rfl
  have hlast : fE (codeE F) F.bs.length = F.l := by
    unfold fE codeE
    rw [List.getD_eq_getElem?_getD]; simp
  have hX : valL (F.bs ++ [F.l]) = XE (codeE F) F.bs.length := by
    have := valL_XE (codeE F) F.bs F.l (by omega) hpre
    rw [hlast] at this
    omega
  have hlow : lowC F = XE (codeE F) F.bs.length * 2 ^ (27 - F.t) + F.c := by unfold lowC; rw [hX]
  have fF : Fut (codeE F) F (2 ^ (s.t + S1.t)) := by
    refine ⟨by omega, hpre, .inl hlast, fun k hk => ?_, fun k => ?_⟩
    · obtain ⟨d, rfl⟩ : ∃ d, k = F.bs.length + d := ⟨k - F.bs.length, by omega⟩
      obtain ⟨h1, h2⟩ := XE_end (codeE F) hEl d
      rw [h1, h2, hlow, Nat.pow_add, Nat.pow_add]
      have h3 : XE (codeE F) F.bs.length * 2 ^ (27 - F.t) + F.c < (XE (codeE F) F.bs.length + 1) * 2 ^ (27 - F.t) := by rw [Nat.add_mul]; omega
      have h4 := Nat.mul_lt_mul_of_pos_right h3 (show 0 < 2 ^ BE (codeE F) F.bs.length * 2 ^ (8 * d) from Nat.mul_pos (Nat.two_pow_pos _) (Nat.two_pow_pos _))
      have e : (XE (codeE F) F.bs.length + 1) * 2 ^ (8 * d) * (2 ^ BE (codeE F) F.bs.length * 2 ^ (27 - F.t)) = (XE (codeE F) F.bs.length + 1) * 2 ^ (27 - F.t) * (2 ^ BE (codeE F) F.bs.length * 2 ^ (8 * d)) := by
        simp only [Nat.mul_assoc, Nat.mul_comm, Nat.mul_left_comm]
      rw [e]
      exact h4
    · rcases Nat.lt_or_ge k F.bs.length with hk | hk
      · have h1 := XE_mono (codeE F) (Nat.le_of_lt hk)
        have h2 := Nat.mul_le_mul_right (2 ^ (27 - F.t)) h1
        rw [hlow, Nat.pow_add, ← Nat.mul_assoc]
        refine Nat.lt_of_le_of_lt h2 ?_
        rw [Nat.mul_right_comm]
        refine Nat.mul_lt_mul_of_pos_right ?_ (Nat.two_pow_pos _)
        have := Nat.two_pow_pos (s.t + S1.t)
        omega
      · obtain ⟨d, rfl⟩ : ∃ d, k = F.bs.length + d := ⟨k - F.bs.length, by omega⟩
        obtain ⟨h1, h2⟩ := XE_end (codeE F) hEl d
        have h3 : XE (codeE F) (F.bs.length + d) < (XE (codeE F) F.bs.length + 1) * 2 ^ (8 * d) := by omega
        rw [h2, hlow]
        have h4 := Nat.mul_lt_mul_of_pos_right h3 (Nat.two_pow_pos (BE (codeE F) F.bs.length + (27 - F.t)))
        refine Nat.lt_of_lt_of_le h4 ?_
        have h5 : (XE (codeE F) F.bs.length + 1) * 2 ^ (27 - F.t) ≤ XE (codeE F) F.bs.length * 2 ^ (27 - F.t) + F.c + 2 ^ (s.t + S1.t) := by rw [Nat.add_mul]; omega
        have h6 := Nat.mul_le_mul_right (2 ^ (BE (codeE F) F.bs.length + 8 * d)) h5
        refine Nat.le_trans (Nat.le_of_eq ?_) h6
        rw [Nat.pow_add, Nat.pow_add]
        simp only [Nat.mul_assoc, Nat.mul_comm, Nat.mul_left_comm]
  -- backwards
  generalize codeE F = E at fF ⊢
  rw [hS2] at fF
  have hp1 : (2 : Nat) ^ (27 - S1.t) * 2 ^ S1.t = 2 ^ 27 := by rw [← Nat.pow_add]; congr 1; omega
  have hc1lt : S1.c < 2 ^ (27 - S1.t) := by rw [hc1]; exact Nat.mod_lt _ (Nat.two_pow_pos _)
  have f1 := fF.out (Nat.sub_self _) (by
    show S1.c * 2 ^ S1.t < 2 ^ 28
    have := Nat.mul_lt_mul_of_pos_right hc1lt (Nat.two_pow_pos S1.t)
    omega)
  rw [Nat.pow_add] at f1
  have f2 : Fut E S1 (2 ^ s.t) := f1.near (a' := S1.a) (Nat.le_refl _) (by omega)
  rw [hS1] at f2
  have f3 := f2.out (Nat.sub_self _) (by
    show S0.c * 2 ^ S0.t < 2 ^ 28
    rw [hS0c, hS0t]
    have h1 : cf < 2 ^ (28 - s.t) := by omega
    have h2 := Nat.mul_lt_mul_of_pos_right h1 (Nat.two_pow_pos s.t)
    have h3 : (2 : Nat) ^ (28 - s.t) * 2 ^ s.t = 2 ^ 28 := by rw [← Nat.pow_add]; congr 1; omega
    omega)
  rw [← hS0t] at f3
  have f3' : Fut E { S0 with c := S0.c * 2 ^ S0.t, t := S0.t - S0.t } (1 * 2 ^ S0.t) := by rw [Nat.one_mul]; exact f3
  have f4 : Fut E S0 1 := f3'.near (a' := S0.a) (Nat.le_refl _) (by omega)
  rw [← hS0] at f4
  exact Fut.part (s := s) (a' := s.a) (n' := s.n) (st' := s.st) f4 hf1.1 hf1.2

end Go.Ar
