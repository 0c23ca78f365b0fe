/- ShB: decisions that are all alike: how many bytes. No Go, no memory. -/
import Derived.Test.YtlmopdohgipbeaaShA
import Derived.Test.YtlmopdohgipbeaaArC
set_option linter.unusedVariables false
set_option linter.unusedSimpArgs false
namespace Go.Ar

/-- The first 'c' of 'n' contexts have been met; each has its own bit 'bb'. -/
structure Al (n c : Nat) (bb : Nat → Nat) (s : Cod) (a : Nat) (rows : List Nat) (N : Nat) : Prop where
  wf : Wf s
  a : s.a = a
  len : s.st.length = n
  rlen : rows.length = c
  st : ∀ k r, rows[k]? = some r → s.st[k]? = some (2 * r + bb k)
  new : ∀ k, c ≤ k → k < n → s.st[k]? = some 0
  row : ∀ r ∈ rows, r < 47
  out : 7 * s.bs.length + 12 ≤ N + s.t

section
variable {n c k a r N : Nat} {bb : Nat → Nat} {s : Cod} {rows : List Nat}
theorem shift_out (hm : Mid s) (h : 7 * s.bs.length + 12 ≤ N + s.t) : 7 * (shiftM s).bs.length + 12 ≤ N + 1 + (shiftM s).t := by
  have h1 := hm.t1
  unfold shiftM
  simp only []
  split
  · rename_i h0
    have h0 : s.t - 1 = 0 := h0
    have e1 := (outM_same { s with a := 2 * s.a, c := 2 * s.c, t := s.t - 1 }).2.2.2.2
    have e2 : (outM { s with a := 2 * s.a, c := 2 * s.c, t := s.t - 1 }).t = 7 ∨ (outM { s with a := 2 * s.a, c := 2 * s.c, t := s.t - 1 }).t = 8 := by
      unfold outM outTail
      split <;> split <;> first | exact .inl rfl | exact .inr rfl
    rw [e1]
    show 7 * (s.bs.length + 1) + 12 ≤ _
    omega
  · show 7 * s.bs.length + 12 ≤ N + 1 + (s.t - 1)
    omega
theorem renew_one (hm : Mid s) (h1 : 0x4000 ≤ s.a) (h2 : s.a < 0x8000) : renewM 17 s = shiftM s := by
  have h := (shiftM_mid hm h2).2.1
  rw [renewM_succ, if_pos (by omega)]
theorem renew_two (hm : Mid s) (h1 : 0x2000 ≤ s.a) (h2 : s.a < 0x4000) : renewM 17 s = shiftM (shiftM s) := by
  obtain ⟨g1, h, _⟩ := shiftM_mid hm (by omega)
  have h' := (shiftM_mid g1 (by omega)).2.1
  rw [renewM_succ, if_neg (by omega), renewM_succ, if_pos (by omega)]
theorem st_of {st : List Nat} {k x : Nat} (h : st[k]? = some x) : st.getD k 0 = x := by rw [List.getD_eq_getElem?_getD, h]; rfl

theorem al_mps (h : Al n c bb s a rows N) (hb : bb k ≤ 1) (hk : rows[k]? = some r) (hn : s.n < 16777216) :
    Al n c bb (putM s k (bb k)) (mpsA a r).1 (rows.set k (mpsA a r).2.1) (N + (mpsA a r).2.2) := by
  have hx := h.st k r hk
  have hkc : k < rows.length := (List.getElem?_eq_some_iff.1 hk).1
  have hkl : k < s.st.length := (List.getElem?_eq_some_iff.1 hx).1
  have hr := h.row r (List.mem_of_getElem? hk)
  have hwf := putM_wf h.wf k (bb k) hn
  have hlo := h.wf.lo
  have hhi := h.wf.hi
  have hca := h.wf.ca
  have hq1 := qOf_pos hr
  have hq2 := qOf_le hr
  have hmr := mOf_lt hr
  have ha := h.a
  have hd : (2 * r + bb k) / 2 = r := by omega
  have hm2 : (2 * r + bb k) % 2 = bb k := by omega
  have hrl := h.rlen
  have hup : upM (2 * r + bb k) = 2 * mOf r + bb k := by unfold upM; rw [hd, hm2]
  have hset : ∀ j y, (rows.set k (mOf r))[j]? = some y → (s.st.set k (2 * mOf r + bb k))[j]? = some (2 * y + bb j) := by
    intro j y hy
    by_cases hj : k = j
    · subst hj
      rw [List.getElem?_set_self hkc] at hy
      rw [List.getElem?_set_self hkl]
      have : mOf r = y := by simpa using hy
      rw [this]
    · rw [List.getElem?_set_ne hj] at hy ⊢
      exact h.st j y hy
  have hnew : ∀ j, c ≤ j → j < n → (s.st.set k (2 * mOf r + bb k))[j]? = some 0 := fun j h1 h2 => by
    rw [List.getElem?_set_ne (by omega)]
    exact h.new j h1 h2
  have hrow : ∀ y ∈ rows.set k (mOf r), y < 47 := fun y hy => by
    rcases List.mem_or_eq_of_mem_set hy with h1 | h1
    · exact h.row y h1
    · rw [h1]; exact hmr
  have hput : putM s k (bb k) = if 0x8000 ≤ s.a - qOf r then { s with a := s.a - qOf r, c := s.c + qOf r, n := s.n + 1 }
      else if s.a - qOf r < qOf r then renewM 17 { s with a := qOf r, n := s.n + 1, st := s.st.set k (2 * mOf r + bb k) }
      else renewM 17 { s with a := s.a - qOf r, c := s.c + qOf r, n := s.n + 1, st := s.st.set k (2 * mOf r + bb k) } := by
    unfold putM
    simp only [st_of hx, hd, hm2, hup, if_true]
  rw [hput] at hwf ⊢
  unfold mpsA
  rw [← ha]
  by_cases h8 : 0x8000 ≤ s.a - qOf r
  · rw [if_pos h8] at hwf ⊢
    rw [if_pos h8]
    have e : rows.set k r = rows := by
      apply List.ext_getElem?
      intro j
      by_cases hj : k = j
      · subst hj; rw [List.getElem?_set_self hkc, hk]
      · rw [List.getElem?_set_ne hj]
    exact ⟨hwf, rfl, h.len, by simp only []; rw [e]; exact hrl, by simp only []; rw [e]; exact h.st, h.new, by simp only []; rw [e]; exact h.row, h.out⟩
  · rw [if_neg h8] at hwf ⊢
    rw [if_neg h8]
    have fin : ∀ (c0 : Nat) (a0 : Nat), 0x4000 ≤ a0 → a0 < 0x8000 → c0 + a0 ≤ s.c + s.a → Wf (renewM 17 { s with a := a0, c := c0, n := s.n + 1, st := s.st.set k (2 * mOf r + bb k) }) →
        Al n c bb (renewM 17 { s with a := a0, c := c0, n := s.n + 1, st := s.st.set k (2 * mOf r + bb k) }) (2 * a0) (rows.set k (mOf r)) (N + 1) := by
      intro c0 a0 h1 h2 h3 hw
      have hmid : Mid { s with a := a0, c := c0, n := s.n + 1, st := s.st.set k (2 * mOf r + bb k) } := ⟨h.wf.t1, h.wf.t12, by show c0 + a0 < 2 ^ (28 - s.t); omega, h.wf.l, h.wf.bs, set_lt h.wf.st (by omega)⟩
      rw [renew_one hmid h1 h2] at hw ⊢
      obtain ⟨g1, g2, g3, g4, g5, g6⟩ := shiftM_mid hmid h2
      refine ⟨hw, g2, by rw [g4]; simp [h.len], by simp [hrl], by rw [g4]; exact hset, by rw [g4]; exact hnew, hrow, shift_out hmid h.out⟩
    by_cases hq : s.a - qOf r < qOf r
    · rw [if_pos hq] at hwf ⊢
      rw [if_pos hq]
      exact fin s.c (qOf r) (by omega) (by omega) (by omega) hwf
    · rw [if_neg hq] at hwf ⊢
      rw [if_neg hq]
      exact fin (s.c + qOf r) (s.a - qOf r) (by omega) (by omega) (by omega) hwf

theorem al_new (h : Al n c bb s a rows N) (hc : c < n) (hb : bb c = 0) : Al n (c + 1) bb s a (rows ++ [0]) N := by
  refine ⟨h.wf, h.a, h.len, by simp [h.rlen], fun k r hk => ?_, fun k h1 h2 => h.new k (by omega) h2, fun r hr => ?_, h.out⟩
  · rcases Nat.lt_or_ge k rows.length with h1 | h1
    · rw [List.getElem?_append_left h1] at hk; exact h.st k r hk
    · have h2 := (List.getElem?_eq_some_iff.1 hk).1
      simp at h2
      have : k = c := by have := h.rlen; omega
      subst this
      rw [List.getElem?_append_right h1, h.rlen, Nat.sub_self] at hk
      have : r = 0 := by simpa using hk.symm
      rw [this, hb]
      exact h.new k (Nat.le_refl _) hc
  · rcases List.mem_append.1 hr with h1 | h1
    · exact h.row r h1
    · rw [List.mem_singleton.1 h1]; decide
theorem al_first0 (h : Al n c bb s a rows N) (hc : c < n) (hb : bb c = 0) (hn : s.n < 16777216) : Al n (c + 1) bb (putM s c 0) (mpsA a 0).1 (rows ++ [(mpsA a 0).2.1]) (N + (mpsA a 0).2.2) := by
  have h1 := al_mps (k := c) (r := 0) (al_new h hc hb) (by omega) (by rw [← h.rlen]; simp) hn
  rw [hb] at h1
  have e : (rows ++ [0]).set c (mpsA a 0).2.1 = rows ++ [(mpsA a 0).2.1] := by
    rw [← h.rlen, List.set_append_right _ _ (Nat.le_refl _), Nat.sub_self]; rfl
  rw [e] at h1
  exact h1
theorem al_first1 (h : Al n c bb s a rows N) (hc : c < n) (hb : bb c = 1) (hn : s.n < 16777216) : Al n (c + 1) bb (putM s c 1) (lpsA a).1 (rows ++ [1]) (N + (lpsA a).2) := by
  have hx := h.new c (Nat.le_refl _) hc
  have hwf := putM_wf h.wf c 1 hn
  have hlo := h.wf.lo
  have hhi := h.wf.hi
  have hca := h.wf.ca
  have ha := h.a
  have hcl : c < s.st.length := by rw [h.len]; exact hc
  have hput : putM s c 1 = if s.a - 0x5601 < 0x5601 then renewM 17 { s with a := s.a - 0x5601, c := s.c + 0x5601, n := s.n + 1, st := s.st.set c 3 }
      else renewM 17 { s with a := 0x5601, n := s.n + 1, st := s.st.set c 3 } := by
    have hq0 : qOf (0 / 2) = 0x5601 := rfl
    have hu : upL 0 = 3 := rfl
    unfold putM
    simp only [st_of hx]
    rw [if_neg (show ¬ 1 = 0 % 2 by decide), hq0, hu]
  have hset : ∀ j y, (rows ++ [1])[j]? = some y → (s.st.set c 3)[j]? = some (2 * y + bb j) := by
    intro j y hy
    rcases Nat.lt_or_ge j rows.length with h1 | h1
    · rw [List.getElem?_append_left h1] at hy
      rw [List.getElem?_set_ne (by have := h.rlen; omega)]
      exact h.st j y hy
    · have h2 := (List.getElem?_eq_some_iff.1 hy).1
      simp at h2
      have : j = c := by have := h.rlen; omega
      subst this
      rw [List.getElem?_append_right h1, h.rlen, Nat.sub_self] at hy
      have : y = 1 := by simpa using hy.symm
      rw [this, hb, List.getElem?_set_self hcl]
  have hnew : ∀ j, c + 1 ≤ j → j < n → (s.st.set c 3)[j]? = some 0 := fun j h1 h2 => by
    rw [List.getElem?_set_ne (by omega)]
    exact h.new j (by omega) h2
  have hrow : ∀ y ∈ rows ++ [1], y < 47 := fun y hy => by
    rcases List.mem_append.1 hy with h1 | h1
    · exact h.row y h1
    · rw [List.mem_singleton.1 h1]; decide
  have fin : ∀ (c0 a0 : Nat), 0x2000 ≤ a0 → a0 < 0x8000 → c0 + a0 ≤ s.c + s.a → Wf (renewM 17 { s with a := a0, c := c0, n := s.n + 1, st := s.st.set c 3 }) →
      Al n (c + 1) bb (renewM 17 { s with a := a0, c := c0, n := s.n + 1, st := s.st.set c 3 }) (if 0x4000 ≤ a0 then (2 * a0, 1) else (4 * a0, 2)).1 (rows ++ [1]) (N + (if 0x4000 ≤ a0 then (2 * a0, 1) else (4 * a0, 2)).2) := by
    intro c0 a0 h1 h2 h3 hw
    have hmid : Mid { s with a := a0, c := c0, n := s.n + 1, st := s.st.set c 3 } := ⟨h.wf.t1, h.wf.t12, by show c0 + a0 < 2 ^ (28 - s.t); omega, h.wf.l, h.wf.bs, set_lt h.wf.st (by omega)⟩
    obtain ⟨g1, g2, g3, g4, g5, g6⟩ := shiftM_mid hmid h2
    have o1 := shift_out hmid h.out
    by_cases h4 : 0x4000 ≤ a0
    · rw [if_pos h4]
      rw [renew_one hmid h4 h2] at hw ⊢
      exact ⟨hw, g2, by rw [g4]; simp [h.len], by simp [h.rlen], by rw [g4]; exact hset, by rw [g4]; exact hnew, hrow, o1⟩
    · rw [if_neg h4]
      rw [renew_two hmid h1 (by show a0 < _; omega)] at hw ⊢
      obtain ⟨k1, k2, k3, k4, k5, k6⟩ := shiftM_mid g1 (by rw [g2]; show 2 * a0 < _; omega)
      refine ⟨hw, by rw [k2, g2]; show 2 * (2 * a0) = 4 * a0; omega, by rw [k4, g4]; simp [h.len], by simp [h.rlen], by rw [k4, g4]; exact hset, by rw [k4, g4]; exact hnew, hrow, shift_out g1 o1⟩
  rw [hput] at hwf ⊢
  unfold lpsA
  rw [← ha]
  by_cases hq : s.a - 0x5601 < 0x5601
  · rw [if_pos hq] at hwf ⊢
    simp only [if_pos hq]
    exact fin (s.c + 0x5601) (s.a - 0x5601) (by omega) (by omega) (by omega) hwf
  · rw [if_neg hq] at hwf ⊢
    simp only [if_neg hq]
    exact fin s.c 0x5601 (by omega) (by omega) (by omega) hwf
theorem Al.more (h : Al n c bb s a rows N) {N' : Nat} (hN : N ≤ N') : Al n c bb s a rows N' := ⟨h.wf, h.a, h.len, h.rlen, h.st, h.new, h.row, by have := h.out; omega⟩
end

/-! ### the first round: what may be -/
def Cov (z : Nat × List Nat × Nat) (L : List (Nat × List Nat × Nat)) : Prop := ∃ y ∈ L, y.1 = z.1 ∧ y.2.1 = z.2.1 ∧ z.2.2 ≤ y.2.2
theorem insR_self (x : Nat × List Nat × Nat) : ∀ l, Cov x (insR x l)
  | [] => ⟨x, by simp [insR], rfl, rfl, Nat.le_refl _⟩
  | y :: l => by
    unfold insR
    split
    · rename_i h
      simp only [Bool.and_eq_true] at h
      exact ⟨_, List.mem_cons_self, Nat.eq_of_beq_eq_true h.1, listEq_of h.2, Nat.le_max_right _ _⟩
    · obtain ⟨z, h1, h2⟩ := insR_self x l
      exact ⟨z, List.mem_cons_of_mem _ h1, h2⟩
theorem insR_old (x z : Nat × List Nat × Nat) : ∀ {l}, Cov z l → Cov z (insR x l)
  | [], ⟨y, hy, _⟩ => by cases hy
  | w :: l, ⟨y, hy, h1, h2, h3⟩ => by
    unfold insR
    split
    · rcases List.mem_cons.1 hy with rfl | hy
      · exact ⟨_, List.mem_cons_self, h1, h2, Nat.le_trans h3 (Nat.le_max_left _ _)⟩
      · exact ⟨y, List.mem_cons_of_mem _ hy, h1, h2, h3⟩
    · rcases List.mem_cons.1 hy with rfl | hy
      · exact ⟨_, List.mem_cons_self, h1, h2, h3⟩
      · obtain ⟨v, g1, g2⟩ := insR_old x z (l := l) ⟨y, hy, h1, h2, h3⟩
        exact ⟨v, List.mem_cons_of_mem _ g1, g2⟩
theorem two_cov (l : List (Nat × List Nat × Nat)) : ∀ x ∈ l, Cov ((mpsA x.1 0).1, x.2.1 ++ [(mpsA x.1 0).2.1], x.2.2 + (mpsA x.1 0).2.2) (l.foldr two []) ∧ Cov ((lpsA x.1).1, x.2.1 ++ [1], x.2.2 + (lpsA x.1).2) (l.foldr two []) := by
  induction l with
  | nil => intro x hx; cases hx
  | cons w l ih =>
    intro x hx
    rw [List.foldr_cons]
    show Cov _ (two w (l.foldr two [])) ∧ Cov _ (two w (l.foldr two []))
    unfold two
    rcases List.mem_cons.1 hx with rfl | hx
    · exact ⟨insR_self _ _, insR_old _ _ (insR_self _ _)⟩
    · obtain ⟨h1, h2⟩ := ih x hx
      exact ⟨insR_old _ _ (insR_old _ _ h1), insR_old _ _ (insR_old _ _ h2)⟩

section
variable (n : Nat) (bb : Nat → Nat)
abbrev alk (n : Nat) : Nat → Nat := fun i => i % n
abbrev alb (n : Nat) (bb : Nat → Nat) : Nat → Nat := fun i => bb (i % n)
abbrev alN (i : Nat) : Cod := codN (alk n) (alb n bb) n i
theorem alN_n : ∀ i, (alN n bb i).n = i
  | 0 => rfl
  | i + 1 => by show (putM _ _ _).n = _; rw [(putM_n _ _ _).1]; exact congrArg (· + 1) (alN_n i)
set_option maxRecDepth 50000 in
theorem first_al (hb : ∀ k, k < n → bb k ≤ 1) : ∀ c, c ≤ n → c ≤ 16777216 → ∃ x ∈ firstA c, Al n c bb (alN n bb c) x.1 x.2.1 x.2.2 := by
  intro c
  induction c with
  | zero =>
    intro _ _
    refine ⟨(0x8000, [], 0), by simp [firstA], ?_⟩
    have e : alN n bb 0 = newC n := rfl
    rw [e]
    refine { wf := newC_wf n, a := rfl, len := by simp [newC], rlen := rfl, st := fun k r h => ?_, new := fun k _ h => ?_, row := fun r h => ?_, out := by simp [newC] }
    · simp at h
    · simp [newC, h]
    · simp at h
  | succ c ih =>
    intro hc h2
    obtain ⟨x, hx, h⟩ := ih (by omega) (by omega)
    obtain ⟨g1, g2⟩ := two_cov (firstA c) x hx
    have hcn : c % n = c := Nat.mod_eq_of_lt (by omega)
    have hn : (alN n bb c).n < 16777216 := by rw [alN_n]; omega
    have e : alN n bb (c + 1) = putM (alN n bb c) c (bb c) := by
      show putM (alN n bb c) (c % n) (bb (c % n)) = _
      rw [hcn]
    rw [e]
    rcases (show bb c = 0 ∨ bb c = 1 by have := hb c (by omega); omega) with h0 | h1
    · rw [h0]
      obtain ⟨y, y1, y2, y3, y4⟩ := g1
      dsimp only at y2 y3 y4
      refine ⟨y, y1, ?_⟩
      rw [y2, y3]
      exact (al_first0 h (by omega) h0 hn).more y4
    · rw [h1]
      obtain ⟨y, y1, y2, y3, y4⟩ := g2
      dsimp only at y2 y3 y4
      refine ⟨y, y1, ?_⟩
      rw [y2, y3]
      exact (al_first1 h (by omega) h1 hn).more y4

theorem cyc_len : ∀ (rs : List Nat) (a : Nat), (cycA rs a).2.1.length = rs.length
  | [], _ => rfl
  | r :: rs, a => by show (cycA rs _).2.1.length + 1 = _; rw [cyc_len rs]; rfl
theorem cyc_al (hn1 : 1 ≤ n) (hb : ∀ k, k < n → bb k ≤ 1) : ∀ (rs pre : List Nat) (c a N : Nat), pre.length + rs.length = n → Al n n bb (alN n bb (c * n + pre.length)) a (pre ++ rs) N → c * n + n ≤ 16777216 →
    Al n n bb (alN n bb (c * n + n)) (cycA rs a).1 (pre ++ (cycA rs a).2.1) (N + (cycA rs a).2.2)
  | [], pre, c, a, N, hl, h, hc => by
    have : pre.length = n := by simpa using hl
    rw [this] at h
    exact h
  | r :: rs, pre, c, a, N, hl, h, hc => by
    simp only [List.length_cons] at hl
    have hk : (c * n + pre.length) % n = pre.length := by rw [Nat.add_comm, Nat.add_mul_mod_self_right, Nat.mod_eq_of_lt (by omega)]
    have h1 := al_mps (k := pre.length) (r := r) h (hb _ (by omega)) (by simp) (by rw [alN_n]; omega)
    have e : putM (alN n bb (c * n + pre.length)) pre.length (bb pre.length) = alN n bb (c * n + (pre ++ [(mpsA a r).2.1]).length) := by
      rw [List.length_append, List.length_singleton]
      show _ = putM (alN n bb (c * n + pre.length)) ((c * n + pre.length) % n) (bb ((c * n + pre.length) % n))
      rw [hk]
    have e2 : (pre ++ r :: rs).set pre.length (mpsA a r).2.1 = (pre ++ [(mpsA a r).2.1]) ++ rs := by
      rw [List.set_append_right _ _ (Nat.le_refl _), Nat.sub_self]; simp
    rw [e, e2] at h1
    have h2 := cyc_al hn1 hb rs (pre ++ [(mpsA a r).2.1]) c _ _ (by simp; omega) h1 hc
    have e3 : pre ++ (cycA (r :: rs) a).2.1 = pre ++ [(mpsA a r).2.1] ++ (cycA rs (mpsA a r).1).2.1 := by
      rw [List.append_assoc]; rfl
    rw [e3]
    show Al n n bb _ (cycA rs (mpsA a r).1).1 _ (N + ((mpsA a r).2.2 + (cycA rs (mpsA a r).1).2.2))
    rw [← Nat.add_assoc]
    exact h2
theorem cyc_none : ∀ (rs : List Nat) (a : Nat), 0x8000 + sumQ rs ≤ a → cycA rs a = (a - sumQ rs, rs, 0)
  | [], a, _ => rfl
  | r :: rs, a, h => by
    have hs : sumQ (r :: rs) = qOf r + sumQ rs := rfl
    rw [hs] at h
    have e : mpsA a r = (a - qOf r, r, 0) := by unfold mpsA; rw [if_pos (by omega)]
    have ih := cyc_none rs (a - qOf r) (by omega)
    show ((cycA rs (mpsA a r).1).1, (mpsA a r).2.1 :: (cycA rs (mpsA a r).1).2.1, (mpsA a r).2.2 + (cycA rs (mpsA a r).1).2.2) = _
    rw [e]
    simp only []
    rw [ih, hs]
    simp only [Nat.sub_sub]
theorem skip_al (hn1 : 1 ≤ n) (hb : ∀ k, k < n → bb k ≤ 1) {rows : List Nat} (hrl : rows.length = n) : ∀ (m c a N : Nat), Al n n bb (alN n bb (c * n)) a rows N → 0x8000 + m * sumQ rows ≤ a → (c + m) * n ≤ 16777216 → Al n n bb (alN n bb ((c + m) * n)) (a - m * sumQ rows) rows N
  | 0, c, a, N, h, _, _ => by simpa using h
  | m + 1, c, a, N, h, ha, hc => by
    rw [Nat.add_mul, Nat.one_mul] at ha
    have e : (c + (m + 1)) * n = (c + 1 + m) * n := by congr 1; omega
    rw [e] at hc ⊢
    have hcc : (c + 1) * n ≤ (c + 1 + m) * n := Nat.mul_le_mul_right _ (by omega)
    have h1 := cyc_al n bb hn1 hb rows [] c a N (by simp [hrl]) (by simpa using h) (by rw [Nat.add_mul, Nat.one_mul] at hcc; omega)
    rw [cyc_none rows a (by omega)] at h1
    have e2 : c * n + n = (c + 1) * n := by rw [Nat.add_mul, Nat.one_mul]
    rw [e2] at h1
    have h2 := skip_al hn1 hb hrl m (c + 1) (a - sumQ rows) N h1 (by omega) hc
    have e3 : a - (m + 1) * sumQ rows = a - sumQ rows - m * sumQ rows := by rw [Nat.add_mul, Nat.one_mul]; omega
    rw [e3]
    exact h2
theorem run_al (hn1 : 1 ≤ n) (hb : ∀ k, k < n → bb k ≤ 1) : ∀ (f R c a : Nat) (rows : List Nat) (N : Nat), Al n n bb (alN n bb (c * n)) a rows N → (c + R) * n ≤ 16777216 → runA f R a rows N < 1000000 →
    ∃ a' rows', Al n n bb (alN n bb ((c + R) * n)) a' rows' (runA f R a rows N)
  | 0, R, c, a, rows, N, _, _, hlt => by unfold runA at hlt; omega
  | f + 1, R, c, a, rows, N, h, hc, hlt => by
    have hlo : 0x8000 ≤ a := by rw [← h.a]; exact h.wf.lo
    have hdm := Nat.div_mul_le_self (a - 0x8000) (sumQ rows)
    unfold runA at hlt ⊢
    generalize hm : (a - 0x8000) / sumQ rows = m at hlt hdm ⊢
    split
    · rename_i hR
      have : R * sumQ rows ≤ m * sumQ rows := Nat.mul_le_mul_right _ hR
      exact ⟨_, _, skip_al n bb hn1 hb h.rlen R c a N h (by omega) hc⟩
    · rename_i hR
      rw [if_neg hR] at hlt
      have hcm : (c + m + 1) * n ≤ (c + R) * n := Nat.mul_le_mul_right _ (by omega)
      have hcm2 : (c + m) * n ≤ (c + R) * n := Nat.mul_le_mul_right _ (by omega)
      have h1 := skip_al n bb hn1 hb h.rlen m c a N h (by omega) (by omega)
      have h2 := cyc_al n bb hn1 hb rows [] (c + m) (a - m * sumQ rows) N (by simp [h.rlen]) (by simpa using h1) (by rw [Nat.add_mul (c + m) 1 n, Nat.one_mul] at hcm; omega)
      have e2 : (c + m) * n + n = (c + m + 1) * n := by rw [Nat.add_mul (c + m) 1 n, Nat.one_mul]
      rw [e2] at h2
      have e3 : c + R = c + m + 1 + (R - m - 1) := by omega
      rw [e3] at hc ⊢
      exact run_al hn1 hb f (R - m - 1) (c + m + 1) _ _ _ h2 hc hlt

theorem bs_mono : ∀ i, (alN n bb i).bs.length ≤ (alN n bb (i + 1)).bs.length := by
  have hs : ∀ s : Cod, s.bs.length ≤ (shiftM s).bs.length := fun s => by
    unfold shiftM
    simp only []
    split
    · rw [(outM_same _).2.2.2.2]; exact Nat.le_succ _
    · exact Nat.le_refl _
  have hr : ∀ (j : Nat) (s : Cod), s.bs.length ≤ (renewM j s).bs.length := by
    intro j
    induction j with
    | zero => exact fun s => Nat.le_refl _
    | succ j ih =>
      intro s
      unfold renewM
      simp only []
      split
      · exact hs s
      · exact Nat.le_trans (hs s) (ih _)
  have hr' : ∀ s s' : Cod, s'.bs = s.bs → s.bs.length ≤ (renewM 17 s').bs.length := fun s s' e => by rw [← e]; exact hr 17 s'
  intro i
  show _ ≤ (putM _ _ _).bs.length
  unfold putM
  simp only []
  split
  · split
    · exact Nat.le_refl _
    · split <;> exact hr' _ _ rfl
  · split <;> exact hr' _ _ rfl
theorem bs_le {i j : Nat} (h : i ≤ j) : (alN n bb i).bs.length ≤ (alN n bb j).bs.length := by
  induction j with
  | zero => have : i = 0 := by omega
            subst this; exact Nat.le_refl _
  | succ j ih =>
    rcases Nat.lt_or_ge j i with h1 | h1
    · have : i = j + 1 := by omega
      subst this; exact Nat.le_refl _
    · exact Nat.le_trans (ih h1) (bs_mono n bb j)
theorem allR_of (h1 : 1 ≤ n) (h2 : n ≤ 12) : allR n = true := by
  have := all_runs
  simp only [Bool.and_eq_true] at this
  obtain ⟨⟨⟨⟨⟨⟨⟨⟨⟨⟨⟨g1, g2⟩, g3⟩, g4⟩, g5⟩, g6⟩, g7⟩, g8⟩, g9⟩, g10⟩, g11⟩, g12⟩ := this
  match n, h1, h2 with
  | 1, _, _ => exact g1
  | 2, _, _ => exact g2
  | 3, _, _ => exact g3
  | 4, _, _ => exact g4
  | 5, _, _ => exact g5
  | 6, _, _ => exact g6
  | 7, _, _ => exact g7
  | 8, _, _ => exact g8
  | 9, _, _ => exact g9
  | 10, _, _ => exact g10
  | 11, _, _ => exact g11
  | 12, _, _ => exact g12
theorem short_bs (h1 : 1 ≤ n) (h2 : n ≤ 12) (hb : ∀ k, k < n → bb k ≤ 1) : (alN n bb 20000).bs.length ≤ 6 + 3 * n := by
  obtain ⟨x, hx, h⟩ := first_al n bb hb n (Nat.le_refl _) (by omega)
  have hr := List.all_eq_true.1 (allR_of n h1 h2) x hx
  have hr := Nat.le_of_ble_eq_true hr
  have hdm := Nat.div_add_mod 20000 n
  have hml := Nat.mod_lt 20000 (show n > 0 by omega)
  rw [Nat.mul_comm] at hdm
  have hmul : (1 + (20000 / n + 1)) * n = 20000 / n * n + 2 * n := by rw [Nat.add_comm, Nat.add_assoc, Nat.add_mul]
  obtain ⟨a', rows', h'⟩ := run_al n bb h1 hb 200 (20000 / n + 1) 1 x.1 x.2.1 x.2.2 (by rw [Nat.one_mul]; exact h) (by rw [hmul]; omega) (by omega)
  have hle := bs_le n bb (show 20000 ≤ (1 + (20000 / n + 1)) * n by rw [hmul]; omega)
  have ho := h'.out
  have ht := h'.wf.t12
  omega
end
theorem flush_bs {s : Cod} (hs : Wf s) : (bytesM (flushM s)).length ≤ s.bs.length + 2 := by
  have ho : ∀ s : Cod, (flushS s).bs.length = s.bs.length + 1 := fun s => (outM_same { s with c := s.c * 2 ^ s.t }).2.2.2.2
  have h : (flushM s).bs.length = s.bs.length + 2 := by
    show (flushS (flushS _)).bs.length = _
    rw [ho, ho]
  unfold bytesM
  simp only []
  split
  · simp; omega
  · simp; omega

end Go.Ar
