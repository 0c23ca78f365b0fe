/- BkD: no byte above 8f behind an ff; the whole run of a coder and the decoder of its bytes. No Go, no memory. -/
import Derived.Test.YtlmopdohgipbeaaBkC
import Derived.Test.YtlmopdohgipbeaaArK
set_option linter.unusedVariables false
set_option linter.unusedSimpArgs false
namespace Go.Ar

structure Stf0 (s : Cod) (A : Nat) : Prop where
  bs : ∀ j, s.bs[j]? = some 255 → ∀ y, s.bs[j + 1]? = some y → y ≤ 143
  last : s.bs.getLast? = some 255 → s.l * 2 ^ (27 - s.t) + s.c + A ≤ 144 * 2 ^ (27 - s.t)
structure Stf (s : Cod) (A : Nat) : Prop extends Stf0 s A where
  ff : s.l = 255 → s.t ≤ 8 ∧ s.c + A ≤ 589824 * 2 ^ (8 - s.t)

section
variable {s : Cod} {A : Nat}
theorem Stf.part (h : Stf s A) {A' a' c' n' : Nat} {st' : List Nat} {d' : Bool} (hc : c' + A' ≤ s.c + A) : Stf { s with a := a', c := c', n := n', st := st', done := d' } A' := by
  refine ⟨⟨h.bs, fun hl => ?_⟩, fun hl => ?_⟩
  · have := h.last hl
    show s.l * 2 ^ (27 - s.t) + c' + A' ≤ 144 * 2 ^ (27 - s.t)
    omega
  · have := h.ff hl
    exact ⟨this.1, Nat.le_trans hc this.2⟩
theorem Stf.near (h : Stf s A) {j a' : Nat} (hj : j ≤ s.t) (ht : s.t ≤ 27) : Stf { s with a := a', c := s.c * 2 ^ j, t := s.t - j } (A * 2 ^ j) := by
  refine ⟨⟨h.bs, fun hl => ?_⟩, fun hl => ?_⟩
  · have h1 := Nat.mul_le_mul_right (2 ^ j) (h.last hl)
    show s.l * 2 ^ (27 - (s.t - j)) + s.c * 2 ^ j + A * 2 ^ j ≤ 144 * 2 ^ (27 - (s.t - j))
    have e : 27 - (s.t - j) = 27 - s.t + j := by omega
    rw [e, Nat.pow_add, ← Nat.mul_assoc, ← Nat.mul_assoc]
    rw [Nat.add_mul, Nat.add_mul] at h1
    exact h1
  · obtain ⟨h1, h2⟩ := h.ff hl
    have h3 := Nat.mul_le_mul_right (2 ^ j) h2
    refine ⟨by show s.t - j ≤ 8; omega, ?_⟩
    show s.c * 2 ^ j + A * 2 ^ j ≤ 589824 * 2 ^ (8 - (s.t - j))
    have e : 8 - (s.t - j) = 8 - s.t + j := by omega
    rw [e, Nat.pow_add, ← Nat.mul_assoc, ← Nat.add_mul]
    exact h3
theorem Stf.out (h : Stf s A) (ht : s.t = 0) (hc : s.c + A ≤ 2 ^ 28) (hA : 1 ≤ A) : Stf0 (outM s) A ∧ (A ≤ 65536 → Stf (outM s) A) := by
  have key : ∀ l c, (l = s.l ∧ c = s.c ∧ (l ≠ 255 → c < 2 ^ 27) ∨ l = s.l + 1 ∧ s.l ≠ 255 ∧ c + 2 ^ 27 = s.c) → Stf0 (outTail s l c) A ∧ (A ≤ 65536 → Stf (outTail s l c) A) := by
    intro l c hl
    have hbs : (outTail s l c).bs = s.bs ++ [l] := by unfold outTail; split <;> rfl
    have hchain : ∀ j, (s.bs ++ [l])[j]? = some 255 → ∀ y, (s.bs ++ [l])[j + 1]? = some y → y ≤ 143 := by
      intro j hj y hy
      have hlt := (List.getElem?_eq_some_iff.1 hy).1
      rw [List.length_append, List.length_singleton] at hlt
      rw [List.getElem?_append_left (by omega)] at hj
      rcases Nat.lt_or_ge (j + 1) s.bs.length with h1 | h1
      · rw [List.getElem?_append_left h1] at hy
        exact h.bs j hj y hy
      · have e : j + 1 = s.bs.length := by omega
        rw [e] at hy
        simp at hy
        subst hy
        have hg : s.bs.getLast? = some 255 := by rw [List.getLast?_eq_getElem?, ← e, Nat.add_sub_cancel]; exact hj
        have := h.last hg
        rw [ht] at this
        omega
    have hlast : (s.bs ++ [l]).getLast? = some 255 → l = 255 ∧ c + A ≤ 144 * 2 ^ 20 := by
      intro hg
      rw [List.getLast?_concat] at hg
      have hl2 : l = 255 := Option.some.inj hg
      refine ⟨hl2, ?_⟩
      rcases hl with ⟨h1, h2, _⟩ | ⟨h1, h2, h3⟩
      · have := (h.ff (by omega)).2
        rw [ht] at this
        omega
      · omega
    have hclt : c < 2 ^ 28 := by omega
    have h0 : Stf0 (outTail s l c) A := by
      refine ⟨by rw [hbs]; exact hchain, fun hg => ?_⟩
      rw [hbs] at hg
      obtain ⟨h1, h2⟩ := hlast hg
      unfold outTail
      rw [if_pos h1]
      show c / 1048576 % 256 * 2 ^ 20 + c % 1048576 + A ≤ 144 * 2 ^ 20
      omega
    refine ⟨h0, fun hA2 => ⟨h0, fun hl2 => ?_⟩⟩
    by_cases h3 : l = 255
    · have := h0.last (by rw [hbs, List.getLast?_concat, h3])
      rw [hl2] at this
      omega
    · unfold outTail
      rw [if_neg h3]
      refine ⟨Nat.le_refl _, ?_⟩
      show c % 524288 + A ≤ 589824
      omega
  unfold outM
  split
  · rename_i h1
    exact key _ _ (.inr ⟨rfl, h1.1, by omega⟩)
  · rename_i h1
    exact key _ _ (.inl ⟨rfl, rfl, fun h2 => by
      rcases Nat.lt_or_ge s.c 134217728 with h3 | h3
      · exact h3
      · exact absurd ⟨h2, h3⟩ h1⟩)

theorem stf_shift (h : Stf s s.a) (hm : Mid s) (ha : s.a < 0x8000) (ha1 : 1 ≤ s.a) : Stf (shiftM s) (shiftM s).a := by
  have ht1 := hm.t1
  have ht2 := hm.t12
  have hca := hm.ca
  have h1 := h.near (j := 1) (a' := 2 * s.a) ht1 (by omega)
  rw [Nat.pow_one, Nat.mul_comm s.c 2, Nat.mul_comm s.a 2] at h1
  unfold shiftM
  simp only []
  split
  · rename_i h0
    have h0 : s.t - 1 = 0 := h0
    have ht : s.t = 1 := by omega
    rw [ht] at hca
    rw [(outM_same _).1]
    exact (h1.out h0 (by show 2 * s.c + 2 * s.a ≤ _; omega) (by omega)).2 (by omega)
  · exact h1
theorem stf_renew : ∀ (k : Nat) {s : Cod}, Stf s s.a → Mid s → s.a < 0x8000 → 1 ≤ s.a → Stf (renewM k s) (renewM k s).a
  | 0, s, h, _, _, _ => h
  | k + 1, s, h, hm, ha, ha1 => by
    obtain ⟨g1, g2, _⟩ := shiftM_mid hm ha
    unfold renewM
    simp only []
    split
    · exact stf_shift h hm ha ha1
    · exact stf_renew k (stf_shift h hm ha ha1) g1 (by omega) (by omega)
theorem stf_put (h : Stf s s.a) (hs : Wf s) (k bit : Nat) : Stf (putM s k bit) (putM s k bit).a := by
  have hx := getD_lt hs.st k
  have hr : s.st.getD k 0 / 2 < 47 := by omega
  have hq1 := qOf_pos hr
  have hq2 := qOf_le hr
  have hM := set_lt hs.st (k := k) (upM_lt hx)
  have hL := set_lt hs.st (k := k) (upL_lt hx)
  have hlo := hs.lo
  have hhi := hs.hi
  have hca := hs.ca
  unfold putM
  simp only []
  generalize s.st.getD k 0 = x at *
  generalize qOf (x / 2) = q at *
  have lw : ∀ {n' : Nat} {st' : List Nat}, (∀ x ∈ st', x < 94) → Stf (renewM 17 { s with a := q, n := n', st := st' }) (renewM 17 { s with a := q, n := n', st := st' }).a := fun {n' st'} hst =>
    stf_renew 17 (h.part (c' := s.c) (A' := q) (d' := s.done) (by omega)) ⟨hs.t1, hs.t12, by show s.c + q < 2 ^ (28 - s.t); omega, hs.l, hs.bs, hst⟩ (by show q < _; omega) hq1
  have up : ∀ {n' : Nat} {st' : List Nat}, s.a - q < 0x8000 → 1 ≤ s.a - q → (∀ x ∈ st', x < 94) → Stf (renewM 17 { s with a := s.a - q, c := s.c + q, n := n', st := st' }) (renewM 17 { s with a := s.a - q, c := s.c + q, n := n', st := st' }).a := fun {n' st'} h1 h2 hst =>
    stf_renew 17 (h.part (c' := s.c + q) (A' := s.a - q) (d' := s.done) (by omega)) ⟨hs.t1, hs.t12, by show s.c + q + (s.a - q) < 2 ^ (28 - s.t); omega, hs.l, hs.bs, hst⟩ h1 h2
  split
  · split
    · exact h.part (a' := s.a - q) (c' := s.c + q) (A' := s.a - q) (n' := s.n + 1) (st' := s.st) (d' := s.done) (by omega)
    · split
      · exact lw hM
      · exact up (by omega) (by omega) hM
  · split
    · exact up (by omega) (by omega) hL
    · exact lw hL
theorem stf_new (m : Nat) : Stf (newC m) (newC m).a := ⟨⟨fun j hj => by simp [newC] at hj, fun hl => by simp [newC] at hl⟩, fun hl => by simp [newC] at hl⟩

theorem stf_flush (h : Stf s s.a) (hs : Wf s) : Stf0 (flushM s) 1 := by
  have hca := hs.ca
  have ht1 := hs.t1
  have ht2 := hs.t12
  have hlo := hs.lo
  have hf1 : s.c ≤ flushC s ∧ flushC s + 1 ≤ s.c + s.a := by
    unfold flushC
    simp only []
    split <;> omega
  have h0 : Stf { s with c := flushC s, done := true } 1 := h.part (a' := s.a) (n' := s.n) (st' := s.st) (by omega)
  have hS : flushM s = flushS (flushS { s with c := flushC s, done := true }) := rfl
  rw [hS]
  generalize hS0 : ({ s with c := flushC s, done := true } : Cod) = S0 at h0
  have hS0t : S0.t = s.t := by rw [← hS0]
  have hS0c : S0.c = flushC s := by rw [← hS0]
  have h1 := h0.near (j := S0.t) (a' := S0.a) (Nat.le_refl _) (by omega)
  have hp : (2 : Nat) ^ (28 - s.t) * 2 ^ s.t = 2 ^ 28 := by rw [← Nat.pow_add]; congr 1; omega
  have hp12 : (2 : Nat) ^ s.t ≤ 2 ^ 12 := Nat.pow_le_pow_right (by omega) ht2
  have h2 := (h1.out (Nat.sub_self _) (by
    show S0.c * 2 ^ S0.t + 1 * 2 ^ S0.t ≤ 2 ^ 28
    rw [← Nat.add_mul, hS0c, hS0t, ← hp]
    exact Nat.mul_le_mul_right _ (by omega)) (by have := Nat.two_pow_pos S0.t; omega)).2 (by rw [hS0t]; omega)
  have e1 : outM { S0 with c := S0.c * 2 ^ S0.t, t := S0.t - S0.t } = flushS S0 := outM_t { S0 with c := S0.c * 2 ^ S0.t } _
  rw [e1] at h2
  obtain ⟨hc1, ht1'⟩ := outM_ct { S0 with c := S0.c * 2 ^ S0.t, t := S0.t - S0.t }
  rw [e1] at hc1 ht1'
  generalize flushS S0 = S1 at *
  rw [hS0t, Nat.one_mul] at h2
  have h3 := h2.near (j := S1.t) (a' := S1.a) (Nat.le_refl _) (by omega)
  have hp1 : (2 : Nat) ^ (27 - S1.t) * 2 ^ S1.t = 2 ^ 27 := by rw [← Nat.pow_add]; congr 1; omega
  have hc1lt : S1.c < 2 ^ (27 - S1.t) := by rw [hc1]; exact Nat.mod_lt _ (Nat.two_pow_pos _)
  have hp8 : (2 : Nat) ^ S1.t ≤ 2 ^ 8 := Nat.pow_le_pow_right (by omega) (by omega)
  have hpp : 2 ^ s.t * 2 ^ S1.t ≤ 2 ^ 12 * 2 ^ 8 := Nat.mul_le_mul hp12 hp8
  have hpz : 0 < 2 ^ s.t * 2 ^ S1.t := Nat.mul_pos (Nat.two_pow_pos _) (Nat.two_pow_pos _)
  have h4 := (h3.out (Nat.sub_self _) (by
    show S1.c * 2 ^ S1.t + 2 ^ s.t * 2 ^ S1.t ≤ 2 ^ 28
    have := Nat.mul_lt_mul_of_pos_right hc1lt (Nat.two_pow_pos S1.t)
    omega) hpz).1
  have e2 : outM { S1 with c := S1.c * 2 ^ S1.t, t := S1.t - S1.t } = flushS S1 := outM_t { S1 with c := S1.c * 2 ^ S1.t } _
  rw [e2] at h4
  exact ⟨h4.bs, fun hl => by have := h4.last hl; omega⟩
end

theorem codeE_get {F : Cod} (j : Nat) (h : j < F.bs.length) : fE (codeE F) j = F.bs.getD j 0 ∧ F.bs[j]? = some (fE (codeE F) j) := by
  unfold fE codeE
  rw [List.getD_eq_getElem?_getD, List.getD_eq_getElem?_getD, List.getElem?_append_left h, List.getElem?_eq_getElem h]
  exact ⟨rfl, rfl⟩
theorem codeE_last {F : Cod} : fE (codeE F) F.bs.length = F.l := by
  unfold fE codeE
  rw [List.getD_eq_getElem?_getD]; simp
theorem codeE_len {F : Cod} : (codeE F).length = F.bs.length + 1 := by simp [codeE]
theorem Stf0.prev {F : Cod} (h : Stf0 F 1) (hl : F.bs.getLast? = some 255) : F.l ≤ 143 := by
  have h1 := h.last hl
  have h2 := Nat.two_pow_pos (27 - F.t)
  have h3 : F.l * 2 ^ (27 - F.t) < 144 * 2 ^ (27 - F.t) := by omega
  have := Nat.lt_of_mul_lt_mul_right h3
  omega
theorem Stf0.stuffed {F : Cod} (h : Stf0 F 1) : Stuffed (codeE F) := by
  intro j hj hlt
  rw [codeE_len] at hlt
  have hjl : j < F.bs.length := by omega
  have h1 := (codeE_get j hjl).2
  rw [hj] at h1
  rcases Nat.lt_or_ge (j + 1) F.bs.length with h2 | h2
  · exact h.bs j h1 _ (codeE_get (j + 1) h2).2
  · have e : j + 1 = F.bs.length := by omega
    rw [e, codeE_last]
    refine h.prev ?_
    rw [List.getLast?_eq_getElem?, ← e, Nat.add_sub_cancel]
    exact h1

/-- The bytes: the code without its first byte, and without an ff at its end. -/
theorem bytes_code {F : Cod} (j : Nat) : (bytesM F).getD j 255 = fE (codeE F) (j + 1) := by
  have hc : bytesM F = if F.l = 255 then ((codeE F).drop 1).dropLast else (codeE F).drop 1 := rfl
  have hd : ((codeE F).drop 1).getD j 255 = fE (codeE F) (j + 1) := by
    unfold fE
    rw [List.getD_eq_getElem?_getD, List.getD_eq_getElem?_getD, List.getElem?_drop, Nat.add_comm 1 j]
  rw [hc]
  split
  · rename_i hl
    have hlen := codeE_len (F := F)
    have hdl : ((codeE F).drop 1).length = F.bs.length := by rw [List.length_drop, hlen]; omega
    rcases Nat.lt_trichotomy (j + 1) F.bs.length with h1 | h1 | h1
    · rw [← hd, List.getD_eq_getElem?_getD, List.getD_eq_getElem?_getD, List.dropLast_eq_take, List.getElem?_take_of_lt (by omega)]
    · have e : fE (codeE F) (j + 1) = 255 := by rw [h1, codeE_last, hl]
      rw [e, List.getD_eq_getElem?_getD, List.getElem?_eq_none (by rw [List.length_dropLast]; omega)]
      rfl
    · rw [fE_end _ (by omega), List.getD_eq_getElem?_getD, List.getElem?_eq_none (by rw [List.length_dropLast]; omega)]
      rfl
  · exact hd
theorem bytes_ff {F : Cod} (h : Stf0 F 1) {i : Nat} (hi : (bytesM F)[i]? = some 255) : i + 1 < (bytesM F).length ∧ ∀ y, (bytesM F)[i + 1]? = some y → y ≤ 143 := by
  have hlen := codeE_len (F := F)
  have h0 := h.stuffed
  have hil := (List.getElem?_eq_some_iff.1 hi).1
  have e0 := bytes_code (F := F) i
  rw [List.getD_eq_getElem?_getD, hi] at e0
  have e0 : fE (codeE F) (i + 1) = 255 := e0.symm
  have hbl : (bytesM F).length = if F.l = 255 then F.bs.length - 1 else F.bs.length := by
    have hc : bytesM F = if F.l = 255 then ((codeE F).drop 1).dropLast else (codeE F).drop 1 := rfl
    rw [hc]
    split
    · rw [List.length_dropLast, List.length_drop, hlen]; omega
    · rw [List.length_drop, hlen]; omega
  have hlt : i + 1 < (bytesM F).length := by
    rcases Nat.lt_or_ge (i + 1) (bytesM F).length with h1 | h1
    · exact h1
    · exfalso
      by_cases hl : F.l = 255
      · rw [if_pos hl] at hbl
        have h2 := h0 (i + 1) e0 (by omega)
        have h3 : i + 1 + 1 = F.bs.length := by omega
        rw [h3, codeE_last] at h2
        omega
      · rw [if_neg hl] at hbl
        have h3 : i + 1 = F.bs.length := by omega
        rw [h3, codeE_last] at e0
        exact hl e0
  refine ⟨hlt, fun y hy => ?_⟩
  have e1 := bytes_code (F := F) (i + 1)
  rw [List.getD_eq_getElem?_getD, hy] at e1
  have e1 : y = fE (codeE F) (i + 1 + 1) := e1
  rw [e1]
  refine h0 (i + 1) e0 ?_
  have : (bytesM F).length ≤ F.bs.length := by rw [hbl]; split <;> omega
  omega

/-- Backwards over a decision. -/
theorem fut_put {E : List Nat} {s : Cod} (hs : Wf s) {k bit : Nat} (hF : Fut E (putM s k bit) (putM s k bit).a) : Fut E s s.a := by
  have hx := getD_lt hs.st k
  have hr : s.st.getD k 0 / 2 < 47 := by omega
  have hq1 := qOf_pos hr
  have hq2 := qOf_le hr
  have hM := set_lt hs.st (k := k) (upM_lt hx)
  have hL := set_lt hs.st (k := k) (upL_lt hx)
  have hlo := hs.lo
  have hhi := hs.hi
  have hca := hs.ca
  have h17 : (2 : Nat) ^ 17 = 131072 := rfl
  unfold putM at hF
  simp only [] at hF
  generalize s.st.getD k 0 = x at *
  generalize qOf (x / 2) = q at *
  have lw : ∀ {n' : Nat} {st' : List Nat}, (∀ x ∈ st', x < 94) → Fut E (renewM 17 { s with a := q, n := n', st := st' }) (renewM 17 { s with a := q, n := n', st := st' }).a → Fut E s s.a := fun {n' st'} hst h =>
    Fut.part (s := s) (c' := s.c) (d' := s.done) (Fut.renew 17 (s := { s with a := q, n := n', st := st' }) ⟨hs.t1, hs.t12, by show s.c + q < 2 ^ (28 - s.t); omega, hs.l, hs.bs, hst⟩ (by show q < _; omega) (by show _ ≤ q * _; omega) h) (by omega) (by show s.c + q ≤ _; omega)
  have up : ∀ {n' : Nat} {st' : List Nat}, s.a - q < 0x8000 → 1 ≤ s.a - q → (∀ x ∈ st', x < 94) → Fut E (renewM 17 { s with a := s.a - q, c := s.c + q, n := n', st := st' }) (renewM 17 { s with a := s.a - q, c := s.c + q, n := n', st := st' }).a → Fut E s s.a := fun {n' st'} h1 h2 hst h =>
    Fut.part (s := s) (d' := s.done) (Fut.renew 17 (s := { s with a := s.a - q, c := s.c + q, n := n', st := st' }) ⟨hs.t1, hs.t12, by show s.c + q + (s.a - q) < 2 ^ (28 - s.t); omega, hs.l, hs.bs, hst⟩ h1 (by show _ ≤ (s.a - q) * _; omega) h) (by omega) (by show s.c + q + (s.a - q) ≤ _; omega)
  split at hF
  · split at hF
    · exact Fut.part (s := s) (A := s.a - q) (d' := s.done) hF (by omega) (by omega)
    · split at hF
      · exact lw hM hF
      · exact up (by omega) (by omega) hM hF
  · split at hF
    · exact up (by omega) (by omega) hL hF
    · exact lw hL hF

/-- At the beginning. -/
theorem sync_new {E : List Nat} {m : Nat} {b : List Nat} (hE : Stuffed E) (hb : ∀ j, b.getD j 255 = fE E (j + 1)) (hlt : ∀ x ∈ b, x < 256) (hF : Fut E (newC m) (newC m).a) : Sync E (newC m) (newD b m) := by
  have hX0 : fE E 0 = 0 := by
    have := hF.hi 0
    have e : lowC (newC m) = 0 := by simp [lowC, newC, valL, valR]
    rw [e] at this
    have e2 : XE E 0 = fE E 0 := rfl
    rw [e2] at this
    simp [newC, BE] at this
    omega
  have hb0 : ∀ d : Dec, d.b = b → ∀ j, byteD d j = fE E (j + 1) := fun d e j => by unfold byteD; rw [e]; exact hb j
  have hl1 : lenE E 1 = 8 := by
    unfold lenE
    rw [if_neg]
    rintro ⟨_, h⟩
    rw [show 1 - 1 = 0 from rfl, hX0] at h
    omega
  have hX1 : XE E 1 = fE E 1 := by
    show XE E 0 * 2 ^ lenE E 1 + fE E 1 = _
    have : XE E 0 = 0 := hX0
    rw [this]; omega
  have hf1 : fE E 1 < 256 := by rw [← hb0 { a := 0, c := 0, t := 0, n := 0, st := [], b := b, i := 0 } rfl 0]; exact byteD_lt (s := { a := 0, c := 0, t := 0, n := 0, st := [], b := b, i := 0 }) hlt 0
  have hf2 : fE E 2 < 256 := by rw [← hb0 { a := 0, c := 0, t := 0, n := 0, st := [], b := b, i := 0 } rfl 1]; exact byteD_lt (s := { a := 0, c := 0, t := 0, n := 0, st := [], b := b, i := 0 }) hlt 1
  have hc0 : b.getD 0 255 = fE E 1 := hb 0
  generalize hd : ({ a := 0x8000, c := b.getD 0 255 * 65536, t := 0, n := 0, st := List.replicate m 0, b := b, i := 0 } : Dec) = d
  have hdc : d.c = fE E 1 * 65536 := by rw [← hd]; show b.getD 0 255 * 65536 = _; rw [hc0]
  have hP : Pos E d 1 := ⟨hb0 d (by rw [← hd]), .inl (by rw [← hd])⟩
  obtain ⟨q1, q2, q3⟩ := inD_pos hE hP
  have hnew : newD b m = { inD d with c := (inD d).c * 128 % M32, t := (inD d).t - 7 } := by rw [← hd]; rfl
  have hst : (inD d).a = 0x8000 ∧ (inD d).n = 0 ∧ (inD d).st = List.replicate m 0 := by
    rw [← hd]; unfold inD; split
    · exact ⟨rfl, rfl, rfl⟩
    · split <;> exact ⟨rfl, rfl, rfl⟩
  obtain ⟨l1, l2⟩ := lenE_le E 2
  have hXX : XE E 2 = fE E 1 * 2 ^ lenE E 2 + fE E 2 := by show XE E 1 * _ + _ = _; rw [hX1]
  have hBB : BE E 2 = 8 + lenE E 2 := by show 0 + lenE E 1 + lenE E 2 = _; rw [hl1]
  have q2 : (inD d).t = lenE E 2 := q2
  have q3 : (inD d).c = (d.c + fE E 2 * 2 ^ (16 - lenE E 2)) % M32 := q3
  rw [hnew]
  refine ⟨hst.1, hst.2.2, hst.2.1, 2, ⟨⟨q1.by_, q1.at_⟩, ?_, ?_⟩⟩
  · show BE E 2 = 0 + (27 - 12) + ((inD d).t - 7)
    omega
  · have e : lowC (newC m) = 0 := by simp [lowC, newC, valL, valR]
    show (inD d).c * 128 % M32 + lowC (newC m) * 65536 = XE E 2 * 2 ^ (16 - ((inD d).t - 7))
    have hM : M32 = 4294967296 := rfl
    rw [e, q3, q2, hXX, hdc, hM]
    rcases (show lenE E 2 = 7 ∨ lenE E 2 = 8 by omega) with h | h <;> rw [h] <;> simp only [show (16 - 7) = 9 from rfl, show 16 - 8 = 8 from rfl, show 16 - (7 - 7) = 16 from rfl, show 16 - (8 - 7) = 15 from rfl] <;> omega

/-! ### the whole run -/
section
variable (k b : Nat → Nat) (m cnt : Nat)
theorem codN_wf (h : ∀ i, i < cnt → b i ≤ 1) : ∀ i, i ≤ cnt → i ≤ 16777216 → Wf (codN k b m i) ∧ (codN k b m i).n = i
  | 0, _, _ => ⟨newC_wf m, rfl⟩
  | i + 1, hi, h2 => by
    obtain ⟨g1, g2⟩ := codN_wf h i (by omega) (by omega)
    exact ⟨putM_wf g1 _ _ (by omega), by show (putM _ _ _).n = _; rw [(putM_n _ _ _).1, g2]⟩
theorem codN_stf (h : ∀ i, i < cnt → b i ≤ 1) : ∀ i, i ≤ cnt → i ≤ 16777216 → Stf (codN k b m i) (codN k b m i).a
  | 0, _, _ => stf_new m
  | i + 1, hi, h2 => stf_put (codN_stf h i (by omega) (by omega)) (codN_wf k b m cnt h i (by omega) (by omega)).1 _ _
theorem fut_run (h : ∀ i, i < cnt → b i ≤ 1) (hc : cnt ≤ 16777216) : ∀ d, d ≤ cnt → Fut (codeE (flushM (codN k b m cnt))) (codN k b m (cnt - d)) (codN k b m (cnt - d)).a
  | 0, _ => fut_flush (codN_wf k b m cnt h cnt (Nat.le_refl _) hc).1
  | d + 1, hd => by
    have h1 := fut_run h hc d (by omega)
    have e : cnt - d = (cnt - (d + 1)) + 1 := by omega
    rw [e] at h1
    exact fut_put (codN_wf k b m cnt h _ (by omega) (by omega)).1 h1
theorem decN_wfD {bytes : List Nat} (hb : ∀ x ∈ bytes, x < 256) : ∀ i, i ≤ 16777216 → WfD (decN k bytes m i) ∧ (decN k bytes m i).n = i
  | 0, _ => by
    have hnew : ∀ d : Dec, MidD d → d.a = 0x8000 → d.n = 0 → WfD { inD d with c := (inD d).c * 128 % M32, t := (inD d).t - 7 } ∧ ({ inD d with c := (inD d).c * 128 % M32, t := (inD d).t - 7 } : Dec).n = 0 := fun d hd ha hn => by
      obtain ⟨i1, i2, i3, i4, i5, i6⟩ := inD_mid hd
      have := i1.t8
      exact ⟨⟨⟨by show (inD d).t - 7 ≤ 8; omega, Nat.mod_lt _ (by decide), i1.b, i1.st, i1.i⟩, by show (inD d).n ≤ _; omega, by show _ ≤ (inD d).a; omega, by show (inD d).a < _; omega⟩, by show (inD d).n = 0; omega⟩
    refine hnew { a := 0x8000, c := bytes.getD 0 255 * 65536, t := 0, n := 0, st := List.replicate m 0, b := bytes, i := 0 } ⟨Nat.zero_le _, ?_, hb, fun x hx => by simp only [List.mem_replicate] at hx; omega, Nat.zero_le _⟩ rfl rfl
    have := byteD_lt (s := { a := 0, c := 0, t := 0, n := 0, st := [], b := bytes, i := 0 }) hb 0
    have e : byteD { a := 0, c := 0, t := 0, n := 0, st := [], b := bytes, i := 0 } 0 = bytes.getD 0 255 := rfl
    show bytes.getD 0 255 * 65536 < 4294967296
    omega
  | i + 1, h => by
    obtain ⟨g1, g2⟩ := decN_wfD hb i (by omega)
    refine ⟨getD_wf g1 _ (by omega), ?_⟩
    have hrn : ∀ (j : Nat) (s : Dec), (renewD j s).n = s.n := by
      have hi : ∀ s : Dec, (inD s).n = s.n := fun s => by unfold inD; split; rfl; split <;> rfl
      have hs : ∀ s : Dec, (shiftD s).n = s.n := fun s => by unfold shiftD; simp only []; split; exact hi s; rfl
      intro j
      induction j with
      | zero => intro s; rfl
      | succ j ih => intro s; unfold renewD; simp only []; split; exact hs s; exact (ih _).trans (hs s)
    show (getD (decN k bytes m i) (k i)).1.n = i + 1
    unfold getD
    simp only []
    split
    · split <;> (rw [hrn]; exact congrArg (· + 1) g2)
    · split
      · exact congrArg (· + 1) g2
      · split <;> (rw [hrn]; exact congrArg (· + 1) g2)
theorem back_run (h : ∀ i, i < cnt → b i ≤ 1) (hc : cnt ≤ 16777216) (hlt : ∀ x ∈ bytesM (flushM (codN k b m cnt)), x < 256) : ∀ i, i ≤ cnt →
    Sync (codeE (flushM (codN k b m cnt))) (codN k b m i) (decN k (bytesM (flushM (codN k b m cnt))) m i)
  | 0, _ => by
    have hE := (stf_flush (codN_stf k b m cnt h cnt (Nat.le_refl _) hc) (codN_wf k b m cnt h cnt (Nat.le_refl _) hc).1).stuffed
    have hF := fut_run k b m cnt h hc cnt (Nat.le_refl _)
    rw [Nat.sub_self] at hF
    exact sync_new hE bytes_code hlt hF
  | i + 1, hi => by
    have hE := (stf_flush (codN_stf k b m cnt h cnt (Nat.le_refl _) hc) (codN_wf k b m cnt h cnt (Nat.le_refl _) hc).1).stuffed
    have hF := fut_run k b m cnt h hc (cnt - (i + 1)) (by omega)
    rw [show cnt - (cnt - (i + 1)) = i + 1 by omega] at hF
    exact (sync_put hE (codN_wf k b m cnt h i (by omega) (by omega)).1 (decN_wfD k m hlt i (by omega)).1 (back_run h hc hlt i (by omega)) (h i (by omega)) hF).1
theorem back_bit (h : ∀ i, i < cnt → b i ≤ 1) (hc : cnt ≤ 16777216) (hlt : ∀ x ∈ bytesM (flushM (codN k b m cnt)), x < 256) {i : Nat} (hi : i < cnt) :
    (getD (decN k (bytesM (flushM (codN k b m cnt))) m i) (k i)).2 = b i := by
  have hE := (stf_flush (codN_stf k b m cnt h cnt (Nat.le_refl _) hc) (codN_wf k b m cnt h cnt (Nat.le_refl _) hc).1).stuffed
  have hF := fut_run k b m cnt h hc (cnt - (i + 1)) (by omega)
  rw [show cnt - (cnt - (i + 1)) = i + 1 by omega] at hF
  exact (sync_put hE (codN_wf k b m cnt h i (by omega) (by omega)).1 (decN_wfD k m hlt i (by omega)).1 (back_run k b m cnt h hc hlt i (by omega)) (h i hi) hF).2.1
end

end Go.Ar
