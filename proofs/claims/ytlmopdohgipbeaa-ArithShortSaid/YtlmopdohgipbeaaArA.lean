/- ArA: the arithmetic coder and decoder as plain functions on numbers and lists; what stays true of their states. No Go, no memory. -/
import Derived.Test.YtlmopdohgipbeaaDen
set_option linter.unusedVariables false
set_option linter.unusedSimpArgs false
namespace Go.Ar

def qTab : List Nat := [0x5601, 0x3401, 0x1801, 0x0ac1, 0x0521, 0x0221, 0x5601, 0x5401, 0x4801, 0x3801, 0x3001, 0x2401, 0x1c01, 0x1601, 0x5601, 0x5401, 0x5101, 0x4801, 0x3801, 0x3401, 0x3001, 0x2801, 0x2401, 0x2201, 0x1c01, 0x1801, 0x1601, 0x1401, 0x1201, 0x1101, 0x0ac1, 0x09c1, 0x08a1, 0x0521, 0x0441, 0x02a1, 0x0221, 0x0141, 0x0111, 0x0085, 0x0049, 0x0025, 0x0015, 0x0009, 0x0005, 0x0001, 0x5601]
def mTab : List Nat := [1, 2, 3, 4, 5, 38, 7, 8, 9, 10, 11, 12, 13, 29, 15, 16, 17, 18, 19, 20, 21, 22, 23, 24, 25, 26, 27, 28, 29, 30, 31, 32, 33, 34, 35, 36, 37, 38, 39, 40, 41, 42, 43, 44, 45, 45, 46]
def lTab : List Nat := [1, 6, 9, 12, 29, 33, 6, 14, 14, 14, 17, 18, 20, 21, 14, 14, 15, 16, 17, 18, 19, 19, 20, 21, 22, 23, 24, 25, 26, 27, 28, 29, 30, 31, 32, 33, 34, 35, 36, 37, 38, 39, 40, 41, 42, 43, 46]
def cTab : List Nat := [1, 0, 0, 0, 0, 0, 1, 0, 0, 0, 0, 0, 0, 0, 1, 0, 0, 0, 0, 0, 0, 0, 0, 0, 0, 0, 0, 0, 0, 0, 0, 0, 0, 0, 0, 0, 0, 0, 0, 0, 0, 0, 0, 0, 0, 0, 0]
def qOf (r : Nat) : Nat := qTab.getD r 0
def mOf (r : Nat) : Nat := mTab.getD r 0
def lOf (r : Nat) : Nat := lTab.getD r 0
def cOf (r : Nat) : Nat := cTab.getD r 0

theorem forall_lt_47 {p : Nat → Prop} (h : ∀ r ∈ List.range 47, p r) {r : Nat} (hr : r < 47) : p r := h r (List.mem_range.2 hr)
theorem qOf_pos {r : Nat} (hr : r < 47) : 1 ≤ qOf r := forall_lt_47 (p := fun r => 1 ≤ qOf r) (by decide) hr
theorem qOf_le {r : Nat} (hr : r < 47) : qOf r ≤ 0x5601 := forall_lt_47 (p := fun r => qOf r ≤ 0x5601) (by decide) hr
theorem mOf_lt {r : Nat} (hr : r < 47) : mOf r < 47 := forall_lt_47 (p := fun r => mOf r < 47) (by decide) hr
theorem lOf_lt {r : Nat} (hr : r < 47) : lOf r < 47 := forall_lt_47 (p := fun r => lOf r < 47) (by decide) hr
theorem cOf_le {r : Nat} (hr : r < 47) : cOf r ≤ 1 := forall_lt_47 (p := fun r => cOf r ≤ 1) (by decide) hr

/-- What a context becomes: behind the likelier bit, behind the other one. -/
def upM (x : Nat) : Nat := 2 * mOf (x / 2) + x % 2
def upL (x : Nat) : Nat := 2 * lOf (x / 2) + (x % 2 + cOf (x / 2)) % 2
theorem upM_lt {x : Nat} (hx : x < 94) : upM x < 94 := by have := mOf_lt (r := x / 2) (by omega); unfold upM; omega
theorem upL_lt {x : Nat} (hx : x < 94) : upL x < 94 := by have := lOf_lt (r := x / 2) (by omega); unfold upL; omega

/-- A coder: its bytes are 'bs' and, behind them, 'l'. -/
structure Cod where
  a : Nat
  c : Nat
  t : Nat
  n : Nat
  st : List Nat
  bs : List Nat
  l : Nat
  done : Bool

def newC (n : Nat) : Cod := { a := 0x8000, c := 0, t := 12, n := 0, st := List.replicate n 0, bs := [], l := 0, done := false }

def outTail (s : Cod) (l c : Nat) : Cod :=
  if l = 255 then { s with bs := s.bs ++ [l], l := c / 1048576 % 256, c := c % 1048576, t := 7 }
  else { s with bs := s.bs ++ [l], l := c / 524288 % 256, c := c % 524288, t := 8 }
def outM (s : Cod) : Cod := if s.l ≠ 255 ∧ 134217728 ≤ s.c then outTail s (s.l + 1) (s.c % 134217728) else outTail s s.l s.c

def shiftM (s : Cod) : Cod :=
  let s1 : Cod := { s with a := 2 * s.a, c := 2 * s.c, t := s.t - 1 }
  if s1.t = 0 then outM s1 else s1
def renewM : Nat → Cod → Cod
  | 0, s => s
  | n + 1, s => let s1 := shiftM s; if 0x8000 ≤ s1.a then s1 else renewM n s1

def putM (s : Cod) (k bit : Nat) : Cod :=
  let x := s.st.getD k 0
  let q := qOf (x / 2)
  let a := s.a - q
  if bit = x % 2 then
    if 0x8000 ≤ a then { s with a := a, c := s.c + q, n := s.n + 1 }
    else if a < q then renewM 17 { s with a := q, n := s.n + 1, st := s.st.set k (upM x) }
    else renewM 17 { s with a := a, c := s.c + q, n := s.n + 1, st := s.st.set k (upM x) }
  else
    if a < q then renewM 17 { s with a := a, c := s.c + q, n := s.n + 1, st := s.st.set k (upL x) }
    else renewM 17 { s with a := q, n := s.n + 1, st := s.st.set k (upL x) }

def flushC (s : Cod) : Nat := let c := s.c / 65536 * 65536 + 65535; if s.c + s.a ≤ c then c - 0x8000 else c
def flushS (s : Cod) : Cod := outM { s with c := s.c * 2 ^ s.t }
def flushM (s : Cod) : Cod := flushS (flushS { s with c := flushC s, done := true })
def bytesM (s : Cod) : List Nat := let b := (s.bs ++ [s.l]).drop 1; if s.l = 255 then b.dropLast else b

/-! ### what stays true -/
/-- All but the range of 'a' and the counts. -/
structure Mid (s : Cod) : Prop where
  t1 : 1 ≤ s.t
  t12 : s.t ≤ 12
  ca : s.c + s.a < 2 ^ (28 - s.t)
  l : s.l < 256
  bs : ∀ x ∈ s.bs, x < 256
  st : ∀ x ∈ s.st, x < 94
structure Wf (s : Cod) : Prop extends Mid s where
  len : s.bs.length ≤ 17 * s.n
  n : s.n ≤ 16777216
  lo : 0x8000 ≤ s.a
  hi : s.a < 0x10000

theorem pow_split {t : Nat} (h1 : 1 ≤ t) (h2 : t ≤ 12) : 2 ^ (28 - (t - 1)) = 2 * 2 ^ (28 - t) := by
  have : 28 - (t - 1) = (28 - t) + 1 := by omega
  rw [this, Nat.pow_succ]; omega
theorem pow_le {t : Nat} (h1 : 1 ≤ t) : 2 ^ (28 - t) ≤ 134217728 := by
  have : (2 : Nat) ^ (28 - t) ≤ 2 ^ 27 := Nat.pow_le_pow_right (by omega) (by omega)
  simpa using this

theorem outTail_same (s : Cod) (l c : Nat) : (outTail s l c).a = s.a ∧ (outTail s l c).n = s.n ∧ (outTail s l c).st = s.st ∧ (outTail s l c).done = s.done ∧ (outTail s l c).bs = s.bs ++ [l] := by
  unfold outTail; split <;> exact ⟨rfl, rfl, rfl, rfl, rfl⟩
theorem outM_same (s : Cod) : (outM s).a = s.a ∧ (outM s).n = s.n ∧ (outM s).st = s.st ∧ (outM s).done = s.done ∧ (outM s).bs.length = s.bs.length + 1 := by
  unfold outM
  split
  · obtain ⟨h1, h2, h3, h4, h5⟩ := outTail_same s (s.l + 1) (s.c % 134217728)
    exact ⟨h1, h2, h3, h4, by rw [h5]; simp⟩
  · obtain ⟨h1, h2, h3, h4, h5⟩ := outTail_same s s.l s.c
    exact ⟨h1, h2, h3, h4, by rw [h5]; simp⟩
/-- What a byte that goes out leaves. -/
theorem outTail_mid {s : Cod} {l c : Nat} (ha : s.a < 0x10000) (hl : l < 256) (hbs : ∀ x ∈ s.bs, x < 256) (hst : ∀ x ∈ s.st, x < 94) : Mid (outTail s l c) := by
  have hb : ∀ x ∈ s.bs ++ [l], x < 256 := fun x hx => by
    rcases List.mem_append.1 hx with h | h
    · exact hbs x h
    · rw [List.mem_singleton.1 h]; exact hl
  unfold outTail
  split
  · refine ⟨by simp, by simp, ?_, Nat.mod_lt _ (by omega), hb, hst⟩
    show c % 1048576 + s.a < 2 ^ 21
    have := Nat.mod_lt c (show 1048576 > 0 by omega)
    omega
  · refine ⟨by simp, by simp, ?_, Nat.mod_lt _ (by omega), hb, hst⟩
    show c % 524288 + s.a < 2 ^ 20
    have := Nat.mod_lt c (show 524288 > 0 by omega)
    omega
theorem outM_mid {s : Cod} (ha : s.a < 0x10000) (hl : s.l < 256) (hbs : ∀ x ∈ s.bs, x < 256) (hst : ∀ x ∈ s.st, x < 94) : Mid (outM s) := by
  unfold outM
  split
  · rename_i h; exact outTail_mid ha (by omega) hbs hst
  · exact outTail_mid ha hl hbs hst

theorem shiftM_mid {s : Cod} (h : Mid s) (ha : s.a < 0x8000) : Mid (shiftM s) ∧ (shiftM s).a = 2 * s.a ∧ (shiftM s).n = s.n ∧ (shiftM s).st = s.st ∧ (shiftM s).done = s.done ∧ (shiftM s).bs.length ≤ s.bs.length + 1 := by
  have h1 := h.t1
  have h2 := h.t12
  unfold shiftM
  simp only []
  split
  · rename_i ht
    obtain ⟨e1, e2, e3, e4, e5⟩ := outM_same { s with a := 2 * s.a, c := 2 * s.c, t := s.t - 1 }
    exact ⟨outM_mid (by show 2 * s.a < 0x10000; omega) h.l h.bs h.st, e1, e2, e3, e4, by rw [e5]; exact Nat.le_refl _⟩
  · rename_i ht
    have ht : s.t - 1 ≠ 0 := ht
    refine ⟨⟨by show 1 ≤ s.t - 1; omega, by show s.t - 1 ≤ 12; omega, ?_, h.l, h.bs, h.st⟩, rfl, rfl, rfl, rfl, Nat.le_succ _⟩
    show 2 * s.c + 2 * s.a < 2 ^ (28 - (s.t - 1))
    rw [pow_split h1 h2]
    have := h.ca
    omega

theorem renewM_mid : ∀ (k : Nat) {s : Cod}, Mid s → s.a < 0x8000 → 0x8000 ≤ s.a * 2 ^ k →
    Mid (renewM k s) ∧ 0x8000 ≤ (renewM k s).a ∧ (renewM k s).a < 0x10000 ∧ (renewM k s).n = s.n ∧ (renewM k s).st = s.st ∧ (renewM k s).done = s.done ∧ (renewM k s).bs.length ≤ s.bs.length + k
  | 0, s, h, ha, hk => by simp at hk; omega
  | k + 1, s, h, ha, hk => by
    obtain ⟨h1, h2, h3, h4, h5, h6⟩ := shiftM_mid h ha
    unfold renewM
    simp only []
    split
    · rename_i hge
      exact ⟨h1, hge, by omega, h3, h4, h5, by omega⟩
    · rename_i hlt
      have hk' : 0x8000 ≤ (shiftM s).a * 2 ^ k := by
        rw [h2]
        rw [Nat.pow_succ] at hk
        have : s.a * (2 ^ k * 2) = 2 * s.a * 2 ^ k := by rw [Nat.mul_comm (2 ^ k) 2, ← Nat.mul_assoc, Nat.mul_comm s.a 2]
        omega
      obtain ⟨g1, g2, g3, g4, g5, g6, g7⟩ := renewM_mid k h1 (by omega) hk'
      exact ⟨g1, g2, g3, g4.trans h3, g5.trans h4, g6.trans h5, by omega⟩

theorem getD_lt {st : List Nat} (h : ∀ x ∈ st, x < 94) (k : Nat) : st.getD k 0 < 94 := by
  rw [List.getD_eq_getElem?_getD]
  cases hk : st[k]? with
  | none => simp
  | some x => exact h x (List.mem_of_getElem? hk)
theorem set_lt {st : List Nat} (h : ∀ x ∈ st, x < 94) {k v : Nat} (hv : v < 94) : ∀ x ∈ st.set k v, x < 94 := fun x hx => by
  rcases List.mem_or_eq_of_mem_set hx with h1 | h1
  · exact h x h1
  · rw [h1]; exact hv

/-- Behind a decision: the state before it is renewed. -/
theorem renew_wf {s : Cod} (h : Mid s) (ha : 1 ≤ s.a) (ha' : s.a < 0x8000) (hl : s.bs.length ≤ 17 * (s.n - 1)) (hn1 : 1 ≤ s.n) (hn : s.n ≤ 16777216) : Wf (renewM 17 s) := by
  obtain ⟨g1, g2, g3, g4, g5, g6, g7⟩ := renewM_mid 17 h ha' (by have : (2 : Nat) ^ 17 = 131072 := rfl; omega)
  exact ⟨g1, by omega, by omega, g2, g3⟩

theorem putM_wf {s : Cod} (h : Wf s) (k bit : Nat) (hn : s.n < 16777216) : Wf (putM s k bit) := by
  have hx := getD_lt h.st k
  have hr : s.st.getD k 0 / 2 < 47 := by omega
  have hq1 := qOf_pos hr
  have hq2 := qOf_le hr
  have hM := set_lt h.st (k := k) (upM_lt hx)
  have hL := set_lt h.st (k := k) (upL_lt hx)
  have h1 := h.lo
  have h2 := h.hi
  have h3 := h.ca
  have h4 := h.len
  unfold putM
  simp only []
  split
  · split
    · exact ⟨⟨h.t1, h.t12, by show s.c + qOf _ + (s.a - qOf _) < 2 ^ (28 - s.t); omega, h.l, h.bs, h.st⟩, by show s.bs.length ≤ 17 * (s.n + 1); omega, by show s.n + 1 ≤ _; omega, by assumption, by show s.a - _ < _; omega⟩
    · split
      · exact renew_wf ⟨h.t1, h.t12, by show s.c + qOf _ < 2 ^ (28 - s.t); omega, h.l, h.bs, hM⟩ hq1 (by show qOf _ < _; omega) (by show s.bs.length ≤ 17 * (s.n + 1 - 1); omega) (by show 1 ≤ s.n + 1; omega) (by show s.n + 1 ≤ _; omega)
      · exact renew_wf ⟨h.t1, h.t12, by show s.c + qOf _ + (s.a - qOf _) < 2 ^ (28 - s.t); omega, h.l, h.bs, hM⟩ (by show 1 ≤ s.a - qOf _; omega) (by show s.a - qOf _ < _; omega) (by show s.bs.length ≤ 17 * (s.n + 1 - 1); omega) (by show 1 ≤ s.n + 1; omega) (by show s.n + 1 ≤ _; omega)
  · split
    · exact renew_wf ⟨h.t1, h.t12, by show s.c + qOf _ + (s.a - qOf _) < 2 ^ (28 - s.t); omega, h.l, h.bs, hL⟩ (by show 1 ≤ s.a - qOf _; omega) (by show s.a - qOf _ < _; omega) (by show s.bs.length ≤ 17 * (s.n + 1 - 1); omega) (by show 1 ≤ s.n + 1; omega) (by show s.n + 1 ≤ _; omega)
    · exact renew_wf ⟨h.t1, h.t12, by show s.c + qOf _ < 2 ^ (28 - s.t); omega, h.l, h.bs, hL⟩ hq1 (by show qOf _ < _; omega) (by show s.bs.length ≤ 17 * (s.n + 1 - 1); omega) (by show 1 ≤ s.n + 1; omega) (by show s.n + 1 ≤ _; omega)

theorem newC_wf (n : Nat) : Wf (newC n) :=
  ⟨⟨by simp [newC], by simp [newC], by simp [newC], by simp [newC], by simp [newC], fun x hx => by simp only [newC, List.mem_replicate] at hx; omega⟩, by simp [newC], by simp [newC], by simp [newC], by simp [newC]⟩

theorem renewM_st : ∀ (k : Nat) (s : Cod), (renewM k s).st = s.st ∧ (renewM k s).n = s.n ∧ (renewM k s).done = s.done := by
  have hs : ∀ s : Cod, (shiftM s).st = s.st ∧ (shiftM s).n = s.n ∧ (shiftM s).done = s.done := fun s => by
    unfold shiftM
    simp only []
    split
    · obtain ⟨_, e2, e3, e4, _⟩ := outM_same { s with a := 2 * s.a, c := 2 * s.c, t := s.t - 1 }
      exact ⟨e3, e2, e4⟩
    · exact ⟨rfl, rfl, rfl⟩
  intro k
  induction k with
  | zero => intro s; exact ⟨rfl, rfl, rfl⟩
  | succ k ih =>
    intro s
    obtain ⟨h1, h2, h3⟩ := hs s
    unfold renewM
    simp only []
    split
    · exact ⟨h1, h2, h3⟩
    · obtain ⟨g1, g2, g3⟩ := ih (shiftM s)
      exact ⟨g1.trans h1, g2.trans h2, g3.trans h3⟩
theorem putM_n (s : Cod) (k bit : Nat) : (putM s k bit).n = s.n + 1 ∧ (putM s k bit).st.length = s.st.length ∧ (putM s k bit).done = s.done := by
  unfold putM
  simp only []
  split
  · split
    · exact ⟨rfl, rfl, rfl⟩
    · split
      · obtain ⟨h1, h2, h3⟩ := renewM_st 17 { s with a := qOf (s.st.getD k 0 / 2), n := s.n + 1, st := s.st.set k (upM (s.st.getD k 0)) }
        exact ⟨h2, by rw [h1]; simp, h3⟩
      · obtain ⟨h1, h2, h3⟩ := renewM_st 17 { s with a := s.a - qOf (s.st.getD k 0 / 2), c := s.c + qOf (s.st.getD k 0 / 2), n := s.n + 1, st := s.st.set k (upM (s.st.getD k 0)) }
        exact ⟨h2, by rw [h1]; simp, h3⟩
  · split
    · obtain ⟨h1, h2, h3⟩ := renewM_st 17 { s with a := s.a - qOf (s.st.getD k 0 / 2), c := s.c + qOf (s.st.getD k 0 / 2), n := s.n + 1, st := s.st.set k (upL (s.st.getD k 0)) }
      exact ⟨h2, by rw [h1]; simp, h3⟩
    · obtain ⟨h1, h2, h3⟩ := renewM_st 17 { s with a := qOf (s.st.getD k 0 / 2), n := s.n + 1, st := s.st.set k (upL (s.st.getD k 0)) }
      exact ⟨h2, by rw [h1]; simp, h3⟩

/-! ### the decoder -/
structure Dec where
  a : Nat
  c : Nat
  t : Nat
  n : Nat
  st : List Nat
  b : List Nat
  i : Nat

def M32 : Nat := 4294967296
def byteD (s : Dec) (i : Nat) : Nat := s.b.getD i 255
def inD (s : Dec) : Dec :=
  if byteD s s.i ≠ 255 then { s with i := s.i + 1, c := (s.c + byteD s (s.i + 1) * 256) % M32, t := 8 }
  else if byteD s (s.i + 1) > 143 then { s with c := (s.c + 65280) % M32, t := 8 }
  else { s with i := s.i + 1, c := (s.c + byteD s (s.i + 1) * 512) % M32, t := 7 }
def newD (b : List Nat) (n : Nat) : Dec :=
  let s : Dec := inD { a := 0x8000, c := b.getD 0 255 * 65536, t := 0, n := 0, st := List.replicate n 0, b := b, i := 0 }
  { s with c := s.c * 128 % M32, t := s.t - 7 }
def shiftD (s : Dec) : Dec :=
  let s1 := if s.t = 0 then inD s else s
  { s1 with a := 2 * s1.a, c := 2 * s1.c % M32, t := s1.t - 1 }
def renewD : Nat → Dec → Dec
  | 0, s => s
  | n + 1, s => let s1 := shiftD s; if 0x8000 ≤ s1.a then s1 else renewD n s1
def getD (s : Dec) (k : Nat) : Dec × Nat :=
  let x := s.st.getD k 0
  let q := qOf (x / 2)
  let a := s.a - q
  if s.c / 65536 < q then
    if a < q then (renewD 17 { s with a := q, n := s.n + 1, st := s.st.set k (upM x) }, x % 2)
    else (renewD 17 { s with a := q, n := s.n + 1, st := s.st.set k (upL x) }, 1 - x % 2)
  else
    let c := s.c - q * 65536
    if 0x8000 ≤ a then ({ s with a := a, c := c, n := s.n + 1 }, x % 2)
    else if a < q then (renewD 17 { s with a := a, c := c, n := s.n + 1, st := s.st.set k (upL x) }, 1 - x % 2)
    else (renewD 17 { s with a := a, c := c, n := s.n + 1, st := s.st.set k (upM x) }, x % 2)

structure MidD (s : Dec) : Prop where
  t8 : s.t ≤ 8
  c : s.c < M32
  b : ∀ x ∈ s.b, x < 256
  st : ∀ x ∈ s.st, x < 94
  i : s.i ≤ s.b.length
structure WfD (s : Dec) : Prop extends MidD s where
  n : s.n ≤ 16777216
  lo : 0x8000 ≤ s.a
  hi : s.a < 0x10000

theorem byteD_lt {s : Dec} (h : ∀ x ∈ s.b, x < 256) (i : Nat) : byteD s i < 256 := by
  unfold byteD
  rw [List.getD_eq_getElem?_getD]
  cases hk : s.b[i]? with
  | none => simp
  | some x => exact h x (List.mem_of_getElem? hk)
theorem byteD_ne {s : Dec} {i : Nat} (h : byteD s i ≠ 255) : i < s.b.length := by
  unfold byteD at h
  rw [List.getD_eq_getElem?_getD] at h
  rcases Nat.lt_or_ge i s.b.length with h1 | h1
  · exact h1
  · rw [List.getElem?_eq_none h1] at h; simp at h
theorem inD_mid {s : Dec} (h : MidD s) : MidD (inD s) ∧ (inD s).a = s.a ∧ (inD s).n = s.n ∧ (inD s).st = s.st ∧ (inD s).b = s.b ∧ 1 ≤ (inD s).t := by
  have hm : ∀ x, x % M32 < M32 := fun x => Nat.mod_lt _ (by decide)
  unfold inD
  split
  · rename_i h1
    have := byteD_ne h1
    exact ⟨⟨by simp, hm _, h.b, h.st, by show s.i + 1 ≤ s.b.length; omega⟩, rfl, rfl, rfl, rfl, by simp⟩
  · split
    · exact ⟨⟨by simp, hm _, h.b, h.st, h.i⟩, rfl, rfl, rfl, rfl, by simp⟩
    · rename_i h2
      have : s.i + 1 < s.b.length := byteD_ne (s := s) (by omega)
      exact ⟨⟨by simp, hm _, h.b, h.st, by show s.i + 1 ≤ s.b.length; omega⟩, rfl, rfl, rfl, rfl, by simp⟩
theorem shiftD_mid {s : Dec} (h : MidD s) : MidD (shiftD s) ∧ (shiftD s).a = 2 * s.a ∧ (shiftD s).n = s.n ∧ (shiftD s).st = s.st ∧ (shiftD s).b = s.b := by
  have hm : ∀ x, x % M32 < M32 := fun x => Nat.mod_lt _ (by decide)
  unfold shiftD
  simp only []
  split
  · obtain ⟨h1, h2, h3, h4, h5, h6⟩ := inD_mid h
    exact ⟨⟨by show (inD s).t - 1 ≤ 8; have := h1.t8; omega, hm _, by rw [show ({ inD s with a := 2 * (inD s).a, c := 2 * (inD s).c % M32, t := (inD s).t - 1 } : Dec).b = (inD s).b from rfl]; exact h1.b, h1.st, h1.i⟩, by show 2 * (inD s).a = _; rw [h2], h3, h4, h5⟩
  · exact ⟨⟨by show s.t - 1 ≤ 8; have := h.t8; omega, hm _, h.b, h.st, h.i⟩, rfl, rfl, rfl, rfl⟩
theorem renewD_mid : ∀ (k : Nat) {s : Dec}, MidD s → s.a < 0x8000 → 0x8000 ≤ s.a * 2 ^ k →
    MidD (renewD k s) ∧ 0x8000 ≤ (renewD k s).a ∧ (renewD k s).a < 0x10000 ∧ (renewD k s).n = s.n ∧ (renewD k s).st = s.st ∧ (renewD k s).b = s.b
  | 0, s, h, ha, hk => by simp at hk; omega
  | k + 1, s, h, ha, hk => by
    obtain ⟨h1, h2, h3, h4, h5⟩ := shiftD_mid h
    unfold renewD
    simp only []
    split
    · rename_i hge
      exact ⟨h1, hge, by omega, h3, h4, h5⟩
    · rename_i hlt
      have hk' : 0x8000 ≤ (shiftD s).a * 2 ^ k := by
        rw [h2]
        rw [Nat.pow_succ] at hk
        have : s.a * (2 ^ k * 2) = 2 * s.a * 2 ^ k := by rw [Nat.mul_comm (2 ^ k) 2, ← Nat.mul_assoc, Nat.mul_comm s.a 2]
        omega
      obtain ⟨g1, g2, g3, g4, g5, g6⟩ := renewD_mid k h1 (by omega) hk'
      exact ⟨g1, g2, g3, g4.trans h3, g5.trans h4, g6.trans h5⟩
theorem renewD_wf {s : Dec} (h : MidD s) (ha : 1 ≤ s.a) (ha' : s.a < 0x8000) (hn : s.n ≤ 16777216) : WfD (renewD 17 s) := by
  obtain ⟨g1, g2, g3, g4, g5, g6⟩ := renewD_mid 17 h ha' (by have : (2 : Nat) ^ 17 = 131072 := rfl; omega)
  exact ⟨g1, by omega, g2, g3⟩

theorem getD_wf {s : Dec} (h : WfD s) (k : Nat) (hn : s.n < 16777216) : WfD (getD s k).1 := by
  have hx := getD_lt h.st k
  have hr : s.st.getD k 0 / 2 < 47 := by omega
  have hq1 := qOf_pos hr
  have hq2 := qOf_le hr
  have hM := set_lt h.st (k := k) (upM_lt hx)
  have hL := set_lt h.st (k := k) (upL_lt hx)
  have h1 := h.lo
  have h2 := h.hi
  have h3 := h.c
  have hc : ∀ q, s.c - q * 65536 < M32 := fun q => Nat.lt_of_le_of_lt (Nat.sub_le _ _) h3
  unfold getD
  simp only []
  split
  · split
    · exact renewD_wf ⟨h.t8, h3, h.b, hM, h.i⟩ hq1 (by show qOf _ < _; omega) (by show s.n + 1 ≤ _; omega)
    · exact renewD_wf ⟨h.t8, h3, h.b, hL, h.i⟩ hq1 (by show qOf _ < _; omega) (by show s.n + 1 ≤ _; omega)
  · split
    · exact ⟨⟨h.t8, hc _, h.b, h.st, h.i⟩, by show s.n + 1 ≤ _; omega, by assumption, by show s.a - _ < _; omega⟩
    · split
      · exact renewD_wf ⟨h.t8, hc _, h.b, hL, h.i⟩ (by show 1 ≤ s.a - qOf _; omega) (by show s.a - qOf _ < _; omega) (by show s.n + 1 ≤ _; omega)
      · exact renewD_wf ⟨h.t8, hc _, h.b, hM, h.i⟩ (by show 1 ≤ s.a - qOf _; omega) (by show s.a - qOf _ < _; omega) (by show s.n + 1 ≤ _; omega)

end Go.Ar
