/- W2: put together by wip/tools/bundle.py: ArA BkA BkB BkC ArK BkD Nums Marith Barith ArB ArC. -/
import Derived.Test.YteakipgcanafoaaW1
import Derived.Test.YteakipgcanafoaaProg

/- ArA: the arithmetic coder and decoder as plain functions on numbers and lists; what stays true of their states. No Go, no memory. -/
set_option linter.unusedVariables false
set_option linter.unusedSimpArgs false
namespace Go.Ar

def qTab : List Nat := [0x5601, 0x3401, 0x1801, 0x0ac1, 0x0521, 0x0221, 0x5601, 0x5401, 0x4801, 0x3801, 0x3001, 0x2401, 0x1c01, 0x1601, 0x5601, 0x5401, 0x5101, 0x4801, 0x3801, 0x3401, 0x3001, 0x2801, 0x2401, 0x2201, 0x1c01, 0x1801, 0x1601, 0x1401, 0x1201, 0x1101, 0x0ac1, 0x09c1, 0x08a1, 0x0521, 0x0441, 0x02a1, 0x0221, 0x0141, 0x0111, 0x0085, 0x0049, 0x0025, 0x0015, 0x0009, 0x0005, 0x0001, 0x5601]
def mTab : List Nat := [1, 2, 3, 4, 5, 38, 7, 8, 9, 10, 11, 12, 13, 29, 15, 16, 17, 18, 19, 20, 21, 22, 23, 24, 25, 26, 27, 28, 29, 30, 31, 32, 33, 34, 35, 36, 37, 38, 39, 40, 41, 42, 43, 44, 45, 45, 46]
def lTab : List Nat := [1, 6, 9, 12, 29, 33, 6, 14, 14, 14, 17, 18, 20, 21, 14, 14, 15, 16, 17, 18, 19, 19, 20, 21, 22, 23, 24, 25, 26, 27, 28, 29, 30, 31, 32, 33, 34, 35, 36, 37, 38, 39, 40, 41, 42, 43, 46]
def cTab : List Nat := [1, 0, 0, 0, 0, 0, 1, 0, 0, 0, 0, 0, 0, 0, 1, 0, 0, 0, 0, 0, 0, 0, 0, 0, 0, 0, 0, 0, 0, 0, 0, 0, 0, 0, 0, 0, 0, 0, 0, 0, 0, 0, 0, 0, 0, 0, 0]
def qOf (r : Nat) : Nat := qTab.getD r 0
def mOf (r : Nat) : Nat := mTab.getD r 0
def lOf (r : Nat) : Nat := lTab.getD r 0
def cOf (r : Nat) : Nat := cTab.getD r 0

theorem forall_lt_47 {p : Nat → Prop} (h : ∀ r ∈ List.range 47, p r) {r : Nat} (hr : r < 47) : p r := h r (List.mem_range.2 hr)
theorem qOf_pos {r : Nat} (hr : r < 47) : 1 ≤ qOf r := forall_lt_47 (p := fun r => 1 ≤ qOf r) (by decide) hr
theorem qOf_le {r : Nat} (hr : r < 47) : qOf r ≤ 0x5601 := forall_lt_47 (p := fun r => qOf r ≤ 0x5601) (by decide) hr
theorem mOf_lt {r : Nat} (hr : r < 47) : mOf r < 47 := forall_lt_47 (p := fun r => mOf r < 47) (by decide) hr
theorem lOf_lt {r : Nat} (hr : r < 47) : lOf r < 47 := forall_lt_47 (p := fun r => lOf r < 47) (by decide) hr
theorem cOf_le {r : Nat} (hr : r < 47) : cOf r ≤ 1 := forall_lt_47 (p := fun r => cOf r ≤ 1) (by decide) hr

/-- What a context becomes: behind the likelier bit, behind the other one. -/
def upM (x : Nat) : Nat := 2 * mOf (x / 2) + x % 2
def upL (x : Nat) : Nat := 2 * lOf (x / 2) + (x % 2 + cOf (x / 2)) % 2
theorem upM_lt {x : Nat} (hx : x < 94) : upM x < 94 := by have := mOf_lt (r := x / 2) (by omega); unfold upM; omega
theorem upL_lt {x : Nat} (hx : x < 94) : upL x < 94 := by have := lOf_lt (r := x / 2) (by omega); unfold upL; omega

/-- A coder: its bytes are 'bs' and, behind them, 'l'. -/
structure Cod where
  a : Nat
  c : Nat
  t : Nat
  n : Nat
  st : List Nat
  bs : List Nat
  l : Nat
  done : Bool

def newC (n : Nat) : Cod := { a := 0x8000, c := 0, t := 12, n := 0, st := List.replicate n 0, bs := [], l := 0, done := false }

def outTail (s : Cod) (l c : Nat) : Cod :=
  if l = 255 then { s with bs := s.bs ++ [l], l := c / 1048576 % 256, c := c % 1048576, t := 7 }
  else { s with bs := s.bs ++ [l], l := c / 524288 % 256, c := c % 524288, t := 8 }
def outM (s : Cod) : Cod := if s.l ≠ 255 ∧ 134217728 ≤ s.c then outTail s (s.l + 1) (s.c % 134217728) else outTail s s.l s.c

def shiftM (s : Cod) : Cod :=
  let s1 : Cod := { s with a := 2 * s.a, c := 2 * s.c, t := s.t - 1 }
  if s1.t = 0 then outM s1 else s1
def renewM : Nat → Cod → Cod
  | 0, s => s
  | n + 1, s => let s1 := shiftM s; if 0x8000 ≤ s1.a then s1 else renewM n s1

def putM (s : Cod) (k bit : Nat) : Cod :=
  let x := s.st.getD k 0
  let q := qOf (x / 2)
  let a := s.a - q
  if bit = x % 2 then
    if 0x8000 ≤ a then { s with a := a, c := s.c + q, n := s.n + 1 }
    else if a < q then renewM 17 { s with a := q, n := s.n + 1, st := s.st.set k (upM x) }
    else renewM 17 { s with a := a, c := s.c + q, n := s.n + 1, st := s.st.set k (upM x) }
  else
    if a < q then renewM 17 { s with a := a, c := s.c + q, n := s.n + 1, st := s.st.set k (upL x) }
    else renewM 17 { s with a := q, n := s.n + 1, st := s.st.set k (upL x) }

def flushC (s : Cod) : Nat := let c := s.c / 65536 * 65536 + 65535; if s.c + s.a ≤ c then c - 0x8000 else c
def flushS (s : Cod) : Cod := outM { s with c := s.c * 2 ^ s.t }
def flushM (s : Cod) : Cod := flushS (flushS { s with c := flushC s, done := true })
def bytesM (s : Cod) : List Nat := let b := (s.bs ++ [s.l]).drop 1; if s.l = 255 then b.dropLast else b

/-! ### what stays true -/
/-- All but the range of 'a' and the counts. -/
structure Mid (s : Cod) : Prop where
  t1 : 1 ≤ s.t
  t12 : s.t ≤ 12
  ca : s.c + s.a < 2 ^ (28 - s.t)
  l : s.l < 256
  bs : ∀ x ∈ s.bs, x < 256
  st : ∀ x ∈ s.st, x < 94
structure Wf (s : Cod) : Prop extends Mid s where
  len : s.bs.length ≤ 17 * s.n
  n : s.n ≤ 16777216
  lo : 0x8000 ≤ s.a
  hi : s.a < 0x10000

theorem pow_split {t : Nat} (h1 : 1 ≤ t) (h2 : t ≤ 12) : 2 ^ (28 - (t - 1)) = 2 * 2 ^ (28 - t) := by
  have : 28 - (t - 1) = (28 - t) + 1 := by omega
  rw [this, Nat.pow_succ]; omega
theorem pow_le {t : Nat} (h1 : 1 ≤ t) : 2 ^ (28 - t) ≤ 134217728 := by
  have : (2 : Nat) ^ (28 - t) ≤ 2 ^ 27 := Nat.pow_le_pow_right (by omega) (by omega)
  simpa using this

theorem outTail_same (s : Cod) (l c : Nat) : (outTail s l c).a = s.a ∧ (outTail s l c).n = s.n ∧ (outTail s l c).st = s.st ∧ (outTail s l c).done = s.done ∧ (outTail s l c).bs = s.bs ++ [l] := by
  unfold outTail; split <;> exact ⟨rfl, rfl, rfl, rfl, rfl⟩
theorem outM_same (s : Cod) : (outM s).a = s.a ∧ (outM s).n = s.n ∧ (outM s).st = s.st ∧ (outM s).done = s.done ∧ (outM s).bs.length = s.bs.length + 1 := by
  unfold outM
  split
  · obtain ⟨h1, h2, h3, h4, h5⟩ := outTail_same s (s.l + 1) (s.c % 134217728)
    exact ⟨h1, h2, h3, h4, by rw [h5]; simp⟩
  · obtain ⟨h1, h2, h3, h4, h5⟩ := outTail_same s s.l s.c
    exact ⟨h1, h2, h3, h4, by rw [h5]; simp⟩
/-- What a byte that goes out leaves. -/
theorem outTail_mid {s : Cod} {l c : Nat} (ha : s.a < 0x10000) (hl : l < 256) (hbs : ∀ x ∈ s.bs, x < 256) (hst : ∀ x ∈ s.st, x < 94) : Mid (outTail s l c) := by
  have hb : ∀ x ∈ s.bs ++ [l], x < 256 := fun x hx => by
    rcases List.mem_append.1 hx with h | h
    · exact hbs x h
    · rw [List.mem_singleton.1 h]; exact hl
  unfold outTail
  split
  · refine ⟨by simp, by simp, ?_, Nat.mod_lt _ (by omega), hb, hst⟩
    show c % 1048576 + s.a < 2 ^ 21
    have := Nat.mod_lt c (show 1048576 > 0 by omega)
    omega
  · refine ⟨by simp, by simp, ?_, Nat.mod_lt _ (by omega), hb, hst⟩
    show c % 524288 + s.a < 2 ^ 20
    have := Nat.mod_lt c (show 524288 > 0 by omega)
    omega
theorem outM_mid {s : Cod} (ha : s.a < 0x10000) (hl : s.l < 256) (hbs : ∀ x ∈ s.bs, x < 256) (hst : ∀ x ∈ s.st, x < 94) : Mid (outM s) := by
  unfold outM
  split
  · rename_i h; exact outTail_mid ha (by omega) hbs hst
  · exact outTail_mid ha hl hbs hst

theorem shiftM_mid {s : Cod} (h : Mid s) (ha : s.a < 0x8000) : Mid (shiftM s) ∧ (shiftM s).a = 2 * s.a ∧ (shiftM s).n = s.n ∧ (shiftM s).st = s.st ∧ (shiftM s).done = s.done ∧ (shiftM s).bs.length ≤ s.bs.length + 1 := by
  have h1 := h.t1
  have h2 := h.t12
  unfold shiftM
  simp only []
  split
  · rename_i ht
    obtain ⟨e1, e2, e3, e4, e5⟩ := outM_same { s with a := 2 * s.a, c := 2 * s.c, t := s.t - 1 }
    exact ⟨outM_mid (by show 2 * s.a < 0x10000; omega) h.l h.bs h.st, e1, e2, e3, e4, by rw [e5]; exact Nat.le_refl _⟩
  · rename_i ht
    have ht : s.t - 1 ≠ 0 := ht
    refine ⟨⟨by show 1 ≤ s.t - 1; omega, by show s.t - 1 ≤ 12; omega, ?_, h.l, h.bs, h.st⟩, rfl, rfl, rfl, rfl, Nat.le_succ _⟩
    show 2 * s.c + 2 * s.a < 2 ^ (28 - (s.t - 1))
    rw [pow_split h1 h2]
    have := h.ca
    omega

theorem renewM_mid : ∀ (k : Nat) {s : Cod}, Mid s → s.a < 0x8000 → 0x8000 ≤ s.a * 2 ^ k →
    Mid (renewM k s) ∧ 0x8000 ≤ (renewM k s).a ∧ (renewM k s).a < 0x10000 ∧ (renewM k s).n = s.n ∧ (renewM k s).st = s.st ∧ (renewM k s).done = s.done ∧ (renewM k s).bs.length ≤ s.bs.length + k
  | 0, s, h, ha, hk => by simp at hk; omega
  | k + 1, s, h, ha, hk => by
    obtain ⟨h1, h2, h3, h4, h5, h6⟩ := shiftM_mid h ha
    unfold renewM
    simp only []
    split
    · rename_i hge
      exact ⟨h1, hge, by omega, h3, h4, h5, by omega⟩
    · rename_i hlt
      have hk' : 0x8000 ≤ (shiftM s).a * 2 ^ k := by
        rw [h2]
        rw [Nat.pow_succ] at hk
        have : s.a * (2 ^ k * 2) = 2 * s.a * 2 ^ k := by rw [Nat.mul_comm (2 ^ k) 2, ← Nat.mul_assoc, Nat.mul_comm s.a 2]
        omega
      obtain ⟨g1, g2, g3, g4, g5, g6, g7⟩ := renewM_mid k h1 (by omega) hk'
      exact ⟨g1, g2, g3, g4.trans h3, g5.trans h4, g6.trans h5, by omega⟩

theorem getD_lt {st : List Nat} (h : ∀ x ∈ st, x < 94) (k : Nat) : st.getD k 0 < 94 := by
  rw [List.getD_eq_getElem?_getD]
  cases hk : st[k]? with
  | none => simp
  | some x => exact h x (List.mem_of_getElem? hk)
theorem set_lt {st : List Nat} (h : ∀ x ∈ st, x < 94) {k v : Nat} (hv : v < 94) : ∀ x ∈ st.set k v, x < 94 := fun x hx => by
  rcases List.mem_or_eq_of_mem_set hx with h1 | h1
  · exact h x h1
  · rw [h1]; exact hv

/-- Behind a decision: the state before it is renewed. -/
theorem renew_wf {s : Cod} (h : Mid s) (ha : 1 ≤ s.a) (ha' : s.a < 0x8000) (hl : s.bs.length ≤ 17 * (s.n - 1)) (hn1 : 1 ≤ s.n) (hn : s.n ≤ 16777216) : Wf (renewM 17 s) := by
  obtain ⟨g1, g2, g3, g4, g5, g6, g7⟩ := renewM_mid 17 h ha' (by have : (2 : Nat) ^ 17 = 131072 := rfl; omega)
  exact ⟨g1, by omega, by omega, g2, g3⟩

theorem putM_wf {s : Cod} (h : Wf s) (k bit : Nat) (hn : s.n < 16777216) : Wf (putM s k bit) := by
  have hx := getD_lt h.st k
  have hr : s.st.getD k 0 / 2 < 47 := by omega
  have hq1 := qOf_pos hr
  have hq2 := qOf_le hr
  have hM := set_lt h.st (k := k) (upM_lt hx)
  have hL := set_lt h.st (k := k) (upL_lt hx)
  have h1 := h.lo
  have h2 := h.hi
  have h3 := h.ca
  have h4 := h.len
  unfold putM
  simp only []
  split
  · split
    · exact ⟨⟨h.t1, h.t12, by show s.c + qOf _ + (s.a - qOf _) < 2 ^ (28 - s.t); omega, h.l, h.bs, h.st⟩, by show s.bs.length ≤ 17 * (s.n + 1); omega, by show s.n + 1 ≤ _; omega, by assumption, by show s.a - _ < _; omega⟩
    · split
      · exact renew_wf ⟨h.t1, h.t12, by show s.c + qOf _ < 2 ^ (28 - s.t); omega, h.l, h.bs, hM⟩ hq1 (by show qOf _ < _; omega) (by show s.bs.length ≤ 17 * (s.n + 1 - 1); omega) (by show 1 ≤ s.n + 1; omega) (by show s.n + 1 ≤ _; omega)
      · exact renew_wf ⟨h.t1, h.t12, by show s.c + qOf _ + (s.a - qOf _) < 2 ^ (28 - s.t); omega, h.l, h.bs, hM⟩ (by show 1 ≤ s.a - qOf _; omega) (by show s.a - qOf _ < _; omega) (by show s.bs.length ≤ 17 * (s.n + 1 - 1); omega) (by show 1 ≤ s.n + 1; omega) (by show s.n + 1 ≤ _; omega)
  · split
    · exact renew_wf ⟨h.t1, h.t12, by show s.c + qOf _ + (s.a - qOf _) < 2 ^ (28 - s.t); omega, h.l, h.bs, hL⟩ (by show 1 ≤ s.a - qOf _; omega) (by show s.a - qOf _ < _; omega) (by show s.bs.length ≤ 17 * (s.n + 1 - 1); omega) (by show 1 ≤ s.n + 1; omega) (by show s.n + 1 ≤ _; omega)
    · exact renew_wf ⟨h.t1, h.t12, by show s.c + qOf _ < 2 ^ (28 - s.t); omega, h.l, h.bs, hL⟩ hq1 (by show qOf _ < _; omega) (by show s.bs.length ≤ 17 * (s.n + 1 - 1); omega) (by show 1 ≤ s.n + 1; omega) (by show s.n + 1 ≤ _; omega)

theorem newC_wf (n : Nat) : Wf (newC n) :=
  ⟨⟨by simp [newC], by simp [newC], by simp [newC], by simp [newC], by simp [newC], fun x hx => by simp only [newC, List.mem_replicate] at hx; omega⟩, by simp [newC], by simp [newC], by simp [newC], by simp [newC]⟩

theorem renewM_st : ∀ (k : Nat) (s : Cod), (renewM k s).st = s.st ∧ (renewM k s).n = s.n ∧ (renewM k s).done = s.done := by
  have hs : ∀ s : Cod, (shiftM s).st = s.st ∧ (shiftM s).n = s.n ∧ (shiftM s).done = s.done := fun s => by
    unfold shiftM
    simp only []
    split
    · obtain ⟨_, e2, e3, e4, _⟩ := outM_same { s with a := 2 * s.a, c := 2 * s.c, t := s.t - 1 }
      exact ⟨e3, e2, e4⟩
    · exact ⟨rfl, rfl, rfl⟩
  intro k
  induction k with
  | zero => intro s; exact ⟨rfl, rfl, rfl⟩
  | succ k ih =>
    intro s
    obtain ⟨h1, h2, h3⟩ := hs s
    unfold renewM
    simp only []
    split
    · exact ⟨h1, h2, h3⟩
    · obtain ⟨g1, g2, g3⟩ := ih (shiftM s)
      exact ⟨g1.trans h1, g2.trans h2, g3.trans h3⟩
theorem putM_n (s : Cod) (k bit : Nat) : (putM s k bit).n = s.n + 1 ∧ (putM s k bit).st.length = s.st.length ∧ (putM s k bit).done = s.done := by
  unfold putM
  simp only []
  split
  · split
    · exact ⟨rfl, rfl, rfl⟩
    · split
      · obtain ⟨h1, h2, h3⟩ := renewM_st 17 { s with a := qOf (s.st.getD k 0 / 2), n := s.n + 1, st := s.st.set k (upM (s.st.getD k 0)) }
        exact ⟨h2, by rw [h1]; simp, h3⟩
      · obtain ⟨h1, h2, h3⟩ := renewM_st 17 { s with a := s.a - qOf (s.st.getD k 0 / 2), c := s.c + qOf (s.st.getD k 0 / 2), n := s.n + 1, st := s.st.set k (upM (s.st.getD k 0)) }
        exact ⟨h2, by rw [h1]; simp, h3⟩
  · split
    · obtain ⟨h1, h2, h3⟩ := renewM_st 17 { s with a := s.a - qOf (s.st.getD k 0 / 2), c := s.c + qOf (s.st.getD k 0 / 2), n := s.n + 1, st := s.st.set k (upL (s.st.getD k 0)) }
      exact ⟨h2, by rw [h1]; simp, h3⟩
    · obtain ⟨h1, h2, h3⟩ := renewM_st 17 { s with a := qOf (s.st.getD k 0 / 2), n := s.n + 1, st := s.st.set k (upL (s.st.getD k 0)) }
      exact ⟨h2, by rw [h1]; simp, h3⟩

/-! ### the decoder -/
structure Dec where
  a : Nat
  c : Nat
  t : Nat
  n : Nat
  st : List Nat
  b : List Nat
  i : Nat

def M32 : Nat := 4294967296
def byteD (s : Dec) (i : Nat) : Nat := s.b.getD i 255
def inD (s : Dec) : Dec :=
  if byteD s s.i ≠ 255 then { s with i := s.i + 1, c := (s.c + byteD s (s.i + 1) * 256) % M32, t := 8 }
  else if byteD s (s.i + 1) > 143 then { s with c := (s.c + 65280) % M32, t := 8 }
  else { s with i := s.i + 1, c := (s.c + byteD s (s.i + 1) * 512) % M32, t := 7 }
def newD (b : List Nat) (n : Nat) : Dec :=
  let s : Dec := inD { a := 0x8000, c := b.getD 0 255 * 65536, t := 0, n := 0, st := List.replicate n 0, b := b, i := 0 }
  { s with c := s.c * 128 % M32, t := s.t - 7 }
def shiftD (s : Dec) : Dec :=
  let s1 := if s.t = 0 then inD s else s
  { s1 with a := 2 * s1.a, c := 2 * s1.c % M32, t := s1.t - 1 }
def renewD : Nat → Dec → Dec
  | 0, s => s
  | n + 1, s => let s1 := shiftD s; if 0x8000 ≤ s1.a then s1 else renewD n s1
def getD (s : Dec) (k : Nat) : Dec × Nat :=
  let x := s.st.getD k 0
  let q := qOf (x / 2)
  let a := s.a - q
  if s.c / 65536 < q then
    if a < q then (renewD 17 { s with a := q, n := s.n + 1, st := s.st.set k (upM x) }, x % 2)
    else (renewD 17 { s with a := q, n := s.n + 1, st := s.st.set k (upL x) }, 1 - x % 2)
  else
    let c := s.c - q * 65536
    if 0x8000 ≤ a then ({ s with a := a, c := c, n := s.n + 1 }, x % 2)
    else if a < q then (renewD 17 { s with a := a, c := c, n := s.n + 1, st := s.st.set k (upL x) }, 1 - x % 2)
    else (renewD 17 { s with a := a, c := c, n := s.n + 1, st := s.st.set k (upM x) }, x % 2)

structure MidD (s : Dec) : Prop where
  t8 : s.t ≤ 8
  c : s.c < M32
  b : ∀ x ∈ s.b, x < 256
  st : ∀ x ∈ s.st, x < 94
  i : s.i ≤ s.b.length
structure WfD (s : Dec) : Prop extends MidD s where
  n : s.n ≤ 16777216
  lo : 0x8000 ≤ s.a
  hi : s.a < 0x10000

theorem byteD_lt {s : Dec} (h : ∀ x ∈ s.b, x < 256) (i : Nat) : byteD s i < 256 := by
  unfold byteD
  rw [List.getD_eq_getElem?_getD]
  cases hk : s.b[i]? with
  | none => simp
  | some x => exact h x (List.mem_of_getElem? hk)
theorem byteD_ne {s : Dec} {i : Nat} (h : byteD s i ≠ 255) : i < s.b.length := by
  unfold byteD at h
  rw [List.getD_eq_getElem?_getD] at h
  rcases Nat.lt_or_ge i s.b.length with h1 | h1
  · exact h1
  · rw [List.getElem?_eq_none h1] at h; simp at h
theorem inD_mid {s : Dec} (h : MidD s) : MidD (inD s) ∧ (inD s).a = s.a ∧ (inD s).n = s.n ∧ (inD s).st = s.st ∧ (inD s).b = s.b ∧ 1 ≤ (inD s).t := by
  have hm : ∀ x, x % M32 < M32 := fun x => Nat.mod_lt _ (by decide)
  unfold inD
  split
  · rename_i h1
    have := byteD_ne h1
    exact ⟨⟨by simp, hm _, h.b, h.st, by show s.i + 1 ≤ s.b.length; omega⟩, rfl, rfl, rfl, rfl, by simp⟩
  · split
    · exact ⟨⟨by simp, hm _, h.b, h.st, h.i⟩, rfl, rfl, rfl, rfl, by simp⟩
    · rename_i h2
      have : s.i + 1 < s.b.length := byteD_ne (s := s) (by omega)
      exact ⟨⟨by simp, hm _, h.b, h.st, by show s.i + 1 ≤ s.b.length; omega⟩, rfl, rfl, rfl, rfl, by simp⟩
theorem shiftD_mid {s : Dec} (h : MidD s) : MidD (shiftD s) ∧ (shiftD s).a = 2 * s.a ∧ (shiftD s).n = s.n ∧ (shiftD s).st = s.st ∧ (shiftD s).b = s.b := by
  have hm : ∀ x, x % M32 < M32 := fun x => Nat.mod_lt _ (by decide)
  unfold shiftD
  simp only []
  split
  · obtain ⟨h1, h2, h3, h4, h5, h6⟩ := inD_mid h
    exact ⟨⟨by show (inD s).t - 1 ≤ 8; have := h1.t8; omega, hm _, by rw [show ({ inD s with a := 2 * (inD s).a, c := 2 * (inD s).c % M32, t := (inD s).t - 1 } : Dec).b = (inD s).b from rfl]; exact h1.b, h1.st, h1.i⟩, by show 2 * (inD s).a = _; rw [h2], h3, h4, h5⟩
  · exact ⟨⟨by show s.t - 1 ≤ 8; have := h.t8; omega, hm _, h.b, h.st, h.i⟩, rfl, rfl, rfl, rfl⟩
theorem renewD_mid : ∀ (k : Nat) {s : Dec}, MidD s → s.a < 0x8000 → 0x8000 ≤ s.a * 2 ^ k →
    MidD (renewD k s) ∧ 0x8000 ≤ (renewD k s).a ∧ (renewD k s).a < 0x10000 ∧ (renewD k s).n = s.n ∧ (renewD k s).st = s.st ∧ (renewD k s).b = s.b
  | 0, s, h, ha, hk => by simp at hk; omega
  | k + 1, s, h, ha, hk => by
    obtain ⟨h1, h2, h3, h4, h5⟩ := shiftD_mid h
    unfold renewD
    simp only []
    split
    · rename_i hge
      exact ⟨h1, hge, by omega, h3, h4, h5⟩
    · rename_i hlt
      have hk' : 0x8000 ≤ (shiftD s).a * 2 ^ k := by
        rw [h2]
        rw [Nat.pow_succ] at hk
        have : s.a * (2 ^ k * 2) = 2 * s.a * 2 ^ k := by rw [Nat.mul_comm (2 ^ k) 2, ← Nat.mul_assoc, Nat.mul_comm s.a 2]
        omega
      obtain ⟨g1, g2, g3, g4, g5, g6⟩ := renewD_mid k h1 (by omega) hk'
      exact ⟨g1, g2, g3, g4.trans h3, g5.trans h4, g6.trans h5⟩
theorem renewD_wf {s : Dec} (h : MidD s) (ha : 1 ≤ s.a) (ha' : s.a < 0x8000) (hn : s.n ≤ 16777216) : WfD (renewD 17 s) := by
  obtain ⟨g1, g2, g3, g4, g5, g6⟩ := renewD_mid 17 h ha' (by have : (2 : Nat) ^ 17 = 131072 := rfl; omega)
  exact ⟨g1, by omega, g2, g3⟩

theorem getD_wf {s : Dec} (h : WfD s) (k : Nat) (hn : s.n < 16777216) : WfD (getD s k).1 := by
  have hx := getD_lt h.st k
  have hr : s.st.getD k 0 / 2 < 47 := by omega
  have hq1 := qOf_pos hr
  have hq2 := qOf_le hr
  have hM := set_lt h.st (k := k) (upM_lt hx)
  have hL := set_lt h.st (k := k) (upL_lt hx)
  have h1 := h.lo
  have h2 := h.hi
  have h3 := h.c
  have hc : ∀ q, s.c - q * 65536 < M32 := fun q => Nat.lt_of_le_of_lt (Nat.sub_le _ _) h3
  unfold getD
  simp only []
  split
  · split
    · exact renewD_wf ⟨h.t8, h3, h.b, hM, h.i⟩ hq1 (by show qOf _ < _; omega) (by show s.n + 1 ≤ _; omega)
    · exact renewD_wf ⟨h.t8, h3, h.b, hL, h.i⟩ hq1 (by show qOf _ < _; omega) (by show s.n + 1 ≤ _; omega)
  · split
    · exact ⟨⟨h.t8, hc _, h.b, h.st, h.i⟩, by show s.n + 1 ≤ _; omega, by assumption, by show s.a - _ < _; omega⟩
    · split
      · exact renewD_wf ⟨h.t8, hc _, h.b, hL, h.i⟩ (by show 1 ≤ s.a - qOf _; omega) (by show s.a - qOf _ < _; omega) (by show s.n + 1 ≤ _; omega)
      · exact renewD_wf ⟨h.t8, hc _, h.b, hM, h.i⟩ (by show 1 ≤ s.a - qOf _; omega) (by show s.a - qOf _ < _; omega) (by show s.n + 1 ≤ _; omega)

end Go.Ar

/- BkA: what the decoder reads is what the coder wrote: the interval of a code, plain numbers. No Go, no memory. -/
set_option linter.unusedVariables false
set_option linter.unusedSimpArgs false
namespace Go.Ar

/-! ### a code's value -/
/-- Of bytes, the last one first: a byte behind a 255 has seven bits of its own. -/
def valR : List Nat → Nat
  | [] => 0
  | x :: r => valR r * (if r.head? = some 255 then 128 else 256) + x
def valL (l : List Nat) : Nat := valR l.reverse
theorem valL_snoc (l : List Nat) (x : Nat) : valL (l ++ [x]) = valL l * (if l.getLast? = some 255 then 128 else 256) + x := by
  unfold valL
  rw [List.reverse_append, List.reverse_singleton, List.singleton_append, valR, List.head?_reverse]

/-! ### the whole code, ones behind it -/
section
variable (E : List Nat)
def fE (k : Nat) : Nat := E.getD k 255
def lenE (k : Nat) : Nat := if k < E.length ∧ fE E (k - 1) = 255 then 7 else 8
def XE : Nat → Nat
  | 0 => fE E 0
  | k + 1 => XE k * 2 ^ lenE E (k + 1) + fE E (k + 1)
def BE : Nat → Nat
  | 0 => 0
  | k + 1 => BE k + lenE E (k + 1)
end

theorem lenE_le (E : List Nat) (k : Nat) : lenE E k ≤ 8 ∧ 7 ≤ lenE E k := by unfold lenE; split <;> omega
theorem BE_mono (E : List Nat) {j k : Nat} (h : j ≤ k) : BE E j ≤ BE E k := by
  induction k with
  | zero => have : j = 0 := by omega
            subst this; exact Nat.le_refl _
  | succ k ih =>
    rcases Nat.lt_or_ge k j with h1 | h1
    · have : j = k + 1 := by omega
      subst this; exact Nat.le_refl _
    · exact Nat.le_trans (ih h1) (Nat.le_add_right _ _)
/-- A code's beginnings only grow. -/
theorem XE_mono (E : List Nat) {j k : Nat} (h : j ≤ k) : XE E j * 2 ^ BE E k ≤ XE E k * 2 ^ BE E j := by
  induction k with
  | zero => have : j = 0 := by omega
            subst this; exact Nat.le_refl _
  | succ k ih =>
    rcases Nat.lt_or_ge k j with h1 | h1
    · have : j = k + 1 := by omega
      subst this; exact Nat.le_refl _
    · have h2 := ih h1
      show XE E j * 2 ^ (BE E k + lenE E (k + 1)) ≤ (XE E k * 2 ^ lenE E (k + 1) + fE E (k + 1)) * 2 ^ BE E j
      rw [Nat.pow_add, ← Nat.mul_assoc, Nat.add_mul]
      have h3 := Nat.mul_le_mul_right (2 ^ lenE E (k + 1)) h2
      have e : XE E k * 2 ^ BE E j * 2 ^ lenE E (k + 1) = XE E k * 2 ^ lenE E (k + 1) * 2 ^ BE E j := Nat.mul_right_comm _ _ _
      omega
/-- Behind the end: ones. -/
theorem XE_end (E : List Nat) {m : Nat} (hm : m + 1 = E.length) : ∀ d, XE E (m + d) + 1 = (XE E m + 1) * 2 ^ (8 * d) ∧ BE E (m + d) = BE E m + 8 * d
  | 0 => by simp
  | d + 1 => by
    obtain ⟨h1, h2⟩ := XE_end E hm d
    have hl : lenE E (m + d + 1) = 8 := by unfold lenE; rw [if_neg (by omega)]
    have hf : fE E (m + d + 1) = 255 := by unfold fE; rw [List.getD_eq_getElem?_getD, List.getElem?_eq_none (by omega)]; rfl
    constructor
    · show XE E (m + d) * 2 ^ lenE E (m + d + 1) + fE E (m + d + 1) + 1 = _
      rw [hl, hf, show 8 * (d + 1) = 8 * d + 8 by omega, Nat.pow_add, ← Nat.mul_assoc, ← h1]
      omega
    · show BE E (m + d) + lenE E (m + d + 1) = _
      rw [hl, h2]; omega
theorem valL_XE (E : List Nat) : ∀ (p : List Nat) (x : Nat), p.length < E.length → (∀ j v, p[j]? = some v → fE E j = v) → valL (p ++ [x]) + fE E p.length = XE E p.length + x := by
  intro p
  have key : ∀ (n : Nat) (p : List Nat) (x : Nat), p.length = n → p.length < E.length → (∀ j v, p[j]? = some v → fE E j = v) → valL (p ++ [x]) + fE E p.length = XE E p.length + x := by
    intro n
    induction n with
    | zero =>
      intro p x hn hl hp
      have : p = [] := List.length_eq_zero_iff.1 hn
      subst this
      rw [valL_snoc]
      show valL [] * _ + x + fE E 0 = fE E 0 + x
      simp [valL, valR]; omega
    | succ n ih =>
      intro p x hn hl hp
      obtain ⟨q, y, rfl⟩ : ∃ q y, p = q ++ [y] := by
        rcases List.eq_nil_or_concat p with rfl | ⟨q, y, rfl⟩
        · simp at hn
        · exact ⟨q, y, by simp⟩
      have hq : q.length = n := by simp at hn; exact hn
      have hy : fE E q.length = y := hp q.length y (by simp)
      have h1 := ih q y hq (by omega) (fun j v hv => hp j v (by rw [List.getElem?_append_left (List.getElem?_eq_some_iff.1 hv).1]; exact hv))
      have h2 : valL (q ++ [y]) = XE E q.length := by omega
      rw [valL_snoc, h2, hn]
      have hlen : (if (q ++ [y]).getLast? = some 255 then 128 else 256) = 2 ^ lenE E (n + 1) := by
        unfold lenE
        rw [List.getLast?_concat, Nat.add_sub_cancel, ← hq, hy]
        by_cases h3 : y = 255
        · rw [if_pos (by rw [h3]), if_pos ⟨by rw [hn] at hl; omega, h3⟩]
        · rw [if_neg (by simpa using h3), if_neg (by simp [h3])]
      rw [hlen, ← hq]
      show _ = XE E q.length * 2 ^ lenE E (q.length + 1) + fE E (q.length + 1) + x
      omega
  exact fun x => key p.length p x rfl

/-! ### a coder's interval, and the code that becomes of it -/
def lowC (s : Cod) : Nat := valL (s.bs ++ [s.l]) * 2 ^ (27 - s.t) + s.c

/-- The code 'E' may become of a coder whose interval is 'A' wide. -/
structure Fut (E : List Nat) (s : Cod) (A : Nat) : Prop where
  len : s.bs.length < E.length
  pre : ∀ j v, s.bs[j]? = some v → fE E j = v
  last : fE E s.bs.length = s.l ∨ fE E s.bs.length = s.l + 1 ∧ s.l ≠ 255
  lo : ∀ k, s.bs.length < k → lowC s * 2 ^ BE E k < (XE E k + 1) * 2 ^ (BE E s.bs.length + (27 - s.t))
  hi : ∀ k, XE E k * 2 ^ (BE E s.bs.length + (27 - s.t)) < (lowC s + A) * 2 ^ BE E k

/-- A part of the interval. -/
theorem Fut.part {E : List Nat} {s : Cod} {A a' c' n' : Nat} {st' : List Nat} {d' : Bool} (h : Fut E { s with a := a', c := c', n := n', st := st', done := d' } A) {A0 : Nat} (h1 : s.c ≤ c') (h2 : c' + A ≤ s.c + A0) : Fut E s A0 := by
  have hl : lowC { s with a := a', c := c', n := n', st := st', done := d' } = lowC s + (c' - s.c) := by
    show valL (s.bs ++ [s.l]) * 2 ^ (27 - s.t) + c' = valL (s.bs ++ [s.l]) * 2 ^ (27 - s.t) + s.c + (c' - s.c)
    omega
  refine ⟨h.len, h.pre, h.last, fun k hk => ?_, fun k => ?_⟩
  · have := h.lo k hk
    rw [hl, Nat.add_mul] at this
    exact Nat.lt_of_le_of_lt (Nat.le_add_right _ _) this
  · have := h.hi k
    rw [hl] at this
    exact Nat.lt_of_lt_of_le this (Nat.mul_le_mul_right _ (by omega))
/-- The interval seen nearer. -/
theorem Fut.near {E : List Nat} {s : Cod} {A j a' : Nat} (h : Fut E { s with a := a', c := s.c * 2 ^ j, t := s.t - j } (A * 2 ^ j)) (hj : j ≤ s.t) (ht : s.t ≤ 27) : Fut E s A := by
  have hl : lowC { s with a := a', c := s.c * 2 ^ j, t := s.t - j } = lowC s * 2 ^ j := by
    show valL (s.bs ++ [s.l]) * 2 ^ (27 - (s.t - j)) + s.c * 2 ^ j = (valL (s.bs ++ [s.l]) * 2 ^ (27 - s.t) + s.c) * 2 ^ j
    rw [Nat.add_mul, Nat.mul_assoc, ← Nat.pow_add]
    congr 3; omega
  have he : BE E s.bs.length + (27 - (s.t - j)) = BE E s.bs.length + (27 - s.t) + j := by omega
  have hp : 0 < 2 ^ j := Nat.two_pow_pos j
  refine ⟨h.len, h.pre, h.last, fun k hk => ?_, fun k => ?_⟩
  · have h1 : _ < (XE E k + 1) * 2 ^ (BE E s.bs.length + (27 - (s.t - j))) := h.lo k hk
    rw [hl, he, Nat.pow_add _ _ j, ← Nat.mul_assoc, Nat.mul_right_comm] at h1
    exact Nat.lt_of_mul_lt_mul_right h1
  · have h1 : XE E k * 2 ^ (BE E s.bs.length + (27 - (s.t - j))) < _ := h.hi k
    rw [hl, he, Nat.pow_add _ _ j, ← Nat.mul_assoc, ← Nat.add_mul, Nat.mul_right_comm (lowC s + A)] at h1
    exact Nat.lt_of_mul_lt_mul_right h1
theorem outTail_low (s : Cod) (l c : Nat) (hc : c < 2 ^ 28) (hc2 : l ≠ 255 → c < 2 ^ 27) : lowC (outTail s l c) = valL (s.bs ++ [l]) * 2 ^ 27 + c := by
  unfold outTail lowC
  split
  · rename_i h
    show valL ((s.bs ++ [l]) ++ [c / 1048576 % 256]) * 2 ^ (27 - 7) + c % 1048576 = _
    rw [valL_snoc, List.getLast?_concat, if_pos (by rw [h])]
    generalize valL (s.bs ++ [l]) = v
    omega
  · rename_i h
    have := hc2 h
    show valL ((s.bs ++ [l]) ++ [c / 524288 % 256]) * 2 ^ (27 - 8) + c % 524288 = _
    rw [valL_snoc, List.getLast?_concat, if_neg (by simpa using h)]
    generalize valL (s.bs ++ [l]) = v
    omega
theorem Fut.tail {E : List Nat} {s : Cod} {A l c : Nat} (h : Fut E (outTail s l c) A) (hc : c < 2 ^ 28) (hc2 : l ≠ 255 → c < 2 ^ 27) (ht : s.t = 0) (hl : l = s.l ∧ c = s.c ∨ l = s.l + 1 ∧ s.l ≠ 255 ∧ c + 2 ^ 27 = s.c) : Fut E s A := by
  have hlow : lowC (outTail s l c) = lowC s := by
    rw [outTail_low s l c hc hc2]
    unfold lowC
    rw [ht, valL_snoc, valL_snoc]
    rcases hl with ⟨rfl, rfl⟩ | ⟨rfl, _, h2⟩
    · rfl
    · generalize (valL s.bs * if s.bs.getLast? = some 255 then 128 else 256) = v
      omega
  have hbs : (outTail s l c).bs = s.bs ++ [l] := by unfold outTail; split <;> rfl
  have hpre := h.pre
  have hlen := h.len
  rw [hbs] at hpre hlen
  have hfl : fE E s.bs.length = l := hpre s.bs.length l (by simp)
  have hlen' : s.bs.length + 1 < E.length := by simpa using hlen
  have hB : BE E (s.bs.length + 1) + (27 - (outTail s l c).t) = BE E s.bs.length + 27 := by
    show BE E s.bs.length + lenE E (s.bs.length + 1) + _ = _
    have : lenE E (s.bs.length + 1) + (27 - (outTail s l c).t) = 27 := by
      unfold lenE outTail
      rw [Nat.add_sub_cancel, hfl]
      by_cases h3 : l = 255
      · simp only [if_pos h3]; rw [if_pos ⟨hlen', h3⟩]
      · simp only [if_neg h3]; rw [if_neg (by simp [h3])]
    omega
  have hsl : (outTail s l c).bs.length = s.bs.length + 1 := by rw [hbs]; simp
  have hlo := h.lo
  have hhi := h.hi
  rw [hsl, hB, hlow] at hlo hhi
  refine ⟨by omega, fun j v hv => hpre j v (by rw [List.getElem?_append_left (List.getElem?_eq_some_iff.1 hv).1]; exact hv), ?_, fun k hk => ?_, fun k => ?_⟩
  · rw [hfl]
    rcases hl with ⟨rfl, rfl⟩ | ⟨rfl, h1, _⟩
    · exact .inl rfl
    · exact .inr ⟨rfl, h1⟩
  · rw [ht]
    rcases Nat.lt_or_ge (s.bs.length + 1) k with h1 | h1
    · exact hlo k h1
    · have hk : k = s.bs.length + 1 := by omega
      subst hk
      rw [← hlow, Nat.sub_zero, ← hB, Nat.pow_add, ← Nat.mul_assoc, Nat.mul_right_comm]
      refine Nat.mul_lt_mul_of_pos_right ?_ (Nat.two_pow_pos _)
      have hX := valL_XE E (s.bs ++ [l]) (outTail s l c).l (by simpa using hlen') hpre
      have hle : (outTail s l c).l ≤ fE E (s.bs.length + 1) := by
        have := h.last
        rw [hsl] at this
        omega
      rw [List.length_append, List.length_singleton] at hX
      have hcl : (outTail s l c).c < 2 ^ (27 - (outTail s l c).t) := by
        unfold outTail
        split
        · exact Nat.mod_lt _ (by decide)
        · exact Nat.mod_lt _ (by decide)
      unfold lowC
      rw [hbs]
      have h4 : valL (s.bs ++ [l] ++ [(outTail s l c).l]) ≤ XE E (s.bs.length + 1) := by omega
      have h5 := Nat.mul_le_mul_right (2 ^ (27 - (outTail s l c).t)) h4
      rw [Nat.add_mul]
      omega
  · rw [ht]; exact hhi k
theorem Fut.out {E : List Nat} {s : Cod} {A : Nat} (h : Fut E (outM s) A) (ht : s.t = 0) (hc : s.c < 2 ^ 28) : Fut E s A := by
  unfold outM at h
  split at h
  · rename_i h1
    refine h.tail (by omega) (fun _ => by omega) ht (.inr ⟨rfl, h1.1, by omega⟩)
  · rename_i h1
    exact h.tail hc (fun h2 => by
      rcases Nat.lt_or_ge s.c 134217728 with h3 | h3
      · exact h3
      · exact absurd ⟨h2, h3⟩ h1) ht (.inl ⟨rfl, rfl⟩)

end Go.Ar

/- BkB: coder and decoder in step: what is decoded are the decisions; no byte above 8f behind an ff. No Go, no memory. -/
set_option linter.unusedVariables false
set_option linter.unusedSimpArgs false
namespace Go.Ar

theorem outM_t (s : Cod) (t : Nat) : outM { s with t := t } = outM s := rfl
theorem outM_ct (s : Cod) : (outM s).c = s.c % 2 ^ (27 - (outM s).t) ∧ ((outM s).t = 7 ∨ (outM s).t = 8) := by
  unfold outM outTail
  split
  · split
    · refine ⟨?_, .inl rfl⟩; show s.c % 134217728 % 1048576 = s.c % 1048576; omega
    · refine ⟨?_, .inr rfl⟩; show s.c % 134217728 % 524288 = s.c % 524288; omega
  · split
    · exact ⟨rfl, .inl rfl⟩
    · exact ⟨rfl, .inr rfl⟩

theorem Fut.shift {E : List Nat} {s : Cod} {A : Nat} (h : Fut E (shiftM s) (2 * A)) (ht : 1 ≤ s.t) (ht2 : s.t ≤ 12) (hc : s.c < 2 ^ (28 - s.t)) : Fut E s A := by
  have key : Fut E { s with a := 2 * s.a, c := s.c * 2 ^ 1, t := s.t - 1 } (A * 2 ^ 1) := by
    rw [Nat.pow_one, Nat.mul_comm s.c 2, Nat.mul_comm A 2]
    unfold shiftM at h
    simp only [] at h
    split at h
    · rename_i h1
      have h1 : s.t - 1 = 0 := h1
      have : s.t = 1 := by omega
      rw [this] at hc
      exact h.out h1 (by show 2 * s.c < 2 ^ 28; omega)
    · exact h
  exact key.near ht (by omega)

theorem Fut.renew {E : List Nat} : ∀ (k : Nat) {s : Cod}, Mid s → s.a < 0x8000 → 0x8000 ≤ s.a * 2 ^ k → Fut E (renewM k s) (renewM k s).a → Fut E s s.a
  | 0, s, h, ha, hk, _ => by simp at hk; omega
  | k + 1, s, h, ha, hk, hF => by
    obtain ⟨h1, h2, h3, h4, h5, h6⟩ := shiftM_mid h ha
    have hc := h.ca
    unfold renewM at hF
    simp only [] at hF
    split at hF
    · rw [h2] at hF
      exact hF.shift h.t1 h.t12 (by omega)
    · rename_i hlt
      have hk' : 0x8000 ≤ (shiftM s).a * 2 ^ k := by
        rw [h2]
        rw [Nat.pow_succ] at hk
        have : s.a * (2 ^ k * 2) = 2 * s.a * 2 ^ k := by rw [Nat.mul_comm (2 ^ k) 2, ← Nat.mul_assoc, Nat.mul_comm s.a 2]
        omega
      have := Fut.renew k h1 (by omega) hk' hF
      rw [h2] at this
      exact this.shift h.t1 h.t12 (by omega)

/-- The code that Flush makes. -/
def codeE (s : Cod) : List Nat := s.bs ++ [s.l]
theorem flushC_mod (s : Cod) : 32768 ∣ flushC s + 1 := by
  unfold flushC
  simp only []
  split <;> omega
theorem fut_flush {s : Cod} (hs : Wf s) : Fut (codeE (flushM s)) s s.a := by
  have hca := hs.ca
  have ht1 := hs.t1
  have ht2 := hs.t12
  have hlo := hs.lo
  have hhi := hs.hi
  have hf1 : s.c ≤ flushC s ∧ flushC s + 1 ≤ s.c + s.a := by
    unfold flushC
    simp only []
    split <;> omega
  have hmod := flushC_mod s
  generalize hcf : flushC s = cf at hf1 hmod
  -- the states
  have hF : flushM s = flushS (flushS { s with c := cf, done := true }) := by unfold flushM; rw [hcf]
  generalize hS0 : ({ s with c := cf, done := true } : Cod) = S0 at hF
  have hS0t : S0.t = s.t := by rw [← hS0]
  have hS0c : S0.c = cf := by rw [← hS0]
  have hS1 : flushS S0 = outM { S0 with c := S0.c * 2 ^ S0.t, t := S0.t - S0.t } := (outM_t { S0 with c := S0.c * 2 ^ S0.t } _).symm
  generalize hG1 : flushS S0 = S1 at hF hS1
  have hS2 : flushM s = outM { S1 with c := S1.c * 2 ^ S1.t, t := S1.t - S1.t } := hF.trans (outM_t { S1 with c := S1.c * 2 ^ S1.t } _).symm
  generalize hG2 : flushM s = F at hS2
  obtain ⟨hc1, ht1'⟩ := outM_ct { S0 with c := S0.c * 2 ^ S0.t, t := S0.t - S0.t }
  obtain ⟨hc2, ht2'⟩ := outM_ct { S1 with c := S1.c * 2 ^ S1.t, t := S1.t - S1.t }
  rw [← hS1] at hc1 ht1'
  rw [← hS2] at hc2 ht2'
  have hc1 : S1.c = cf * 2 ^ s.t % 2 ^ (27 - S1.t) := by rw [hc1, ← hS0c, ← hS0t]
  have hc2 : F.c = S1.c * 2 ^ S1.t % 2 ^ (27 - F.t) := hc2
  -- the last interval
  have hdv : 2 ^ (27 - F.t) ≤ F.c + 2 ^ (s.t + S1.t) := by
    have e1 : F.c = cf * 2 ^ (s.t + S1.t) % 2 ^ (27 - F.t) := by
      rw [hc2, hc1, ← Nat.mul_mod_mul_right, ← Nat.pow_add, Nat.mul_assoc, ← Nat.pow_add, Nat.mod_mod_of_dvd]
      exact Nat.pow_dvd_pow 2 (by omega)
    have e2 : (F.c + 2 ^ (s.t + S1.t)) % 2 ^ (27 - F.t) = 0 := by
      rw [e1, Nat.mod_add_mod, ← Nat.succ_mul]
      refine Nat.mod_eq_zero_of_dvd (Nat.dvd_trans (Nat.pow_dvd_pow 2 (show 27 - F.t ≤ 15 + (s.t + S1.t) by omega)) ?_)
      rw [Nat.pow_add]
      exact Nat.mul_dvd_mul_right hmod _
    have e3 := Nat.two_pow_pos (s.t + S1.t)
    exact Nat.le_of_dvd (by omega) (Nat.dvd_of_mod_eq_zero e2)
  have hclt : F.c < 2 ^ (27 - F.t) := by rw [hc2]; exact Nat.mod_lt _ (Nat.two_pow_pos _)
  have hEl : F.bs.length + 1 = (codeE F).length := by simp [codeE]
  have hpre : ∀ j v, F.bs[j]? = some v → fE (codeE F) j = v := fun j v hj => by
    unfold fE codeE
    rw [List.getD_eq_getElem?_getD, List.getElem?_append_left (List.getElem?_eq_some_iff.1 hj).1, hj]; rfl
  have hlast : fE (codeE F) F.bs.length = F.l := by
    unfold fE codeE
    rw [List.getD_eq_getElem?_getD]; simp
  have hX : valL (F.bs ++ [F.l]) = XE (codeE F) F.bs.length := by
    have := valL_XE (codeE F) F.bs F.l (by omega) hpre
    rw [hlast] at this
    omega
  have hlow : lowC F = XE (codeE F) F.bs.length * 2 ^ (27 - F.t) + F.c := by unfold lowC; rw [hX]
  have fF : Fut (codeE F) F (2 ^ (s.t + S1.t)) := by
    refine ⟨by omega, hpre, .inl hlast, fun k hk => ?_, fun k => ?_⟩
    · obtain ⟨d, rfl⟩ : ∃ d, k = F.bs.length + d := ⟨k - F.bs.length, by omega⟩
      obtain ⟨h1, h2⟩ := XE_end (codeE F) hEl d
      rw [h1, h2, hlow, Nat.pow_add, Nat.pow_add]
      have h3 : XE (codeE F) F.bs.length * 2 ^ (27 - F.t) + F.c < (XE (codeE F) F.bs.length + 1) * 2 ^ (27 - F.t) := by rw [Nat.add_mul]; omega
      have h4 := Nat.mul_lt_mul_of_pos_right h3 (show 0 < 2 ^ BE (codeE F) F.bs.length * 2 ^ (8 * d) from Nat.mul_pos (Nat.two_pow_pos _) (Nat.two_pow_pos _))
      have e : (XE (codeE F) F.bs.length + 1) * 2 ^ (8 * d) * (2 ^ BE (codeE F) F.bs.length * 2 ^ (27 - F.t)) = (XE (codeE F) F.bs.length + 1) * 2 ^ (27 - F.t) * (2 ^ BE (codeE F) F.bs.length * 2 ^ (8 * d)) := by
        simp only [Nat.mul_assoc, Nat.mul_comm, Nat.mul_left_comm]
      rw [e]
      exact h4
    · rcases Nat.lt_or_ge k F.bs.length with hk | hk
      · have h1 := XE_mono (codeE F) (Nat.le_of_lt hk)
        have h2 := Nat.mul_le_mul_right (2 ^ (27 - F.t)) h1
        rw [hlow, Nat.pow_add, ← Nat.mul_assoc]
        refine Nat.lt_of_le_of_lt h2 ?_
        rw [Nat.mul_right_comm]
        refine Nat.mul_lt_mul_of_pos_right ?_ (Nat.two_pow_pos _)
        have := Nat.two_pow_pos (s.t + S1.t)
        omega
      · obtain ⟨d, rfl⟩ : ∃ d, k = F.bs.length + d := ⟨k - F.bs.length, by omega⟩
        obtain ⟨h1, h2⟩ := XE_end (codeE F) hEl d
        have h3 : XE (codeE F) (F.bs.length + d) < (XE (codeE F) F.bs.length + 1) * 2 ^ (8 * d) := by omega
        rw [h2, hlow]
        have h4 := Nat.mul_lt_mul_of_pos_right h3 (Nat.two_pow_pos (BE (codeE F) F.bs.length + (27 - F.t)))
        refine Nat.lt_of_lt_of_le h4 ?_
        have h5 : (XE (codeE F) F.bs.length + 1) * 2 ^ (27 - F.t) ≤ XE (codeE F) F.bs.length * 2 ^ (27 - F.t) + F.c + 2 ^ (s.t + S1.t) := by rw [Nat.add_mul]; omega
        have h6 := Nat.mul_le_mul_right (2 ^ (BE (codeE F) F.bs.length + 8 * d)) h5
        refine Nat.le_trans (Nat.le_of_eq ?_) h6
        rw [Nat.pow_add, Nat.pow_add]
        simp only [Nat.mul_assoc, Nat.mul_comm, Nat.mul_left_comm]
  -- backwards
  generalize codeE F = E at fF ⊢
  rw [hS2] at fF
  have hp1 : (2 : Nat) ^ (27 - S1.t) * 2 ^ S1.t = 2 ^ 27 := by rw [← Nat.pow_add]; congr 1; omega
  have hc1lt : S1.c < 2 ^ (27 - S1.t) := by rw [hc1]; exact Nat.mod_lt _ (Nat.two_pow_pos _)
  have f1 := fF.out (Nat.sub_self _) (by
    show S1.c * 2 ^ S1.t < 2 ^ 28
    have := Nat.mul_lt_mul_of_pos_right hc1lt (Nat.two_pow_pos S1.t)
    omega)
  rw [Nat.pow_add] at f1
  have f2 : Fut E S1 (2 ^ s.t) := f1.near (a' := S1.a) (Nat.le_refl _) (by omega)
  rw [hS1] at f2
  have f3 := f2.out (Nat.sub_self _) (by
    show S0.c * 2 ^ S0.t < 2 ^ 28
    rw [hS0c, hS0t]
    have h1 : cf < 2 ^ (28 - s.t) := by omega
    have h2 := Nat.mul_lt_mul_of_pos_right h1 (Nat.two_pow_pos s.t)
    have h3 : (2 : Nat) ^ (28 - s.t) * 2 ^ s.t = 2 ^ 28 := by rw [← Nat.pow_add]; congr 1; omega
    omega)
  rw [← hS0t] at f3
  have f3' : Fut E { S0 with c := S0.c * 2 ^ S0.t, t := S0.t - S0.t } (1 * 2 ^ S0.t) := by rw [Nat.one_mul]; exact f3
  have f4 : Fut E S0 1 := f3'.near (a' := S0.a) (Nat.le_refl _) (by omega)
  rw [← hS0] at f4
  exact Fut.part (s := s) (a' := s.a) (n' := s.n) (st' := s.st) f4 hf1.1 hf1.2

end Go.Ar

/- BkC: coder and decoder in step: what is decoded are the decisions. No Go, no memory. -/
set_option linter.unusedVariables false
set_option linter.unusedSimpArgs false
namespace Go.Ar

/-- Where a decoder stands in the code 'E', of which it has 'k' bytes. -/
structure Pos (E : List Nat) (d : Dec) (k : Nat) : Prop where
  by_ : ∀ j, byteD d j = fE E (j + 1)
  at_ : k = d.i + 1 ∨ d.i + 1 ≤ k ∧ E.length ≤ d.i + 2 ∧ fE E (d.i + 1) = 255
/-- No byte above 8f stands behind an ff. -/
def Stuffed (E : List Nat) : Prop := ∀ j, fE E j = 255 → j + 1 < E.length → fE E (j + 1) ≤ 143
theorem fE_end (E : List Nat) {k : Nat} (h : E.length ≤ k) : fE E k = 255 := by unfold fE; rw [List.getD_eq_getElem?_getD, List.getElem?_eq_none h]; rfl

/-- A byte comes in. -/
theorem inD_pos {E : List Nat} {d : Dec} {k : Nat} (hE : Stuffed E) (h : Pos E d k) :
    Pos E (inD d) (k + 1) ∧ (inD d).t = lenE E (k + 1) ∧ (inD d).c = (d.c + fE E (k + 1) * 2 ^ (16 - lenE E (k + 1))) % M32 := by
  have hb0 := h.by_ d.i
  have hb1 := h.by_ (d.i + 1)
  have hb : ∀ d' : Dec, d'.b = d.b → ∀ j, byteD d' j = fE E (j + 1) := fun d' e j => by rw [← h.by_ j]; unfold byteD; rw [e]
  unfold inD
  split
  · rename_i h1
    rw [hb0] at h1
    have hlt : d.i + 1 < E.length := by
      rcases Nat.lt_or_ge (d.i + 1) E.length with h2 | h2
      · exact h2
      · exact absurd (fE_end E h2) h1
    have hk : k = d.i + 1 := by
      rcases h.at_ with h2 | ⟨_, h2, h3⟩
      · exact h2
      · exact absurd h3 h1
    have hl : lenE E (k + 1) = 8 := by
      unfold lenE
      rw [Nat.add_sub_cancel, if_neg]
      rintro ⟨_, h3⟩
      rw [hk] at h3
      exact h1 h3
    refine ⟨⟨hb _ rfl, .inl (by rw [hk])⟩, by rw [hl], ?_⟩
    rw [hb1, hl, hk]
  · rename_i h1
    rw [hb0] at h1
    have h1 : fE E (d.i + 1) = 255 := by simpa using h1
    split
    · rename_i h2
      rw [hb1] at h2
      have hge : E.length ≤ d.i + 2 := by
        rcases Nat.lt_or_ge (d.i + 1 + 1) E.length with h3 | h3
        · have := hE _ h1 h3; omega
        · exact h3
      have hkge : d.i + 1 ≤ k := by rcases h.at_ with h3 | ⟨h3, _⟩ <;> omega
      have hl : lenE E (k + 1) = 8 := by unfold lenE; rw [if_neg (by omega)]
      have hf : fE E (k + 1) = 255 := fE_end E (by omega)
      exact ⟨⟨hb _ rfl, .inr ⟨by show d.i + 1 ≤ k + 1; omega, hge, h1⟩⟩, by rw [hl], by rw [hl, hf]⟩
    · rename_i h2
      rw [hb1] at h2
      have hlt : d.i + 2 < E.length := by
        rcases Nat.lt_or_ge (d.i + 2) E.length with h3 | h3
        · exact h3
        · have := fE_end E h3
          rw [show d.i + 1 + 1 = d.i + 2 from rfl] at h2
          omega
      have hk : k = d.i + 1 := by
        rcases h.at_ with h3 | ⟨_, h3, _⟩
        · exact h3
        · omega
      have hl : lenE E (k + 1) = 7 := by
        unfold lenE
        rw [Nat.add_sub_cancel, if_pos ⟨by omega, by rw [hk]; exact h1⟩]
      refine ⟨⟨hb _ rfl, .inl (by rw [hk])⟩, by rw [hl], ?_⟩
      rw [hb1, hl, hk]

/-- The decoder's number: what it has of the code, above the coder's lower end. -/
structure Num (E : List Nat) (s : Cod) (d : Dec) (k : Nat) : Prop extends Pos E d k where
  pos : BE E k = BE E s.bs.length + (27 - s.t) + d.t
  num : d.c + lowC s * 65536 = XE E k * 2 ^ (16 - d.t)
structure Sync (E : List Nat) (s : Cod) (d : Dec) : Prop where
  a : d.a = s.a
  st : d.st = s.st
  n : d.n = s.n
  num : ∃ k, Num E s d k

section
variable {E : List Nat} {s : Cod} {d : Dec} {k A t : Nat}
theorem XE_split (x : Nat) (h : t ≤ 16) : x * 2 ^ (16 - t) * 2 ^ t = x * 65536 := by
  rw [Nat.mul_assoc, ← Nat.pow_add]
  congr 1
  have : 16 - t + t = 16 := by omega
  rw [this]
/-- The number lies in the interval. -/
theorem Fut.lt (h : Fut E s A) (hp : BE E k = BE E s.bs.length + (27 - s.t) + t) (ht : t ≤ 16) : XE E k * 2 ^ (16 - t) < (lowC s + A) * 65536 := by
  have h1 := h.hi k
  rw [hp, Nat.pow_add _ _ t, ← Nat.mul_assoc, Nat.mul_right_comm (lowC s + A)] at h1
  have h2 : XE E k < (lowC s + A) * 2 ^ t := Nat.lt_of_mul_lt_mul_right h1
  refine Nat.lt_of_mul_lt_mul_right (a := 2 ^ t) ?_
  rw [XE_split _ ht, Nat.mul_right_comm]
  exact Nat.mul_lt_mul_of_pos_right h2 (by decide)
theorem Fut.ge (h : Fut E s A) (hp : BE E k = BE E s.bs.length + (27 - s.t) + t) (ht : t ≤ 16) (hk : s.bs.length < k) : lowC s * 65536 ≤ XE E k * 2 ^ (16 - t) := by
  have h1 := h.lo k hk
  rw [hp, Nat.pow_add _ _ t, ← Nat.mul_assoc, Nat.mul_right_comm] at h1
  have h2 : lowC s * 2 ^ t < XE E k + 1 := Nat.lt_of_mul_lt_mul_right h1
  refine Nat.le_of_mul_le_mul_right (c := 2 ^ t) ?_ (Nat.two_pow_pos t)
  rw [XE_split _ ht, Nat.mul_right_comm]
  exact Nat.mul_le_mul_right _ (by omega)
theorem ahead (hp : BE E k = BE E s.bs.length + (27 - s.t) + t) (ht : s.t ≤ 12) : s.bs.length < k := by
  rcases Nat.lt_or_ge s.bs.length k with h1 | h1
  · exact h1
  · have := BE_mono E h1; omega

theorem shiftM_pos (h : Fut E (shiftM s) A) (ht1 : 1 ≤ s.t) (ht2 : s.t ≤ 12) (hc : s.c < 2 ^ (28 - s.t)) : lowC (shiftM s) = 2 * lowC s ∧ BE E (shiftM s).bs.length + (27 - (shiftM s).t) = BE E s.bs.length + (27 - s.t) + 1 := by
  have e0 : lowC { s with a := 2 * s.a, c := 2 * s.c, t := s.t - 1 } = 2 * lowC s := by
    show valL (s.bs ++ [s.l]) * 2 ^ (27 - (s.t - 1)) + 2 * s.c = 2 * (valL (s.bs ++ [s.l]) * 2 ^ (27 - s.t) + s.c)
    rw [show 27 - (s.t - 1) = (27 - s.t) + 1 by omega, Nat.pow_succ, ← Nat.mul_assoc]
    omega
  unfold shiftM at h ⊢
  simp only [] at h ⊢
  split
  · rename_i h1
    rw [if_pos h1] at h
    have h1 : s.t - 1 = 0 := h1
    have ht : s.t = 1 := by omega
    rw [ht] at hc
    have tail : ∀ {l c : Nat}, Fut E (outTail { s with a := 2 * s.a, c := 2 * s.c, t := s.t - 1 } l c) A → c < 2 ^ 28 → (l ≠ 255 → c < 2 ^ 27) → (l = s.l ∧ c = 2 * s.c ∨ l = s.l + 1 ∧ s.l ≠ 255 ∧ c + 2 ^ 27 = 2 * s.c) →
        lowC (outTail { s with a := 2 * s.a, c := 2 * s.c, t := s.t - 1 } l c) = 2 * lowC s ∧ BE E (outTail { s with a := 2 * s.a, c := 2 * s.c, t := s.t - 1 } l c).bs.length + (27 - (outTail { s with a := 2 * s.a, c := 2 * s.c, t := s.t - 1 } l c).t) = BE E s.bs.length + (27 - s.t) + 1 := by
      intro l c hF hc hc2 hl
      constructor
      · rw [outTail_low _ l c hc hc2, ← e0]
        unfold lowC
        show valL (s.bs ++ [l]) * 2 ^ 27 + c = valL (s.bs ++ [s.l]) * 2 ^ (27 - (s.t - 1)) + 2 * s.c
        rw [h1, valL_snoc, valL_snoc]
        rcases hl with ⟨rfl, rfl⟩ | ⟨rfl, _, h2⟩
        · rfl
        · generalize (valL s.bs * if s.bs.getLast? = some 255 then 128 else 256) = v
          omega
      · have hbs : (outTail { s with a := 2 * s.a, c := 2 * s.c, t := s.t - 1 } l c).bs = s.bs ++ [l] := by unfold outTail; split <;> rfl
        have hpre := hF.pre
        have hlen := hF.len
        rw [hbs] at hpre hlen
        have hfl : fE E s.bs.length = l := hpre s.bs.length l (by simp)
        have hlen' : s.bs.length + 1 < E.length := by simpa using hlen
        rw [hbs, List.length_append, List.length_singleton]
        show BE E s.bs.length + lenE E (s.bs.length + 1) + _ = _
        have : lenE E (s.bs.length + 1) + (27 - (outTail { s with a := 2 * s.a, c := 2 * s.c, t := s.t - 1 } l c).t) = 27 := by
          unfold lenE outTail
          rw [Nat.add_sub_cancel, hfl]
          by_cases h3 : l = 255
          · simp only [if_pos h3]; rw [if_pos ⟨hlen', h3⟩]
          · simp only [if_neg h3]; rw [if_neg (by simp [h3])]
        omega
    unfold outM at h ⊢
    split
    · rename_i h2
      rw [if_pos h2] at h
      exact tail h (by show 2 * s.c % 134217728 < _; omega) (fun _ => by show 2 * s.c % 134217728 < _; omega) (.inr ⟨rfl, h2.1, by
        have : 134217728 ≤ 2 * s.c := h2.2
        show 2 * s.c % 134217728 + _ = _
        omega⟩)
    · rename_i h2
      rw [if_neg h2] at h
      exact tail h (by show 2 * s.c < _; omega) (fun h3 => by
        rcases Nat.lt_or_ge (2 * s.c) 134217728 with h4 | h4
        · exact h4
        · exact absurd ⟨h3, h4⟩ h2) (.inl ⟨rfl, rfl⟩)
  · exact ⟨e0, by show BE E s.bs.length + (27 - (s.t - 1)) = _; omega⟩

/-- One doubling. -/
theorem sync_shift (hE : Stuffed E) (hm : Mid s) (hd : MidD d) (S : Sync E s d) (ha : s.a < 0x8000) (F : Fut E (shiftM s) (shiftM s).a) : Sync E (shiftM s) (shiftD d) := by
  obtain ⟨hm1, hma, hmn, hmst, _, _⟩ := shiftM_mid hm ha
  have hc := hm.ca
  rw [hma] at F
  have hF : Fut E s s.a := F.shift hm.t1 hm.t12 (by omega)
  obtain ⟨p1, p2⟩ := shiftM_pos F hm.t1 hm.t12 (by omega)
  obtain ⟨k, hN⟩ := S.num
  have key : ∃ (k : Nat) (d1 : Dec), (if d.t = 0 then inD d else d) = d1 ∧ Num E s d1 k ∧ 1 ≤ d1.t ∧ d1.t ≤ 8 ∧ d1.a = d.a ∧ d1.st = d.st ∧ d1.n = d.n := by
    by_cases h0 : d.t = 0
    · obtain ⟨q1, q2, q3⟩ := inD_pos hE hN.toPos
      obtain ⟨i1, i2, i3, i4, i5, i6⟩ := inD_mid hd
      obtain ⟨l1, l2⟩ := lenE_le E (k + 1)
      rw [if_pos h0]
      have hpos : BE E (k + 1) = BE E s.bs.length + (27 - s.t) + lenE E (k + 1) := by
        have := hN.pos
        show BE E k + lenE E (k + 1) = _
        omega
      have hlt := hF.lt hpos (by omega)
      have e1 : XE E (k + 1) * 2 ^ (16 - lenE E (k + 1)) = XE E k * 65536 + fE E (k + 1) * 2 ^ (16 - lenE E (k + 1)) := by
        show (XE E k * 2 ^ lenE E (k + 1) + fE E (k + 1)) * _ = _
        rw [Nat.add_mul, ← XE_split (t := lenE E (k + 1)) (XE E k) (by omega), Nat.mul_right_comm]
      have e2 := hN.num
      rw [h0, Nat.sub_zero] at e2
      have hcl : (inD d).c + lowC s * 65536 = XE E (k + 1) * 2 ^ (16 - lenE E (k + 1)) := by
        rw [q3, Nat.mod_eq_of_lt]
        · omega
        · show _ < 4294967296
          rw [Nat.add_mul] at hlt
          have e3 : XE E k * 2 ^ 16 = XE E k * 65536 := rfl
          omega
      exact ⟨k + 1, _, rfl, ⟨q1, by rw [q2]; exact hpos, by rw [q2]; exact hcl⟩, by omega, by omega, i2, i4, i3⟩
    · rw [if_neg h0]
      exact ⟨k, d, rfl, hN, by omega, hd.t8, rfl, rfl, rfl⟩
  obtain ⟨k1, d1, hd1, hN1, t1, t8, ea, est, en⟩ := key
  have hlt := hF.lt hN1.pos (by omega)
  rw [← hN1.num] at hlt
  rw [Nat.add_mul] at hlt
  have hsd : shiftD d = { d1 with a := 2 * d1.a, c := 2 * d1.c % M32, t := d1.t - 1 } := by rw [← hd1]; rfl
  rw [hsd]
  have hc2 : 2 * d1.c % M32 = 2 * d1.c := Nat.mod_eq_of_lt (by show 2 * d1.c < 4294967296; omega)
  rw [hc2]
  refine ⟨by show 2 * d1.a = _; rw [hma, ea, S.a], by show d1.st = _; rw [hmst, est, S.st], by show d1.n = _; rw [hmn, en, S.n], k1, ⟨⟨hN1.by_, hN1.at_⟩, ?_, ?_⟩⟩
  · show BE E k1 = _ + (d1.t - 1)
    have := hN1.pos
    omega
  · show 2 * d1.c + lowC (shiftM s) * 65536 = XE E k1 * 2 ^ (16 - (d1.t - 1))
    have := hN1.num
    rw [p1, show 16 - (d1.t - 1) = (16 - d1.t) + 1 by omega, Nat.pow_succ, ← Nat.mul_assoc]
    omega
end

theorem sync_renew {E : List Nat} (hE : Stuffed E) : ∀ (k : Nat) {s : Cod} {d : Dec}, Mid s → MidD d → Sync E s d → s.a < 0x8000 → 0x8000 ≤ s.a * 2 ^ k → Fut E (renewM k s) (renewM k s).a → Sync E (renewM k s) (renewD k d)
  | 0, s, d, h, _, _, ha, hk, _ => by simp at hk; omega
  | k + 1, s, d, h, hd, S, ha, hk, hF => by
    obtain ⟨h1, h2, h3, h4, h5, h6⟩ := shiftM_mid h ha
    obtain ⟨g1, g2, g3, g4, g5⟩ := shiftD_mid hd
    have ea : (shiftD d).a = (shiftM s).a := by rw [g2, h2, S.a]
    unfold renewM at hF ⊢
    unfold renewD
    simp only [] at hF ⊢
    rw [ea]
    by_cases hge : 0x8000 ≤ (shiftM s).a
    · rw [if_pos hge] at hF ⊢
      rw [if_pos hge]
      exact sync_shift hE h hd S ha hF
    · rw [if_neg hge] at hF ⊢
      rw [if_neg hge]
      have hk' : 0x8000 ≤ (shiftM s).a * 2 ^ k := by
        rw [h2]
        rw [Nat.pow_succ] at hk
        have : s.a * (2 ^ k * 2) = 2 * s.a * 2 ^ k := by rw [Nat.mul_comm (2 ^ k) 2, ← Nat.mul_assoc, Nat.mul_comm s.a 2]
        omega
      exact sync_renew hE k h1 g1 (sync_shift hE h hd S ha (Fut.renew k h1 (by omega) hk' hF)) (by omega) hk' hF

/-- One decision. -/
theorem sync_put {E : List Nat} (hE : Stuffed E) {s : Cod} {d : Dec} (hs : Wf s) (hd : WfD d) (S : Sync E s d) {k bit : Nat} (hb : bit ≤ 1) (hF : Fut E (putM s k bit) (putM s k bit).a) :
    Sync E (putM s k bit) (getD d k).1 ∧ (getD d k).2 = bit ∧ Fut E s s.a := by
  have hx := getD_lt hs.st k
  have hr : s.st.getD k 0 / 2 < 47 := by omega
  have hq1 := qOf_pos hr
  have hq2 := qOf_le hr
  have hM := set_lt hs.st (k := k) (upM_lt hx)
  have hL := set_lt hs.st (k := k) (upL_lt hx)
  have hlo := hs.lo
  have hhi := hs.hi
  have hca := hs.ca
  have ht1 := hs.t1
  have ht2 := hs.t12
  have hdc := hd.c
  have h17 : (2 : Nat) ^ 17 = 131072 := rfl
  obtain ⟨kk, hN⟩ := S.num
  have hdt := hd.t8
  -- the lower part, the upper part
  have up : ∀ {a' n' : Nat} {st' : List Nat}, Fut E { s with a := a', c := s.c + qOf (s.st.getD k 0 / 2), n := n', st := st' } (s.a - qOf (s.st.getD k 0 / 2)) → ¬ d.c / 65536 < qOf (s.st.getD k 0 / 2) ∧ Fut E s s.a := by
    intro a' n' st' h
    have hl : lowC { s with a := a', c := s.c + qOf (s.st.getD k 0 / 2), n := n', st := st' } = lowC s + qOf (s.st.getD k 0 / 2) := (Nat.add_assoc _ _ _).symm
    have h1 := h.ge (k := kk) (t := d.t) hN.pos (by omega) (ahead (s := s) hN.pos ht2)
    rw [hl, ← hN.num, Nat.add_mul] at h1
    refine ⟨by omega, Fut.part (s := s) (d' := s.done) h (by omega) (by omega)⟩
  have lw : ∀ {a' n' : Nat} {st' : List Nat}, Fut E { s with a := a', n := n', st := st' } (qOf (s.st.getD k 0 / 2)) → d.c / 65536 < qOf (s.st.getD k 0 / 2) ∧ Fut E s s.a := by
    intro a' n' st' h
    have h1 := h.lt (k := kk) (t := d.t) hN.pos (by omega)
    rw [← hN.num] at h1
    have hl : lowC { s with a := a', n := n', st := st' } = lowC s := rfl
    rw [hl, Nat.add_mul] at h1
    refine ⟨by omega, Fut.part (s := s) (c' := s.c) (d' := s.done) h (by omega) (by omega)⟩
  have hbit : s.st.getD k 0 % 2 < 2 := Nat.mod_lt _ (by omega)
  -- the numbers behind a step
  have nup : ¬ d.c / 65536 < qOf (s.st.getD k 0 / 2) → ∀ {a' n' : Nat} {st' : List Nat}, Sync E { s with a := a', c := s.c + qOf (s.st.getD k 0 / 2), n := n', st := st' } { d with a := a', c := d.c - qOf (s.st.getD k 0 / 2) * 65536, n := n', st := st' } := by
    intro h a' n' st'
    refine ⟨rfl, rfl, rfl, kk, ⟨hN.by_, hN.at_⟩, hN.pos, ?_⟩
    have := hN.num
    have hl : lowC { s with a := a', c := s.c + qOf (s.st.getD k 0 / 2), n := n', st := st' } = lowC s + qOf (s.st.getD k 0 / 2) := (Nat.add_assoc _ _ _).symm
    show d.c - qOf (s.st.getD k 0 / 2) * 65536 + lowC { s with a := a', c := s.c + qOf (s.st.getD k 0 / 2), n := n', st := st' } * 65536 = XE E kk * 2 ^ (16 - d.t)
    rw [hl, Nat.add_mul]
    omega
  have nlw : ∀ {a' n' : Nat} {st' : List Nat}, Sync E { s with a := a', n := n', st := st' } { d with a := a', n := n', st := st' } := by
    intro a' n' st'
    exact ⟨rfl, rfl, rfl, kk, ⟨hN.by_, hN.at_⟩, hN.pos, hN.num⟩
  have hget : getD d k = (if d.c / 65536 < qOf (s.st.getD k 0 / 2) then
    if s.a - qOf (s.st.getD k 0 / 2) < qOf (s.st.getD k 0 / 2) then (renewD 17 { d with a := qOf (s.st.getD k 0 / 2), n := s.n + 1, st := s.st.set k (upM (s.st.getD k 0)) }, s.st.getD k 0 % 2)
    else (renewD 17 { d with a := qOf (s.st.getD k 0 / 2), n := s.n + 1, st := s.st.set k (upL (s.st.getD k 0)) }, 1 - s.st.getD k 0 % 2)
  else
    if 0x8000 ≤ s.a - qOf (s.st.getD k 0 / 2) then ({ d with a := s.a - qOf (s.st.getD k 0 / 2), c := d.c - qOf (s.st.getD k 0 / 2) * 65536, n := s.n + 1, st := s.st }, s.st.getD k 0 % 2)
    else if s.a - qOf (s.st.getD k 0 / 2) < qOf (s.st.getD k 0 / 2) then (renewD 17 { d with a := s.a - qOf (s.st.getD k 0 / 2), c := d.c - qOf (s.st.getD k 0 / 2) * 65536, n := s.n + 1, st := s.st.set k (upL (s.st.getD k 0)) }, 1 - s.st.getD k 0 % 2)
    else (renewD 17 { d with a := s.a - qOf (s.st.getD k 0 / 2), c := d.c - qOf (s.st.getD k 0 / 2) * 65536, n := s.n + 1, st := s.st.set k (upM (s.st.getD k 0)) }, s.st.getD k 0 % 2)) := by
    have e1 := S.a
    have e2 := S.st
    have e3 := S.n
    obtain ⟨da, dc, dt, dn, dst, db, di⟩ := d
    simp only at e1 e2 e3
    subst e1 e2 e3
    rfl
  have hdm : ∀ {a' c' n' : Nat} {st' : List Nat}, c' ≤ d.c → (∀ x ∈ st', x < 94) → MidD { d with a := a', c := c', n := n', st := st' } := fun hc hst => ⟨hd.t8, Nat.lt_of_le_of_lt hc hdc, hd.b, hst, hd.i⟩
  rw [hget]
  unfold putM at hF ⊢
  simp only [] at hF ⊢
  generalize s.st.getD k 0 = x at *
  generalize qOf (x / 2) = q at *
  have mlw : ∀ {n' : Nat} {st' : List Nat}, (∀ x ∈ st', x < 94) → Mid { s with a := q, n := n', st := st' } := fun hst => ⟨ht1, ht2, by show s.c + q < 2 ^ (28 - s.t); omega, hs.l, hs.bs, hst⟩
  have mup : ∀ {n' : Nat} {st' : List Nat}, (∀ x ∈ st', x < 94) → Mid { s with a := s.a - q, c := s.c + q, n := n', st := st' } := fun hst => ⟨ht1, ht2, by show s.c + q + (s.a - q) < 2 ^ (28 - s.t); omega, hs.l, hs.bs, hst⟩
  have flw : ∀ {n' : Nat} {st' : List Nat}, (∀ x ∈ st', x < 94) → Fut E (renewM 17 { s with a := q, n := n', st := st' }) (renewM 17 { s with a := q, n := n', st := st' }).a →
      d.c / 65536 < q ∧ Fut E s s.a ∧ Sync E (renewM 17 { s with a := q, n := n', st := st' }) (renewD 17 { d with a := q, n := n', st := st' }) := by
    intro n' st' hst h
    have h0 := Fut.renew 17 (mlw (n' := n') hst) (by show q < _; omega) (by show _ ≤ q * _; omega) h
    obtain ⟨h1, h2⟩ := lw h0
    exact ⟨h1, h2, sync_renew hE 17 (mlw hst) (hdm (Nat.le_refl _) hst) nlw (by show q < _; omega) (by show _ ≤ q * _; omega) h⟩
  have fup : ∀ {n' : Nat} {st' : List Nat}, s.a - q < 0x8000 → 1 ≤ s.a - q → (∀ x ∈ st', x < 94) → Fut E (renewM 17 { s with a := s.a - q, c := s.c + q, n := n', st := st' }) (renewM 17 { s with a := s.a - q, c := s.c + q, n := n', st := st' }).a →
      ¬ d.c / 65536 < q ∧ Fut E s s.a ∧ Sync E (renewM 17 { s with a := s.a - q, c := s.c + q, n := n', st := st' }) (renewD 17 { d with a := s.a - q, c := d.c - q * 65536, n := n', st := st' }) := by
    intro n' st' h3 h4 hst h
    have h0 := Fut.renew 17 (mup (n' := n') hst) h3 (by show _ ≤ (s.a - q) * _; omega) h
    obtain ⟨h1, h2⟩ := up h0
    exact ⟨h1, h2, sync_renew hE 17 (mup hst) (hdm (Nat.sub_le _ _) hst) (nup h1) h3 (by show _ ≤ (s.a - q) * _; omega) h⟩
  by_cases hbx : bit = x % 2
  · rw [if_pos hbx] at hF ⊢
    by_cases h8 : 0x8000 ≤ s.a - q
    · rw [if_pos h8] at hF ⊢
      obtain ⟨h1, h2⟩ := up (a' := s.a - q) (n' := s.n + 1) (st' := s.st) hF
      rw [if_neg h1, if_pos h8]
      exact ⟨nup h1, hbx.symm, h2⟩
    · rw [if_neg h8] at hF ⊢
      by_cases hq : s.a - q < q
      · rw [if_pos hq] at hF ⊢
        obtain ⟨h1, h2, h3⟩ := flw hM hF
        rw [if_pos h1, if_pos hq]
        exact ⟨h3, hbx.symm, h2⟩
      · rw [if_neg hq] at hF ⊢
        obtain ⟨h1, h2, h3⟩ := fup (by omega) (by omega) hM hF
        rw [if_neg h1, if_neg h8, if_neg hq]
        exact ⟨h3, hbx.symm, h2⟩
  · rw [if_neg hbx] at hF ⊢
    by_cases hq : s.a - q < q
    · rw [if_pos hq] at hF ⊢
      obtain ⟨h1, h2, h3⟩ := fup (by omega) (by omega) hL hF
      rw [if_neg h1, if_neg (by omega), if_pos hq]
      exact ⟨h3, by show 1 - x % 2 = bit; omega, h2⟩
    · rw [if_neg hq] at hF ⊢
      obtain ⟨h1, h2, h3⟩ := flw hL hF
      rw [if_pos h1, if_neg hq]
      exact ⟨h3, by show 1 - x % 2 = bit; omega, h2⟩

end Go.Ar

/- ArK: the closed runs: what 'wakes' and 'ArithKnown' run, reckoned out. No program in sight. -/
set_option linter.unusedVariables false
set_option linter.unusedSimpArgs false
namespace Go.Ar

/-- A coder behind the first n decisions. -/
def codN (k b : Nat → Nat) (m : Nat) : Nat → Cod
  | 0 => newC m
  | n + 1 => putM (codN k b m n) (k n) (b n)
def decN (k : Nat → Nat) (bytes : List Nat) (m : Nat) : Nat → Dec
  | 0 => newD bytes m
  | n + 1 => (getD (decN k bytes m n) (k n)).1

def wakeK (i : Nat) : Nat := i % 2
def wakeB (i : Nat) : Nat := i / 3 % 2
def wakeBytes : List Nat := bytesM (flushM (codN wakeK wakeB 2 40))
def allB (p : Nat → Bool) : Nat → Bool
  | 0 => true
  | n + 1 => allB p n && p n
theorem allB_of {p : Nat → Bool} : ∀ {n : Nat}, allB p n = true → ∀ i, i < n → p i = true
  | 0, _, i, hi => by omega
  | n + 1, h, i, hi => by
    simp only [allB, Bool.and_eq_true] at h
    rcases Nat.lt_or_ge i n with h1 | h1
    · exact allB_of h.1 i h1
    · have : i = n := by omega
      subst this; exact h.2
set_option maxRecDepth 100000 in
theorem wake_ne : (Nat.beq wakeBytes.length 0) = false := by kernel_rfl
set_option maxRecDepth 100000 in
theorem wake_all : allB (fun i => Nat.beq (getD (decN wakeK wakeBytes 2 i) (wakeK i)).2 (wakeB i)) 40 = true := by kernel_rfl

end Go.Ar

/- BkD: no byte above 8f behind an ff; the whole run of a coder and the decoder of its bytes. No Go, no memory. -/
set_option linter.unusedVariables false
set_option linter.unusedSimpArgs false
namespace Go.Ar

structure Stf0 (s : Cod) (A : Nat) : Prop where
  bs : ∀ j, s.bs[j]? = some 255 → ∀ y, s.bs[j + 1]? = some y → y ≤ 143
  last : s.bs.getLast? = some 255 → s.l * 2 ^ (27 - s.t) + s.c + A ≤ 144 * 2 ^ (27 - s.t)
structure Stf (s : Cod) (A : Nat) : Prop extends Stf0 s A where
  ff : s.l = 255 → s.t ≤ 8 ∧ s.c + A ≤ 589824 * 2 ^ (8 - s.t)

section
variable {s : Cod} {A : Nat}
theorem Stf.part (h : Stf s A) {A' a' c' n' : Nat} {st' : List Nat} {d' : Bool} (hc : c' + A' ≤ s.c + A) : Stf { s with a := a', c := c', n := n', st := st', done := d' } A' := by
  refine ⟨⟨h.bs, fun hl => ?_⟩, fun hl => ?_⟩
  · have := h.last hl
    show s.l * 2 ^ (27 - s.t) + c' + A' ≤ 144 * 2 ^ (27 - s.t)
    omega
  · have := h.ff hl
    exact ⟨this.1, Nat.le_trans hc this.2⟩
theorem Stf.near (h : Stf s A) {j a' : Nat} (hj : j ≤ s.t) (ht : s.t ≤ 27) : Stf { s with a := a', c := s.c * 2 ^ j, t := s.t - j } (A * 2 ^ j) := by
  refine ⟨⟨h.bs, fun hl => ?_⟩, fun hl => ?_⟩
  · have h1 := Nat.mul_le_mul_right (2 ^ j) (h.last hl)
    show s.l * 2 ^ (27 - (s.t - j)) + s.c * 2 ^ j + A * 2 ^ j ≤ 144 * 2 ^ (27 - (s.t - j))
    have e : 27 - (s.t - j) = 27 - s.t + j := by omega
    rw [e, Nat.pow_add, ← Nat.mul_assoc, ← Nat.mul_assoc]
    rw [Nat.add_mul, Nat.add_mul] at h1
    exact h1
  · obtain ⟨h1, h2⟩ := h.ff hl
    have h3 := Nat.mul_le_mul_right (2 ^ j) h2
    refine ⟨by show s.t - j ≤ 8; omega, ?_⟩
    show s.c * 2 ^ j + A * 2 ^ j ≤ 589824 * 2 ^ (8 - (s.t - j))
    have e : 8 - (s.t - j) = 8 - s.t + j := by omega
    rw [e, Nat.pow_add, ← Nat.mul_assoc, ← Nat.add_mul]
    exact h3
theorem Stf.out (h : Stf s A) (ht : s.t = 0) (hc : s.c + A ≤ 2 ^ 28) (hA : 1 ≤ A) : Stf0 (outM s) A ∧ (A ≤ 65536 → Stf (outM s) A) := by
  have key : ∀ l c, (l = s.l ∧ c = s.c ∧ (l ≠ 255 → c < 2 ^ 27) ∨ l = s.l + 1 ∧ s.l ≠ 255 ∧ c + 2 ^ 27 = s.c) → Stf0 (outTail s l c) A ∧ (A ≤ 65536 → Stf (outTail s l c) A) := by
    intro l c hl
    have hbs : (outTail s l c).bs = s.bs ++ [l] := by unfold outTail; split <;> rfl
    have hchain : ∀ j, (s.bs ++ [l])[j]? = some 255 → ∀ y, (s.bs ++ [l])[j + 1]? = some y → y ≤ 143 := by
      intro j hj y hy
      have hlt := (List.getElem?_eq_some_iff.1 hy).1
      rw [List.length_append, List.length_singleton] at hlt
      rw [List.getElem?_append_left (by omega)] at hj
      rcases Nat.lt_or_ge (j + 1) s.bs.length with h1 | h1
      · rw [List.getElem?_append_left h1] at hy
        exact h.bs j hj y hy
      · have e : j + 1 = s.bs.length := by omega
        rw [e] at hy
        simp at hy
        subst hy
        have hg : s.bs.getLast? = some 255 := by rw [List.getLast?_eq_getElem?, ← e, Nat.add_sub_cancel]; exact hj
        have := h.last hg
        rw [ht] at this
        omega
    have hlast : (s.bs ++ [l]).getLast? = some 255 → l = 255 ∧ c + A ≤ 144 * 2 ^ 20 := by
      intro hg
      rw [List.getLast?_concat] at hg
      have hl2 : l = 255 := Option.some.inj hg
      refine ⟨hl2, ?_⟩
      rcases hl with ⟨h1, h2, _⟩ | ⟨h1, h2, h3⟩
      · have := (h.ff (by omega)).2
        rw [ht] at this
        omega
      · omega
    have hclt : c < 2 ^ 28 := by omega
    have h0 : Stf0 (outTail s l c) A := by
      refine ⟨by rw [hbs]; exact hchain, fun hg => ?_⟩
      rw [hbs] at hg
      obtain ⟨h1, h2⟩ := hlast hg
      unfold outTail
      rw [if_pos h1]
      show c / 1048576 % 256 * 2 ^ 20 + c % 1048576 + A ≤ 144 * 2 ^ 20
      omega
    refine ⟨h0, fun hA2 => ⟨h0, fun hl2 => ?_⟩⟩
    by_cases h3 : l = 255
    · have := h0.last (by rw [hbs, List.getLast?_concat, h3])
      rw [hl2] at this
      omega
    · unfold outTail
      rw [if_neg h3]
      refine ⟨Nat.le_refl _, ?_⟩
      show c % 524288 + A ≤ 589824
      omega
  unfold outM
  split
  · rename_i h1
    exact key _ _ (.inr ⟨rfl, h1.1, by omega⟩)
  · rename_i h1
    exact key _ _ (.inl ⟨rfl, rfl, fun h2 => by
      rcases Nat.lt_or_ge s.c 134217728 with h3 | h3
      · exact h3
      · exact absurd ⟨h2, h3⟩ h1⟩)

theorem stf_shift (h : Stf s s.a) (hm : Mid s) (ha : s.a < 0x8000) (ha1 : 1 ≤ s.a) : Stf (shiftM s) (shiftM s).a := by
  have ht1 := hm.t1
  have ht2 := hm.t12
  have hca := hm.ca
  have h1 := h.near (j := 1) (a' := 2 * s.a) ht1 (by omega)
  rw [Nat.pow_one, Nat.mul_comm s.c 2, Nat.mul_comm s.a 2] at h1
  unfold shiftM
  simp only []
  split
  · rename_i h0
    have h0 : s.t - 1 = 0 := h0
    have ht : s.t = 1 := by omega
    rw [ht] at hca
    rw [(outM_same _).1]
    exact (h1.out h0 (by show 2 * s.c + 2 * s.a ≤ _; omega) (by omega)).2 (by omega)
  · exact h1
theorem stf_renew : ∀ (k : Nat) {s : Cod}, Stf s s.a → Mid s → s.a < 0x8000 → 1 ≤ s.a → Stf (renewM k s) (renewM k s).a
  | 0, s, h, _, _, _ => h
  | k + 1, s, h, hm, ha, ha1 => by
    obtain ⟨g1, g2, _⟩ := shiftM_mid hm ha
    unfold renewM
    simp only []
    split
    · exact stf_shift h hm ha ha1
    · exact stf_renew k (stf_shift h hm ha ha1) g1 (by omega) (by omega)
theorem stf_put (h : Stf s s.a) (hs : Wf s) (k bit : Nat) : Stf (putM s k bit) (putM s k bit).a := by
  have hx := getD_lt hs.st k
  have hr : s.st.getD k 0 / 2 < 47 := by omega
  have hq1 := qOf_pos hr
  have hq2 := qOf_le hr
  have hM := set_lt hs.st (k := k) (upM_lt hx)
  have hL := set_lt hs.st (k := k) (upL_lt hx)
  have hlo := hs.lo
  have hhi := hs.hi
  have hca := hs.ca
  unfold putM
  simp only []
  generalize s.st.getD k 0 = x at *
  generalize qOf (x / 2) = q at *
  have lw : ∀ {n' : Nat} {st' : List Nat}, (∀ x ∈ st', x < 94) → Stf (renewM 17 { s with a := q, n := n', st := st' }) (renewM 17 { s with a := q, n := n', st := st' }).a := fun {n' st'} hst =>
    stf_renew 17 (h.part (c' := s.c) (A' := q) (d' := s.done) (by omega)) ⟨hs.t1, hs.t12, by show s.c + q < 2 ^ (28 - s.t); omega, hs.l, hs.bs, hst⟩ (by show q < _; omega) hq1
  have up : ∀ {n' : Nat} {st' : List Nat}, s.a - q < 0x8000 → 1 ≤ s.a - q → (∀ x ∈ st', x < 94) → Stf (renewM 17 { s with a := s.a - q, c := s.c + q, n := n', st := st' }) (renewM 17 { s with a := s.a - q, c := s.c + q, n := n', st := st' }).a := fun {n' st'} h1 h2 hst =>
    stf_renew 17 (h.part (c' := s.c + q) (A' := s.a - q) (d' := s.done) (by omega)) ⟨hs.t1, hs.t12, by show s.c + q + (s.a - q) < 2 ^ (28 - s.t); omega, hs.l, hs.bs, hst⟩ h1 h2
  split
  · split
    · exact h.part (a' := s.a - q) (c' := s.c + q) (A' := s.a - q) (n' := s.n + 1) (st' := s.st) (d' := s.done) (by omega)
    · split
      · exact lw hM
      · exact up (by omega) (by omega) hM
  · split
    · exact up (by omega) (by omega) hL
    · exact lw hL
theorem stf_new (m : Nat) : Stf (newC m) (newC m).a := ⟨⟨fun j hj => by simp [newC] at hj, fun hl => by simp [newC] at hl⟩, fun hl => by simp [newC] at hl⟩

theorem stf_flush (h : Stf s s.a) (hs : Wf s) : Stf0 (flushM s) 1 := by
  have hca := hs.ca
  have ht1 := hs.t1
  have ht2 := hs.t12
  have hlo := hs.lo
  have hf1 : s.c ≤ flushC s ∧ flushC s + 1 ≤ s.c + s.a := by
    unfold flushC
    simp only []
    split <;> omega
  have h0 : Stf { s with c := flushC s, done := true } 1 := h.part (a' := s.a) (n' := s.n) (st' := s.st) (by omega)
  have hS : flushM s = flushS (flushS { s with c := flushC s, done := true }) := rfl
  rw [hS]
  generalize hS0 : ({ s with c := flushC s, done := true } : Cod) = S0 at h0
  have hS0t : S0.t = s.t := by rw [← hS0]
  have hS0c : S0.c = flushC s := by rw [← hS0]
  have h1 := h0.near (j := S0.t) (a' := S0.a) (Nat.le_refl _) (by omega)
  have hp : (2 : Nat) ^ (28 - s.t) * 2 ^ s.t = 2 ^ 28 := by rw [← Nat.pow_add]; congr 1; omega
  have hp12 : (2 : Nat) ^ s.t ≤ 2 ^ 12 := Nat.pow_le_pow_right (by omega) ht2
  have h2 := (h1.out (Nat.sub_self _) (by
    show S0.c * 2 ^ S0.t + 1 * 2 ^ S0.t ≤ 2 ^ 28
    rw [← Nat.add_mul, hS0c, hS0t, ← hp]
    exact Nat.mul_le_mul_right _ (by omega)) (by have := Nat.two_pow_pos S0.t; omega)).2 (by rw [hS0t]; omega)
  have e1 : outM { S0 with c := S0.c * 2 ^ S0.t, t := S0.t - S0.t } = flushS S0 := outM_t { S0 with c := S0.c * 2 ^ S0.t } _
  rw [e1] at h2
  obtain ⟨hc1, ht1'⟩ := outM_ct { S0 with c := S0.c * 2 ^ S0.t, t := S0.t - S0.t }
  rw [e1] at hc1 ht1'
  generalize flushS S0 = S1 at *
  rw [hS0t, Nat.one_mul] at h2
  have h3 := h2.near (j := S1.t) (a' := S1.a) (Nat.le_refl _) (by omega)
  have hp1 : (2 : Nat) ^ (27 - S1.t) * 2 ^ S1.t = 2 ^ 27 := by rw [← Nat.pow_add]; congr 1; omega
  have hc1lt : S1.c < 2 ^ (27 - S1.t) := by rw [hc1]; exact Nat.mod_lt _ (Nat.two_pow_pos _)
  have hp8 : (2 : Nat) ^ S1.t ≤ 2 ^ 8 := Nat.pow_le_pow_right (by omega) (by omega)
  have hpp : 2 ^ s.t * 2 ^ S1.t ≤ 2 ^ 12 * 2 ^ 8 := Nat.mul_le_mul hp12 hp8
  have hpz : 0 < 2 ^ s.t * 2 ^ S1.t := Nat.mul_pos (Nat.two_pow_pos _) (Nat.two_pow_pos _)
  have h4 := (h3.out (Nat.sub_self _) (by
    show S1.c * 2 ^ S1.t + 2 ^ s.t * 2 ^ S1.t ≤ 2 ^ 28
    have := Nat.mul_lt_mul_of_pos_right hc1lt (Nat.two_pow_pos S1.t)
    omega) hpz).1
  have e2 : outM { S1 with c := S1.c * 2 ^ S1.t, t := S1.t - S1.t } = flushS S1 := outM_t { S1 with c := S1.c * 2 ^ S1.t } _
  rw [e2] at h4
  exact ⟨h4.bs, fun hl => by have := h4.last hl; omega⟩
end

theorem codeE_get {F : Cod} (j : Nat) (h : j < F.bs.length) : fE (codeE F) j = F.bs.getD j 0 ∧ F.bs[j]? = some (fE (codeE F) j) := by
  unfold fE codeE
  rw [List.getD_eq_getElem?_getD, List.getD_eq_getElem?_getD, List.getElem?_append_left h, List.getElem?_eq_getElem h]
  exact ⟨rfl, rfl⟩
theorem codeE_last {F : Cod} : fE (codeE F) F.bs.length = F.l := by
  unfold fE codeE
  rw [List.getD_eq_getElem?_getD]; simp
theorem codeE_len {F : Cod} : (codeE F).length = F.bs.length + 1 := by simp [codeE]
theorem Stf0.prev {F : Cod} (h : Stf0 F 1) (hl : F.bs.getLast? = some 255) : F.l ≤ 143 := by
  have h1 := h.last hl
  have h2 := Nat.two_pow_pos (27 - F.t)
  have h3 : F.l * 2 ^ (27 - F.t) < 144 * 2 ^ (27 - F.t) := by omega
  have := Nat.lt_of_mul_lt_mul_right h3
  omega
theorem Stf0.stuffed {F : Cod} (h : Stf0 F 1) : Stuffed (codeE F) := by
  intro j hj hlt
  rw [codeE_len] at hlt
  have hjl : j < F.bs.length := by omega
  have h1 := (codeE_get j hjl).2
  rw [hj] at h1
  rcases Nat.lt_or_ge (j + 1) F.bs.length with h2 | h2
  · exact h.bs j h1 _ (codeE_get (j + 1) h2).2
  · have e : j + 1 = F.bs.length := by omega
    rw [e, codeE_last]
    refine h.prev ?_
    rw [List.getLast?_eq_getElem?, ← e, Nat.add_sub_cancel]
    exact h1

/-- The bytes: the code without its first byte, and without an ff at its end. -/
theorem bytes_code {F : Cod} (j : Nat) : (bytesM F).getD j 255 = fE (codeE F) (j + 1) := by
  have hc : bytesM F = if F.l = 255 then ((codeE F).drop 1).dropLast else (codeE F).drop 1 := rfl
  have hd : ((codeE F).drop 1).getD j 255 = fE (codeE F) (j + 1) := by
    unfold fE
    rw [List.getD_eq_getElem?_getD, List.getD_eq_getElem?_getD, List.getElem?_drop, Nat.add_comm 1 j]
  rw [hc]
  split
  · rename_i hl
    have hlen := codeE_len (F := F)
    have hdl : ((codeE F).drop 1).length = F.bs.length := by rw [List.length_drop, hlen]; omega
    rcases Nat.lt_trichotomy (j + 1) F.bs.length with h1 | h1 | h1
    · rw [← hd, List.getD_eq_getElem?_getD, List.getD_eq_getElem?_getD, List.dropLast_eq_take, List.getElem?_take_of_lt (by omega)]
    · have e : fE (codeE F) (j + 1) = 255 := by rw [h1, codeE_last, hl]
      rw [e, List.getD_eq_getElem?_getD, List.getElem?_eq_none (by rw [List.length_dropLast]; omega)]
      rfl
    · rw [fE_end _ (by omega), List.getD_eq_getElem?_getD, List.getElem?_eq_none (by rw [List.length_dropLast]; omega)]
      rfl
  · exact hd
theorem bytes_ff {F : Cod} (h : Stf0 F 1) {i : Nat} (hi : (bytesM F)[i]? = some 255) : i + 1 < (bytesM F).length ∧ ∀ y, (bytesM F)[i + 1]? = some y → y ≤ 143 := by
  have hlen := codeE_len (F := F)
  have h0 := h.stuffed
  have hil := (List.getElem?_eq_some_iff.1 hi).1
  have e0 := bytes_code (F := F) i
  rw [List.getD_eq_getElem?_getD, hi] at e0
  have e0 : fE (codeE F) (i + 1) = 255 := e0.symm
  have hbl : (bytesM F).length = if F.l = 255 then F.bs.length - 1 else F.bs.length := by
    have hc : bytesM F = if F.l = 255 then ((codeE F).drop 1).dropLast else (codeE F).drop 1 := rfl
    rw [hc]
    split
    · rw [List.length_dropLast, List.length_drop, hlen]; omega
    · rw [List.length_drop, hlen]; omega
  have hlt : i + 1 < (bytesM F).length := by
    rcases Nat.lt_or_ge (i + 1) (bytesM F).length with h1 | h1
    · exact h1
    · exfalso
      by_cases hl : F.l = 255
      · rw [if_pos hl] at hbl
        have h2 := h0 (i + 1) e0 (by omega)
        have h3 : i + 1 + 1 = F.bs.length := by omega
        rw [h3, codeE_last] at h2
        omega
      · rw [if_neg hl] at hbl
        have h3 : i + 1 = F.bs.length := by omega
        rw [h3, codeE_last] at e0
        exact hl e0
  refine ⟨hlt, fun y hy => ?_⟩
  have e1 := bytes_code (F := F) (i + 1)
  rw [List.getD_eq_getElem?_getD, hy] at e1
  have e1 : y = fE (codeE F) (i + 1 + 1) := e1
  rw [e1]
  refine h0 (i + 1) e0 ?_
  have : (bytesM F).length ≤ F.bs.length := by rw [hbl]; split <;> omega
  omega

/-- Backwards over a decision. -/
theorem fut_put {E : List Nat} {s : Cod} (hs : Wf s) {k bit : Nat} (hF : Fut E (putM s k bit) (putM s k bit).a) : Fut E s s.a := by
  have hx := getD_lt hs.st k
  have hr : s.st.getD k 0 / 2 < 47 := by omega
  have hq1 := qOf_pos hr
  have hq2 := qOf_le hr
  have hM := set_lt hs.st (k := k) (upM_lt hx)
  have hL := set_lt hs.st (k := k) (upL_lt hx)
  have hlo := hs.lo
  have hhi := hs.hi
  have hca := hs.ca
  have h17 : (2 : Nat) ^ 17 = 131072 := rfl
  unfold putM at hF
  simp only [] at hF
  generalize s.st.getD k 0 = x at *
  generalize qOf (x / 2) = q at *
  have lw : ∀ {n' : Nat} {st' : List Nat}, (∀ x ∈ st', x < 94) → Fut E (renewM 17 { s with a := q, n := n', st := st' }) (renewM 17 { s with a := q, n := n', st := st' }).a → Fut E s s.a := fun {n' st'} hst h =>
    Fut.part (s := s) (c' := s.c) (d' := s.done) (Fut.renew 17 (s := { s with a := q, n := n', st := st' }) ⟨hs.t1, hs.t12, by show s.c + q < 2 ^ (28 - s.t); omega, hs.l, hs.bs, hst⟩ (by show q < _; omega) (by show _ ≤ q * _; omega) h) (by omega) (by show s.c + q ≤ _; omega)
  have up : ∀ {n' : Nat} {st' : List Nat}, s.a - q < 0x8000 → 1 ≤ s.a - q → (∀ x ∈ st', x < 94) → Fut E (renewM 17 { s with a := s.a - q, c := s.c + q, n := n', st := st' }) (renewM 17 { s with a := s.a - q, c := s.c + q, n := n', st := st' }).a → Fut E s s.a := fun {n' st'} h1 h2 hst h =>
    Fut.part (s := s) (d' := s.done) (Fut.renew 17 (s := { s with a := s.a - q, c := s.c + q, n := n', st := st' }) ⟨hs.t1, hs.t12, by show s.c + q + (s.a - q) < 2 ^ (28 - s.t); omega, hs.l, hs.bs, hst⟩ h1 (by show _ ≤ (s.a - q) * _; omega) h) (by omega) (by show s.c + q + (s.a - q) ≤ _; omega)
  split at hF
  · split at hF
    · exact Fut.part (s := s) (A := s.a - q) (d' := s.done) hF (by omega) (by omega)
    · split at hF
      · exact lw hM hF
      · exact up (by omega) (by omega) hM hF
  · split at hF
    · exact up (by omega) (by omega) hL hF
    · exact lw hL hF

/-- At the beginning. -/
theorem sync_new {E : List Nat} {m : Nat} {b : List Nat} (hE : Stuffed E) (hb : ∀ j, b.getD j 255 = fE E (j + 1)) (hlt : ∀ x ∈ b, x < 256) (hF : Fut E (newC m) (newC m).a) : Sync E (newC m) (newD b m) := by
  have hX0 : fE E 0 = 0 := by
    have := hF.hi 0
    have e : lowC (newC m) = 0 := by simp [lowC, newC, valL, valR]
    rw [e] at this
    have e2 : XE E 0 = fE E 0 := rfl
    rw [e2] at this
    simp [newC, BE] at this
    omega
  have hb0 : ∀ d : Dec, d.b = b → ∀ j, byteD d j = fE E (j + 1) := fun d e j => by unfold byteD; rw [e]; exact hb j
  have hl1 : lenE E 1 = 8 := by
    unfold lenE
    rw [if_neg]
    rintro ⟨_, h⟩
    rw [show 1 - 1 = 0 from rfl, hX0] at h
    omega
  have hX1 : XE E 1 = fE E 1 := by
    show XE E 0 * 2 ^ lenE E 1 + fE E 1 = _
    have : XE E 0 = 0 := hX0
    rw [this]; omega
  have hf1 : fE E 1 < 256 := by rw [← hb0 { a := 0, c := 0, t := 0, n := 0, st := [], b := b, i := 0 } rfl 0]; exact byteD_lt (s := { a := 0, c := 0, t := 0, n := 0, st := [], b := b, i := 0 }) hlt 0
  have hf2 : fE E 2 < 256 := by rw [← hb0 { a := 0, c := 0, t := 0, n := 0, st := [], b := b, i := 0 } rfl 1]; exact byteD_lt (s := { a := 0, c := 0, t := 0, n := 0, st := [], b := b, i := 0 }) hlt 1
  have hc0 : b.getD 0 255 = fE E 1 := hb 0
  generalize hd : ({ a := 0x8000, c := b.getD 0 255 * 65536, t := 0, n := 0, st := List.replicate m 0, b := b, i := 0 } : Dec) = d
  have hdc : d.c = fE E 1 * 65536 := by rw [← hd]; show b.getD 0 255 * 65536 = _; rw [hc0]
  have hP : Pos E d 1 := ⟨hb0 d (by rw [← hd]), .inl (by rw [← hd])⟩
  obtain ⟨q1, q2, q3⟩ := inD_pos hE hP
  have hnew : newD b m = { inD d with c := (inD d).c * 128 % M32, t := (inD d).t - 7 } := by rw [← hd]; rfl
  have hst : (inD d).a = 0x8000 ∧ (inD d).n = 0 ∧ (inD d).st = List.replicate m 0 := by
    rw [← hd]; unfold inD; split
    · exact ⟨rfl, rfl, rfl⟩
    · split <;> exact ⟨rfl, rfl, rfl⟩
  obtain ⟨l1, l2⟩ := lenE_le E 2
  have hXX : XE E 2 = fE E 1 * 2 ^ lenE E 2 + fE E 2 := by show XE E 1 * _ + _ = _; rw [hX1]
  have hBB : BE E 2 = 8 + lenE E 2 := by show 0 + lenE E 1 + lenE E 2 = _; rw [hl1]
  have q2 : (inD d).t = lenE E 2 := q2
  have q3 : (inD d).c = (d.c + fE E 2 * 2 ^ (16 - lenE E 2)) % M32 := q3
  rw [hnew]
  refine ⟨hst.1, hst.2.2, hst.2.1, 2, ⟨⟨q1.by_, q1.at_⟩, ?_, ?_⟩⟩
  · show BE E 2 = 0 + (27 - 12) + ((inD d).t - 7)
    omega
  · have e : lowC (newC m) = 0 := by simp [lowC, newC, valL, valR]
    show (inD d).c * 128 % M32 + lowC (newC m) * 65536 = XE E 2 * 2 ^ (16 - ((inD d).t - 7))
    have hM : M32 = 4294967296 := rfl
    rw [e, q3, q2, hXX, hdc, hM]
    rcases (show lenE E 2 = 7 ∨ lenE E 2 = 8 by omega) with h | h <;> rw [h] <;> simp only [show (16 - 7) = 9 from rfl, show 16 - 8 = 8 from rfl, show 16 - (7 - 7) = 16 from rfl, show 16 - (8 - 7) = 15 from rfl] <;> omega

/-! ### the whole run -/
section
variable (k b : Nat → Nat) (m cnt : Nat)
theorem codN_wf (h : ∀ i, i < cnt → b i ≤ 1) : ∀ i, i ≤ cnt → i ≤ 16777216 → Wf (codN k b m i) ∧ (codN k b m i).n = i
  | 0, _, _ => ⟨newC_wf m, rfl⟩
  | i + 1, hi, h2 => by
    obtain ⟨g1, g2⟩ := codN_wf h i (by omega) (by omega)
    exact ⟨putM_wf g1 _ _ (by omega), by show (putM _ _ _).n = _; rw [(putM_n _ _ _).1, g2]⟩
theorem codN_stf (h : ∀ i, i < cnt → b i ≤ 1) : ∀ i, i ≤ cnt → i ≤ 16777216 → Stf (codN k b m i) (codN k b m i).a
  | 0, _, _ => stf_new m
  | i + 1, hi, h2 => stf_put (codN_stf h i (by omega) (by omega)) (codN_wf k b m cnt h i (by omega) (by omega)).1 _ _
theorem fut_run (h : ∀ i, i < cnt → b i ≤ 1) (hc : cnt ≤ 16777216) : ∀ d, d ≤ cnt → Fut (codeE (flushM (codN k b m cnt))) (codN k b m (cnt - d)) (codN k b m (cnt - d)).a
  | 0, _ => fut_flush (codN_wf k b m cnt h cnt (Nat.le_refl _) hc).1
  | d + 1, hd => by
    have h1 := fut_run h hc d (by omega)
    have e : cnt - d = (cnt - (d + 1)) + 1 := by omega
    rw [e] at h1
    exact fut_put (codN_wf k b m cnt h _ (by omega) (by omega)).1 h1
theorem decN_wfD {bytes : List Nat} (hb : ∀ x ∈ bytes, x < 256) : ∀ i, i ≤ 16777216 → WfD (decN k bytes m i) ∧ (decN k bytes m i).n = i
  | 0, _ => by
    have hnew : ∀ d : Dec, MidD d → d.a = 0x8000 → d.n = 0 → WfD { inD d with c := (inD d).c * 128 % M32, t := (inD d).t - 7 } ∧ ({ inD d with c := (inD d).c * 128 % M32, t := (inD d).t - 7 } : Dec).n = 0 := fun d hd ha hn => by
      obtain ⟨i1, i2, i3, i4, i5, i6⟩ := inD_mid hd
      have := i1.t8
      exact ⟨⟨⟨by show (inD d).t - 7 ≤ 8; omega, Nat.mod_lt _ (by decide), i1.b, i1.st, i1.i⟩, by show (inD d).n ≤ _; omega, by show _ ≤ (inD d).a; omega, by show (inD d).a < _; omega⟩, by show (inD d).n = 0; omega⟩
    refine hnew { a := 0x8000, c := bytes.getD 0 255 * 65536, t := 0, n := 0, st := List.replicate m 0, b := bytes, i := 0 } ⟨Nat.zero_le _, ?_, hb, fun x hx => by simp only [List.mem_replicate] at hx; omega, Nat.zero_le _⟩ rfl rfl
    have := byteD_lt (s := { a := 0, c := 0, t := 0, n := 0, st := [], b := bytes, i := 0 }) hb 0
    have e : byteD { a := 0, c := 0, t := 0, n := 0, st := [], b := bytes, i := 0 } 0 = bytes.getD 0 255 := rfl
    show bytes.getD 0 255 * 65536 < 4294967296
    omega
  | i + 1, h => by
    obtain ⟨g1, g2⟩ := decN_wfD hb i (by omega)
    refine ⟨getD_wf g1 _ (by omega), ?_⟩
    have hrn : ∀ (j : Nat) (s : Dec), (renewD j s).n = s.n := by
      have hi : ∀ s : Dec, (inD s).n = s.n := fun s => by unfold inD; split; rfl; split <;> rfl
      have hs : ∀ s : Dec, (shiftD s).n = s.n := fun s => by unfold shiftD; simp only []; split; exact hi s; rfl
      intro j
      induction j with
      | zero => intro s; rfl
      | succ j ih => intro s; unfold renewD; simp only []; split; exact hs s; exact (ih _).trans (hs s)
    show (getD (decN k bytes m i) (k i)).1.n = i + 1
    unfold getD
    simp only []
    split
    · split <;> (rw [hrn]; exact congrArg (· + 1) g2)
    · split
      · exact congrArg (· + 1) g2
      · split <;> (rw [hrn]; exact congrArg (· + 1) g2)
theorem back_run (h : ∀ i, i < cnt → b i ≤ 1) (hc : cnt ≤ 16777216) (hlt : ∀ x ∈ bytesM (flushM (codN k b m cnt)), x < 256) : ∀ i, i ≤ cnt →
    Sync (codeE (flushM (codN k b m cnt))) (codN k b m i) (decN k (bytesM (flushM (codN k b m cnt))) m i)
  | 0, _ => by
    have hE := (stf_flush (codN_stf k b m cnt h cnt (Nat.le_refl _) hc) (codN_wf k b m cnt h cnt (Nat.le_refl _) hc).1).stuffed
    have hF := fut_run k b m cnt h hc cnt (Nat.le_refl _)
    rw [Nat.sub_self] at hF
    exact sync_new hE bytes_code hlt hF
  | i + 1, hi => by
    have hE := (stf_flush (codN_stf k b m cnt h cnt (Nat.le_refl _) hc) (codN_wf k b m cnt h cnt (Nat.le_refl _) hc).1).stuffed
    have hF := fut_run k b m cnt h hc (cnt - (i + 1)) (by omega)
    rw [show cnt - (cnt - (i + 1)) = i + 1 by omega] at hF
    exact (sync_put hE (codN_wf k b m cnt h i (by omega) (by omega)).1 (decN_wfD k m hlt i (by omega)).1 (back_run h hc hlt i (by omega)) (h i (by omega)) hF).1
theorem back_bit (h : ∀ i, i < cnt → b i ≤ 1) (hc : cnt ≤ 16777216) (hlt : ∀ x ∈ bytesM (flushM (codN k b m cnt)), x < 256) {i : Nat} (hi : i < cnt) :
    (getD (decN k (bytesM (flushM (codN k b m cnt))) m i) (k i)).2 = b i := by
  have hE := (stf_flush (codN_stf k b m cnt h cnt (Nat.le_refl _) hc) (codN_wf k b m cnt h cnt (Nat.le_refl _) hc).1).stuffed
  have hF := fut_run k b m cnt h hc (cnt - (i + 1)) (by omega)
  rw [show cnt - (cnt - (i + 1)) = i + 1 by omega] at hF
  exact (sync_put hE (codN_wf k b m cnt h i (by omega) (by omega)).1 (decN_wfD k m hlt i (by omega)).1 (back_run k b m cnt h hc hlt i (by omega)) (h i hi) hF).2.1
end

end Go.Ar

/- Written by gen.py: the numbers of types and functions of this translation. -/
set_option linter.unusedVariables false
set_option linter.unusedSimpArgs false
namespace Go.Den.Yteakipgcanafoaa
open Go Go.Den

abbrev T_x : TypeId := 0
abbrev T_func : TypeId := 1
abbrev T_int64 : TypeId := 2
abbrev T_int : TypeId := 3
abbrev T_bool : TypeId := 4
abbrev T_uint8 : TypeId := 5
abbrev T_abi_BoundsErrorCode : TypeId := 6
abbrev T_st_x_int64_y_int_signed_bool_code_abi_BoundsErrorCode : TypeId := 7
abbrev T_runtime_boundsError : TypeId := 8
abbrev T_string : TypeId := 9
abbrev T_runtime_errorString : TypeId := 10
abbrev T_runtime_plainError : TypeId := 11
abbrev T_uintptr : TypeId := 12
abbrev T_st_msg_string_addr_uintptr : TypeId := 13
abbrev T_runtime_errorAddressString : TypeId := 14
abbrev T_p_runtime_TypeAssertionError : TypeId := 15
abbrev T_p_runtime_PanicNilError : TypeId := 16
abbrev T_p_abi_Type : TypeId := 17
abbrev T_st_typ_abi_Type : TypeId := 18
abbrev T_maps_unhashableTypeError : TypeId := 19
abbrev T_interface : TypeId := 20
abbrev T_int32 : TypeId := 21
abbrev T_s_api_Whole : TypeId := 22
abbrev T_func_bool : TypeId := 23
abbrev T_s_uint8 : TypeId := 24
abbrev T_api_Errno : TypeId := 25
abbrev T_uint8_api_Errno : TypeId := 26
abbrev T_func_api_Whole_uint8_api_Errno : TypeId := 27
abbrev T_func_uint8_uint8_bool : TypeId := 28
abbrev T_func_api_Whole_api_Whole_bool : TypeId := 29
abbrev T_func_api_Whole_bool : TypeId := 30
abbrev T_st_B_uint8_N_int : TypeId := 31
abbrev T_burinlaw5_Reading : TypeId := 32
abbrev T_func_uint8_uint8 : TypeId := 33
abbrev T_api_Whole_api_Errno : TypeId := 34
abbrev T_func_uint8_int_api_Whole_api_Errno : TypeId := 35
abbrev T_funcburinlaw5_Reading_bool : TypeId := 36
abbrev T_st_V_int64_None_bool : TypeId := 37
abbrev T_api_Whole : TypeId := 38
abbrev T_s_burinlaw5_Item : TypeId := 39
abbrev T_st_L_burinlaw5_Item : TypeId := 40
abbrev T_burinlaw5_Mixed : TypeId := 41
abbrev T_p_arith_Coder : TypeId := 42
abbrev T_arith_Coder_api_Errno : TypeId := 43
abbrev T_funcint_arith_Coder_api_Errno : TypeId := 44
abbrev T_p_burinref4_Coder : TypeId := 45
abbrev T_funcint_burinref4_Coder : TypeId := 46
abbrev T_st_ID_bool_Base_int_Width_int_N_api_Whole : TypeId := 47
abbrev T_burinlaw5_Item : TypeId := 48
abbrev T_func_arith_Coder_int_int_int_api_Errno : TypeId := 49
abbrev T_funcburinlaw5_Item_api_Errno : TypeId := 50
abbrev T_func_burinref4_Coder_int_int_int_api_Errno : TypeId := 51
abbrev T_func_arith_Coder_int_api_Whole_api_Errno : TypeId := 52
abbrev T_funcapi_Whole_bool : TypeId := 53
abbrev T_func_burinref4_Coder_int_api_Whole_api_Errno : TypeId := 54
abbrev T_func_uint8_api_Errno : TypeId := 55
abbrev T_func_uint8 : TypeId := 56
abbrev T_uint32 : TypeId := 57
abbrev T_st_q_uint32_more_uint8_less_uint8_change_uint8 : TypeId := 58
abbrev T_arith_row : TypeId := 59
abbrev T_47_arith_row : TypeId := 60
abbrev T_st_rows_47_arith_row_states_uint8_count_int : TypeId := 61
abbrev T_arith_table : TypeId := 62
abbrev T_st_arith_table_a_uint32_c_uint32_t_int_b_uint8_done_bool : TypeId := 63
abbrev T_arith_Coder : TypeId := 64
abbrev T_s_burinref4_Row : TypeId := 65
abbrev T_s_int : TypeId := 66
abbrev T_st_T_burinref4_Row_State_int_Bit_int_N_int : TypeId := 67
abbrev T_burinref4_side : TypeId := 68
abbrev T_st_burinref4_side_A_int_C_int_CT_int_B_uint8_Done_bool : TypeId := 69
abbrev T_burinref4_Coder : TypeId := 70
abbrev T_funcburinlaw5_Mixed_bool : TypeId := 71
abbrev T_p_arith_Decoder : TypeId := 72
abbrev T_arith_Decoder_api_Errno : TypeId := 73
abbrev T_func_uint8_int_arith_Decoder_api_Errno : TypeId := 74
abbrev T_api_Whole_api_Errno' : TypeId := 75
abbrev T_func_arith_Decoder_int_api_Whole_api_Errno : TypeId := 76
abbrev T_int_api_Errno : TypeId := 77
abbrev T_func_arith_Decoder_int_int_int_api_Errno : TypeId := 78
abbrev T_st_arith_table_a_uint32_c_uint32_t_int_b_uint8_i_int : TypeId := 79
abbrev T_arith_Decoder : TypeId := 80
abbrev T_s_burinlaw7_Ask : TypeId := 81
abbrev T_funcapi_Bitmap_bool : TypeId := 82
abbrev T_s_uint64 : TypeId := 83
abbrev T_st_W_int_H_int_Bits_uint64 : TypeId := 84
abbrev T_api_Bitmap : TypeId := 85
abbrev T_st_B_api_Bitmap_Template_int_Skip_bool : TypeId := 86
abbrev T_burinlaw7_Ask : TypeId := 87
abbrev T_funcapi_Bitmap_api_Bitmap : TypeId := 88
abbrev T_func_api_Bitmap_int_bool_uint8_api_Errno : TypeId := 89
abbrev T_func_api_Bitmap_api_Bitmap_bool : TypeId := 90
abbrev T_func_burinlaw7_Ask_bool : TypeId := 91
abbrev T_s_burinlaw7_Reading : TypeId := 92
abbrev T_st_F_uint8_W_int_H_int_Template_int_Skip_bool : TypeId := 93
abbrev T_burinlaw7_Reading : TypeId := 94
abbrev T_func_int_int_bool : TypeId := 95
abbrev T_api_Bitmap_api_Errno : TypeId := 96
abbrev T_func_uint8_int_int_int_bool_api_Bitmap_api_Errno : TypeId := 97
abbrev T_func_burinlaw7_Reading_bool : TypeId := 98
abbrev T_func_int_int_api_Bitmap : TypeId := 99
abbrev T_func_api_Bitmap_int_int_int_api_Bitmap : TypeId := 100
abbrev T_funcburinlaw7_Ask_bool : TypeId := 101
abbrev T_func_api_Bitmap_int_bool : TypeId := 102
abbrev T_s_api_Bitmap : TypeId := 103
abbrev T_func_arith_Coder_int_api_Bitmap_int_bool_api_Errno : TypeId := 104
abbrev T_func_arith_Decoder_int_int_int_int_bool_api_Bitmap_api_Err : TypeId := 105
abbrev T_st_W_int_H_int_Bit_int : TypeId := 106
abbrev T_burinlaw7_Plain : TypeId := 107
abbrev T_func_int_int_int : TypeId := 108
abbrev T_func_api_Bitmap_int_int_int : TypeId := 109
abbrev T_funcburinlaw7_Plain_bool : TypeId := 110
abbrev T_st_L_burinlaw7_Ask_Base_int : TypeId := 111
abbrev T_burinlaw7_Row : TypeId := 112
abbrev T_funcint_bool : TypeId := 113
abbrev T_func_burinref4_Coder_int_api_Bitmap_int_bool_api_Errno : TypeId := 114
abbrev T_funcburinlaw7_Row_bool : TypeId := 115
abbrev T_p_burinref4_Decoder : TypeId := 116
abbrev T_func_uint8_int_burinref4_Decoder : TypeId := 117
abbrev T_func_burinref4_Decoder_int_api_Whole_api_Errno : TypeId := 118
abbrev T_arith_table_bool : TypeId := 119
abbrev T_funcint_arith_table_bool : TypeId := 120
abbrev T_funcint_burinref4_side : TypeId := 121
abbrev T_func_int_int_int_api_Errno : TypeId := 122
abbrev T_func_int : TypeId := 123
abbrev T_func_int_int_api_Errno : TypeId := 124
abbrev T_uint : TypeId := 125
abbrev T_func_int_int_int_bool : TypeId := 126
abbrev T_func_funcint_bool : TypeId := 127
abbrev T_iter_Seq_int : TypeId := 128
abbrev T_funcapi_Whole_iter_Seq_int : TypeId := 129
abbrev T_funcapi_Whole_int : TypeId := 130
abbrev T_p_arith_table : TypeId := 131
abbrev T_p_burinref4_side : TypeId := 132
abbrev T_funcint_uint32 : TypeId := 133
abbrev T_p_whole_getter : TypeId := 134
abbrev T_st_d_arith_Decoder_base_int_v_int_err_api_Errno : TypeId := 135
abbrev T_whole_getter : TypeId := 136
abbrev T_s_whole_size : TypeId := 137
abbrev T_func_whole_size : TypeId := 138
abbrev T_uint64 : TypeId := 139
abbrev T_st_least_uint64_width_int : TypeId := 140
abbrev T_whole_size : TypeId := 141
abbrev T_funcint_int_api_Errno : TypeId := 142
abbrev T_funcint_int : TypeId := 143
abbrev T_func_burinref4_Decoder_int_int_int_int_bool_api_Bitmap_api : TypeId := 144
abbrev T_func_uint64_uint64_bool : TypeId := 145
abbrev T_func_int_int_int_int : TypeId := 146
abbrev T_func_api_Bitmap_int_int_int' : TypeId := 147
abbrev T_p_bitmap_Map : TypeId := 148
abbrev T_bitmap_Map_api_Errno : TypeId := 149
abbrev T_funcapi_Bitmap_bitmap_Map_api_Errno : TypeId := 150
abbrev T_p_generic_procedure : TypeId := 151
abbrev T_st_c_arith_Coder : TypeId := 152
abbrev T_generic_coding : TypeId := 153
abbrev T_interface_generic_decide_int_int_int : TypeId := 154
abbrev T_generic_decider : TypeId := 155
abbrev T_st_by_generic_decider_m_bitmap_Map_base_int_template_int_s : TypeId := 156
abbrev T_generic_procedure : TypeId := 157
abbrev T_func_func_api_Errno : TypeId := 158
abbrev T_funcint : TypeId := 159
abbrev T_func_int_int_bitmap_Map_api_Errno : TypeId := 160
abbrev T_st_d_arith_Decoder : TypeId := 161
abbrev T_generic_decoding : TypeId := 162
abbrev T_func_api_Bitmap : TypeId := 163
abbrev T_funcint_int' : TypeId := 164
abbrev T_func_api_Bitmap_int_int : TypeId := 165
abbrev T_func_api_Bitmap_int_int_int_int : TypeId := 166
abbrev T_st_burinref4_side_A_int_C_int_CT_int_B_uint8_At_int : TypeId := 167
abbrev T_burinref4_Decoder : TypeId := 168
abbrev T_p_burinref5_taker : TypeId := 169
abbrev T_st_d_burinref4_Decoder_base_int_v_int_e_api_Errno : TypeId := 170
abbrev T_burinref5_taker : TypeId := 171
abbrev T_func_47_arith_row : TypeId := 172
abbrev T_func_burinref4_Row : TypeId := 173
abbrev T_p_uint8 : TypeId := 174
abbrev T_uint8_arith_row : TypeId := 175
abbrev T_funcint_uint8_arith_row : TypeId := 176
abbrev T_func_uint8_arith_row : TypeId := 177
abbrev T_st_Q_int_M_int_L_int_S_bool : TypeId := 178
abbrev T_burinref4_Row : TypeId := 179
abbrev T_s_context_span : TypeId := 180
abbrev T_funcint_context_span : TypeId := 181
abbrev T_st_down_int_from_int_to_int : TypeId := 182
abbrev T_context_span : TypeId := 183
abbrev T_func_uint64_uint64 : TypeId := 184
abbrev T_st_w_int_h_int_words_int_b_uint64 : TypeId := 185
abbrev T_bitmap_Map : TypeId := 186
abbrev T_st_err_api_Errno : TypeId := 187
abbrev T_generic_fault : TypeId := 188
abbrev T_generic_fault_bool : TypeId := 189
abbrev T_int_int : TypeId := 190
abbrev T_func_int_int : TypeId := 191
abbrev T_func_bitmap_Map_int_int_int_int_int_int_int_api_Errno : TypeId := 192
abbrev T_func_int_int' : TypeId := 193
abbrev T_funcint_burinref4_Row : TypeId := 194
abbrev T_funcint_uint64 : TypeId := 195
abbrev T_int_int_int : TypeId := 196
abbrev T_func_int_int_int_int_int_int_int_int : TypeId := 197
abbrev T_func_uint64_uint64_uint64 : TypeId := 198
abbrev T_s_func_uint64_uint64_uint64 : TypeId := 199
abbrev T_func_func_uint64_uint64_uint64 : TypeId := 200
abbrev T_p_uint64 : TypeId := 201
abbrev T_func_int_int_int_uint64 : TypeId := 202
abbrev T_func_uint64_int_uint64 : TypeId := 203
abbrev T_s_generic_window : TypeId := 204
abbrev T_s_generic_span : TypeId := 205
abbrev T_funcint_generic_span : TypeId := 206
abbrev T_st_down_int_from_int_to_int' : TypeId := 207
abbrev T_generic_span : TypeId := 208
abbrev T_st_generic_span_bits_int_mask_int : TypeId := 209
abbrev T_generic_window : TypeId := 210
abbrev T_p_generic_window : TypeId := 211
abbrev T_func_int_int_int_int_int : TypeId := 212
abbrev T_func_int_int_int' : TypeId := 213
abbrev T_func_string : TypeId := 214
abbrev T_st_interface_abi_Type_concrete_abi_Type_asserted_abi_Type_ : TypeId := 215
abbrev T_runtime_TypeAssertionError : TypeId := 216
abbrev T_0_runtime_PanicNilError : TypeId := 217
abbrev T_st_0_runtime_PanicNilError : TypeId := 218
abbrev T_runtime_PanicNilError : TypeId := 219
abbrev T_abi_TFlag : TypeId := 220
abbrev T_abi_Kind : TypeId := 221
abbrev T_func_unsafe_Pointer_unsafe_Pointer_bool : TypeId := 222
abbrev T_abi_NameOff : TypeId := 223
abbrev T_abi_TypeOff : TypeId := 224
abbrev T_st_Size_uintptr_PtrBytes_uintptr_Hash_uint32_TFlag_abi_TFl : TypeId := 225
abbrev T_abi_Type : TypeId := 226
abbrev T_unsafe_Pointer : TypeId := 227
abbrev F_main_main : FuncId := 0
abbrev F_gosem_cut : FuncId := 1
abbrev F_gosem_cut_init : FuncId := 2
abbrev F_burinlaw5_WholeEncodes : FuncId := 3
abbrev F_burinlaw5_WholeReads : FuncId := 4
abbrev F_burinlaw5_WholeRows : FuncId := 5
abbrev F_burinlaw5_WholeMixed : FuncId := 6
abbrev F_burinlaw5_WholeNone : FuncId := 7
abbrev F_burinlaw5_WholeBack : FuncId := 8
abbrev F_burinlaw7_GenericEncodes : FuncId := 9
abbrev F_burinlaw7_GenericReads : FuncId := 10
abbrev F_burinlaw7_GenericBack : FuncId := 11
abbrev F_burinlaw7_GenericTop : FuncId := 12
abbrev F_burinlaw7_GenericRepeats : FuncId := 13
abbrev F_burinlaw7_GenericRefuses : FuncId := 14
abbrev F_burinlaw7_GenericSmall : FuncId := 15
abbrev F_burinlaw7_GenericRow : FuncId := 16
abbrev F_burinlaw5_wakes : FuncId := 17
abbrev F_whole_Encode : FuncId := 18
abbrev F_burinref5_Encode : FuncId := 19
abbrev F_burinref0_Eq : FuncId := 20
abbrev F_burinref0_EqWholes : FuncId := 21
abbrev F_burinkit_Lend : FuncId := 22
abbrev F_whole_Decode : FuncId := 23
abbrev F_burinref5_Decode : FuncId := 24
abbrev F_burinkit_Back : FuncId := 25
abbrev F_arith_New : FuncId := 26
abbrev F_burinref4_New : FuncId := 27
abbrev F_whole_PutID : FuncId := 28
abbrev F_burinlaw5_badID : FuncId := 29
abbrev F_burinref5_PutID : FuncId := 30
abbrev F_whole_Put : FuncId := 31
abbrev F_burinlaw5_badBase : FuncId := 32
abbrev F_burinref5_May : FuncId := 33
abbrev F_burinref5_Put : FuncId := 34
abbrev F_arith_Coder_Flush : FuncId := 35
abbrev F_burinref4_Coder_Flush : FuncId := 36
abbrev F_arith_table_States : FuncId := 37
abbrev F_burinref4_side_States : FuncId := 38
abbrev F_arith_NewDecoder : FuncId := 39
abbrev F_whole_Get : FuncId := 40
abbrev F_whole_GetID : FuncId := 41
abbrev F_burinlaw7_light : FuncId := 42
abbrev F_burinkit_LendBitmap : FuncId := 43
abbrev F_generic_Encode : FuncId := 44
abbrev F_burinref7_Encode : FuncId := 45
abbrev F_burinkit_BackBitmap : FuncId := 46
abbrev F_burinlaw7_wakes : FuncId := 47
abbrev F_burinref0_Size : FuncId := 48
abbrev F_generic_Decode : FuncId := 49
abbrev F_burinref7_Decode : FuncId := 50
abbrev F_burinref0_EqBitmap : FuncId := 51
abbrev F_burinref0_May : FuncId := 52
abbrev F_burinref0_White : FuncId := 53
abbrev F_burinref0_Lay : FuncId := 54
abbrev F_burinkit_Small : FuncId := 55
abbrev F_generic_Put : FuncId := 56
abbrev F_generic_Get : FuncId := 57
abbrev F_burinkit_Within : FuncId := 58
abbrev F_burinref0_Put : FuncId := 59
abbrev F_burinref6_May : FuncId := 60
abbrev F_burinref7_Put : FuncId := 61
abbrev F_whole_right : FuncId := 62
abbrev F_burinref4_NewDecoder : FuncId := 63
abbrev F_burinref5_Get : FuncId := 64
abbrev F_arith_made : FuncId := 65
abbrev F_burinref4_begun : FuncId := 66
abbrev F_whole_ids : FuncId := 67
abbrev F_arith_table_Contexts : FuncId := 68
abbrev F_arith_Coder_Put : FuncId := 69
abbrev F_burinref4_Coder_Put : FuncId := 70
abbrev F_whole_fits : FuncId := 71
abbrev F_whole_bits : FuncId := 72
abbrev F_whole_next : FuncId := 73
abbrev F_burinref5_Bits : FuncId := 74
abbrev F_burinref5_next : FuncId := 75
abbrev F_arith_Coder_out : FuncId := 76
abbrev F_burinref4_Coder_out : FuncId := 77
abbrev F_arith_Decoder_byte : FuncId := 78
abbrev F_arith_Decoder_in : FuncId := 79
abbrev F_whole_getter_bit : FuncId := 80
abbrev F_whole_sizes : FuncId := 81
abbrev F_arith_Decoder_Get : FuncId := 82
abbrev F_context_Size : FuncId := 83
abbrev F_burinref7_Need : FuncId := 84
abbrev F_burinref7_Get : FuncId := 85
abbrev F_burinref0_EqWords : FuncId := 86
abbrev F_burinref0_words : FuncId := 87
abbrev F_burinref0_Do : FuncId := 88
abbrev F_burinref0_Get : FuncId := 89
abbrev F_bitmap_From : FuncId := 90
abbrev F_generic_fits : FuncId := 91
abbrev F_generic_caught : FuncId := 92
abbrev F_generic_Put_c1 : FuncId := 93
abbrev F_generic_procedure_run : FuncId := 94
abbrev F_bitmap_New : FuncId := 95
abbrev F_generic_Get_c1 : FuncId := 96
abbrev F_bitmap_Map_Plain : FuncId := 97
abbrev F_burinref6_Places : FuncId := 98
abbrev F_burinref7_same : FuncId := 99
abbrev F_burinref6_At : FuncId := 100
abbrev F_burinref4_Decoder_byte : FuncId := 101
abbrev F_burinref4_Decoder_in : FuncId := 102
abbrev F_burinref5_taker_bit : FuncId := 103
abbrev F_arith_rows : FuncId := 104
abbrev F_burinref4_table : FuncId := 105
abbrev F_arith_table_at : FuncId := 106
abbrev F_arith_likely : FuncId := 107
abbrev F_arith_unlikely : FuncId := 108
abbrev F_arith_Coder_renew : FuncId := 109
abbrev F_burinref4_side_Index : FuncId := 110
abbrev F_burinref4_side_likely : FuncId := 111
abbrev F_burinref4_side_other : FuncId := 112
abbrev F_burinref4_Coder_renew : FuncId := 113
abbrev F_whole_bits_c1 : FuncId := 114
abbrev F_arith_Decoder_renew : FuncId := 115
abbrev F_context_spans : FuncId := 116
abbrev F_burinref6_Size : FuncId := 117
abbrev F_burinref4_Decoder_Get : FuncId := 118
abbrev F_bitmap_Check : FuncId := 119
abbrev F_slices_Clone_uint64_uint64 : FuncId := 120
abbrev F_generic_caught_c1 : FuncId := 121
abbrev F_bitmap_Map_Size : FuncId := 122
abbrev F_generic_procedure_same : FuncId := 123
abbrev F_bitmap_Map_Blit : FuncId := 124
abbrev F_generic_procedure_row : FuncId := 125
abbrev F_bitmap_sized : FuncId := 126
abbrev F_burinref4_row : FuncId := 127
abbrev F_burinref4_Decoder_renew : FuncId := 128
abbrev F_bitmap_last : FuncId := 129
abbrev F_bitmap_Map_Get : FuncId := 130
abbrev F_bitmap_both : FuncId := 131
abbrev F_bitmap_operations : FuncId := 132
abbrev F_bitmap_mask : FuncId := 133
abbrev F_bitmap_word : FuncId := 134
abbrev F_generic_spans : FuncId := 135
abbrev F_bitmap_Map_Set : FuncId := 136
abbrev F_bitmap_Map_inside : FuncId := 137
abbrev F_bitmap_cut : FuncId := 138
abbrev F_bitmap_operations_c1 : FuncId := 139
abbrev F_bitmap_operations_c2 : FuncId := 140
abbrev F_bitmap_operations_c3 : FuncId := 141
abbrev F_bitmap_operations_c4 : FuncId := 142
abbrev F_bitmap_operations_c5 : FuncId := 143
abbrev F_bitmap_Map_put : FuncId := 144
abbrev F_runtime_boundsError_Error : FuncId := 145
abbrev F_runtime_boundsError_RuntimeError : FuncId := 146
abbrev F_runtime_errorString_Error : FuncId := 147
abbrev F_runtime_errorString_RuntimeError : FuncId := 148
abbrev F_runtime_plainError_Error : FuncId := 149
abbrev F_runtime_plainError_RuntimeError : FuncId := 150
abbrev F_runtime_errorAddressString_Error : FuncId := 151
abbrev F_runtime_errorAddressString_RuntimeError : FuncId := 152
abbrev F_runtime_TypeAssertionError_Error : FuncId := 153
abbrev F_runtime_TypeAssertionError_RuntimeError : FuncId := 154
abbrev F_runtime_PanicNilError_Error : FuncId := 155
abbrev F_runtime_PanicNilError_RuntimeError : FuncId := 156
abbrev F_internal_abi_Type_Align : FuncId := 157
abbrev F_internal_runtime_maps_unhashableTypeError_Error : FuncId := 158
abbrev F_internal_runtime_maps_unhashableTypeError_RuntimeError : FuncId := 159
abbrev F_bitmap_Map_Invert : FuncId := 160
abbrev F_generic_coding_decide : FuncId := 161
abbrev F_generic_decoding_decide : FuncId := 162
abbrev F_internal_abi_Kind_String : FuncId := 163
def Z_47_arith_row : List Value := [.int .u32 0, .int .u8 0, .int .u8 0, .int .u8 0, .int .u32 0, .int .u8 0, .int .u8 0, .int .u8 0, .int .u32 0, .int .u8 0, .int .u8 0, .int .u8 0, .int .u32 0, .int .u8 0, .int .u8 0, .int .u8 0, .int .u32 0, .int .u8 0, .int .u8 0, .int .u8 0, .int .u32 0, .int .u8 0, .int .u8 0, .int .u8 0, .int .u32 0, .int .u8 0, .int .u8 0, .int .u8 0, .int .u32 0, .int .u8 0, .int .u8 0, .int .u8 0, .int .u32 0, .int .u8 0, .int .u8 0, .int .u8 0, .int .u32 0, .int .u8 0, .int .u8 0, .int .u8 0, .int .u32 0, .int .u8 0, .int .u8 0, .int .u8 0, .int .u32 0, .int .u8 0, .int .u8 0, .int .u8 0, .int .u32 0, .int .u8 0, .int .u8 0, .int .u8 0, .int .u32 0, .int .u8 0, .int .u8 0, .int .u8 0, .int .u32 0, .int .u8 0, .int .u8 0, .int .u8 0, .int .u32 0, .int .u8 0, .int .u8 0, .int .u8 0, .int .u32 0, .int .u8 0, .int .u8 0, .int .u8 0, .int .u32 0, .int .u8 0, .int .u8 0, .int .u8 0, .int .u32 0, .int .u8 0, .int .u8 0, .int .u8 0, .int .u32 0, .int .u8 0, .int .u8 0, .int .u8 0, .int .u32 0, .int .u8 0, .int .u8 0, .int .u8 0, .int .u32 0, .int .u8 0, .int .u8 0, .int .u8 0, .int .u32 0, .int .u8 0, .int .u8 0, .int .u8 0, .int .u32 0, .int .u8 0, .int .u8 0, .int .u8 0, .int .u32 0, .int .u8 0, .int .u8 0, .int .u8 0, .int .u32 0, .int .u8 0, .int .u8 0, .int .u8 0, .int .u32 0, .int .u8 0, .int .u8 0, .int .u8 0, .int .u32 0, .int .u8 0, .int .u8 0, .int .u8 0, .int .u32 0, .int .u8 0, .int .u8 0, .int .u8 0, .int .u32 0, .int .u8 0, .int .u8 0, .int .u8 0, .int .u32 0, .int .u8 0, .int .u8 0, .int .u8 0, .int .u32 0, .int .u8 0, .int .u8 0, .int .u8 0, .int .u32 0, .int .u8 0, .int .u8 0, .int .u8 0, .int .u32 0, .int .u8 0, .int .u8 0, .int .u8 0, .int .u32 0, .int .u8 0, .int .u8 0, .int .u8 0, .int .u32 0, .int .u8 0, .int .u8 0, .int .u8 0, .int .u32 0, .int .u8 0, .int .u8 0, .int .u8 0, .int .u32 0, .int .u8 0, .int .u8 0, .int .u8 0, .int .u32 0, .int .u8 0, .int .u8 0, .int .u8 0, .int .u32 0, .int .u8 0, .int .u8 0, .int .u8 0, .int .u32 0, .int .u8 0, .int .u8 0, .int .u8 0, .int .u32 0, .int .u8 0, .int .u8 0, .int .u8 0, .int .u32 0, .int .u8 0, .int .u8 0, .int .u8 0, .int .u32 0, .int .u8 0, .int .u8 0, .int .u8 0, .int .u32 0, .int .u8 0, .int .u8 0, .int .u8 0, .int .u32 0, .int .u8 0, .int .u8 0, .int .u8 0, .int .u32 0, .int .u8 0, .int .u8 0, .int .u8 0]
def Z_arith_table : List Value := [.int .u32 0, .int .u8 0, .int .u8 0, .int .u8 0, .int .u32 0, .int .u8 0, .int .u8 0, .int .u8 0, .int .u32 0, .int .u8 0, .int .u8 0, .int .u8 0, .int .u32 0, .int .u8 0, .int .u8 0, .int .u8 0, .int .u32 0, .int .u8 0, .int .u8 0, .int .u8 0, .int .u32 0, .int .u8 0, .int .u8 0, .int .u8 0, .int .u32 0, .int .u8 0, .int .u8 0, .int .u8 0, .int .u32 0, .int .u8 0, .int .u8 0, .int .u8 0, .int .u32 0, .int .u8 0, .int .u8 0, .int .u8 0, .int .u32 0, .int .u8 0, .int .u8 0, .int .u8 0, .int .u32 0, .int .u8 0, .int .u8 0, .int .u8 0, .int .u32 0, .int .u8 0, .int .u8 0, .int .u8 0, .int .u32 0, .int .u8 0, .int .u8 0, .int .u8 0, .int .u32 0, .int .u8 0, .int .u8 0, .int .u8 0, .int .u32 0, .int .u8 0, .int .u8 0, .int .u8 0, .int .u32 0, .int .u8 0, .int .u8 0, .int .u8 0, .int .u32 0, .int .u8 0, .int .u8 0, .int .u8 0, .int .u32 0, .int .u8 0, .int .u8 0, .int .u8 0, .int .u32 0, .int .u8 0, .int .u8 0, .int .u8 0, .int .u32 0, .int .u8 0, .int .u8 0, .int .u8 0, .int .u32 0, .int .u8 0, .int .u8 0, .int .u8 0, .int .u32 0, .int .u8 0, .int .u8 0, .int .u8 0, .int .u32 0, .int .u8 0, .int .u8 0, .int .u8 0, .int .u32 0, .int .u8 0, .int .u8 0, .int .u8 0, .int .u32 0, .int .u8 0, .int .u8 0, .int .u8 0, .int .u32 0, .int .u8 0, .int .u8 0, .int .u8 0, .int .u32 0, .int .u8 0, .int .u8 0, .int .u8 0, .int .u32 0, .int .u8 0, .int .u8 0, .int .u8 0, .int .u32 0, .int .u8 0, .int .u8 0, .int .u8 0, .int .u32 0, .int .u8 0, .int .u8 0, .int .u8 0, .int .u32 0, .int .u8 0, .int .u8 0, .int .u8 0, .int .u32 0, .int .u8 0, .int .u8 0, .int .u8 0, .int .u32 0, .int .u8 0, .int .u8 0, .int .u8 0, .int .u32 0, .int .u8 0, .int .u8 0, .int .u8 0, .int .u32 0, .int .u8 0, .int .u8 0, .int .u8 0, .int .u32 0, .int .u8 0, .int .u8 0, .int .u8 0, .int .u32 0, .int .u8 0, .int .u8 0, .int .u8 0, .int .u32 0, .int .u8 0, .int .u8 0, .int .u8 0, .int .u32 0, .int .u8 0, .int .u8 0, .int .u8 0, .int .u32 0, .int .u8 0, .int .u8 0, .int .u8 0, .int .u32 0, .int .u8 0, .int .u8 0, .int .u8 0, .int .u32 0, .int .u8 0, .int .u8 0, .int .u8 0, .int .u32 0, .int .u8 0, .int .u8 0, .int .u8 0, .int .u32 0, .int .u8 0, .int .u8 0, .int .u8 0, .int .u32 0, .int .u8 0, .int .u8 0, .int .u8 0, .int .u32 0, .int .u8 0, .int .u8 0, .int .u8 0, .int .u32 0, .int .u8 0, .int .u8 0, .int .u8 0, .slice none 0 0, .int .i64 0]
def Z_arith_Coder : List Value := [.int .u32 0, .int .u8 0, .int .u8 0, .int .u8 0, .int .u32 0, .int .u8 0, .int .u8 0, .int .u8 0, .int .u32 0, .int .u8 0, .int .u8 0, .int .u8 0, .int .u32 0, .int .u8 0, .int .u8 0, .int .u8 0, .int .u32 0, .int .u8 0, .int .u8 0, .int .u8 0, .int .u32 0, .int .u8 0, .int .u8 0, .int .u8 0, .int .u32 0, .int .u8 0, .int .u8 0, .int .u8 0, .int .u32 0, .int .u8 0, .int .u8 0, .int .u8 0, .int .u32 0, .int .u8 0, .int .u8 0, .int .u8 0, .int .u32 0, .int .u8 0, .int .u8 0, .int .u8 0, .int .u32 0, .int .u8 0, .int .u8 0, .int .u8 0, .int .u32 0, .int .u8 0, .int .u8 0, .int .u8 0, .int .u32 0, .int .u8 0, .int .u8 0, .int .u8 0, .int .u32 0, .int .u8 0, .int .u8 0, .int .u8 0, .int .u32 0, .int .u8 0, .int .u8 0, .int .u8 0, .int .u32 0, .int .u8 0, .int .u8 0, .int .u8 0, .int .u32 0, .int .u8 0, .int .u8 0, .int .u8 0, .int .u32 0, .int .u8 0, .int .u8 0, .int .u8 0, .int .u32 0, .int .u8 0, .int .u8 0, .int .u8 0, .int .u32 0, .int .u8 0, .int .u8 0, .int .u8 0, .int .u32 0, .int .u8 0, .int .u8 0, .int .u8 0, .int .u32 0, .int .u8 0, .int .u8 0, .int .u8 0, .int .u32 0, .int .u8 0, .int .u8 0, .int .u8 0, .int .u32 0, .int .u8 0, .int .u8 0, .int .u8 0, .int .u32 0, .int .u8 0, .int .u8 0, .int .u8 0, .int .u32 0, .int .u8 0, .int .u8 0, .int .u8 0, .int .u32 0, .int .u8 0, .int .u8 0, .int .u8 0, .int .u32 0, .int .u8 0, .int .u8 0, .int .u8 0, .int .u32 0, .int .u8 0, .int .u8 0, .int .u8 0, .int .u32 0, .int .u8 0, .int .u8 0, .int .u8 0, .int .u32 0, .int .u8 0, .int .u8 0, .int .u8 0, .int .u32 0, .int .u8 0, .int .u8 0, .int .u8 0, .int .u32 0, .int .u8 0, .int .u8 0, .int .u8 0, .int .u32 0, .int .u8 0, .int .u8 0, .int .u8 0, .int .u32 0, .int .u8 0, .int .u8 0, .int .u8 0, .int .u32 0, .int .u8 0, .int .u8 0, .int .u8 0, .int .u32 0, .int .u8 0, .int .u8 0, .int .u8 0, .int .u32 0, .int .u8 0, .int .u8 0, .int .u8 0, .int .u32 0, .int .u8 0, .int .u8 0, .int .u8 0, .int .u32 0, .int .u8 0, .int .u8 0, .int .u8 0, .int .u32 0, .int .u8 0, .int .u8 0, .int .u8 0, .int .u32 0, .int .u8 0, .int .u8 0, .int .u8 0, .int .u32 0, .int .u8 0, .int .u8 0, .int .u8 0, .int .u32 0, .int .u8 0, .int .u8 0, .int .u8 0, .int .u32 0, .int .u8 0, .int .u8 0, .int .u8 0, .int .u32 0, .int .u8 0, .int .u8 0, .int .u8 0, .int .u32 0, .int .u8 0, .int .u8 0, .int .u8 0, .slice none 0 0, .int .i64 0, .int .u32 0, .int .u32 0, .int .i64 0, .slice none 0 0, .bool false]
def Z_arith_Decoder : List Value := [.int .u32 0, .int .u8 0, .int .u8 0, .int .u8 0, .int .u32 0, .int .u8 0, .int .u8 0, .int .u8 0, .int .u32 0, .int .u8 0, .int .u8 0, .int .u8 0, .int .u32 0, .int .u8 0, .int .u8 0, .int .u8 0, .int .u32 0, .int .u8 0, .int .u8 0, .int .u8 0, .int .u32 0, .int .u8 0, .int .u8 0, .int .u8 0, .int .u32 0, .int .u8 0, .int .u8 0, .int .u8 0, .int .u32 0, .int .u8 0, .int .u8 0, .int .u8 0, .int .u32 0, .int .u8 0, .int .u8 0, .int .u8 0, .int .u32 0, .int .u8 0, .int .u8 0, .int .u8 0, .int .u32 0, .int .u8 0, .int .u8 0, .int .u8 0, .int .u32 0, .int .u8 0, .int .u8 0, .int .u8 0, .int .u32 0, .int .u8 0, .int .u8 0, .int .u8 0, .int .u32 0, .int .u8 0, .int .u8 0, .int .u8 0, .int .u32 0, .int .u8 0, .int .u8 0, .int .u8 0, .int .u32 0, .int .u8 0, .int .u8 0, .int .u8 0, .int .u32 0, .int .u8 0, .int .u8 0, .int .u8 0, .int .u32 0, .int .u8 0, .int .u8 0, .int .u8 0, .int .u32 0, .int .u8 0, .int .u8 0, .int .u8 0, .int .u32 0, .int .u8 0, .int .u8 0, .int .u8 0, .int .u32 0, .int .u8 0, .int .u8 0, .int .u8 0, .int .u32 0, .int .u8 0, .int .u8 0, .int .u8 0, .int .u32 0, .int .u8 0, .int .u8 0, .int .u8 0, .int .u32 0, .int .u8 0, .int .u8 0, .int .u8 0, .int .u32 0, .int .u8 0, .int .u8 0, .int .u8 0, .int .u32 0, .int .u8 0, .int .u8 0, .int .u8 0, .int .u32 0, .int .u8 0, .int .u8 0, .int .u8 0, .int .u32 0, .int .u8 0, .int .u8 0, .int .u8 0, .int .u32 0, .int .u8 0, .int .u8 0, .int .u8 0, .int .u32 0, .int .u8 0, .int .u8 0, .int .u8 0, .int .u32 0, .int .u8 0, .int .u8 0, .int .u8 0, .int .u32 0, .int .u8 0, .int .u8 0, .int .u8 0, .int .u32 0, .int .u8 0, .int .u8 0, .int .u8 0, .int .u32 0, .int .u8 0, .int .u8 0, .int .u8 0, .int .u32 0, .int .u8 0, .int .u8 0, .int .u8 0, .int .u32 0, .int .u8 0, .int .u8 0, .int .u8 0, .int .u32 0, .int .u8 0, .int .u8 0, .int .u8 0, .int .u32 0, .int .u8 0, .int .u8 0, .int .u8 0, .int .u32 0, .int .u8 0, .int .u8 0, .int .u8 0, .int .u32 0, .int .u8 0, .int .u8 0, .int .u8 0, .int .u32 0, .int .u8 0, .int .u8 0, .int .u8 0, .int .u32 0, .int .u8 0, .int .u8 0, .int .u8 0, .int .u32 0, .int .u8 0, .int .u8 0, .int .u8 0, .int .u32 0, .int .u8 0, .int .u8 0, .int .u8 0, .int .u32 0, .int .u8 0, .int .u8 0, .int .u8 0, .int .u32 0, .int .u8 0, .int .u8 0, .int .u8 0, .int .u32 0, .int .u8 0, .int .u8 0, .int .u8 0, .slice none 0 0, .int .i64 0, .int .u32 0, .int .u32 0, .int .i64 0, .slice none 0 0, .int .i64 0]

end Go.Den.Yteakipgcanafoaa

/- Written by gen.py: the conditions of the functions of arith. -/
set_option linter.unusedVariables false
set_option linter.unusedSimpArgs false
namespace Go.Den.Yteakipgcanafoaa
open Go Go.Den

/- burin/arith.New -/
set_option maxRecDepth 100000 in
def arith_New (C : CallP) (contexts : Int) (h : Heap) (K : Value → Heap → Prop) (Kp : List PanicEntry → Heap → Prop) : Prop :=
C F_arith_made #[.int .i64 contexts] h (fun v_1 h_2 =>
∃ (cs_3 : List Value), cs_3.length = 190 ∧ ∃ (r_4 : Bool), v_1 = .tuple #[.agg (cs_3).toArray, .bool r_4] ∧ (
newC h_2 Z_arith_table T_arith_table fun r_5 h_6 =>
needs ((cs_3).length = 190) <| stVs h_6 (⟨r_5, 0, none⟩ : Addr) 0 (cs_3) fun h_7 =>
bcase (!r_4) (
K (.tuple #[.pointer none, .int .i64 40]) h_7) <|
ldAll h_7 (⟨r_5, 0, none⟩ : Addr) 190 fun cs_8 =>
newC h_7 [.int .u8 0] T_uint8 fun r_9 h_10 =>
needs ((cs_8).length = 190 ∧ 0 + 190 ≤ (Z_arith_Coder).length) <|
needs ((([.int .u32 32768] : List Value)).length = 1 ∧ 190 + 1 ≤ ((putL Z_arith_Coder 0 cs_8)).length) <|
needs ((([.int .i64 12] : List Value)).length = 1 ∧ 192 + 1 ≤ ((putL (putL Z_arith_Coder 0 cs_8) 190 ([.int .u32 32768] : List Value))).length) <|
needs ((([.slice (some ⟨r_9, 0, none⟩) 1 1] : List Value)).length = 1 ∧ 193 + 1 ≤ ((putL (putL (putL Z_arith_Coder 0 cs_8) 190 ([.int .u32 32768] : List Value)) 192 ([.int .i64 12] : List Value))).length) <|
newC h_10 ((putL (putL (putL (putL Z_arith_Coder 0 cs_8) 190 ([.int .u32 32768] : List Value)) 192 ([.int .i64 12] : List Value)) 193 ([.slice (some ⟨r_9, 0, none⟩) 1 1] : List Value))) T_arith_Coder fun r_11 h_12 =>
K (.tuple #[.pointer (some ⟨r_11, 0, none⟩), .int .i64 0]) h_12)) (Kp)

/- (*burin/arith.Coder).Flush -/
set_option maxRecDepth 100000 in
def arith_Coder_Flush (C : CallP) (a0 : Option Addr) (h : Heap) (K : Value → Heap → Prop) (Kp : List PanicEntry → Heap → Prop) : Prop :=
ptr a0 fun a_1 =>
ldB h (a_1.add 194) fun x_2 =>
bcase x_2 (
K (.tuple #[.slice none 0 0, .int .i64 43]) h) <|
ptr a0 fun a_3 =>
stV h (a_3.add 194) (.bool true) fun h_4 =>
ptr a0 fun a_5 =>
ptr a0 fun a_6 =>
ldI h_4 (a_5.add 191) .u32 fun x_7 =>
ldI h_4 (a_6.add 190) .u32 fun x_8 =>
bindI (IntKind.u32.wrap (x_7 + x_8)) fun z_9 =>
∃ K_10 : List Value → Heap → Prop, (
ptr a0 fun a_13 =>
ldI h_4 (a_13.add 191) .u32 fun x_14 =>
bindI (bitI .or .u32 x_14 (65535 : Int)) fun z_15 =>
ptr a0 fun a_16 =>
stV h_4 (a_16.add 191) (.int .u32 z_15) fun h_17 =>
ptr a0 fun a_18 =>
ldI h_17 (a_18.add 191) .u32 fun x_19 =>
bcase (decide (x_19 ≥ z_9)) (
ptr a0 fun a_20 =>
ldI h_17 (a_20.add 191) .u32 fun x_21 =>
bindI (IntKind.u32.wrap (x_21 - (32768 : Int))) fun z_22 =>
ptr a0 fun a_23 =>
stV h_17 (a_23.add 191) (.int .u32 z_22) fun h_24 =>
K_10 [] h_24) <|
K_10 [] h_17) ∧ ∀ (h_11 : Heap) (u_12 : Nat → Value) , K_10 [] h_11 → (
∃ J_25 : Nat → List Value → Heap → Prop, (∃ n_27, J_25 n_27 [.int .i64 0] h_11) ∧ ∀ (n_27 : Nat) (h_28 : Heap) (u_29 : Nat → Value) (x_30 : Int), J_25 n_27 [.int .i64 x_30] h_28 → (
bcase (decide (x_30 < (2 : Int))) (
ptr a0 fun a_31 =>
ptr a0 fun a_32 =>
ldI h_28 (a_31.add 191) .u32 fun x_33 =>
ldI h_28 (a_32.add 192) .i64 fun x_34 =>
needs (0 ≤ x_34) <|
bindI (shlI .u32 x_33 x_34) fun z_35 =>
ptr a0 fun a_36 =>
stV h_28 (a_36.add 191) (.int .u32 z_35) fun h_37 =>
C F_arith_Coder_out #[.pointer a0] h_37 (fun v_38 h_39 =>
bindI (IntKind.i64.wrap (x_30 + (1 : Int))) fun z_40 =>
∃ m_26, m_26 < n_27 ∧ J_25 m_26 [.int .i64 z_40] h_39) (Kp)) <|
ptr a0 fun a_41 =>
ldS h_28 (a_41.add 193) fun x_42 x_42n x_42c =>
needs (0 ≤ (1 : Int) ∧ (1 : Int) ≤ ((x_42n : Nat) : Int)) <|
bindI (IntKind.i64.wrap ((((x_42n - (1 : Int).toNat) : Nat) : Int) - (1 : Int))) fun z_43 =>
needs (0 ≤ z_43 ∧ z_43 < (((x_42n - (1 : Int).toNat) : Nat) : Int)) <|
ptr (subA x_42 (x_42c) ((1 : Int).toNat) 1) fun a_44 =>
ldI h_28 (a_44.add (z_43.toNat * 1)) .u8 fun x_45 =>
bcase (x_45 == (255 : Int)) (
bindI (IntKind.i64.wrap ((((x_42n - (1 : Int).toNat) : Nat) : Int) - (1 : Int))) fun z_46 =>
needs (0 ≤ z_46 ∧ z_46 ≤ (((x_42c - (1 : Int).toNat) : Nat) : Int)) <|
appC h_28 T_uint8 1 1 [.int .u8 0] none (0) (0) (subA (subA x_42 (x_42c) ((1 : Int).toNat) 1) ((x_42c - (1 : Int).toNat)) (0) 1) ((z_46.toNat - 0)) fun q_47 q_47n q_47c h_48 =>
K (.tuple #[.slice q_47 q_47n q_47c, .int .i64 0]) h_48) <|
appC h_28 T_uint8 1 1 [.int .u8 0] none (0) (0) (subA x_42 (x_42c) ((1 : Int).toNat) 1) ((x_42n - (1 : Int).toNat)) fun q_49 q_49n q_49c h_50 =>
K (.tuple #[.slice q_49 q_49n q_49c, .int .i64 0]) h_50))

/- (*burin/arith.table).States -/
set_option maxRecDepth 100000 in
def arith_table_States (C : CallP) (t : Option Addr) (h : Heap) (K : Value → Heap → Prop) (Kp : List PanicEntry → Heap → Prop) : Prop :=
ptr t fun a_1 =>
ldS h (a_1.add 188) fun x_2 x_2n x_2c =>
appC h T_uint8 1 1 [.int .u8 0] none (0) (0) x_2 (x_2n) fun q_3 q_3n q_3c h_4 =>
K (.slice q_3 q_3n q_3c) h_4

/- burin/arith.NewDecoder -/
set_option maxRecDepth 100000 in
def arith_NewDecoder (C : CallP) (b : Option Addr) (bn : Nat) (bc : Nat) (contexts : Int) (h : Heap) (K : Value → Heap → Prop) (Kp : List PanicEntry → Heap → Prop) : Prop :=
C F_arith_made #[.int .i64 contexts] h (fun v_1 h_2 =>
∃ (cs_3 : List Value), cs_3.length = 190 ∧ ∃ (r_4 : Bool), v_1 = .tuple #[.agg (cs_3).toArray, .bool r_4] ∧ (
newC h_2 Z_arith_table T_arith_table fun r_5 h_6 =>
needs ((cs_3).length = 190) <| stVs h_6 (⟨r_5, 0, none⟩ : Addr) 0 (cs_3) fun h_7 =>
bcase (!r_4) (
K (.tuple #[.pointer none, .int .i64 40]) h_7) <|
ldAll h_7 (⟨r_5, 0, none⟩ : Addr) 190 fun cs_8 =>
appC h_7 T_uint8 1 1 [.int .u8 0] none (0) (0) b (bn) fun q_9 q_9n q_9c h_10 =>
hext h_7 h_10 ∧ (
needs ((cs_8).length = 190 ∧ 0 + 190 ≤ (Z_arith_Decoder).length) <|
needs ((([.int .u32 32768] : List Value)).length = 1 ∧ 190 + 1 ≤ ((putL Z_arith_Decoder 0 cs_8)).length) <|
needs ((([.slice q_9 q_9n q_9c] : List Value)).length = 1 ∧ 193 + 1 ≤ ((putL (putL Z_arith_Decoder 0 cs_8) 190 ([.int .u32 32768] : List Value))).length) <|
newC h_10 ((putL (putL (putL Z_arith_Decoder 0 cs_8) 190 ([.int .u32 32768] : List Value)) 193 ([.slice q_9 q_9n q_9c] : List Value))) T_arith_Decoder fun r_11 h_12 =>
C F_arith_Decoder_byte #[.pointer (some ⟨r_11, 0, none⟩), .int .i64 0] h_12 (fun v_13 h_14 =>
∃ (r_15 : Int), v_13 = .int .u32 r_15 ∧ (
bindI (shlI .u32 r_15 (16 : Int)) fun z_16 =>
stV h_14 ((⟨r_11, 0, none⟩ : Addr).add 191) (.int .u32 z_16) fun h_17 =>
C F_arith_Decoder_in #[.pointer (some ⟨r_11, 0, none⟩)] h_17 (fun v_18 h_19 =>
ldI h_19 ((⟨r_11, 0, none⟩ : Addr).add 191) .u32 fun x_20 =>
bindI (shlI .u32 x_20 (7 : Int)) fun z_21 =>
stV h_19 ((⟨r_11, 0, none⟩ : Addr).add 191) (.int .u32 z_21) fun h_22 =>
ldI h_22 ((⟨r_11, 0, none⟩ : Addr).add 192) .i64 fun x_23 =>
bindI (IntKind.i64.wrap (x_23 - (7 : Int))) fun z_24 =>
stV h_22 ((⟨r_11, 0, none⟩ : Addr).add 192) (.int .i64 z_24) fun h_25 =>
K (.tuple #[.pointer (some ⟨r_11, 0, none⟩), .int .i64 0]) h_25) (Kp))) (Kp)))) (Kp)

/- burin/arith.made -/
set_option maxRecDepth 100000 in
def arith_made (C : CallP) (contexts : Int) (h : Heap) (K : Value → Heap → Prop) (Kp : List PanicEntry → Heap → Prop) : Prop :=
newC h Z_arith_table T_arith_table fun r_1 h_2 =>
bcase (decide (contexts < (1 : Int))) (
stVs h_2 (⟨r_1, 0, none⟩ : Addr) 0 [.int .u32 0, .int .u8 0, .int .u8 0, .int .u8 0, .int .u32 0, .int .u8 0, .int .u8 0, .int .u8 0, .int .u32 0, .int .u8 0, .int .u8 0, .int .u8 0, .int .u32 0, .int .u8 0, .int .u8 0, .int .u8 0, .int .u32 0, .int .u8 0, .int .u8 0, .int .u8 0, .int .u32 0, .int .u8 0, .int .u8 0, .int .u8 0, .int .u32 0, .int .u8 0, .int .u8 0, .int .u8 0, .int .u32 0, .int .u8 0, .int .u8 0, .int .u8 0, .int .u32 0, .int .u8 0, .int .u8 0, .int .u8 0, .int .u32 0, .int .u8 0, .int .u8 0, .int .u8 0, .int .u32 0, .int .u8 0, .int .u8 0, .int .u8 0, .int .u32 0, .int .u8 0, .int .u8 0, .int .u8 0, .int .u32 0, .int .u8 0, .int .u8 0, .int .u8 0, .int .u32 0, .int .u8 0, .int .u8 0, .int .u8 0, .int .u32 0, .int .u8 0, .int .u8 0, .int .u8 0, .int .u32 0, .int .u8 0, .int .u8 0, .int .u8 0, .int .u32 0, .int .u8 0, .int .u8 0, .int .u8 0, .int .u32 0, .int .u8 0, .int .u8 0, .int .u8 0, .int .u32 0, .int .u8 0, .int .u8 0, .int .u8 0, .int .u32 0, .int .u8 0, .int .u8 0, .int .u8 0, .int .u32 0, .int .u8 0, .int .u8 0, .int .u8 0, .int .u32 0, .int .u8 0, .int .u8 0, .int .u8 0, .int .u32 0, .int .u8 0, .int .u8 0, .int .u8 0, .int .u32 0, .int .u8 0, .int .u8 0, .int .u8 0, .int .u32 0, .int .u8 0, .int .u8 0, .int .u8 0, .int .u32 0, .int .u8 0, .int .u8 0, .int .u8 0, .int .u32 0, .int .u8 0, .int .u8 0, .int .u8 0, .int .u32 0, .int .u8 0, .int .u8 0, .int .u8 0, .int .u32 0, .int .u8 0, .int .u8 0, .int .u8 0, .int .u32 0, .int .u8 0, .int .u8 0, .int .u8 0, .int .u32 0, .int .u8 0, .int .u8 0, .int .u8 0, .int .u32 0, .int .u8 0, .int .u8 0, .int .u8 0, .int .u32 0, .int .u8 0, .int .u8 0, .int .u8 0, .int .u32 0, .int .u8 0, .int .u8 0, .int .u8 0, .int .u32 0, .int .u8 0, .int .u8 0, .int .u8 0, .int .u32 0, .int .u8 0, .int .u8 0, .int .u8 0, .int .u32 0, .int .u8 0, .int .u8 0, .int .u8 0, .int .u32 0, .int .u8 0, .int .u8 0, .int .u8 0, .int .u32 0, .int .u8 0, .int .u8 0, .int .u8 0, .int .u32 0, .int .u8 0, .int .u8 0, .int .u8 0, .int .u32 0, .int .u8 0, .int .u8 0, .int .u8 0, .int .u32 0, .int .u8 0, .int .u8 0, .int .u8 0, .int .u32 0, .int .u8 0, .int .u8 0, .int .u8 0, .int .u32 0, .int .u8 0, .int .u8 0, .int .u8 0, .int .u32 0, .int .u8 0, .int .u8 0, .int .u8 0, .int .u32 0, .int .u8 0, .int .u8 0, .int .u8 0, .int .u32 0, .int .u8 0, .int .u8 0, .int .u8 0, .slice none 0 0, .int .i64 0] fun h_3 =>
ldAll h_3 (⟨r_1, 0, none⟩ : Addr) 190 fun cs_4 =>
K (.tuple #[.agg (cs_4).toArray, .bool false]) h_3) <|
bcase (decide (contexts > (131072 : Int))) (
stVs h_2 (⟨r_1, 0, none⟩ : Addr) 0 [.int .u32 0, .int .u8 0, .int .u8 0, .int .u8 0, .int .u32 0, .int .u8 0, .int .u8 0, .int .u8 0, .int .u32 0, .int .u8 0, .int .u8 0, .int .u8 0, .int .u32 0, .int .u8 0, .int .u8 0, .int .u8 0, .int .u32 0, .int .u8 0, .int .u8 0, .int .u8 0, .int .u32 0, .int .u8 0, .int .u8 0, .int .u8 0, .int .u32 0, .int .u8 0, .int .u8 0, .int .u8 0, .int .u32 0, .int .u8 0, .int .u8 0, .int .u8 0, .int .u32 0, .int .u8 0, .int .u8 0, .int .u8 0, .int .u32 0, .int .u8 0, .int .u8 0, .int .u8 0, .int .u32 0, .int .u8 0, .int .u8 0, .int .u8 0, .int .u32 0, .int .u8 0, .int .u8 0, .int .u8 0, .int .u32 0, .int .u8 0, .int .u8 0, .int .u8 0, .int .u32 0, .int .u8 0, .int .u8 0, .int .u8 0, .int .u32 0, .int .u8 0, .int .u8 0, .int .u8 0, .int .u32 0, .int .u8 0, .int .u8 0, .int .u8 0, .int .u32 0, .int .u8 0, .int .u8 0, .int .u8 0, .int .u32 0, .int .u8 0, .int .u8 0, .int .u8 0, .int .u32 0, .int .u8 0, .int .u8 0, .int .u8 0, .int .u32 0, .int .u8 0, .int .u8 0, .int .u8 0, .int .u32 0, .int .u8 0, .int .u8 0, .int .u8 0, .int .u32 0, .int .u8 0, .int .u8 0, .int .u8 0, .int .u32 0, .int .u8 0, .int .u8 0, .int .u8 0, .int .u32 0, .int .u8 0, .int .u8 0, .int .u8 0, .int .u32 0, .int .u8 0, .int .u8 0, .int .u8 0, .int .u32 0, .int .u8 0, .int .u8 0, .int .u8 0, .int .u32 0, .int .u8 0, .int .u8 0, .int .u8 0, .int .u32 0, .int .u8 0, .int .u8 0, .int .u8 0, .int .u32 0, .int .u8 0, .int .u8 0, .int .u8 0, .int .u32 0, .int .u8 0, .int .u8 0, .int .u8 0, .int .u32 0, .int .u8 0, .int .u8 0, .int .u8 0, .int .u32 0, .int .u8 0, .int .u8 0, .int .u8 0, .int .u32 0, .int .u8 0, .int .u8 0, .int .u8 0, .int .u32 0, .int .u8 0, .int .u8 0, .int .u8 0, .int .u32 0, .int .u8 0, .int .u8 0, .int .u8 0, .int .u32 0, .int .u8 0, .int .u8 0, .int .u8 0, .int .u32 0, .int .u8 0, .int .u8 0, .int .u8 0, .int .u32 0, .int .u8 0, .int .u8 0, .int .u8 0, .int .u32 0, .int .u8 0, .int .u8 0, .int .u8 0, .int .u32 0, .int .u8 0, .int .u8 0, .int .u8 0, .int .u32 0, .int .u8 0, .int .u8 0, .int .u8 0, .int .u32 0, .int .u8 0, .int .u8 0, .int .u8 0, .int .u32 0, .int .u8 0, .int .u8 0, .int .u8 0, .int .u32 0, .int .u8 0, .int .u8 0, .int .u8 0, .int .u32 0, .int .u8 0, .int .u8 0, .int .u8 0, .int .u32 0, .int .u8 0, .int .u8 0, .int .u8 0, .int .u32 0, .int .u8 0, .int .u8 0, .int .u8 0, .slice none 0 0, .int .i64 0] fun h_5 =>
ldAll h_5 (⟨r_1, 0, none⟩ : Addr) 190 fun cs_6 =>
K (.tuple #[.agg (cs_6).toArray, .bool false]) h_5) <|
(
C F_arith_rows #[] h_2 (fun v_7 h_8 =>
∃ (cs_9 : List Value), cs_9.length = 188 ∧ v_7 = .agg (cs_9).toArray ∧ (
hext h_2 h_8 ∧ (
needs (0 ≤ contexts ∧ contexts ≤ contexts ∧ contexts ≤ 9223372036854775807 ∧ ((1 : Nat) : Int) * contexts ≤ 281474976710656) <|
newC h_8 (repZ [.int .u8 0] contexts.toNat) T_uint8 fun r_10 h_11 =>
needs ((cs_9).length = 188 ∧ 0 + 188 ≤ (Z_arith_table).length) <|
needs ((([.slice (some ⟨r_10, 0, none⟩) contexts.toNat contexts.toNat] : List Value)).length = 1 ∧ 188 + 1 ≤ ((putL Z_arith_table 0 cs_9)).length) <|
needs (((putL (putL Z_arith_table 0 cs_9) 188 ([.slice (some ⟨r_10, 0, none⟩) contexts.toNat contexts.toNat] : List Value))).length = 190) <| stVs h_11 (⟨r_1, 0, none⟩ : Addr) 0 ((putL (putL Z_arith_table 0 cs_9) 188 ([.slice (some ⟨r_10, 0, none⟩) contexts.toNat contexts.toNat] : List Value))) fun h_12 =>
ldAll h_12 (⟨r_1, 0, none⟩ : Addr) 190 fun cs_13 =>
K (.tuple #[.agg (cs_13).toArray, .bool true]) h_12))) (Kp)) ∧ (
needs (0 ≤ contexts ∧ contexts ≤ contexts ∧ contexts ≤ 9223372036854775807 ∧ ((1 : Nat) : Int) * contexts ≤ 281474976710656) <|
newC h_2 (repZ [.int .u8 0] contexts.toNat) T_uint8 fun r_14 h_15 =>
C F_arith_rows #[] h_15 (fun v_16 h_17 =>
∃ (cs_18 : List Value), cs_18.length = 188 ∧ v_16 = .agg (cs_18).toArray ∧ (
hext h_15 h_17 ∧ (
needs ((cs_18).length = 188 ∧ 0 + 188 ≤ (Z_arith_table).length) <|
needs ((([.slice (some ⟨r_14, 0, none⟩) contexts.toNat contexts.toNat] : List Value)).length = 1 ∧ 188 + 1 ≤ ((putL Z_arith_table 0 cs_18)).length) <|
needs (((putL (putL Z_arith_table 0 cs_18) 188 ([.slice (some ⟨r_14, 0, none⟩) contexts.toNat contexts.toNat] : List Value))).length = 190) <| stVs h_17 (⟨r_1, 0, none⟩ : Addr) 0 ((putL (putL Z_arith_table 0 cs_18) 188 ([.slice (some ⟨r_14, 0, none⟩) contexts.toNat contexts.toNat] : List Value))) fun h_19 =>
ldAll h_19 (⟨r_1, 0, none⟩ : Addr) 190 fun cs_20 =>
K (.tuple #[.agg (cs_20).toArray, .bool true]) h_19))) (Kp))

/- (*burin/arith.table).Contexts -/
set_option maxRecDepth 100000 in
def arith_table_Contexts (C : CallP) (t : Option Addr) (h : Heap) (K : Value → Heap → Prop) (Kp : List PanicEntry → Heap → Prop) : Prop :=
ptr t fun a_1 =>
ldS h (a_1.add 188) fun x_2 x_2n x_2c =>
K (.int .i64 (x_2n : Int)) h

/- (*burin/arith.Coder).Put -/
set_option maxRecDepth 100000 in
def arith_Coder_Put (C : CallP) (a0 : Option Addr) (a1 : Int) (a2 : Int) (h : Heap) (K : Value → Heap → Prop) (Kp : List PanicEntry → Heap → Prop) : Prop :=
∃ K_1 : List Value → Heap → Prop, (
ptr a0 fun a_4 =>
ldB h (a_4.add 194) fun x_5 =>
bcase x_5 (
K (.int .i64 43) h) <|
bcase (a2 != (0 : Int)) (
bcase (a2 != (1 : Int)) (
K (.int .i64 42) h) <|
ptr a0 fun a_6 =>
ldI h ((a_6.add 0).add 189) .i64 fun x_7 =>
bcase (decide (x_7 ≥ (16777216 : Int))) (
K (.int .i64 41) h) <|
K_1 [] h) <|
ptr a0 fun a_8 =>
ldI h ((a_8.add 0).add 189) .i64 fun x_9 =>
bcase (decide (x_9 ≥ (16777216 : Int))) (
K (.int .i64 41) h) <|
K_1 [] h) ∧ ∀ (h_2 : Heap) (u_3 : Nat → Value) , K_1 [] h_2 → (
ptr a0 fun a_10 =>
ldI h_2 ((a_10.add 0).add 189) .i64 fun x_11 =>
bindI (IntKind.i64.wrap (x_11 + (1 : Int))) fun z_12 =>
ptr a0 fun a_13 =>
stV h_2 ((a_13.add 0).add 189) (.int .i64 z_12) fun h_14 =>
ptr a0 fun a_15 =>
C F_arith_table_at #[.pointer (some (a_15.add 0)), .int .i64 a1] h_14 (fun v_16 h_17 =>
∃ (r_18 : Option Addr), ∃ (r_19 : Int) (r_20 : Int) (r_21 : Int) (r_22 : Int), v_16 = .tuple #[.pointer r_18, .agg #[.int .u32 r_19, .int .u8 r_20, .int .u8 r_21, .int .u8 r_22]] ∧ (
newC h_17 [.int .u32 0, .int .u8 0, .int .u8 0, .int .u8 0] T_arith_row fun r_23 h_24 =>
stV h_24 ((⟨r_23, 0, none⟩ : Addr).add 0) (.int .u32 r_19) fun h_25 =>
stV h_25 ((⟨r_23, 0, none⟩ : Addr).add 1) (.int .u8 r_20) fun h_26 =>
stV h_26 ((⟨r_23, 0, none⟩ : Addr).add 2) (.int .u8 r_21) fun h_27 =>
stV h_27 ((⟨r_23, 0, none⟩ : Addr).add 3) (.int .u8 r_22) fun h_28 =>
ptr a0 fun a_29 =>
ldI h_28 (a_29.add 190) .u32 fun x_30 =>
ldI h_28 ((⟨r_23, 0, none⟩ : Addr).add 0) .u32 fun x_31 =>
bindI (IntKind.u32.wrap (x_30 - x_31)) fun z_32 =>
ptr a0 fun a_33 =>
stV h_28 (a_33.add 190) (.int .u32 z_32) fun h_34 =>
ptr r_18 fun a_35 =>
ldI h_34 a_35 .u8 fun x_36 =>
bindI (bitI .and .u8 x_36 (1 : Int)) fun z_37 =>
bindI (IntKind.i64.wrap z_37) fun z_38 =>
bcase (a2 == z_38) (
ptr a0 fun a_39 =>
ldI h_34 (a_39.add 190) .u32 fun x_40 =>
bcase (decide (x_40 ≥ (32768 : Int))) (
ptr a0 fun a_41 =>
ldI h_34 (a_41.add 191) .u32 fun x_42 =>
ldI h_34 ((⟨r_23, 0, none⟩ : Addr).add 0) .u32 fun x_43 =>
bindI (IntKind.u32.wrap (x_42 + x_43)) fun z_44 =>
ptr a0 fun a_45 =>
stV h_34 (a_45.add 191) (.int .u32 z_44) fun h_46 =>
K (.int .i64 0) h_46) <|
ptr a0 fun a_47 =>
ldI h_34 (a_47.add 190) .u32 fun x_48 =>
ldI h_34 ((⟨r_23, 0, none⟩ : Addr).add 0) .u32 fun x_49 =>
bcase (decide (x_48 < x_49)) (
ldI h_34 ((⟨r_23, 0, none⟩ : Addr).add 0) .u32 fun x_50 =>
ptr a0 fun a_51 =>
stV h_34 (a_51.add 190) (.int .u32 x_50) fun h_52 =>
ldI h_52 ((⟨r_23, 0, none⟩ : Addr).add 0) .u32 fun x_53 =>
ldI h_52 ((⟨r_23, 0, none⟩ : Addr).add 1) .u8 fun x_54 =>
ldI h_52 ((⟨r_23, 0, none⟩ : Addr).add 2) .u8 fun x_55 =>
ldI h_52 ((⟨r_23, 0, none⟩ : Addr).add 3) .u8 fun x_56 =>
C F_arith_likely #[.pointer r_18, .agg #[.int .u32 x_53, .int .u8 x_54, .int .u8 x_55, .int .u8 x_56]] h_52 (fun v_57 h_58 =>
C F_arith_Coder_renew #[.pointer a0] h_58 (fun v_59 h_60 =>
K (.int .i64 0) h_60) (Kp)) (Kp)) <|
ptr a0 fun a_61 =>
ldI h_34 (a_61.add 191) .u32 fun x_62 =>
ldI h_34 ((⟨r_23, 0, none⟩ : Addr).add 0) .u32 fun x_63 =>
bindI (IntKind.u32.wrap (x_62 + x_63)) fun z_64 =>
ptr a0 fun a_65 =>
stV h_34 (a_65.add 191) (.int .u32 z_64) fun h_66 =>
ldI h_66 ((⟨r_23, 0, none⟩ : Addr).add 0) .u32 fun x_67 =>
ldI h_66 ((⟨r_23, 0, none⟩ : Addr).add 1) .u8 fun x_68 =>
ldI h_66 ((⟨r_23, 0, none⟩ : Addr).add 2) .u8 fun x_69 =>
ldI h_66 ((⟨r_23, 0, none⟩ : Addr).add 3) .u8 fun x_70 =>
C F_arith_likely #[.pointer r_18, .agg #[.int .u32 x_67, .int .u8 x_68, .int .u8 x_69, .int .u8 x_70]] h_66 (fun v_71 h_72 =>
C F_arith_Coder_renew #[.pointer a0] h_72 (fun v_73 h_74 =>
K (.int .i64 0) h_74) (Kp)) (Kp)) <|
ptr a0 fun a_75 =>
ldI h_34 (a_75.add 190) .u32 fun x_76 =>
ldI h_34 ((⟨r_23, 0, none⟩ : Addr).add 0) .u32 fun x_77 =>
bcase (decide (x_76 < x_77)) (
ptr a0 fun a_78 =>
ldI h_34 (a_78.add 191) .u32 fun x_79 =>
ldI h_34 ((⟨r_23, 0, none⟩ : Addr).add 0) .u32 fun x_80 =>
bindI (IntKind.u32.wrap (x_79 + x_80)) fun z_81 =>
ptr a0 fun a_82 =>
stV h_34 (a_82.add 191) (.int .u32 z_81) fun h_83 =>
ldI h_83 ((⟨r_23, 0, none⟩ : Addr).add 0) .u32 fun x_84 =>
ldI h_83 ((⟨r_23, 0, none⟩ : Addr).add 1) .u8 fun x_85 =>
ldI h_83 ((⟨r_23, 0, none⟩ : Addr).add 2) .u8 fun x_86 =>
ldI h_83 ((⟨r_23, 0, none⟩ : Addr).add 3) .u8 fun x_87 =>
C F_arith_unlikely #[.pointer r_18, .agg #[.int .u32 x_84, .int .u8 x_85, .int .u8 x_86, .int .u8 x_87]] h_83 (fun v_88 h_89 =>
C F_arith_Coder_renew #[.pointer a0] h_89 (fun v_90 h_91 =>
K (.int .i64 0) h_91) (Kp)) (Kp)) <|
ldI h_34 ((⟨r_23, 0, none⟩ : Addr).add 0) .u32 fun x_92 =>
ptr a0 fun a_93 =>
stV h_34 (a_93.add 190) (.int .u32 x_92) fun h_94 =>
ldI h_94 ((⟨r_23, 0, none⟩ : Addr).add 0) .u32 fun x_95 =>
ldI h_94 ((⟨r_23, 0, none⟩ : Addr).add 1) .u8 fun x_96 =>
ldI h_94 ((⟨r_23, 0, none⟩ : Addr).add 2) .u8 fun x_97 =>
ldI h_94 ((⟨r_23, 0, none⟩ : Addr).add 3) .u8 fun x_98 =>
C F_arith_unlikely #[.pointer r_18, .agg #[.int .u32 x_95, .int .u8 x_96, .int .u8 x_97, .int .u8 x_98]] h_94 (fun v_99 h_100 =>
C F_arith_Coder_renew #[.pointer a0] h_100 (fun v_101 h_102 =>
K (.int .i64 0) h_102) (Kp)) (Kp))) (Kp))

/- (*burin/arith.Coder).out -/
set_option maxRecDepth 100000 in
def arith_Coder_out (C : CallP) (a0 : Option Addr) (h : Heap) (K : Value → Heap → Prop) (Kp : List PanicEntry → Heap → Prop) : Prop :=
ptr a0 fun a_1 =>
ptr a0 fun a_2 =>
ldS h (a_1.add 193) fun x_3 x_3n x_3c =>
ldS h (a_2.add 193) fun x_4 x_4n x_4c =>
bindI (IntKind.i64.wrap ((x_4n : Int) - (1 : Int))) fun z_5 =>
needs (0 ≤ z_5 ∧ z_5 < (x_3n : Int)) <|
ptr x_3 fun a_6 =>
∃ K_7 : List Value → Heap → Prop, (
∃ K_10 : List Value → Heap → Prop, (
ldI h (a_6.add (z_5.toNat * 1)) .u8 fun x_13 =>
bcase (x_13 != (255 : Int)) (
ptr a0 fun a_14 =>
ldI h (a_14.add 191) .u32 fun x_15 =>
K_10 [.bool (decide (x_15 ≥ (134217728 : Int)))] h) <|
K_10 [.bool false] h) ∧ ∀ (h_11 : Heap) (u_12 : Nat → Value) (x_16 : Bool), K_10 [.bool x_16] h_11 → (
bcase x_16 (
ldI h_11 (a_6.add (z_5.toNat * 1)) .u8 fun x_17 =>
bindI (IntKind.u8.wrap (x_17 + (1 : Int))) fun z_18 =>
stV h_11 (a_6.add (z_5.toNat * 1)) (.int .u8 z_18) fun h_19 =>
ptr a0 fun a_20 =>
ldI h_19 (a_20.add 191) .u32 fun x_21 =>
bindI (bitI .and .u32 x_21 (134217727 : Int)) fun z_22 =>
ptr a0 fun a_23 =>
stV h_19 (a_23.add 191) (.int .u32 z_22) fun h_24 =>
K_7 [] h_24) <|
K_7 [] h_11)) ∧ ∀ (h_8 : Heap) (u_9 : Nat → Value) , K_7 [] h_8 → (
∃ K_25 : List Value → Heap → Prop, (
ldI h_8 (a_6.add (z_5.toNat * 1)) .u8 fun x_28 =>
bcase (x_28 != (255 : Int)) (
bindI (IntKind.i64.wrap ((20 : Int) - (1 : Int))) fun z_29 =>
K_25 [.int .i64 z_29] h_8) <|
K_25 [.int .i64 20] h_8) ∧ ∀ (h_26 : Heap) (u_27 : Nat → Value) (x_30 : Int), K_25 [.int .i64 x_30] h_26 → (
ptr a0 fun a_31 =>
ptr a0 fun a_32 =>
ldS h_26 (a_31.add 193) fun x_33 x_33n x_33c =>
ldI h_26 (a_32.add 191) .u32 fun x_34 =>
needs (0 ≤ x_30) <|
bindI (shrI .u32 x_34 x_30) fun z_35 =>
bindI (IntKind.u8.wrap z_35) fun z_36 =>
newC h_26 [.int .u8 z_36] T_uint8 fun r_37 h_38 =>
appC h_38 T_uint8 1 1 [.int .u8 0] x_33 (x_33n) (x_33c) (some ⟨r_37, 0, none⟩) (1) fun q_39 q_39n q_39c h_40 =>
ptr a0 fun a_41 =>
stV h_40 (a_41.add 193) (.slice q_39 q_39n q_39c) fun h_42 =>
ptr a0 fun a_43 =>
needs (0 ≤ x_30) <|
bindI (shlI .u32 (1 : Int) x_30) fun z_44 =>
bindI (IntKind.u32.wrap (z_44 - (1 : Int))) fun z_45 =>
ldI h_42 (a_43.add 191) .u32 fun x_46 =>
bindI (bitI .and .u32 x_46 z_45) fun z_47 =>
ptr a0 fun a_48 =>
stV h_42 (a_48.add 191) (.int .u32 z_47) fun h_49 =>
bindI (IntKind.i64.wrap ((27 : Int) - x_30)) fun z_50 =>
ptr a0 fun a_51 =>
stV h_49 (a_51.add 192) (.int .i64 z_50) fun h_52 =>
K (.tuple #[]) h_52))

/- (*burin/arith.Decoder).byte -/
set_option maxRecDepth 100000 in
def arith_Decoder_byte (C : CallP) (d : Option Addr) (i : Int) (h : Heap) (K : Value → Heap → Prop) (Kp : List PanicEntry → Heap → Prop) : Prop :=
ptr d fun a_1 =>
ldS h (a_1.add 193) fun x_2 x_2n x_2c =>
bcase (decide (i < (x_2n : Int))) (
ptr d fun a_3 =>
ldS h (a_3.add 193) fun x_4 x_4n x_4c =>
needs (0 ≤ i ∧ i < (x_4n : Int)) <|
ptr x_4 fun a_5 =>
ldI h (a_5.add (i.toNat * 1)) .u8 fun x_6 =>
bindI (IntKind.u32.wrap x_6) fun z_7 =>
K (.int .u32 z_7) h) <|
K (.int .u32 255) h

/- (*burin/arith.Decoder).in -/
set_option maxRecDepth 100000 in
def arith_Decoder_in (C : CallP) (a0 : Option Addr) (h : Heap) (K : Value → Heap → Prop) (Kp : List PanicEntry → Heap → Prop) : Prop :=
ptr a0 fun a_1 =>
ldI h (a_1.add 194) .i64 fun x_2 =>
C F_arith_Decoder_byte #[.pointer a0, .int .i64 x_2] h (fun v_3 h_4 =>
∃ (r_5 : Int), v_3 = .int .u32 r_5 ∧ (
bcase (r_5 != (255 : Int)) (
ptr a0 fun a_6 =>
ldI h_4 (a_6.add 194) .i64 fun x_7 =>
bindI (IntKind.i64.wrap (x_7 + (1 : Int))) fun z_8 =>
ptr a0 fun a_9 =>
stV h_4 (a_9.add 194) (.int .i64 z_8) fun h_10 =>
ptr a0 fun a_11 =>
ptr a0 fun a_12 =>
ldI h_10 (a_11.add 191) .u32 fun x_13 =>
ldI h_10 (a_12.add 194) .i64 fun x_14 =>
C F_arith_Decoder_byte #[.pointer a0, .int .i64 x_14] h_10 (fun v_15 h_16 =>
∃ (r_17 : Int), v_15 = .int .u32 r_17 ∧ (
hext h_10 h_16 ∧ (
bindI (shlI .u32 r_17 (8 : Int)) fun z_18 =>
bindI (IntKind.u32.wrap (x_13 + z_18)) fun z_19 =>
ptr a0 fun a_20 =>
stV h_16 (a_20.add 191) (.int .u32 z_19) fun h_21 =>
ptr a0 fun a_22 =>
stV h_21 (a_22.add 192) (.int .i64 8) fun h_23 =>
K (.tuple #[]) h_23))) (Kp)) <|
ptr a0 fun a_24 =>
ldI h_4 (a_24.add 194) .i64 fun x_25 =>
bindI (IntKind.i64.wrap (x_25 + (1 : Int))) fun z_26 =>
C F_arith_Decoder_byte #[.pointer a0, .int .i64 z_26] h_4 (fun v_27 h_28 =>
∃ (r_29 : Int), v_27 = .int .u32 r_29 ∧ (
bcase (decide (r_29 > (143 : Int))) (
ptr a0 fun a_30 =>
ldI h_28 (a_30.add 191) .u32 fun x_31 =>
bindI (IntKind.u32.wrap (x_31 + (65280 : Int))) fun z_32 =>
ptr a0 fun a_33 =>
stV h_28 (a_33.add 191) (.int .u32 z_32) fun h_34 =>
ptr a0 fun a_35 =>
stV h_34 (a_35.add 192) (.int .i64 8) fun h_36 =>
K (.tuple #[]) h_36) <|
ptr a0 fun a_37 =>
ldI h_28 (a_37.add 194) .i64 fun x_38 =>
bindI (IntKind.i64.wrap (x_38 + (1 : Int))) fun z_39 =>
ptr a0 fun a_40 =>
stV h_28 (a_40.add 194) (.int .i64 z_39) fun h_41 =>
ptr a0 fun a_42 =>
ptr a0 fun a_43 =>
ldI h_41 (a_42.add 191) .u32 fun x_44 =>
ldI h_41 (a_43.add 194) .i64 fun x_45 =>
C F_arith_Decoder_byte #[.pointer a0, .int .i64 x_45] h_41 (fun v_46 h_47 =>
∃ (r_48 : Int), v_46 = .int .u32 r_48 ∧ (
hext h_41 h_47 ∧ (
bindI (shlI .u32 r_48 (9 : Int)) fun z_49 =>
bindI (IntKind.u32.wrap (x_44 + z_49)) fun z_50 =>
ptr a0 fun a_51 =>
stV h_47 (a_51.add 191) (.int .u32 z_50) fun h_52 =>
ptr a0 fun a_53 =>
stV h_52 (a_53.add 192) (.int .i64 7) fun h_54 =>
K (.tuple #[]) h_54))) (Kp))) (Kp))) (Kp)

/- (*burin/arith.Decoder).Get -/
set_option maxRecDepth 100000 in
def arith_Decoder_Get (C : CallP) (a0 : Option Addr) (a1 : Int) (h : Heap) (K : Value → Heap → Prop) (Kp : List PanicEntry → Heap → Prop) : Prop :=
ptr a0 fun a_1 =>
ldI h ((a_1.add 0).add 189) .i64 fun x_2 =>
bcase (decide (x_2 ≥ (16777216 : Int))) (
K (.tuple #[.int .i64 0, .int .i64 41]) h) <|
ptr a0 fun a_3 =>
ldI h ((a_3.add 0).add 189) .i64 fun x_4 =>
bindI (IntKind.i64.wrap (x_4 + (1 : Int))) fun z_5 =>
ptr a0 fun a_6 =>
stV h ((a_6.add 0).add 189) (.int .i64 z_5) fun h_7 =>
ptr a0 fun a_8 =>
C F_arith_table_at #[.pointer (some (a_8.add 0)), .int .i64 a1] h_7 (fun v_9 h_10 =>
∃ (r_11 : Option Addr), ∃ (r_12 : Int) (r_13 : Int) (r_14 : Int) (r_15 : Int), v_9 = .tuple #[.pointer r_11, .agg #[.int .u32 r_12, .int .u8 r_13, .int .u8 r_14, .int .u8 r_15]] ∧ (
newC h_10 [.int .u32 0, .int .u8 0, .int .u8 0, .int .u8 0] T_arith_row fun r_16 h_17 =>
stV h_17 ((⟨r_16, 0, none⟩ : Addr).add 0) (.int .u32 r_12) fun h_18 =>
stV h_18 ((⟨r_16, 0, none⟩ : Addr).add 1) (.int .u8 r_13) fun h_19 =>
stV h_19 ((⟨r_16, 0, none⟩ : Addr).add 2) (.int .u8 r_14) fun h_20 =>
stV h_20 ((⟨r_16, 0, none⟩ : Addr).add 3) (.int .u8 r_15) fun h_21 =>
ptr r_11 fun a_22 =>
ldI h_21 a_22 .u8 fun x_23 =>
bindI (bitI .and .u8 x_23 (1 : Int)) fun z_24 =>
bindI (IntKind.i64.wrap z_24) fun z_25 =>
ptr a0 fun a_26 =>
ldI h_21 (a_26.add 190) .u32 fun x_27 =>
ldI h_21 ((⟨r_16, 0, none⟩ : Addr).add 0) .u32 fun x_28 =>
bindI (IntKind.u32.wrap (x_27 - x_28)) fun z_29 =>
ptr a0 fun a_30 =>
stV h_21 (a_30.add 190) (.int .u32 z_29) fun h_31 =>
ptr a0 fun a_32 =>
ldI h_31 (a_32.add 191) .u32 fun x_33 =>
bindI (shrI .u32 x_33 (16 : Int)) fun z_34 =>
ldI h_31 ((⟨r_16, 0, none⟩ : Addr).add 0) .u32 fun x_35 =>
∃ K_36 : List Value → Heap → Prop, (
bcase (!(decide (z_34 < x_35))) (
ptr a0 fun a_39 =>
ldI h_31 (a_39.add 191) .u32 fun x_40 =>
ldI h_31 ((⟨r_16, 0, none⟩ : Addr).add 0) .u32 fun x_41 =>
bindI (shlI .u32 x_41 (16 : Int)) fun z_42 =>
bindI (IntKind.u32.wrap (x_40 - z_42)) fun z_43 =>
ptr a0 fun a_44 =>
stV h_31 (a_44.add 191) (.int .u32 z_43) fun h_45 =>
ptr a0 fun a_46 =>
ldI h_45 (a_46.add 190) .u32 fun x_47 =>
bcase (decide (x_47 ≥ (32768 : Int))) (
K (.tuple #[.int .i64 z_25, .int .i64 0]) h_45) <|
K_36 [] h_45) <|
K_36 [] h_31) ∧ ∀ (h_37 : Heap) (u_38 : Nat → Value) , K_36 [] h_37 → (
∃ K_48 : List Value → Heap → Prop, (
ptr a0 fun a_51 =>
ldI h_37 (a_51.add 190) .u32 fun x_52 =>
ldI h_37 ((⟨r_16, 0, none⟩ : Addr).add 0) .u32 fun x_53 =>
bcase ((decide (z_34 < x_35)) == (decide (x_52 < x_53))) (
ldI h_37 ((⟨r_16, 0, none⟩ : Addr).add 0) .u32 fun x_54 =>
ldI h_37 ((⟨r_16, 0, none⟩ : Addr).add 1) .u8 fun x_55 =>
ldI h_37 ((⟨r_16, 0, none⟩ : Addr).add 2) .u8 fun x_56 =>
ldI h_37 ((⟨r_16, 0, none⟩ : Addr).add 3) .u8 fun x_57 =>
C F_arith_likely #[.pointer r_11, .agg #[.int .u32 x_54, .int .u8 x_55, .int .u8 x_56, .int .u8 x_57]] h_37 (fun v_58 h_59 =>
K_48 [.int .i64 z_25] h_59) (Kp)) <|
bindI (bitI .xor .i64 z_25 (1 : Int)) fun z_60 =>
ldI h_37 ((⟨r_16, 0, none⟩ : Addr).add 0) .u32 fun x_61 =>
ldI h_37 ((⟨r_16, 0, none⟩ : Addr).add 1) .u8 fun x_62 =>
ldI h_37 ((⟨r_16, 0, none⟩ : Addr).add 2) .u8 fun x_63 =>
ldI h_37 ((⟨r_16, 0, none⟩ : Addr).add 3) .u8 fun x_64 =>
C F_arith_unlikely #[.pointer r_11, .agg #[.int .u32 x_61, .int .u8 x_62, .int .u8 x_63, .int .u8 x_64]] h_37 (fun v_65 h_66 =>
K_48 [.int .i64 z_60] h_66) (Kp)) ∧ ∀ (h_49 : Heap) (u_50 : Nat → Value) (x_67 : Int), K_48 [.int .i64 x_67] h_49 → (
bcase (decide (z_34 < x_35)) (
ldI h_49 ((⟨r_16, 0, none⟩ : Addr).add 0) .u32 fun x_68 =>
ptr a0 fun a_69 =>
stV h_49 (a_69.add 190) (.int .u32 x_68) fun h_70 =>
C F_arith_Decoder_renew #[.pointer a0] h_70 (fun v_71 h_72 =>
K (.tuple #[.int .i64 x_67, .int .i64 0]) h_72) (Kp)) <|
C F_arith_Decoder_renew #[.pointer a0] h_49 (fun v_73 h_74 =>
K (.tuple #[.int .i64 x_67, .int .i64 0]) h_74) (Kp))))) (Kp)

/- burin/arith.rows -/
set_option maxRecDepth 100000 in
def arith_rows (C : CallP)  (h : Heap) (K : Value → Heap → Prop) (Kp : List PanicEntry → Heap → Prop) : Prop :=
newC h Z_47_arith_row T_47_arith_row fun r_1 h_2 =>
stVs h_2 (⟨r_1, 0, none⟩ : Addr) 0 [.int .u32 22017, .int .u8 1, .int .u8 1, .int .u8 1, .int .u32 13313, .int .u8 2, .int .u8 6, .int .u8 0, .int .u32 6145, .int .u8 3, .int .u8 9, .int .u8 0, .int .u32 2753, .int .u8 4, .int .u8 12, .int .u8 0, .int .u32 1313, .int .u8 5, .int .u8 29, .int .u8 0, .int .u32 545, .int .u8 38, .int .u8 33, .int .u8 0, .int .u32 22017, .int .u8 7, .int .u8 6, .int .u8 1, .int .u32 21505, .int .u8 8, .int .u8 14, .int .u8 0, .int .u32 18433, .int .u8 9, .int .u8 14, .int .u8 0, .int .u32 14337, .int .u8 10, .int .u8 14, .int .u8 0, .int .u32 12289, .int .u8 11, .int .u8 17, .int .u8 0, .int .u32 9217, .int .u8 12, .int .u8 18, .int .u8 0, .int .u32 7169, .int .u8 13, .int .u8 20, .int .u8 0, .int .u32 5633, .int .u8 29, .int .u8 21, .int .u8 0, .int .u32 22017, .int .u8 15, .int .u8 14, .int .u8 1, .int .u32 21505, .int .u8 16, .int .u8 14, .int .u8 0, .int .u32 20737, .int .u8 17, .int .u8 15, .int .u8 0, .int .u32 18433, .int .u8 18, .int .u8 16, .int .u8 0, .int .u32 14337, .int .u8 19, .int .u8 17, .int .u8 0, .int .u32 13313, .int .u8 20, .int .u8 18, .int .u8 0, .int .u32 12289, .int .u8 21, .int .u8 19, .int .u8 0, .int .u32 10241, .int .u8 22, .int .u8 19, .int .u8 0, .int .u32 9217, .int .u8 23, .int .u8 20, .int .u8 0, .int .u32 8705, .int .u8 24, .int .u8 21, .int .u8 0, .int .u32 7169, .int .u8 25, .int .u8 22, .int .u8 0, .int .u32 6145, .int .u8 26, .int .u8 23, .int .u8 0, .int .u32 5633, .int .u8 27, .int .u8 24, .int .u8 0, .int .u32 5121, .int .u8 28, .int .u8 25, .int .u8 0, .int .u32 4609, .int .u8 29, .int .u8 26, .int .u8 0, .int .u32 4353, .int .u8 30, .int .u8 27, .int .u8 0, .int .u32 2753, .int .u8 31, .int .u8 28, .int .u8 0, .int .u32 2497, .int .u8 32, .int .u8 29, .int .u8 0, .int .u32 2209, .int .u8 33, .int .u8 30, .int .u8 0, .int .u32 1313, .int .u8 34, .int .u8 31, .int .u8 0, .int .u32 1089, .int .u8 35, .int .u8 32, .int .u8 0, .int .u32 673, .int .u8 36, .int .u8 33, .int .u8 0, .int .u32 545, .int .u8 37, .int .u8 34, .int .u8 0, .int .u32 321, .int .u8 38, .int .u8 35, .int .u8 0, .int .u32 273, .int .u8 39, .int .u8 36, .int .u8 0, .int .u32 133, .int .u8 40, .int .u8 37, .int .u8 0, .int .u32 73, .int .u8 41, .int .u8 38, .int .u8 0, .int .u32 37, .int .u8 42, .int .u8 39, .int .u8 0, .int .u32 21, .int .u8 43, .int .u8 40, .int .u8 0, .int .u32 9, .int .u8 44, .int .u8 41, .int .u8 0, .int .u32 5, .int .u8 45, .int .u8 42, .int .u8 0, .int .u32 1, .int .u8 45, .int .u8 43, .int .u8 0, .int .u32 22017, .int .u8 46, .int .u8 46, .int .u8 0] fun h_3 =>
ldAll h_3 (⟨r_1, 0, none⟩ : Addr) 188 fun cs_4 =>
K (.agg (cs_4).toArray) h_3

/- (*burin/arith.table).at -/
set_option maxRecDepth 100000 in
def arith_table_at (C : CallP) (t : Option Addr) (context : Int) (h : Heap) (K : Value → Heap → Prop) (Kp : List PanicEntry → Heap → Prop) : Prop :=
newC h [.int .u32 0, .int .u8 0, .int .u8 0, .int .u8 0] T_arith_row fun r_1 h_2 =>
ptr t fun a_3 =>
ldS h_2 (a_3.add 188) fun x_4 x_4n x_4c =>
ptr t fun a_5 =>
needs (IntKind.i64 = IntKind.i64 ∧ (x_4n : Int) ≠ 0) <|
bindI (context.tmod (x_4n : Int)) fun z_6 =>
bindI (IntKind.i64.wrap (z_6 + (x_4n : Int))) fun z_7 =>
needs (IntKind.i64 = IntKind.i64 ∧ (x_4n : Int) ≠ 0) <|
bindI (z_7.tmod (x_4n : Int)) fun z_8 =>
ldS h_2 (a_5.add 188) fun x_9 x_9n x_9c =>
needs (0 ≤ z_8 ∧ z_8 < (x_9n : Int)) <|
ptr x_9 fun a_10 =>
ptr t fun a_11 =>
ldI h_2 (a_10.add (z_8.toNat * 1)) .u8 fun x_12 =>
bindI (shrI .u8 x_12 (1 : Int)) fun z_13 =>
needs (0 ≤ z_13 ∧ z_13 < ((47 : Nat) : Int)) <|
ldI h_2 (((a_11.add 0).add (z_13.toNat * 4)).add 0) .u32 fun x_14 =>
ldI h_2 (((a_11.add 0).add (z_13.toNat * 4)).add 1) .u8 fun x_15 =>
ldI h_2 (((a_11.add 0).add (z_13.toNat * 4)).add 2) .u8 fun x_16 =>
ldI h_2 (((a_11.add 0).add (z_13.toNat * 4)).add 3) .u8 fun x_17 =>
stV h_2 ((⟨r_1, 0, none⟩ : Addr).add 0) (.int .u32 x_14) fun h_18 =>
stV h_18 ((⟨r_1, 0, none⟩ : Addr).add 1) (.int .u8 x_15) fun h_19 =>
stV h_19 ((⟨r_1, 0, none⟩ : Addr).add 2) (.int .u8 x_16) fun h_20 =>
stV h_20 ((⟨r_1, 0, none⟩ : Addr).add 3) (.int .u8 x_17) fun h_21 =>
ldI h_21 ((⟨r_1, 0, none⟩ : Addr).add 0) .u32 fun r_22 =>
ldI h_21 ((⟨r_1, 0, none⟩ : Addr).add 1) .u8 fun r_23 =>
ldI h_21 ((⟨r_1, 0, none⟩ : Addr).add 2) .u8 fun r_24 =>
ldI h_21 ((⟨r_1, 0, none⟩ : Addr).add 3) .u8 fun r_25 =>
K (.tuple #[.pointer (some (a_10.add (z_8.toNat * 1))), .agg #[.int .u32 r_22, .int .u8 r_23, .int .u8 r_24, .int .u8 r_25]]) h_21

/- burin/arith.likely -/
set_option maxRecDepth 100000 in
def arith_likely (C : CallP) (s : Option Addr) (r_1 : Int) (r_2 : Int) (r_3 : Int) (r_4 : Int) (h : Heap) (K : Value → Heap → Prop) (Kp : List PanicEntry → Heap → Prop) : Prop :=
newC h [.int .u32 r_1, .int .u8 r_2, .int .u8 r_3, .int .u8 r_4] T_arith_row fun r_5 h_6 =>
ptr s fun a_7 =>
ldI h_6 ((⟨r_5, 0, none⟩ : Addr).add 1) .u8 fun x_8 =>
bindI (shlI .u8 x_8 (1 : Int)) fun z_9 =>
ldI h_6 a_7 .u8 fun x_10 =>
bindI (bitI .and .u8 x_10 (1 : Int)) fun z_11 =>
bindI (bitI .or .u8 z_9 z_11) fun z_12 =>
ptr s fun a_13 =>
stV h_6 a_13 (.int .u8 z_12) fun h_14 =>
K (.tuple #[]) h_14

/- burin/arith.unlikely -/
set_option maxRecDepth 100000 in
def arith_unlikely (C : CallP) (s : Option Addr) (r_1 : Int) (r_2 : Int) (r_3 : Int) (r_4 : Int) (h : Heap) (K : Value → Heap → Prop) (Kp : List PanicEntry → Heap → Prop) : Prop :=
newC h [.int .u32 r_1, .int .u8 r_2, .int .u8 r_3, .int .u8 r_4] T_arith_row fun r_5 h_6 =>
ptr s fun a_7 =>
ldI h_6 ((⟨r_5, 0, none⟩ : Addr).add 2) .u8 fun x_8 =>
bindI (shlI .u8 x_8 (1 : Int)) fun z_9 =>
ldI h_6 a_7 .u8 fun x_10 =>
bindI (bitI .and .u8 x_10 (1 : Int)) fun z_11 =>
bindI (bitI .or .u8 z_9 z_11) fun z_12 =>
ldI h_6 ((⟨r_5, 0, none⟩ : Addr).add 3) .u8 fun x_13 =>
bindI (bitI .xor .u8 z_12 x_13) fun z_14 =>
ptr s fun a_15 =>
stV h_6 a_15 (.int .u8 z_14) fun h_16 =>
K (.tuple #[]) h_16

/- (*burin/arith.Coder).renew -/
set_option maxRecDepth 100000 in
def arith_Coder_renew (C : CallP) (c : Option Addr) (h : Heap) (K : Value → Heap → Prop) (Kp : List PanicEntry → Heap → Prop) : Prop :=
∃ J_1 : Nat → List Value → Heap → Prop, (∃ n_3, J_1 n_3 [] h) ∧ ∀ (n_3 : Nat) (h_4 : Heap) (u_5 : Nat → Value) , J_1 n_3 [] h_4 → (
ptr c fun a_6 =>
ldI h_4 (a_6.add 190) .u32 fun x_7 =>
bindI (shlI .u32 x_7 (1 : Int)) fun z_8 =>
ptr c fun a_9 =>
stV h_4 (a_9.add 190) (.int .u32 z_8) fun h_10 =>
ptr c fun a_11 =>
ldI h_10 (a_11.add 191) .u32 fun x_12 =>
bindI (shlI .u32 x_12 (1 : Int)) fun z_13 =>
ptr c fun a_14 =>
stV h_10 (a_14.add 191) (.int .u32 z_13) fun h_15 =>
ptr c fun a_16 =>
ldI h_15 (a_16.add 192) .i64 fun x_17 =>
bindI (IntKind.i64.wrap (x_17 - (1 : Int))) fun z_18 =>
ptr c fun a_19 =>
stV h_15 (a_19.add 192) (.int .i64 z_18) fun h_20 =>
ptr c fun a_21 =>
ldI h_20 (a_21.add 192) .i64 fun x_22 =>
bcase (x_22 == (0 : Int)) (
C F_arith_Coder_out #[.pointer c] h_20 (fun v_23 h_24 =>
ptr c fun a_25 =>
ldI h_24 (a_25.add 190) .u32 fun x_26 =>
bcase (decide (x_26 ≥ (32768 : Int))) (
K (.tuple #[]) h_24) <|
∃ m_2, m_2 < n_3 ∧ J_1 m_2 [] h_24) (Kp)) <|
ptr c fun a_27 =>
ldI h_20 (a_27.add 190) .u32 fun x_28 =>
bcase (decide (x_28 ≥ (32768 : Int))) (
K (.tuple #[]) h_20) <|
∃ m_2, m_2 < n_3 ∧ J_1 m_2 [] h_20)

/- (*burin/arith.Decoder).renew -/
set_option maxRecDepth 100000 in
def arith_Decoder_renew (C : CallP) (d : Option Addr) (h : Heap) (K : Value → Heap → Prop) (Kp : List PanicEntry → Heap → Prop) : Prop :=
∃ J_1 : Nat → List Value → Heap → Prop, (∃ n_3, J_1 n_3 [] h) ∧ ∀ (n_3 : Nat) (h_4 : Heap) (u_5 : Nat → Value) , J_1 n_3 [] h_4 → (
∃ K_6 : List Value → Heap → Prop, (
ptr d fun a_9 =>
ldI h_4 (a_9.add 192) .i64 fun x_10 =>
bcase (x_10 == (0 : Int)) (
C F_arith_Decoder_in #[.pointer d] h_4 (fun v_11 h_12 =>
K_6 [] h_12) (Kp)) <|
K_6 [] h_4) ∧ ∀ (h_7 : Heap) (u_8 : Nat → Value) , K_6 [] h_7 → (
ptr d fun a_13 =>
ldI h_7 (a_13.add 190) .u32 fun x_14 =>
bindI (shlI .u32 x_14 (1 : Int)) fun z_15 =>
ptr d fun a_16 =>
stV h_7 (a_16.add 190) (.int .u32 z_15) fun h_17 =>
ptr d fun a_18 =>
ldI h_17 (a_18.add 191) .u32 fun x_19 =>
bindI (shlI .u32 x_19 (1 : Int)) fun z_20 =>
ptr d fun a_21 =>
stV h_17 (a_21.add 191) (.int .u32 z_20) fun h_22 =>
ptr d fun a_23 =>
ldI h_22 (a_23.add 192) .i64 fun x_24 =>
bindI (IntKind.i64.wrap (x_24 - (1 : Int))) fun z_25 =>
ptr d fun a_26 =>
stV h_22 (a_26.add 192) (.int .i64 z_25) fun h_27 =>
ptr d fun a_28 =>
ldI h_27 (a_28.add 190) .u32 fun x_29 =>
bcase (decide (x_29 ≥ (32768 : Int))) (
K (.tuple #[]) h_27) <|
∃ m_2, m_2 < n_3 ∧ J_1 m_2 [] h_27))

end Go.Den.Yteakipgcanafoaa

/- Written by gen.py: each condition of the functions of arith is the one of its body; so it is enough for its call. -/
set_option linter.unusedVariables false
set_option linter.unusedSimpArgs false
namespace Go.Den.Yteakipgcanafoaa
open Go Go.Den

noncomputable def hints_arith_New : Hints := Hints.mk (fun i => none)
  (fun i => none)
  (fun i => none) []
set_option maxRecDepth 100000 in
theorem eq_arith_New (C : CallP) (contexts : Int) (h : Heap) (K : Value → Heap → Prop) (Kp : List PanicEntry → Heap → Prop) :
    fnD Go.Proofs.Try.prog C hints_arith_New Go.Proofs.Try.f26 [.int .i64 contexts] h K Kp = arith_New C contexts h K Kp := by kernel_rfl

theorem call_arith_New {contexts : Int} {h : Heap} {K : Value → Heap → Prop} {Kp : List PanicEntry → Heap → Prop} (H : arith_New (CallsHP Go.Proofs.Try.prog) contexts h K Kp) : CallsHP Go.Proofs.Try.prog F_arith_New #[.int .i64 contexts] h K Kp :=
  callsHP_of hints_arith_New (by kernel_rfl) Go.Proofs.Try.func26 (by kernel_rfl) (by rw [eq_arith_New]; exact H)

noncomputable def hints_arith_Coder_Flush : Hints := Hints.mk (fun i => bif Nat.beq i 4 then some ([], .take 0 <| .take 1 <| .take 2 <| .take 4 <| .take 5 <| .take 6 <| .take 3 <| .take 7 <| .take 8 <| .take 9 <| .done) else (bif Nat.beq i 10 then some ([11], .take 0 <| .take 1 <| .take 2 <| .take 4 <| .take 5 <| .take 6 <| .take 3 <| .take 7 <| .take 8 <| .take 9 <| .take 10 <| .bar 11 [] <| .done) else (none)))
  (fun i => bif Nat.beq i 9 then some ([(42, .int .i64)], 288225978105200640) else (none))
  (fun i => bif Nat.beq i 8 then some ([], 4398042316800) else (none)) []
set_option maxRecDepth 100000 in
theorem eq_arith_Coder_Flush (C : CallP) (a0 : Option Addr) (h : Heap) (K : Value → Heap → Prop) (Kp : List PanicEntry → Heap → Prop) :
    fnD Go.Proofs.Try.prog C hints_arith_Coder_Flush Go.Proofs.Try.f35 [.pointer a0] h K Kp = arith_Coder_Flush C a0 h K Kp := by kernel_rfl

theorem call_arith_Coder_Flush {a0 : Option Addr} {h : Heap} {K : Value → Heap → Prop} {Kp : List PanicEntry → Heap → Prop} (H : arith_Coder_Flush (CallsHP Go.Proofs.Try.prog) a0 h K Kp) : CallsHP Go.Proofs.Try.prog F_arith_Coder_Flush #[.pointer a0] h K Kp :=
  callsHP_of hints_arith_Coder_Flush (by kernel_rfl) Go.Proofs.Try.func35 (by kernel_rfl) (by rw [eq_arith_Coder_Flush]; exact H)

noncomputable def hints_arith_table_States : Hints := Hints.mk (fun i => none)
  (fun i => none)
  (fun i => none) []
set_option maxRecDepth 100000 in
theorem eq_arith_table_States (C : CallP) (t : Option Addr) (h : Heap) (K : Value → Heap → Prop) (Kp : List PanicEntry → Heap → Prop) :
    fnD Go.Proofs.Try.prog C hints_arith_table_States Go.Proofs.Try.f37 [.pointer t] h K Kp = arith_table_States C t h K Kp := by kernel_rfl

theorem call_arith_table_States {t : Option Addr} {h : Heap} {K : Value → Heap → Prop} {Kp : List PanicEntry → Heap → Prop} (H : arith_table_States (CallsHP Go.Proofs.Try.prog) t h K Kp) : CallsHP Go.Proofs.Try.prog F_arith_table_States #[.pointer t] h K Kp :=
  callsHP_of hints_arith_table_States (by kernel_rfl) Go.Proofs.Try.func37 (by kernel_rfl) (by rw [eq_arith_table_States]; exact H)

noncomputable def hints_arith_NewDecoder : Hints := Hints.mk (fun i => bif Nat.beq i 4 then some ([4], .take 1 <| .take 0 <| .go 2 <| .take 3 <| .bar 4 [] <| .take 5 <| .done) else (none))
  (fun i => none)
  (fun i => none) []
set_option maxRecDepth 100000 in
theorem eq_arith_NewDecoder (C : CallP) (b : Option Addr) (bn : Nat) (bc : Nat) (contexts : Int) (h : Heap) (K : Value → Heap → Prop) (Kp : List PanicEntry → Heap → Prop) :
    fnD Go.Proofs.Try.prog C hints_arith_NewDecoder Go.Proofs.Try.f39 [.slice b bn bc, .int .i64 contexts] h K Kp = arith_NewDecoder C b bn bc contexts h K Kp := by kernel_rfl

theorem call_arith_NewDecoder {b : Option Addr} {bn : Nat} {bc : Nat} {contexts : Int} {h : Heap} {K : Value → Heap → Prop} {Kp : List PanicEntry → Heap → Prop} (H : arith_NewDecoder (CallsHP Go.Proofs.Try.prog) b bn bc contexts h K Kp) : CallsHP Go.Proofs.Try.prog F_arith_NewDecoder #[.slice b bn bc, .int .i64 contexts] h K Kp :=
  callsHP_of hints_arith_NewDecoder (by kernel_rfl) Go.Proofs.Try.func39 (by kernel_rfl) (by rw [eq_arith_NewDecoder]; exact H)

noncomputable def hints_arith_made : Hints := Hints.mk (fun i => bif Nat.beq i 3 then some ([4], .take 1 <| .alt 0 (.go 2 <| .take 3 <| .bar 4 [] <| .take 5 <| .done) <| .go 2 <| .go 0 <| .take 3 <| .bar 4 [] <| .take 5 <| .done) else (none))
  (fun i => none)
  (fun i => none) []
set_option maxRecDepth 100000 in
theorem eq_arith_made (C : CallP) (contexts : Int) (h : Heap) (K : Value → Heap → Prop) (Kp : List PanicEntry → Heap → Prop) :
    fnD Go.Proofs.Try.prog C hints_arith_made Go.Proofs.Try.f65 [.int .i64 contexts] h K Kp = arith_made C contexts h K Kp := by kernel_rfl

theorem call_arith_made {contexts : Int} {h : Heap} {K : Value → Heap → Prop} {Kp : List PanicEntry → Heap → Prop} (H : arith_made (CallsHP Go.Proofs.Try.prog) contexts h K Kp) : CallsHP Go.Proofs.Try.prog F_arith_made #[.int .i64 contexts] h K Kp :=
  callsHP_of hints_arith_made (by kernel_rfl) Go.Proofs.Try.func65 (by kernel_rfl) (by rw [eq_arith_made]; exact H)

noncomputable def hints_arith_table_Contexts : Hints := Hints.mk (fun i => none)
  (fun i => none)
  (fun i => none) []
set_option maxRecDepth 100000 in
theorem eq_arith_table_Contexts (C : CallP) (t : Option Addr) (h : Heap) (K : Value → Heap → Prop) (Kp : List PanicEntry → Heap → Prop) :
    fnD Go.Proofs.Try.prog C hints_arith_table_Contexts Go.Proofs.Try.f68 [.pointer t] h K Kp = arith_table_Contexts C t h K Kp := by kernel_rfl

theorem call_arith_table_Contexts {t : Option Addr} {h : Heap} {K : Value → Heap → Prop} {Kp : List PanicEntry → Heap → Prop} (H : arith_table_Contexts (CallsHP Go.Proofs.Try.prog) t h K Kp) : CallsHP Go.Proofs.Try.prog F_arith_table_Contexts #[.pointer t] h K Kp :=
  callsHP_of hints_arith_table_Contexts (by kernel_rfl) Go.Proofs.Try.func68 (by kernel_rfl) (by rw [eq_arith_table_Contexts]; exact H)

noncomputable def hints_arith_Coder_Put : Hints := Hints.mk (fun i => bif Nat.beq i 9 then some ([9], .take 0 <| .take 1 <| .take 2 <| .take 4 <| .take 3 <| .take 5 <| .take 6 <| .take 7 <| .take 8 <| .bar 9 [] <| .done) else (bif Nat.beq i 12 then some ([9], .take 0 <| .take 1 <| .take 2 <| .take 4 <| .take 3 <| .take 5 <| .take 6 <| .take 7 <| .take 8 <| .bar 9 [] <| .done) else (bif Nat.beq i 14 then some ([], .take 0 <| .take 1 <| .take 2 <| .take 4 <| .take 3 <| .take 5 <| .take 6 <| .done) else (bif Nat.beq i 16 then some ([9], .take 0 <| .take 1 <| .take 2 <| .take 4 <| .take 3 <| .take 5 <| .take 6 <| .take 7 <| .take 8 <| .bar 9 [] <| .done) else (bif Nat.beq i 18 then some ([], .take 0 <| .take 1 <| .take 2 <| .take 4 <| .take 3 <| .take 5 <| .take 6 <| .done) else (bif Nat.beq i 19 then some ([9], .take 0 <| .take 1 <| .take 2 <| .take 4 <| .take 3 <| .take 5 <| .take 6 <| .take 7 <| .take 8 <| .bar 9 [] <| .done) else (none)))))))
  (fun i => none)
  (fun i => bif Nat.beq i 7 then some ([], 268435008) else (none)) []
set_option maxRecDepth 100000 in
theorem eq_arith_Coder_Put (C : CallP) (a0 : Option Addr) (a1 : Int) (a2 : Int) (h : Heap) (K : Value → Heap → Prop) (Kp : List PanicEntry → Heap → Prop) :
    fnD Go.Proofs.Try.prog C hints_arith_Coder_Put Go.Proofs.Try.f69 [.pointer a0, .int .i64 a1, .int .i64 a2] h K Kp = arith_Coder_Put C a0 a1 a2 h K Kp := by kernel_rfl

theorem call_arith_Coder_Put {a0 : Option Addr} {a1 : Int} {a2 : Int} {h : Heap} {K : Value → Heap → Prop} {Kp : List PanicEntry → Heap → Prop} (H : arith_Coder_Put (CallsHP Go.Proofs.Try.prog) a0 a1 a2 h K Kp) : CallsHP Go.Proofs.Try.prog F_arith_Coder_Put #[.pointer a0, .int .i64 a1, .int .i64 a2] h K Kp :=
  callsHP_of hints_arith_Coder_Put (by kernel_rfl) Go.Proofs.Try.func69 (by kernel_rfl) (by rw [eq_arith_Coder_Put]; exact H)

noncomputable def hints_arith_Coder_out : Hints := Hints.mk (fun i => bif Nat.beq i 0 then some ([], .take 0 <| .take 1 <| .take 2 <| .take 4 <| .take 5 <| .take 6 <| .take 3 <| .take 7 <| .take 8 <| .take 9 <| .take 10 <| .take 11 <| .done) else (bif Nat.beq i 7 then some ([13, 16], .take 0 <| .take 1 <| .take 2 <| .take 3 <| .take 5 <| .take 6 <| .take 7 <| .take 9 <| .take 4 <| .take 8 <| .take 10 <| .take 11 <| .go 12 <| .bar 13 [16] <| .take 14 <| .take 15 <| .bar 16 [] <| .done) else (bif Nat.beq i 8 then some ([10], .take 0 <| .take 1 <| .take 2 <| .take 4 <| .take 5 <| .take 6 <| .take 3 <| .take 7 <| .take 8 <| .take 9 <| .bar 10 [] <| .done) else (none))))
  (fun i => none)
  (fun i => bif Nat.beq i 2 then some ([(25, .bool)], 67076096) else (bif Nat.beq i 4 then some ([], 274877874176) else (bif Nat.beq i 7 then some ([(3, .int .i64)], 34909494181896) else (none)))) []
set_option maxRecDepth 100000 in
theorem eq_arith_Coder_out (C : CallP) (a0 : Option Addr) (h : Heap) (K : Value → Heap → Prop) (Kp : List PanicEntry → Heap → Prop) :
    fnD Go.Proofs.Try.prog C hints_arith_Coder_out Go.Proofs.Try.f76 [.pointer a0] h K Kp = arith_Coder_out C a0 h K Kp := by kernel_rfl

theorem call_arith_Coder_out {a0 : Option Addr} {h : Heap} {K : Value → Heap → Prop} {Kp : List PanicEntry → Heap → Prop} (H : arith_Coder_out (CallsHP Go.Proofs.Try.prog) a0 h K Kp) : CallsHP Go.Proofs.Try.prog F_arith_Coder_out #[.pointer a0] h K Kp :=
  callsHP_of hints_arith_Coder_out (by kernel_rfl) Go.Proofs.Try.func76 (by kernel_rfl) (by rw [eq_arith_Coder_out]; exact H)

noncomputable def hints_arith_Decoder_byte : Hints := Hints.mk (fun i => none)
  (fun i => none)
  (fun i => none) []
set_option maxRecDepth 100000 in
theorem eq_arith_Decoder_byte (C : CallP) (d : Option Addr) (i : Int) (h : Heap) (K : Value → Heap → Prop) (Kp : List PanicEntry → Heap → Prop) :
    fnD Go.Proofs.Try.prog C hints_arith_Decoder_byte Go.Proofs.Try.f78 [.pointer d, .int .i64 i] h K Kp = arith_Decoder_byte C d i h K Kp := by kernel_rfl

theorem call_arith_Decoder_byte {d : Option Addr} {i : Int} {h : Heap} {K : Value → Heap → Prop} {Kp : List PanicEntry → Heap → Prop} (H : arith_Decoder_byte (CallsHP Go.Proofs.Try.prog) d i h K Kp) : CallsHP Go.Proofs.Try.prog F_arith_Decoder_byte #[.pointer d, .int .i64 i] h K Kp :=
  callsHP_of hints_arith_Decoder_byte (by kernel_rfl) Go.Proofs.Try.func78 (by kernel_rfl) (by rw [eq_arith_Decoder_byte]; exact H)

noncomputable def hints_arith_Decoder_in : Hints := Hints.mk (fun i => bif Nat.beq i 1 then some ([14], .take 0 <| .take 1 <| .take 2 <| .take 4 <| .take 5 <| .take 6 <| .take 7 <| .take 3 <| .take 8 <| .go 9 <| .take 10 <| .take 11 <| .take 12 <| .take 13 <| .bar 14 [] <| .done) else (bif Nat.beq i 5 then some ([14], .take 0 <| .take 1 <| .take 2 <| .take 4 <| .take 5 <| .take 6 <| .take 7 <| .take 3 <| .take 8 <| .go 9 <| .take 10 <| .take 11 <| .take 12 <| .take 13 <| .bar 14 [] <| .done) else (none)))
  (fun i => none)
  (fun i => none) []
set_option maxRecDepth 100000 in
theorem eq_arith_Decoder_in (C : CallP) (a0 : Option Addr) (h : Heap) (K : Value → Heap → Prop) (Kp : List PanicEntry → Heap → Prop) :
    fnD Go.Proofs.Try.prog C hints_arith_Decoder_in Go.Proofs.Try.f79 [.pointer a0] h K Kp = arith_Decoder_in C a0 h K Kp := by kernel_rfl

theorem call_arith_Decoder_in {a0 : Option Addr} {h : Heap} {K : Value → Heap → Prop} {Kp : List PanicEntry → Heap → Prop} (H : arith_Decoder_in (CallsHP Go.Proofs.Try.prog) a0 h K Kp) : CallsHP Go.Proofs.Try.prog F_arith_Decoder_in #[.pointer a0] h K Kp :=
  callsHP_of hints_arith_Decoder_in (by kernel_rfl) Go.Proofs.Try.func79 (by kernel_rfl) (by rw [eq_arith_Decoder_in]; exact H)

noncomputable def hints_arith_Decoder_Get : Hints := Hints.mk (fun i => bif Nat.beq i 6 then some ([9], .take 0 <| .take 1 <| .take 2 <| .take 4 <| .take 3 <| .take 5 <| .take 6 <| .take 7 <| .take 8 <| .bar 9 [] <| .done) else (bif Nat.beq i 7 then some ([], .take 0 <| .take 1 <| .take 2 <| .take 5 <| .take 3 <| .take 4 <| .take 6 <| .take 7 <| .take 8 <| .done) else (bif Nat.beq i 9 then some ([10], .take 0 <| .take 1 <| .take 2 <| .take 4 <| .take 3 <| .take 5 <| .take 6 <| .take 7 <| .take 8 <| .take 9 <| .bar 10 [] <| .done) else (bif Nat.beq i 12 then some ([], .take 0 <| .take 1 <| .take 2 <| .take 3 <| .take 5 <| .take 4 <| .take 6 <| .take 7 <| .take 8 <| .done) else (none)))))
  (fun i => none)
  (fun i => bif Nat.beq i 12 then some ([], 9444696936942271463472) else (bif Nat.beq i 16 then some ([(8, .int .i64)], 1237930594552414535608697088) else (none))) []
set_option maxRecDepth 100000 in
theorem eq_arith_Decoder_Get (C : CallP) (a0 : Option Addr) (a1 : Int) (h : Heap) (K : Value → Heap → Prop) (Kp : List PanicEntry → Heap → Prop) :
    fnD Go.Proofs.Try.prog C hints_arith_Decoder_Get Go.Proofs.Try.f82 [.pointer a0, .int .i64 a1] h K Kp = arith_Decoder_Get C a0 a1 h K Kp := by kernel_rfl

theorem call_arith_Decoder_Get {a0 : Option Addr} {a1 : Int} {h : Heap} {K : Value → Heap → Prop} {Kp : List PanicEntry → Heap → Prop} (H : arith_Decoder_Get (CallsHP Go.Proofs.Try.prog) a0 a1 h K Kp) : CallsHP Go.Proofs.Try.prog F_arith_Decoder_Get #[.pointer a0, .int .i64 a1] h K Kp :=
  callsHP_of hints_arith_Decoder_Get (by kernel_rfl) Go.Proofs.Try.func82 (by kernel_rfl) (by rw [eq_arith_Decoder_Get]; exact H)

noncomputable def hints_arith_rows : Hints := Hints.mk (fun i => none)
  (fun i => none)
  (fun i => none) []
set_option maxRecDepth 100000 in
theorem eq_arith_rows (C : CallP)  (h : Heap) (K : Value → Heap → Prop) (Kp : List PanicEntry → Heap → Prop) :
    fnD Go.Proofs.Try.prog C hints_arith_rows Go.Proofs.Try.f104 [] h K Kp = arith_rows C  h K Kp := by kernel_rfl

theorem call_arith_rows  {h : Heap} {K : Value → Heap → Prop} {Kp : List PanicEntry → Heap → Prop} (H : arith_rows (CallsHP Go.Proofs.Try.prog)  h K Kp) : CallsHP Go.Proofs.Try.prog F_arith_rows #[] h K Kp :=
  callsHP_of hints_arith_rows (by kernel_rfl) Go.Proofs.Try.func104 (by kernel_rfl) (by rw [eq_arith_rows]; exact H)

noncomputable def hints_arith_table_at : Hints := Hints.mk (fun i => bif Nat.beq i 2 then some ([], .take 0 <| .take 1 <| .take 2 <| .take 4 <| .take 5 <| .take 6 <| .take 7 <| .take 8 <| .take 9 <| .take 10 <| .take 3 <| .take 11 <| .take 12 <| .done) else (bif Nat.beq i 3 then some ([11], .take 0 <| .take 1 <| .take 2 <| .take 3 <| .take 6 <| .take 7 <| .take 10 <| .take 4 <| .take 5 <| .take 8 <| .take 9 <| .bar 11 [] <| .done) else (none)))
  (fun i => none)
  (fun i => none) []
set_option maxRecDepth 100000 in
theorem eq_arith_table_at (C : CallP) (t : Option Addr) (context : Int) (h : Heap) (K : Value → Heap → Prop) (Kp : List PanicEntry → Heap → Prop) :
    fnD Go.Proofs.Try.prog C hints_arith_table_at Go.Proofs.Try.f106 [.pointer t, .int .i64 context] h K Kp = arith_table_at C t context h K Kp := by kernel_rfl

theorem call_arith_table_at {t : Option Addr} {context : Int} {h : Heap} {K : Value → Heap → Prop} {Kp : List PanicEntry → Heap → Prop} (H : arith_table_at (CallsHP Go.Proofs.Try.prog) t context h K Kp) : CallsHP Go.Proofs.Try.prog F_arith_table_at #[.pointer t, .int .i64 context] h K Kp :=
  callsHP_of hints_arith_table_at (by kernel_rfl) Go.Proofs.Try.func106 (by kernel_rfl) (by rw [eq_arith_table_at]; exact H)

noncomputable def hints_arith_likely : Hints := Hints.mk (fun i => bif Nat.beq i 1 then some ([10], .take 0 <| .take 1 <| .take 4 <| .take 5 <| .take 2 <| .take 3 <| .take 6 <| .take 7 <| .take 8 <| .take 9 <| .bar 10 [] <| .done) else (none))
  (fun i => none)
  (fun i => none) []
set_option maxRecDepth 100000 in
theorem eq_arith_likely (C : CallP) (s : Option Addr) (r_1 : Int) (r_2 : Int) (r_3 : Int) (r_4 : Int) (h : Heap) (K : Value → Heap → Prop) (Kp : List PanicEntry → Heap → Prop) :
    fnD Go.Proofs.Try.prog C hints_arith_likely Go.Proofs.Try.f107 [.pointer s, .agg #[.int .u32 r_1, .int .u8 r_2, .int .u8 r_3, .int .u8 r_4]] h K Kp = arith_likely C s r_1 r_2 r_3 r_4 h K Kp := by kernel_rfl

theorem call_arith_likely {s : Option Addr} {r_1 : Int} {r_2 : Int} {r_3 : Int} {r_4 : Int} {h : Heap} {K : Value → Heap → Prop} {Kp : List PanicEntry → Heap → Prop} (H : arith_likely (CallsHP Go.Proofs.Try.prog) s r_1 r_2 r_3 r_4 h K Kp) : CallsHP Go.Proofs.Try.prog F_arith_likely #[.pointer s, .agg #[.int .u32 r_1, .int .u8 r_2, .int .u8 r_3, .int .u8 r_4]] h K Kp :=
  callsHP_of hints_arith_likely (by kernel_rfl) Go.Proofs.Try.func107 (by kernel_rfl) (by rw [eq_arith_likely]; exact H)

noncomputable def hints_arith_unlikely : Hints := Hints.mk (fun i => bif Nat.beq i 1 then some ([13], .take 0 <| .take 1 <| .take 4 <| .take 5 <| .take 9 <| .take 2 <| .take 3 <| .take 6 <| .take 7 <| .take 8 <| .take 10 <| .take 11 <| .take 12 <| .bar 13 [] <| .done) else (none))
  (fun i => none)
  (fun i => none) []
set_option maxRecDepth 100000 in
theorem eq_arith_unlikely (C : CallP) (s : Option Addr) (r_1 : Int) (r_2 : Int) (r_3 : Int) (r_4 : Int) (h : Heap) (K : Value → Heap → Prop) (Kp : List PanicEntry → Heap → Prop) :
    fnD Go.Proofs.Try.prog C hints_arith_unlikely Go.Proofs.Try.f108 [.pointer s, .agg #[.int .u32 r_1, .int .u8 r_2, .int .u8 r_3, .int .u8 r_4]] h K Kp = arith_unlikely C s r_1 r_2 r_3 r_4 h K Kp := by kernel_rfl

theorem call_arith_unlikely {s : Option Addr} {r_1 : Int} {r_2 : Int} {r_3 : Int} {r_4 : Int} {h : Heap} {K : Value → Heap → Prop} {Kp : List PanicEntry → Heap → Prop} (H : arith_unlikely (CallsHP Go.Proofs.Try.prog) s r_1 r_2 r_3 r_4 h K Kp) : CallsHP Go.Proofs.Try.prog F_arith_unlikely #[.pointer s, .agg #[.int .u32 r_1, .int .u8 r_2, .int .u8 r_3, .int .u8 r_4]] h K Kp :=
  callsHP_of hints_arith_unlikely (by kernel_rfl) Go.Proofs.Try.func108 (by kernel_rfl) (by rw [eq_arith_unlikely]; exact H)

noncomputable def hints_arith_Coder_renew : Hints := Hints.mk (fun i => none)
  (fun i => bif Nat.beq i 0 then some ([], 34359738364) else (none))
  (fun i => none) []
set_option maxRecDepth 100000 in
theorem eq_arith_Coder_renew (C : CallP) (c : Option Addr) (h : Heap) (K : Value → Heap → Prop) (Kp : List PanicEntry → Heap → Prop) :
    fnD Go.Proofs.Try.prog C hints_arith_Coder_renew Go.Proofs.Try.f109 [.pointer c] h K Kp = arith_Coder_renew C c h K Kp := by kernel_rfl

theorem call_arith_Coder_renew {c : Option Addr} {h : Heap} {K : Value → Heap → Prop} {Kp : List PanicEntry → Heap → Prop} (H : arith_Coder_renew (CallsHP Go.Proofs.Try.prog) c h K Kp) : CallsHP Go.Proofs.Try.prog F_arith_Coder_renew #[.pointer c] h K Kp :=
  callsHP_of hints_arith_Coder_renew (by kernel_rfl) Go.Proofs.Try.func109 (by kernel_rfl) (by rw [eq_arith_Coder_renew]; exact H)

noncomputable def hints_arith_Decoder_renew : Hints := Hints.mk (fun i => none)
  (fun i => bif Nat.beq i 0 then some ([], 34359738364) else (none))
  (fun i => bif Nat.beq i 2 then some ([], 508) else (none)) []
set_option maxRecDepth 100000 in
theorem eq_arith_Decoder_renew (C : CallP) (d : Option Addr) (h : Heap) (K : Value → Heap → Prop) (Kp : List PanicEntry → Heap → Prop) :
    fnD Go.Proofs.Try.prog C hints_arith_Decoder_renew Go.Proofs.Try.f115 [.pointer d] h K Kp = arith_Decoder_renew C d h K Kp := by kernel_rfl

theorem call_arith_Decoder_renew {d : Option Addr} {h : Heap} {K : Value → Heap → Prop} {Kp : List PanicEntry → Heap → Prop} (H : arith_Decoder_renew (CallsHP Go.Proofs.Try.prog) d h K Kp) : CallsHP Go.Proofs.Try.prog F_arith_Decoder_renew #[.pointer d] h K Kp :=
  callsHP_of hints_arith_Decoder_renew (by kernel_rfl) Go.Proofs.Try.func115 (by kernel_rfl) (by rw [eq_arith_Decoder_renew]; exact H)

end Go.Den.Yteakipgcanafoaa

/- ArB: how a coder and a decoder lie in memory; what their functions do with them: New, Put, Flush and what these call. -/
set_option linter.unusedVariables false
set_option linter.unusedSimpArgs false
namespace Go.Ar
open Go Go.Den Go.Den.Yteakipgcanafoaa

/-! ### lists of cells -/
def u8s (l : List Nat) : List Value := l.map fun x : Nat => .int .u8 (x : Int)
theorem u8s_length (l : List Nat) : (u8s l).length = l.length := by simp [u8s]
theorem u8s_get {l : List Nat} {i x : Nat} (h : l[i]? = some x) : (u8s l)[i]? = some (.int .u8 (x : Int)) := by
  unfold u8s; rw [List.getElem?_map, h]; rfl
theorem u8s_app (a b : List Nat) : u8s (a ++ b) = u8s a ++ u8s b := by simp [u8s]
theorem u8s_set (l : List Nat) (i x : Nat) : u8s (l.set i x) = (u8s l).set i (.int .u8 (x : Int)) := by simp [u8s, List.map_set]
theorem u8s_cells (l : List Nat) : ∀ v ∈ u8s l, v.oneCell' = true := fun v hv => by
  obtain ⟨x, _, rfl⟩ := List.mem_map.1 hv; rfl
theorem get_app {R T : List Value} {i : Nat} {v : Value} (h : R[i]? = some v) : (R ++ T)[i]? = some v := by
  rw [List.getElem?_append_left (List.getElem?_eq_some_iff.1 h).1]; exact h
theorem set_app {R T : List Value} {i : Nat} {v : Value} (h : i < R.length) : (R ++ T).set i v = R.set i v ++ T := List.set_append_left _ _ h

def rowC (r : Nat) : List Value := [.int .u32 (qOf r : Nat), .int .u8 (mOf r : Nat), .int .u8 (lOf r : Nat), .int .u8 (cOf r : Nat)]
def rowsN : Nat → List Value
  | 0 => []
  | n + 1 => rowsN n ++ rowC n
theorem rowsN_length : ∀ n, (rowsN n).length = 4 * n
  | 0 => rfl
  | n + 1 => by rw [rowsN, List.length_append, rowsN_length n]; show 4 * n + 4 = _; omega
theorem rowsN_get : ∀ {n r j : Nat} {v : Value}, r < n → (rowC r)[j]? = some v → (rowsN n)[4 * r + j]? = some v
  | 0, r, j, v, h, _ => by omega
  | n + 1, r, j, v, h, hv => by
    rw [rowsN]
    have hj : j < 4 := (List.getElem?_eq_some_iff.1 hv).1
    rcases Nat.lt_or_ge r n with h1 | h1
    · exact get_app (rowsN_get h1 hv)
    · have : r = n := by omega
      subst this
      exact app_get (rowsN_length r) j hv
def rowsV : List Value := rowsN 47
theorem hR : rowsV.length = 188 := rowsN_length 47

/-! ### a coder in memory -/
def crest (q : Nat) (nst n a c : Nat) (t : Int) (r : Nat) (bl bc : Nat) (done : Bool) : List Value :=
  [.slice (some ⟨q, 0, none⟩) nst nst, .int .i64 (n : Nat), .int .u32 (a : Nat), .int .u32 (c : Nat), .int .i64 t, .slice (some ⟨r, 0, none⟩) bl bc, .bool done]
def codE (p q r : Nat) (s : Cod) (rest : List Value) : Ent :=
  ⟨p, true, T_arith_Coder, rowsV ++ crest q s.st.length s.n s.a s.c (s.t : Nat) r (s.bs.length + 1) (s.bs.length + 1 + rest.length) s.done⟩
def codL (p q r : Nat) (s : Cod) (rest : List Value) : List Ent :=
  [codE p q r s rest, ⟨q, true, T_uint8, u8s s.st⟩, ⟨r, true, T_uint8, u8s (s.bs ++ [s.l]) ++ rest⟩]

abbrev CP : CallP := CallsHP Go.Proofs.Try.prog
abbrev at0 (p : Nat) : Option Addr := some ⟨p, 0, none⟩

theorem last_get (bs : List Nat) (l : Nat) (rest : List Value) : (u8s (bs ++ [l]) ++ rest)[bs.length]? = some (.int .u8 (l : Int)) := get_app (u8s_get (by simp))
theorem last_set (bs : List Nat) (l l' : Nat) (rest : List Value) : (u8s (bs ++ [l]) ++ rest).set bs.length (.int .u8 (l' : Int)) = u8s (bs ++ [l']) ++ rest := by
  rw [set_app (by rw [u8s_length]; simp), ← u8s_set]
  simp

theorem out_ok {h : Heap} {p q r : Nat} {s : Cod} {rest : List Value} {F : List Nat} {h0 : Heap} (H : Hp h0 F h (codL p q r s rest)) (hl : s.l < 256) (hc : s.c < 4294967296) (hb : s.bs.length < 1000000000)
    {K : Value → Heap → Prop} {Kp : List PanicEntry → Heap → Prop} (hk : ∀ r' rest' h', Hp h0 F h' (codL p q r' (outM s) rest') → K (.tuple #[]) h') :
    CP F_arith_Coder_out #[.pointer (at0 p)] h K Kp := by
  refine call_arith_Coder_out ?_
  unfold arith_Coder_out
  try simp only [ptr_some_eq, add_mk, Nat.zero_add, Nat.add_zero]
  refine ldS_of (H.cell 0 rfl (app_get hR 5 rfl)) ?_
  refine ldS_of (H.cell 0 rfl (app_get hR 5 rfl)) ?_
  refine bindI_of (((s.bs.length : Nat) : Int)) (by exact i64_at _ _ (by omega) (by omega) (by omega)) ?_
  refine needs_of (by constructor <;> omega) ?_
  try simp only [ptr_some_eq, add_mk, Nat.zero_add, Nat.add_zero]
  simp only [Int.toNat_natCast, Nat.mul_one]
  refine ⟨fun vs h' => vs = [] ∧ Hp h0 F h' (codL p q r (if s.l ≠ 255 ∧ 134217728 ≤ s.c then { s with l := s.l + 1, c := s.c % 134217728 } else s) rest), ?_, ?_⟩
  · refine ⟨fun vs h' => vs = [.bool (decide (s.l ≠ 255 ∧ 134217728 ≤ s.c))] ∧ h' = h, ?_, ?_⟩
    · refine ldI_of (H.cell 2 rfl (last_get _ _ _)) ?_
      refine bcase_of (fun h1 => ?_) fun h1 => ?_
      · refine ldI_of (H.cell 0 rfl (app_get hR 3 rfl)) ?_
        refine ⟨?_, rfl⟩
        have h1 : s.l ≠ 255 := by simp at h1; omega
        congr 2
        simp [h1]
        omega
      · refine ⟨?_, rfl⟩
        have h1 : s.l = 255 := by simp at h1; omega
        simp [h1]
    · rintro h' u x ⟨hx, rfl⟩
      injection hx with hx
      injection hx with hx
      subst hx
      refine bcase_of (fun h1 => ?_) fun h1 => ?_
      · have h1 : s.l ≠ 255 ∧ 134217728 ≤ s.c := of_decide_eq_true h1
        refine ldI_of (H.cell 2 rfl (last_get _ _ _)) ?_
        refine bindI_of (((s.l + 1 : Nat) : Int)) (by rw [← u8_in (s.l + 1) (by omega)]; rfl) ?_
        refine stV_hp H 2 rfl (by simp [u8s_length]; omega) rfl fun h hsz H => ?_
        rw [last_set] at H
        refine ldI_of (H.cell 0 rfl (app_get hR 3 rfl)) ?_
        refine bindI_of (((s.c % 134217728 : Nat) : Int)) (by exact (and32 _ 134217727 (by omega) (by omega)).trans (by congr 1; exact Nat.and_two_pow_sub_one_eq_mod s.c 27)) ?_
        refine stV_hr H 0 rfl hR 3 (Nat.le_of_ble_eq_true rfl) rfl fun h hsz H => ?_
        refine ⟨rfl, ?_⟩
        rw [if_pos h1]
        exact H
      · have h1 : ¬ (s.l ≠ 255 ∧ 134217728 ≤ s.c) := of_decide_eq_false h1
        refine ⟨rfl, ?_⟩
        rw [if_neg h1]
        exact H
  · rintro h' u ⟨_, H'⟩
    have e : outM s = outTail (if s.l ≠ 255 ∧ 134217728 ≤ s.c then { s with l := s.l + 1, c := s.c % 134217728 } else s) (if s.l ≠ 255 ∧ 134217728 ≤ s.c then { s with l := s.l + 1, c := s.c % 134217728 } else s).l (if s.l ≠ 255 ∧ 134217728 ≤ s.c then { s with l := s.l + 1, c := s.c % 134217728 } else s).c := by
      unfold outM; split <;> rfl
    have hs' : (if s.l ≠ 255 ∧ 134217728 ≤ s.c then { s with l := s.l + 1, c := s.c % 134217728 } else s).l < 256 ∧ (if s.l ≠ 255 ∧ 134217728 ≤ s.c then { s with l := s.l + 1, c := s.c % 134217728 } else s).c < 4294967296 ∧ (if s.l ≠ 255 ∧ 134217728 ≤ s.c then { s with l := s.l + 1, c := s.c % 134217728 } else s).bs = s.bs := by
      split
      · exact ⟨by show s.l + 1 < 256; omega, by show s.c % 134217728 < _; omega, rfl⟩
      · exact ⟨hl, hc, rfl⟩
    generalize (if s.l ≠ 255 ∧ 134217728 ≤ s.c then { s with l := s.l + 1, c := s.c % 134217728 } else s) = s' at e hs' H'
    clear H
    obtain ⟨hl', hc', hb'⟩ := hs'
    rw [e] at hk
    rw [← hb'] at hb ⊢
    have H := H'
    clear H'
    refine ⟨fun vs h'' => vs = [.int .i64 ((if s'.l = 255 then 20 else 19 : Nat) : Int)] ∧ h'' = h', ?_, ?_⟩
    · refine ldI_of (H.cell 2 rfl (last_get _ _ _)) ?_
      refine bcase_of (fun h1 => ?_) fun h1 => ?_
      · refine bindI_of ((19 : Int)) (by decide) ?_
        have h1 : s'.l ≠ 255 := by simp at h1; omega
        exact ⟨by rw [if_neg h1]; rfl, rfl⟩
      · have h1 : s'.l = 255 := by simp at h1; omega
        exact ⟨by rw [if_pos h1]; rfl, rfl⟩
    · rintro h'' u x ⟨hx, rfl⟩
      injection hx with hx
      injection hx with _ hx
      have hn : ∃ i : Nat, (i = 20 ∧ s'.l = 255 ∨ i = 19 ∧ s'.l ≠ 255) ∧ x = ((i : Nat) : Int) := by
        by_cases h1 : s'.l = 255
        · rw [if_pos h1] at hx; exact ⟨20, .inl ⟨rfl, h1⟩, hx⟩
        · rw [if_neg h1] at hx; exact ⟨19, .inr ⟨rfl, h1⟩, hx⟩
      clear hx
      obtain ⟨i, hi, rfl⟩ := hn
      have hi20 : i ≤ 20 := by omega
      have hi0 : 19 ≤ i := by omega
      refine ldS_of (H.cell 0 rfl (app_get hR 5 rfl)) ?_
      refine ldI_of (H.cell 0 rfl (app_get hR 3 rfl)) ?_
      refine needs_of (by omega) ?_
      refine bindI_of (((s'.c / 2 ^ i : Nat) : Int)) (by exact shr_of (by show i ≤ 32; omega)) ?_
      refine bindI_of (((s'.c / 2 ^ i % 256 : Nat) : Int)) (by rw [IntKind.wrap_u8]; omega) ?_
      refine newC_hp H fun b h H => ?_
      refine appC_own H 2 rfl (xs := u8s (s'.bs ++ [s'.l])) (by rw [u8s_length]; simp) (by rw [List.length_append, u8s_length]; simp) (rdO_hp (o := 0) (n := 1 * 1) H 3 rfl (Nat.le_refl _)) rfl (fun v hv => by rw [List.mem_singleton.1 hv]; rfl) (by omega) fun r' rest' h H => ?_
      refine stV_hr H 0 rfl hR 5 (Nat.le_of_ble_eq_true rfl) rfl fun h hsz H => ?_
      refine needs_of (by omega) ?_
      have hp : (2 : Nat) ^ i < 4294967296 := by rcases hi with ⟨rfl, _⟩ | ⟨rfl, _⟩ <;> decide
      have hp0 : 0 < (2 : Nat) ^ i := Nat.two_pow_pos i
      refine bindI_of (((2 ^ i : Nat) : Int)) (by exact shl_of (x := 1) (by show i ≤ 32; omega) (by rw [Nat.one_mul]; exact u32_in _ hp)) ?_
      refine bindI_of (((2 ^ i - 1 : Nat) : Int)) (by exact u32_at _ _ (by omega) (by omega)) ?_
      refine ldI_of (H.cell 0 rfl (app_get hR 3 rfl)) ?_
      refine bindI_of (((s'.c % 2 ^ i : Nat) : Int)) (by exact (and32 _ _ hc' (by omega)).trans (by rw [Nat.and_two_pow_sub_one_eq_mod])) ?_
      refine stV_hr H 0 rfl hR 3 (Nat.le_of_ble_eq_true rfl) rfl fun h hsz H => ?_
      refine bindI_of (((27 - i : Nat) : Int)) (by exact i64_at _ _ (by omega) (by omega) (by omega)) ?_
      refine stV_hr H 0 rfl hR 4 (Nat.le_of_ble_eq_true rfl) rfl fun h hsz H => ?_
      refine hk r' rest' _ ?_
      have H2 := H.take 3
      have e2 : outTail s' s'.l s'.c = { s' with bs := s'.bs ++ [s'.l], l := s'.c / 2 ^ i % 256, c := s'.c % 2 ^ i, t := 27 - i } := by
        unfold outTail
        rcases hi with ⟨rfl, h1⟩ | ⟨rfl, h1⟩
        · rw [if_pos h1]
        · rw [if_neg h1]
      rw [e2]
      refine H2.as ?_
      simp [codL, codE, crest, u8s]
      omega
/-! ### renew -/
theorem shiftM_eq (s : Cod) : shiftM s = if s.t - 1 = 0 then outM { s with a := 2 * s.a, c := 2 * s.c, t := s.t - 1 } else { s with a := 2 * s.a, c := 2 * s.c, t := s.t - 1 } := rfl
theorem renewM_succ (n : Nat) (s : Cod) : renewM (n + 1) s = if 0x8000 ≤ (shiftM s).a then shiftM s else renewM n (shiftM s) := rfl

theorem renew_ok {h : Heap} {p q r : Nat} {s : Cod} {rest : List Value} {F : List Nat} {h0 : Heap} (H : Hp h0 F h (codL p q r s rest)) (hs : Mid s) (ha : 1 ≤ s.a) (ha' : s.a < 0x8000) (hb : s.bs.length < 999999983)
    {K : Value → Heap → Prop} {Kp : List PanicEntry → Heap → Prop} (hk : ∀ r' rest' h', Hp h0 F h' (codL p q r' (renewM 17 s) rest') → K (.tuple #[]) h') :
    CP F_arith_Coder_renew #[.pointer (at0 p)] h K Kp := by
  refine call_arith_Coder_renew ?_
  unfold arith_Coder_renew
  refine ⟨fun n vs h' => ∃ (s' : Cod) (r' : Nat) (rest' : List Value), Hp h0 F h' (codL p q r' s' rest') ∧ Mid s' ∧ s'.a < 0x8000 ∧ 0x8000 ≤ s'.a * 2 ^ n ∧ renewM n s' = renewM 17 s ∧ s'.bs.length + n < 1000000000,
    ⟨17, s, r, rest, H, hs, ha', by have : (2 : Nat) ^ 17 = 131072 := rfl; omega, rfl, by omega⟩, ?_⟩
  clear H
  rintro n h u ⟨s', r', rest', H, hm, hlt, hge, he, hbn⟩
  obtain ⟨n, rfl⟩ : ∃ m, n = m + 1 := by
    cases n with
    | zero => simp at hge; omega
    | succ m => exact ⟨m, rfl⟩
  have ht1 := hm.t1
  have ht2 := hm.t12
  have hca := hm.ca
  have hcp := pow_le ht1
  obtain ⟨g1, g2, g3, g4, g5, g6⟩ := shiftM_mid hm hlt
  have hnext : 0x8000 ≤ (shiftM s').a * 2 ^ n := by
    rw [g2]
    rw [Nat.pow_succ] at hge
    have : s'.a * (2 ^ n * 2) = 2 * s'.a * 2 ^ n := by rw [Nat.mul_comm (2 ^ n) 2, ← Nat.mul_assoc, Nat.mul_comm s'.a 2]
    omega
  rw [renewM_succ] at he
  try simp only [ptr_some_eq, add_mk, Nat.zero_add, Nat.add_zero]
  refine ldI_of (H.cell 0 rfl (app_get hR 2 rfl)) ?_
  refine bindI_of (((2 * s'.a : Nat) : Int)) (by exact shl_of (i := 1) (by decide) ((u32_in _ (by omega)).trans (by omega))) ?_
  refine stV_hr H 0 rfl hR 2 (Nat.le_of_ble_eq_true rfl) rfl fun h hsz H => ?_
  refine ldI_of (H.cell 0 rfl (app_get hR 3 rfl)) ?_
  refine bindI_of (((2 * s'.c : Nat) : Int)) (by exact shl_of (i := 1) (by decide) ((u32_in _ (by omega)).trans (by omega))) ?_
  refine stV_hr H 0 rfl hR 3 (Nat.le_of_ble_eq_true rfl) rfl fun h hsz H => ?_
  refine ldI_of (H.cell 0 rfl (app_get hR 4 rfl)) ?_
  refine bindI_of (((s'.t - 1 : Nat) : Int)) (by exact i64_at _ _ (by omega) (by omega) (by omega)) ?_
  refine stV_hr H 0 rfl hR 4 (Nat.le_of_ble_eq_true rfl) rfl fun h hsz H => ?_
  refine ldI_of (H.cell 0 rfl (app_get hR 4 rfl)) ?_
  refine bcase_of (fun h1 => ?_) fun h1 => ?_
  · have h1 : s'.t - 1 = 0 := by simp at h1; omega
    rw [shiftM_eq, if_pos h1] at g1 g2 g3 g4 g5 g6 hnext he
    have H2 : Hp h0 F _ (codL p q r' { s' with a := 2 * s'.a, c := 2 * s'.c, t := s'.t - 1 } rest') := H
    refine out_ok H2 hm.l (by show 2 * s'.c < _; omega) (by show s'.bs.length < _; omega) fun r2 rest2 h2 H => ?_
    refine ldI_of (H.cell 0 rfl (app_get hR 2 rfl)) ?_
    refine bcase_of (fun h3 => ?_) fun h3 => ?_
    · have h3 : 0x8000 ≤ (outM { s' with a := 2 * s'.a, c := 2 * s'.c, t := s'.t - 1 }).a := by simp at h3; omega
      rw [if_pos h3] at he
      exact hk r2 rest2 _ (he ▸ H)
    · have h3 : ¬ 0x8000 ≤ (outM { s' with a := 2 * s'.a, c := 2 * s'.c, t := s'.t - 1 }).a := by simp at h3; omega
      rw [if_neg h3] at he
      exact ⟨n, Nat.lt_succ_self n, _, r2, rest2, H, g1, by omega, hnext, he, by omega⟩
  · have h1 : ¬ s'.t - 1 = 0 := by simp at h1; omega
    rw [shiftM_eq, if_neg h1] at g1 g2 g3 g4 g5 g6 hnext he
    have H2 : Hp h0 F _ (codL p q r' { s' with a := 2 * s'.a, c := 2 * s'.c, t := s'.t - 1 } rest') := H
    refine ldI_of (H.cell 0 rfl (app_get hR 2 rfl)) ?_
    refine bcase_of (fun h3 => ?_) fun h3 => ?_
    · have h3 : 0x8000 ≤ 2 * s'.a := by simp at h3; omega
      rw [if_pos h3] at he
      exact hk r' rest' _ (he ▸ H2)
    · have h3 : ¬ 0x8000 ≤ 2 * s'.a := by simp at h3; omega
      rw [if_neg h3] at he
      exact ⟨n, Nat.lt_succ_self n, _, r', rest', H2, g1, by omega, hnext, he, by show s'.bs.length + n < _; omega⟩

/-! ### a context's state -/
theorem likely_ok {h : Heap} {q i x : Nat} {st : List Nat} {F : List Nat} {h0 : Heap} {L : List Ent} (H : Hp h0 F h L) (k : Nat) (hq : L[k]? = some ⟨q, true, T_uint8, u8s st⟩) (hi : st[i]? = some x) (hx : x < 94) {a b c d : Int}
    (hb : b = (mOf (x / 2) : Nat)) {K : Value → Heap → Prop} {Kp : List PanicEntry → Heap → Prop} (hk : ∀ h', Hp h0 F h' (L.set k ⟨q, true, T_uint8, u8s (st.set i (upM x))⟩) → K (.tuple #[]) h') :
    CP F_arith_likely #[.pointer (some ⟨q, i, none⟩), .agg #[.int .u32 a, .int .u8 b, .int .u8 c, .int .u8 d]] h K Kp := by
  refine call_arith_likely ?_
  unfold arith_likely
  have hm := mOf_lt (r := x / 2) (by omega)
  have hkl : k < L.length := (List.getElem?_eq_some_iff.1 hq).1
  have hil : i < st.length := (List.getElem?_eq_some_iff.1 hi).1
  subst hb
  refine newC_hp H fun b h H => ?_
  have hq2 : (L ++ [(⟨b, true, T_arith_row, [.int .u32 a, .int .u8 (mOf (x / 2) : Nat), .int .u8 c, .int .u8 d]⟩ : Ent)])[k]? = some ⟨q, true, T_uint8, u8s st⟩ := by rw [List.getElem?_append_left hkl]; exact hq
  try simp only [ptr_some_eq, add_mk, Nat.zero_add, Nat.add_zero]
  refine ldI_of (H.cell L.length List.getElem?_concat_length rfl) ?_
  refine bindI_of (((2 * mOf (x / 2) : Nat) : Int)) (by exact shl_of (i := 1) (by decide) ((u8_in _ (by omega)).trans (by omega))) ?_
  refine ldI_of (H.cell k hq2 (u8s_get hi)) ?_
  refine bindI_of (((x % 2 : Nat) : Int)) (by exact (and8 _ 1 (by omega) (by omega)).trans (by rw [Nat.and_one_is_mod])) ?_
  refine bindI_of (((upM x : Nat) : Int)) (by exact (or8 _ _ (by omega) (by omega)).trans (by congr 1; exact (Nat.two_pow_add_eq_or_of_lt (i := 1) (by omega) _).symm)) ?_
  refine stV_hp H k hq2 (by rw [u8s_length]; exact hil) rfl fun h hsz H => ?_
  refine hk _ ?_
  have H2 := H.take L.length
  refine H2.as ?_
  rw [← u8s_set, List.set_append_left _ _ hkl, List.take_left' (by simp)]

theorem unlikely_ok {h : Heap} {q i x : Nat} {st : List Nat} {F : List Nat} {h0 : Heap} {L : List Ent} (H : Hp h0 F h L) (k : Nat) (hq : L[k]? = some ⟨q, true, T_uint8, u8s st⟩) (hi : st[i]? = some x) (hx : x < 94) {a b c d : Int}
    (hc : c = (lOf (x / 2) : Nat)) (hd : d = (cOf (x / 2) : Nat)) {K : Value → Heap → Prop} {Kp : List PanicEntry → Heap → Prop} (hk : ∀ h', Hp h0 F h' (L.set k ⟨q, true, T_uint8, u8s (st.set i (upL x))⟩) → K (.tuple #[]) h') :
    CP F_arith_unlikely #[.pointer (some ⟨q, i, none⟩), .agg #[.int .u32 a, .int .u8 b, .int .u8 c, .int .u8 d]] h K Kp := by
  refine call_arith_unlikely ?_
  unfold arith_unlikely
  have hm := lOf_lt (r := x / 2) (by omega)
  have hm2 := cOf_le (r := x / 2) (by omega)
  have hkl : k < L.length := (List.getElem?_eq_some_iff.1 hq).1
  have hil : i < st.length := (List.getElem?_eq_some_iff.1 hi).1
  subst hc hd
  refine newC_hp H fun b' h H => ?_
  have hq2 : (L ++ [(⟨b', true, T_arith_row, [.int .u32 a, .int .u8 b, .int .u8 (lOf (x / 2) : Nat), .int .u8 (cOf (x / 2) : Nat)]⟩ : Ent)])[k]? = some ⟨q, true, T_uint8, u8s st⟩ := by rw [List.getElem?_append_left hkl]; exact hq
  try simp only [ptr_some_eq, add_mk, Nat.zero_add, Nat.add_zero]
  refine ldI_of (H.cell L.length List.getElem?_concat_length rfl) ?_
  refine bindI_of (((2 * lOf (x / 2) : Nat) : Int)) (by exact shl_of (i := 1) (by decide) ((u8_in _ (by omega)).trans (by omega))) ?_
  refine ldI_of (H.cell k hq2 (u8s_get hi)) ?_
  refine bindI_of (((x % 2 : Nat) : Int)) (by exact (and8 _ 1 (by omega) (by omega)).trans (by rw [Nat.and_one_is_mod])) ?_
  refine bindI_of (((2 * lOf (x / 2) + x % 2 : Nat) : Int)) (by exact (or8 _ _ (by omega) (by omega)).trans (by congr 1; exact (Nat.two_pow_add_eq_or_of_lt (i := 1) (by omega) _).symm)) ?_
  refine ldI_of (H.cell L.length List.getElem?_concat_length rfl) ?_
  have hxor : (2 * lOf (x / 2) + x % 2) ^^^ cOf (x / 2) = upL x := by
    have e0 : x % 2 < 2 := Nat.mod_lt _ (by omega)
    unfold upL
    generalize lOf (x / 2) = l at hm ⊢
    generalize cOf (x / 2) = c at hm2 ⊢
    generalize x % 2 = y at e0 ⊢
    have : ∀ l ∈ List.range 47, ∀ y ∈ List.range 2, ∀ c ∈ List.range 2, (2 * l + y) ^^^ c = 2 * l + (y + c) % 2 := by decide
    exact this l (List.mem_range.2 hm) y (List.mem_range.2 e0) c (List.mem_range.2 (by omega))
  refine bindI_of (((upL x : Nat) : Int)) (by exact (xor8 _ _ (by omega) (by omega)).trans (by rw [hxor])) ?_
  refine stV_hp H k hq2 (by rw [u8s_length]; exact hil) rfl fun h hsz H => ?_
  refine hk _ ?_
  have H2 := H.take L.length
  refine H2.as ?_
  rw [← u8s_set, List.set_append_left _ _ hkl, List.take_left' (by simp)]

/-! ### the context's place -/
def idx (ctx : Int) (n : Nat) : Nat := (ctx % (n : Int)).toNat
theorem idx_lt (ctx : Int) {n : Nat} (hn : 1 ≤ n) : idx ctx n < n := by
  unfold idx
  have h1 := Int.emod_nonneg ctx (b := (n : Int)) (by omega)
  have h2 := Int.emod_lt_of_pos ctx (b := (n : Int)) (by omega)
  omega
theorem tmod_abs (ctx : Int) {n : Nat} (hn : 1 ≤ n) : -(n : Int) < ctx.tmod n ∧ ctx.tmod n < n := by
  constructor
  · have h1 := Int.lt_tmod_of_pos ctx (b := (n : Int)) (by omega)
    exact h1
  · exact Int.tmod_lt_of_pos ctx (by omega)
theorem idx_eq (ctx : Int) {n : Nat} (hn : 1 ≤ n) : (ctx.tmod n + n).tmod n = ((idx ctx n : Nat) : Int) := by
  have h1 := Int.emod_nonneg ctx (b := (n : Int)) (by omega)
  have h3 := tmod_abs ctx hn
  have e1 : ((idx ctx n : Nat) : Int) = ctx % n := by unfold idx; omega
  rw [e1, Int.tmod_eq_emod_of_nonneg (by omega), Int.add_emod_right, Int.tmod_eq_emod]
  split
  · rw [show ((0 : Nat) : Int) = 0 from rfl, Int.sub_zero, Int.emod_emod_of_dvd _ (Int.dvd_refl _)]
  · have : ((n : Int).natAbs : Int) = n := by omega
    rw [this, Int.sub_emod_right, Int.emod_emod_of_dvd _ (Int.dvd_refl _)]

theorem at_ok {h : Heap} {p q : Nat} {st : List Nat} {F : List Nat} {h0 : Heap} {L : List Ent} (H : Hp h0 F h L) (kp kq : Nat) {w : Bool} {t : TypeId} {T : List Value} (hp : L[kp]? = some ⟨p, w, t, rowsV ++ (.slice (some ⟨q, 0, none⟩) st.length st.length :: T)⟩)
    (hq : L[kq]? = some ⟨q, true, T_uint8, u8s st⟩) (hn : 1 ≤ st.length) (hn2 : st.length ≤ 131072) (hst : ∀ x ∈ st, x < 94) {ctx : Int} {K : Value → Heap → Prop} {Kp : List PanicEntry → Heap → Prop}
    (hk : ∀ h' x, st[idx ctx st.length]? = some x → x < 94 → Hp h0 F h' L → K (.tuple #[.pointer (some ⟨q, idx ctx st.length, none⟩), .agg #[.int .u32 (qOf (x / 2) : Nat), .int .u8 (mOf (x / 2) : Nat), .int .u8 (lOf (x / 2) : Nat), .int .u8 (cOf (x / 2) : Nat)]]) h') :
    CP F_arith_table_at #[.pointer (at0 p), .int .i64 ctx] h K Kp := by
  refine call_arith_table_at ?_
  unfold arith_table_at
  have hi := idx_lt ctx hn
  have habs := tmod_abs ctx hn
  obtain ⟨x, hx⟩ : ∃ x, st[idx ctx st.length]? = some x := ⟨_, List.getElem?_eq_getElem hi⟩
  have hx94 : x < 94 := hst x (List.mem_of_getElem? hx)
  have hkp : kp < L.length := (List.getElem?_eq_some_iff.1 hp).1
  have hkq : kq < L.length := (List.getElem?_eq_some_iff.1 hq).1
  refine newC_hp H fun b h H => ?_
  have hp2 : ∀ e, (L ++ [e])[kp]? = some ⟨p, w, t, rowsV ++ (.slice (some ⟨q, 0, none⟩) st.length st.length :: T)⟩ := fun e => by rw [List.getElem?_append_left hkp]; exact hp
  have hq2 : ∀ e, (L ++ [e])[kq]? = some ⟨q, true, T_uint8, u8s st⟩ := fun e => by rw [List.getElem?_append_left hkq]; exact hq
  try simp only [ptr_some_eq, add_mk, Nat.zero_add, Nat.add_zero]
  refine ldS_of (H.cell kp (hp2 _) (app_get hR 0 rfl)) ?_
  refine needs_of (by exact ⟨trivial, by omega⟩) ?_
  refine bindI_gen fun z6 e6 => ?_
  subst e6
  refine bindI_of (ctx.tmod st.length + st.length) (i64_in _ (by omega) (by omega)) ?_
  refine needs_of (by exact ⟨trivial, by omega⟩) ?_
  refine bindI_of _ (idx_eq ctx hn) ?_
  refine ldS_of (H.cell kp (hp2 _) (app_get hR 0 rfl)) ?_
  refine needs_of (by omega) ?_
  simp only [Int.toNat_natCast, Nat.mul_one]
  try simp only [ptr_some_eq, add_mk, Nat.zero_add, Nat.add_zero]
  refine ldI_of (H.cell kq (hq2 _) (u8s_get hx)) ?_
  refine bindI_of (((x / 2 : Nat) : Int)) (by exact shr_of (i := 1) (by decide)) ?_
  refine needs_of (by omega) ?_
  simp only [Int.toNat_natCast]
  have hr : x / 2 < 47 := by omega
  have hrow : ∀ j v, (rowC (x / 2))[j]? = some v → (rowsV ++ (.slice (some ⟨q, 0, none⟩) st.length st.length :: T))[x / 2 * 4 + j]? = some v := fun j v hv => get_app (by rw [Nat.mul_comm]; exact rowsN_get hr hv)
  refine ldI_of (H.cell kp (hp2 _) (hrow 0 _ rfl)) ?_
  refine ldI_of (H.cell kp (hp2 _) (hrow 1 _ rfl)) ?_
  refine ldI_of (H.cell kp (hp2 _) (hrow 2 _ rfl)) ?_
  refine ldI_of (H.cell kp (hp2 _) (hrow 3 _ rfl)) ?_
  refine stV_hp H L.length List.getElem?_concat_length (by simp) rfl fun h hsz H => ?_
  simp only [List.set_append_right _ _ (Nat.le_refl _), Nat.sub_self, List.set_cons_zero, List.set_cons_succ] at H
  refine stV_hp H L.length List.getElem?_concat_length (by simp) rfl fun h hsz H => ?_
  simp only [List.set_append_right _ _ (Nat.le_refl _), Nat.sub_self, List.set_cons_zero, List.set_cons_succ] at H
  refine stV_hp H L.length List.getElem?_concat_length (by simp) rfl fun h hsz H => ?_
  simp only [List.set_append_right _ _ (Nat.le_refl _), Nat.sub_self, List.set_cons_zero, List.set_cons_succ] at H
  refine stV_hp H L.length List.getElem?_concat_length (by simp) rfl fun h hsz H => ?_
  simp only [List.set_append_right _ _ (Nat.le_refl _), Nat.sub_self, List.set_cons_zero, List.set_cons_succ] at H
  refine ldI_of (H.cell L.length List.getElem?_concat_length rfl) ?_
  refine ldI_of (H.cell L.length List.getElem?_concat_length rfl) ?_
  refine ldI_of (H.cell L.length List.getElem?_concat_length rfl) ?_
  refine ldI_of (H.cell L.length List.getElem?_concat_length rfl) ?_
  exact hk _ x hx hx94 ((H.take L.length).as (List.take_left' rfl))

/-! ### Put -/
theorem getD_of {st : List Nat} {k x : Nat} (h : st[k]? = some x) : st.getD k 0 = x := by rw [List.getD_eq_getElem?_getD, h]; rfl

theorem putM_at (s : Cod) (k bit x : Nat) (hx : s.st[k]? = some x) : putM s k bit =
  if bit = x % 2 then
    if 0x8000 ≤ s.a - qOf (x / 2) then { s with a := s.a - qOf (x / 2), c := s.c + qOf (x / 2), n := s.n + 1 }
    else if s.a - qOf (x / 2) < qOf (x / 2) then renewM 17 { s with a := qOf (x / 2), n := s.n + 1, st := s.st.set k (upM x) }
    else renewM 17 { s with a := s.a - qOf (x / 2), c := s.c + qOf (x / 2), n := s.n + 1, st := s.st.set k (upM x) }
  else
    if s.a - qOf (x / 2) < qOf (x / 2) then renewM 17 { s with a := s.a - qOf (x / 2), c := s.c + qOf (x / 2), n := s.n + 1, st := s.st.set k (upL x) }
    else renewM 17 { s with a := qOf (x / 2), n := s.n + 1, st := s.st.set k (upL x) } := by
  rw [← getD_of hx]; rfl
theorem put_ok {h : Heap} {p q r : Nat} {s : Cod} {rest : List Value} {F : List Nat} {h0 : Heap} (H : Hp h0 F h (codL p q r s rest)) (hs : Wf s) (hd : s.done = false) (hn : s.n < 16777216) (hl : 1 ≤ s.st.length) (hl2 : s.st.length ≤ 131072)
    {ctx : Int} {bit : Nat} (hbit : bit ≤ 1) {K : Value → Heap → Prop} {Kp : List PanicEntry → Heap → Prop} (hk : ∀ r' rest' h', Hp h0 F h' (codL p q r' (putM s (idx ctx s.st.length) bit) rest') → K (.int .i64 0) h') :
    CP F_arith_Coder_Put #[.pointer (at0 p), .int .i64 ctx, .int .i64 (bit : Nat)] h K Kp := by
  refine call_arith_Coder_Put ?_
  unfold arith_Coder_Put
  refine ⟨fun vs h' => h' = h, ?_, ?_⟩
  · try simp only [ptr_some_eq, add_mk, Nat.zero_add, Nat.add_zero]
    refine ldB_of (H.cell 0 rfl (app_get hR 6 (congrArg (fun b => some (Value.bool b)) hd))) ?_
    refine bcase_false (by rfl) ?_
    refine bcase_of (fun h1 => ?_) fun h1 => ?_
    · refine bcase_of (fun h2 => ?_) fun h2 => ?_
      · simp at h1 h2; omega
      · refine ldI_of (H.cell 0 rfl (app_get hR 1 rfl)) ?_
        refine bcase_false (by simp; omega) ?_
        trivial
    · refine ldI_of (H.cell 0 rfl (app_get hR 1 rfl)) ?_
      refine bcase_false (by simp; omega) ?_
      trivial
  · rintro h' u rfl
    try simp only [ptr_some_eq, add_mk, Nat.zero_add, Nat.add_zero]
    refine ldI_of (H.cell 0 rfl (app_get hR 1 rfl)) ?_
    refine bindI_of (((s.n + 1 : Nat) : Int)) (by exact i64_at _ _ (by omega) (by omega) (by omega)) ?_
    refine stV_hr H 0 rfl hR 1 (Nat.le_of_ble_eq_true rfl) rfl fun h hsz H => ?_
    refine at_ok H 0 1 rfl rfl hl hl2 hs.st fun h x hx hx94 H => ?_
    refine ⟨_, _, _, _, _, rfl, ?_⟩
    refine newC_hp H fun b h H => ?_
    try simp only [ptr_some_eq, add_mk, Nat.zero_add, Nat.add_zero]
    refine stV_hp H 3 rfl (by first | exact Nat.le_of_ble_eq_true rfl | simp) rfl fun h hsz H => ?_
    refine stV_hp H 3 rfl (by first | exact Nat.le_of_ble_eq_true rfl | simp) rfl fun h hsz H => ?_
    refine stV_hp H 3 rfl (by first | exact Nat.le_of_ble_eq_true rfl | simp) rfl fun h hsz H => ?_
    refine stV_hp H 3 rfl (by first | exact Nat.le_of_ble_eq_true rfl | simp) rfl fun h hsz H => ?_
    refine ldI_of (H.cell 0 rfl (app_get hR 2 rfl)) ?_
    refine ldI_of (H.cell 3 rfl rfl) ?_
    have hr : x / 2 < 47 := by omega
    have hq1 := qOf_pos hr
    have hq2 := qOf_le hr
    have hlo := hs.lo
    have hhi := hs.hi
    have hca := hs.ca
    have hcp := pow_le hs.t1
    have hlen := hs.len
    have hM := set_lt hs.st (k := idx ctx s.st.length) (upM_lt hx94)
    have hL := set_lt hs.st (k := idx ctx s.st.length) (upL_lt hx94)
    rw [putM_at s _ bit x hx] at hk
    refine bindI_of (((s.a - qOf (x / 2) : Nat) : Int)) (by exact u32_at _ _ (by omega) (by omega)) ?_
    refine stV_hr H 0 rfl hR 2 (Nat.le_of_ble_eq_true rfl) rfl fun h hsz H => ?_
    refine ldI_of (H.cell 1 rfl (u8s_get hx)) ?_
    refine bindI_of (((x % 2 : Nat) : Int)) (by exact (and8 _ 1 (by omega) (by omega)).trans (by rw [Nat.and_one_is_mod])) ?_
    refine bindI_of (((x % 2 : Nat) : Int)) (by exact i64_in _ (by omega) (by omega)) ?_
    refine bcase_of (fun h1 => ?_) fun h1 => ?_
    · have h1 : bit = x % 2 := by simp at h1; omega
      rw [if_pos h1] at hk
      refine ldI_of (H.cell 0 rfl (app_get hR 2 rfl)) ?_
      refine bcase_of (fun h2 => ?_) fun h2 => ?_
      · have h2 : 0x8000 ≤ s.a - qOf (x / 2) := by simp at h2; omega
        rw [if_pos h2] at hk
        refine ldI_of (H.cell 0 rfl (app_get hR 3 rfl)) ?_
        refine ldI_of (H.cell 3 rfl rfl) ?_
        refine bindI_of (((s.c + qOf (x / 2) : Nat) : Int)) (by exact u32_at _ _ (by omega) (by omega)) ?_
        refine stV_hr H 0 rfl hR 3 (Nat.le_of_ble_eq_true rfl) rfl fun h hsz H => ?_
        exact hk r rest _ (H.take 3)
      · have h2 : ¬ 0x8000 ≤ s.a - qOf (x / 2) := by simp at h2; omega
        rw [if_neg h2] at hk
        refine ldI_of (H.cell 0 rfl (app_get hR 2 rfl)) ?_
        refine ldI_of (H.cell 3 rfl rfl) ?_
        refine bcase_of (fun h3 => ?_) fun h3 => ?_
        · have h3 : s.a - qOf (x / 2) < qOf (x / 2) := by simp at h3; omega
          rw [if_pos h3] at hk
          refine ldI_of (H.cell 3 rfl rfl) ?_
          refine stV_hr H 0 rfl hR 2 (Nat.le_of_ble_eq_true rfl) rfl fun h hsz H => ?_
          refine ldI_of (H.cell 3 rfl rfl) ?_
          refine ldI_of (H.cell 3 rfl rfl) ?_
          refine ldI_of (H.cell 3 rfl rfl) ?_
          refine ldI_of (H.cell 3 rfl rfl) ?_
          refine likely_ok H 1 rfl hx hx94 rfl fun h H => ?_
          have H2 : Hp h0 F h (codL p q r { s with a := qOf (x / 2), n := s.n + 1, st := s.st.set (idx ctx s.st.length) (upM x) } rest) := (H.take 3).as (by simp [codL, codE, crest])
          exact renew_ok H2 ⟨hs.t1, hs.t12, by show s.c + qOf _ < 2 ^ (28 - s.t); omega, hs.l, hs.bs, hM⟩ hq1 (by show qOf _ < _; omega) (by show s.bs.length < _; omega) hk
        · have h3 : ¬ s.a - qOf (x / 2) < qOf (x / 2) := by simp at h3; omega
          rw [if_neg h3] at hk
          refine ldI_of (H.cell 0 rfl (app_get hR 3 rfl)) ?_
          refine ldI_of (H.cell 3 rfl rfl) ?_
          refine bindI_of (((s.c + qOf (x / 2) : Nat) : Int)) (by exact u32_at _ _ (by omega) (by omega)) ?_
          refine stV_hr H 0 rfl hR 3 (Nat.le_of_ble_eq_true rfl) rfl fun h hsz H => ?_
          refine ldI_of (H.cell 3 rfl rfl) ?_
          refine ldI_of (H.cell 3 rfl rfl) ?_
          refine ldI_of (H.cell 3 rfl rfl) ?_
          refine ldI_of (H.cell 3 rfl rfl) ?_
          refine likely_ok H 1 rfl hx hx94 rfl fun h H => ?_
          have H2 : Hp h0 F h (codL p q r { s with a := s.a - qOf (x / 2), c := s.c + qOf (x / 2), n := s.n + 1, st := s.st.set (idx ctx s.st.length) (upM x) } rest) := (H.take 3).as (by simp [codL, codE, crest])
          exact renew_ok H2 ⟨hs.t1, hs.t12, by show s.c + qOf _ + (s.a - qOf _) < 2 ^ (28 - s.t); omega, hs.l, hs.bs, hM⟩ (by show 1 ≤ s.a - qOf _; omega) (by show s.a - qOf _ < _; omega) (by show s.bs.length < _; omega) hk
    · have h1 : ¬ bit = x % 2 := by simp at h1; omega
      rw [if_neg h1] at hk
      refine ldI_of (H.cell 0 rfl (app_get hR 2 rfl)) ?_
      refine ldI_of (H.cell 3 rfl rfl) ?_
      refine bcase_of (fun h3 => ?_) fun h3 => ?_
      · have h3 : s.a - qOf (x / 2) < qOf (x / 2) := by simp at h3; omega
        rw [if_pos h3] at hk
        refine ldI_of (H.cell 0 rfl (app_get hR 3 rfl)) ?_
        refine ldI_of (H.cell 3 rfl rfl) ?_
        refine bindI_of (((s.c + qOf (x / 2) : Nat) : Int)) (by exact u32_at _ _ (by omega) (by omega)) ?_
        refine stV_hr H 0 rfl hR 3 (Nat.le_of_ble_eq_true rfl) rfl fun h hsz H => ?_
        refine ldI_of (H.cell 3 rfl rfl) ?_
        refine ldI_of (H.cell 3 rfl rfl) ?_
        refine ldI_of (H.cell 3 rfl rfl) ?_
        refine ldI_of (H.cell 3 rfl rfl) ?_
        refine unlikely_ok H 1 rfl hx hx94 rfl rfl fun h H => ?_
        have H2 : Hp h0 F h (codL p q r { s with a := s.a - qOf (x / 2), c := s.c + qOf (x / 2), n := s.n + 1, st := s.st.set (idx ctx s.st.length) (upL x) } rest) := (H.take 3).as (by simp [codL, codE, crest])
        exact renew_ok H2 ⟨hs.t1, hs.t12, by show s.c + qOf _ + (s.a - qOf _) < 2 ^ (28 - s.t); omega, hs.l, hs.bs, hL⟩ (by show 1 ≤ s.a - qOf _; omega) (by show s.a - qOf _ < _; omega) (by show s.bs.length < _; omega) hk
      · have h3 : ¬ s.a - qOf (x / 2) < qOf (x / 2) := by simp at h3; omega
        rw [if_neg h3] at hk
        refine ldI_of (H.cell 3 rfl rfl) ?_
        refine stV_hr H 0 rfl hR 2 (Nat.le_of_ble_eq_true rfl) rfl fun h hsz H => ?_
        refine ldI_of (H.cell 3 rfl rfl) ?_
        refine ldI_of (H.cell 3 rfl rfl) ?_
        refine ldI_of (H.cell 3 rfl rfl) ?_
        refine ldI_of (H.cell 3 rfl rfl) ?_
        refine unlikely_ok H 1 rfl hx hx94 rfl rfl fun h H => ?_
        have H2 : Hp h0 F h (codL p q r { s with a := qOf (x / 2), n := s.n + 1, st := s.st.set (idx ctx s.st.length) (upL x) } rest) := (H.take 3).as (by simp [codL, codE, crest])
        exact renew_ok H2 ⟨hs.t1, hs.t12, by show s.c + qOf _ < 2 ^ (28 - s.t); omega, hs.l, hs.bs, hL⟩ hq1 (by show qOf _ < _; omega) (by show s.bs.length < _; omega) hk

end Go.Ar

/- ArC: New, Flush and States of a coder: what they do in memory. -/
set_option linter.unusedVariables false
set_option linter.unusedSimpArgs false
namespace Go.Ar
open Go Go.Den Go.Den.Yteakipgcanafoaa

set_option maxRecDepth 100000 in
theorem rows_ok {h : Heap} {K : Value → Heap → Prop} {Kp : List PanicEntry → Heap → Prop} (hk : ∀ h', hext h h' → K (.agg rowsV.toArray) h') : CP F_arith_rows #[] h K Kp := by
  refine call_arith_rows ?_
  unfold arith_rows
  have H := Hp.nil h []
  refine newC_hp H fun r h H => ?_
  refine stVs_all H 0 rfl (by kernel_rfl) (List.all_eq_true.1 (by kernel_rfl)) fun h' hsz H' => ?_
  refine ldAll_hp H' 0 rfl (by kernel_rfl) ?_
  have key : ∀ X, X = rowsV → K (.agg X.toArray) h' := fun X e => e ▸ hk _ H'.hext
  refine key _ ?_
  kernel_rfl

def tabV (q n : Nat) : List Value := rowsV ++ [.slice (some ⟨q, 0, none⟩) n n, .int .i64 0]
theorem tab_eq (q n : Nat) : putL (putL Z_arith_table 0 rowsV) 188 [.slice (some ⟨q, 0, none⟩) n n] = tabV q n := by kernel_rfl
theorem tab_length (q n : Nat) : (tabV q n).length = 190 := by kernel_rfl
theorem rows_cells : ∀ n, (rowsN n).all Value.oneCell' = true
  | 0 => rfl
  | n + 1 => by rw [rowsN, List.all_append, rows_cells n]; rfl
theorem tab_cells (q n : Nat) : ∀ v ∈ tabV q n, v.oneCell' = true := List.all_eq_true.1 (by unfold tabV; rw [List.all_append]; unfold rowsV; rw [rows_cells]; rfl)
theorem u8s_zero (n : Nat) : repZ [.int .u8 0] n = u8s (List.replicate n 0) := by rw [repZ_one]; simp [u8s]

set_option maxRecDepth 100000 in
theorem made_ok {h : Heap} {n : Nat} (h1 : 1 ≤ n) (h2 : n ≤ 131072) {K : Value → Heap → Prop} {Kp : List PanicEntry → Heap → Prop}
    (hk : ∀ q h', Hp h [] h' [⟨q, true, T_uint8, u8s (List.replicate n 0)⟩] → K (.tuple #[.agg (tabV q n).toArray, .bool true]) h') : CP F_arith_made #[.int .i64 (n : Nat)] h K Kp := by
  refine call_arith_made ?_
  unfold arith_made
  have H := Hp.nil h []
  refine newC_hp H fun r h H => ?_
  refine bcase_false (by simp; omega) ?_
  refine bcase_false (by simp; omega) ?_
  refine ⟨rows_ok fun h2 e => ?_, ?_⟩
  · refine ⟨rowsV, hR, rfl, e, ?_⟩
    have H := H.ext e
    refine needs_of (by simp; omega) ?_
    simp only [Int.toNat_natCast, u8s_zero]
    refine newC_hp H fun q h H => ?_
    refine needs_of ⟨hR, by decide⟩ ?_
    refine needs_of (by exact ⟨rfl, by rw [putL_length]; decide⟩) ?_
    refine needs_of (by rw [tab_eq]; exact tab_length q n) ?_
    rw [tab_eq]
    refine stVs_all H 0 rfl (tab_length q n) (tab_cells q n) fun h' hsz H => ?_
    refine ldAll_hp H 0 rfl (tab_length q n) ?_
    exact hk q _ (H.pick [1] (by decide) rfl)
  · refine needs_of (by simp; omega) ?_
    simp only [Int.toNat_natCast, u8s_zero]
    refine newC_hp H fun q h H => ?_
    refine rows_ok fun h2 e => ?_
    refine ⟨rowsV, hR, rfl, e, ?_⟩
    have H := H.ext e
    refine needs_of ⟨hR, by decide⟩ ?_
    refine needs_of (by exact ⟨rfl, by rw [putL_length]; decide⟩) ?_
    refine needs_of (by rw [tab_eq]; exact tab_length q n) ?_
    rw [tab_eq]
    refine stVs_all H 0 rfl (tab_length q n) (tab_cells q n) fun h' hsz H => ?_
    refine ldAll_hp H 0 rfl (tab_length q n) ?_
    exact hk q _ (H.pick [1] (by decide) rfl)

theorem new_eq (q r n : Nat) : putL (putL (putL (putL Z_arith_Coder 0 (tabV q n)) 190 ([.int .u32 32768] : List Value)) 192 ([.int .i64 12] : List Value)) 193 ([.slice (some ⟨r, 0, none⟩) 1 1] : List Value) = rowsV ++ crest q n 0 0x8000 0 12 r 1 1 false := by kernel_rfl

set_option maxRecDepth 100000 in
theorem new_ok {h : Heap} {n : Nat} (h1 : 1 ≤ n) (h2 : n ≤ 131072) {K : Value → Heap → Prop} {Kp : List PanicEntry → Heap → Prop}
    (hk : ∀ p q r h', Hp h [] h' (codL p q r (newC n) []) → K (.tuple #[.pointer (at0 p), .int .i64 0]) h') : CP F_arith_New #[.int .i64 (n : Nat)] h K Kp := by
  refine call_arith_New ?_
  unfold arith_New
  refine made_ok h1 h2 fun q h' H => ?_
  refine ⟨tabV q n, tab_length q n, true, rfl, ?_⟩
  refine newC_hp H fun t h H => ?_
  refine needs_of (tab_length q n) ?_
  refine stVs_all H 1 rfl (tab_length q n) (tab_cells q n) fun h' hsz H => ?_
  refine bcase_false (by rfl) ?_
  refine ldAll_hp H 1 rfl (tab_length q n) ?_
  refine newC_hp H fun r h H => ?_
  refine needs_of ⟨tab_length q n, by decide⟩ ?_
  refine needs_of (by exact ⟨rfl, by simp only [putL_length]; decide⟩) ?_
  refine needs_of (by exact ⟨rfl, by simp only [putL_length]; decide⟩) ?_
  refine needs_of (by exact ⟨rfl, by simp only [putL_length]; decide⟩) ?_
  rw [new_eq]
  refine newC_hp H fun p h H => ?_
  refine hk p q r _ ?_
  have H2 := H.pick [3, 0, 2] (by decide) (L' := codL p q r (newC n) []) (by simp [codL, codE, newC, u8s])
  exact H2

/-! ### Flush -/
theorem flushC_or (c : Nat) : c ||| 65535 = c / 65536 * 65536 + 65535 := by
  have h1 : c % 65536 ||| 65535 = 65535 := by
    apply Nat.eq_of_testBit_eq
    intro i
    rw [Nat.testBit_or, show 65535 = 2 ^ 16 - 1 from rfl, Nat.testBit_two_pow_sub_one]
    by_cases hi : i < 16
    · simp [hi]
    · have : (c % 65536).testBit i = false := Nat.testBit_lt_two_pow (Nat.lt_of_lt_of_le (Nat.mod_lt c (by decide : 65536 > 0)) (by
        have : 2 ^ 16 ≤ 2 ^ i := Nat.pow_le_pow_right (by omega) (by omega)
        simpa using this))
      simp [hi, this]
  have h2 := Nat.two_pow_add_eq_or_of_lt (i := 16) (b := c % 65536) (by omega) (c / 65536)
  have h3 := Nat.two_pow_add_eq_or_of_lt (i := 16) (b := 65535) (by omega) (c / 65536)
  calc c ||| 65535 = (2 ^ 16 * (c / 65536) + c % 65536) ||| 65535 := by congr 1; omega
    _ = (2 ^ 16 * (c / 65536)) ||| (c % 65536 ||| 65535) := by rw [h2, Nat.or_assoc]
    _ = _ := by rw [h1, ← h3]; omega

def flushI : Nat → Cod → Cod
  | 0, s => s
  | n + 1, s => flushS (flushI n s)
/-- What Flush's rounds start with. -/
structure Fl (s : Cod) (k : Nat) : Prop where
  c : s.c * 2 ^ s.t < 4294967296
  t : s.t ≤ 12
  l : s.l < 256
  n : s.bs.length ≤ 900000000 + k
theorem flushS_fl {s : Cod} {k : Nat} (h : Fl s k) : Fl (flushS s) (k + 1) ∧ (flushS s).bs.length = s.bs.length + 1 := by
  have hm : ∀ (s : Cod) (l c : Nat), l < 256 → c < 4294967296 → s.bs.length ≤ 900000000 + k → Fl (outTail s l c) (k + 1) ∧ (outTail s l c).bs.length = s.bs.length + 1 := fun s l c hl hc hn => by
    unfold outTail
    split
    · exact ⟨⟨by show c % 1048576 * 2 ^ 7 < _; omega, by show 7 ≤ 12; omega, by show c / 1048576 % 256 < 256; omega, by simp; omega⟩, by simp⟩
    · exact ⟨⟨by show c % 524288 * 2 ^ 8 < _; omega, by show 8 ≤ 12; omega, by show c / 524288 % 256 < 256; omega, by simp; omega⟩, by simp⟩
  unfold flushS outM
  split
  · rename_i h1
    have h1 : s.l ≠ 255 ∧ _ := h1
    exact hm { s with c := s.c * 2 ^ s.t } _ _ (by show s.l + 1 < 256; have := h.l; omega) (by show s.c * 2 ^ s.t % 134217728 < _; have := h.c; omega) h.n
  · exact hm { s with c := s.c * 2 ^ s.t } _ _ h.l h.c h.n

theorem flush_ok {h : Heap} {p q r : Nat} {s : Cod} {rest : List Value} {F : List Nat} {h0 : Heap} (H : Hp h0 F h (codL p q r s rest)) (hs : Wf s) (hd : s.done = false)
    {K : Value → Heap → Prop} {Kp : List PanicEntry → Heap → Prop} (hk : ∀ r' rest' o orest h', Hp h0 F h' (codL p q r' (flushM s) rest' ++ [⟨o, true, T_uint8, u8s (bytesM (flushM s)) ++ orest⟩]) →
      K (.tuple #[.slice (at0 o) (bytesM (flushM s)).length ((bytesM (flushM s)).length + orest.length), .int .i64 0]) h') :
    CP F_arith_Coder_Flush #[.pointer (at0 p)] h K Kp := by
  refine call_arith_Coder_Flush ?_
  unfold arith_Coder_Flush
  have hca := hs.ca
  have hcp := pow_le hs.t1
  have hlen := hs.len
  have hn := hs.n
  have hcl : flushC s < 2 ^ (28 - s.t) + 65536 := by
    unfold flushC
    simp only []
    split <;> omega
  have hfl : Fl { s with c := flushC s, done := true } 0 := by
    refine ⟨?_, hs.t12, hs.l, by show s.bs.length ≤ _; omega⟩
    show flushC s * 2 ^ s.t < 4294967296
    have h1 : (2 : Nat) ^ s.t ≤ 2 ^ 12 := Nat.pow_le_pow_right (by omega) hs.t12
    have h2 : flushC s * 2 ^ s.t < (2 ^ (28 - s.t) + 65536) * 2 ^ s.t := Nat.mul_lt_mul_of_pos_right hcl (Nat.two_pow_pos _)
    have h3 : 2 ^ (28 - s.t) * 2 ^ s.t = 2 ^ 28 := by rw [← Nat.pow_add]; congr 1; have := hs.t12; omega
    rw [Nat.add_mul, h3] at h2
    omega
  try simp only [ptr_some_eq, add_mk, Nat.zero_add, Nat.add_zero]
  refine ldB_of (H.cell 0 rfl (app_get hR 6 (congrArg (fun b => some (Value.bool b)) hd))) ?_
  refine bcase_false (by rfl) ?_
  refine stV_hr H 0 rfl hR 6 (Nat.le_of_ble_eq_true rfl) rfl fun h hsz H => ?_
  refine ldI_of (H.cell 0 rfl (app_get hR 3 rfl)) ?_
  refine ldI_of (H.cell 0 rfl (app_get hR 2 rfl)) ?_
  refine bindI_of (((s.c + s.a : Nat) : Int)) (by exact u32_at _ _ (by omega) (by omega)) ?_
  refine ⟨fun vs h' => Hp h0 F h' (codL p q r { s with c := flushC s, done := true } rest), ?_, ?_⟩
  · refine ldI_of (H.cell 0 rfl (app_get hR 3 rfl)) ?_
    refine bindI_of (((s.c / 65536 * 65536 + 65535 : Nat) : Int)) (by exact (or32 _ 65535 (by omega) (by omega)).trans (by rw [flushC_or])) ?_
    refine stV_hr H 0 rfl hR 3 (Nat.le_of_ble_eq_true rfl) rfl fun h hsz H => ?_
    refine ldI_of (H.cell 0 rfl (app_get hR 3 rfl)) ?_
    refine bcase_of (fun h1 => ?_) fun h1 => ?_
    · have h1 : s.c + s.a ≤ s.c / 65536 * 65536 + 65535 := by simp at h1; omega
      refine ldI_of (H.cell 0 rfl (app_get hR 3 rfl)) ?_
      refine bindI_of (((s.c / 65536 * 65536 + 65535 - 0x8000 : Nat) : Int)) (by exact u32_at _ _ (by omega) (by omega)) ?_
      refine stV_hr H 0 rfl hR 3 (Nat.le_of_ble_eq_true rfl) rfl fun h hsz H => ?_
      have e : flushC s = s.c / 65536 * 65536 + 65535 - 0x8000 := by unfold flushC; simp only []; rw [if_pos h1]
      rw [e]
      exact H
    · have h1 : ¬ s.c + s.a ≤ s.c / 65536 * 65536 + 65535 := by simp at h1; omega
      have e : flushC s = s.c / 65536 * 65536 + 65535 := by unfold flushC; simp only []; rw [if_neg h1]
      rw [e]
      exact H
  · intro h u H
    generalize hS : ({ s with c := flushC s, done := true } : Cod) = S at H hfl
    have hfm : flushM s = flushI 2 S := by rw [← hS]; rfl
    rw [hfm] at hk
    refine ⟨fun n vs h' => ∃ r' rest', n ≤ 2 ∧ vs = [.int .i64 ((2 - n : Nat) : Int)] ∧ Hp h0 F h' (codL p q r' (flushI (2 - n) S) rest') ∧ Fl (flushI (2 - n) S) (2 - n) ∧ (flushI (2 - n) S).bs.length = S.bs.length + (2 - n), ⟨2, r, rest, Nat.le_refl _, rfl, H, by simpa [flushI] using hfl, rfl⟩, ?_⟩
    clear H
    rintro n h u x ⟨r', rest', hn2, hx, H, hf, hbl⟩
    injection hx with hx
    injection hx with _ hx
    subst hx
    try simp only [ptr_some_eq, add_mk, Nat.zero_add, Nat.add_zero]
    refine bcase_of (fun h1 => ?_) fun h1 => ?_
    · have h1 : 1 ≤ n := by simp at h1; omega
      obtain ⟨m, rfl⟩ : ∃ m, n = m + 1 := ⟨n - 1, by omega⟩
      have hm1 : 2 - m = (2 - (m + 1)) + 1 := by omega
      generalize 2 - (m + 1) = k at hm1 H hf hbl
      obtain ⟨hf2, hbl2⟩ := flushS_fl hf
      have hft := hf.t
      have hfc := hf.c
      have hfn := hf.n
      have hc0 : (flushI k S).c < 4294967296 := Nat.lt_of_le_of_lt (Nat.le_mul_of_pos_right _ (Nat.two_pow_pos _)) hfc
      refine ldI_of (H.cell 0 rfl (app_get hR 3 rfl)) ?_
      refine ldI_of (H.cell 0 rfl (app_get hR 4 rfl)) ?_
      refine needs_of (by omega) ?_
      refine bindI_of ((((flushI k S).c * 2 ^ (flushI k S).t : Nat) : Int)) (by exact shl_of (by show (flushI k S).t ≤ 32; omega) (u32_in _ hfc)) ?_
      refine stV_hr H 0 rfl hR 3 (Nat.le_of_ble_eq_true rfl) rfl fun h hsz H => ?_
      have H2 : Hp h0 F _ (codL p q r' { flushI k S with c := (flushI k S).c * 2 ^ (flushI k S).t } rest') := H
      refine out_ok H2 hf.l hfc (by show (flushI k S).bs.length < _; omega) fun r2 rest2 h2 H => ?_
      refine bindI_of (((k + 1 : Nat) : Int)) (by exact i64_at _ _ (by omega) (by omega) (by omega)) ?_
      refine ⟨m, Nat.lt_succ_self m, r2, rest2, by omega, by rw [hm1], ?_, ?_, ?_⟩
      · rw [hm1]; exact H
      · rw [hm1]; exact hf2
      · rw [hm1]; show (flushS (flushI k S)).bs.length = _; omega
    · have h1 : n = 0 := by simp at h1; omega
      subst h1
      have hbl : (flushI 2 S).bs.length = S.bs.length + 2 := hbl
      have H : Hp h0 F h (codL p q r' (flushI 2 S) rest') := H
      have hfn : (flushI 2 S).bs.length ≤ 900000000 + 2 := hf.n
      generalize hE : flushI 2 S = E at H hbl hk
      have hEn : E.bs.length < 900000005 := by rw [← hE]; omega
      have hEl : E.l < 256 := by rw [← hE]; exact hf.l
      refine ldS_of (H.cell 0 rfl (app_get hR 5 rfl)) ?_
      refine needs_of (by omega) ?_
      have hsub : ((E.bs.length + 1 - (1 : Int).toNat : Nat) : Int) = (E.bs.length : Nat) := by simp
      rw [hsub]
      refine bindI_of (((E.bs.length - 1 : Nat) : Int)) (by exact i64_at _ _ (by omega) (by omega) (by omega)) ?_
      refine needs_of (by omega) ?_
      have e1 : subA (some ⟨r', 0, none⟩) (E.bs.length + 1 + rest'.length) (1 : Int).toNat 1 = some ⟨r', 1, none⟩ := by
        unfold subA
        rw [if_neg (by simp; omega)]
        rfl
      rw [e1]
      try simp only [ptr_some_eq, add_mk, Nat.zero_add, Nat.add_zero]
      simp only [Int.toNat_natCast, Nat.mul_one]
      have e2 : 1 + (E.bs.length - 1) = E.bs.length := by omega
      rw [e2]
      refine ldI_of (H.cell 2 rfl (last_get _ _ _)) ?_
      have hb : bytesM E = if E.l = 255 then ((E.bs ++ [E.l]).drop 1).dropLast else (E.bs ++ [E.l]).drop 1 := rfl
      refine bcase_of (fun h1 => ?_) fun h1 => ?_
      · have h1 : E.l = 255 := by simp at h1; omega
        rw [if_pos h1] at hb
        refine bindI_of (((E.bs.length - 1 : Nat) : Int)) (by exact i64_at _ _ (by omega) (by omega) (by omega)) ?_
        refine needs_of (by simp; omega) ?_
        have e3 : subA (some ⟨r', 1, none⟩) (E.bs.length + 1 + rest'.length - (1 : Int).toNat) 0 1 = some ⟨r', 1, none⟩ := by
          unfold subA
          split <;> rfl
        rw [e3]
        simp only [Int.toNat_natCast, Nat.sub_zero]
        have hlen : ((u8s (E.bs ++ [E.l]) ++ rest').drop 1).take ((E.bs.length - 1) * 1) = u8s (bytesM E) := by
          rw [hb, Nat.mul_one, List.drop_append_of_le_length (by rw [u8s_length]; simp), List.take_append_of_le_length (by rw [List.length_drop, u8s_length]; simp)]
          unfold u8s
          rw [← List.map_drop, ← List.map_take, List.dropLast_eq_take]
          congr 2
          simp
        have hl2 : (bytesM E).length = E.bs.length - 1 := by rw [hb]; simp
        have hr := rdO_hp H 2 (o := 1) (n := (E.bs.length - 1) * 1) rfl (by simp [u8s_length]; omega)
        rw [hlen] at hr
        refine appC_new H hr (by rw [u8s_length, hl2]) (by omega) (by omega) fun o orest h' _ H => ?_
        have := hk r' rest' o orest _ H
        rw [hl2] at this
        exact this
      · have h1 : ¬ E.l = 255 := by simp at h1; omega
        rw [if_neg h1] at hb
        have hlen : ((u8s (E.bs ++ [E.l]) ++ rest').drop 1).take (E.bs.length * 1) = u8s (bytesM E) := by
          rw [hb, Nat.mul_one, List.drop_append_of_le_length (by rw [u8s_length]; simp), List.take_append_of_le_length (by rw [List.length_drop, u8s_length]; simp)]
          unfold u8s
          rw [← List.map_drop, ← List.map_take, List.take_of_length_le (by simp)]
        have hl2 : (bytesM E).length = E.bs.length := by rw [hb]; simp
        have hr := rdO_hp H 2 (o := 1) (n := E.bs.length * 1) rfl (by simp [u8s_length]; omega)
        rw [hlen] at hr
        have e4 : E.bs.length + 1 - (1 : Int).toNat = E.bs.length := by simp
        rw [e4]
        refine appC_new H hr (by rw [u8s_length, hl2]) (by omega) (by omega) fun o orest h' _ H => ?_
        have := hk r' rest' o orest _ H
        rw [hl2] at this
        exact this

/-! ### States -/
theorem states_ok {h : Heap} {p q : Nat} {st : List Nat} {F : List Nat} {h0 : Heap} {L : List Ent} (H : Hp h0 F h L) (kp kq : Nat) {w w' : Bool} {t : TypeId} {T : List Value} (hp : L[kp]? = some ⟨p, w, t, rowsV ++ (.slice (some ⟨q, 0, none⟩) st.length st.length :: T)⟩)
    (hq : L[kq]? = some ⟨q, w', T_uint8, u8s st⟩) (hn : 1 ≤ st.length) (hn2 : st.length ≤ 131072) {K : Value → Heap → Prop} {Kp : List PanicEntry → Heap → Prop}
    (hk : ∀ o orest h', Hp h0 F h' (L ++ [⟨o, true, T_uint8, u8s st ++ orest⟩]) → K (.slice (at0 o) st.length (st.length + orest.length)) h') : CP F_arith_table_States #[.pointer (at0 p)] h K Kp := by
  refine call_arith_table_States ?_
  unfold arith_table_States
  try simp only [ptr_some_eq, add_mk, Nat.zero_add, Nat.add_zero]
  refine ldS_of (H.cell kp hp (app_get hR 0 rfl)) ?_
  have hr := rdO_hp H kq (o := 0) (n := st.length * 1) hq (by rw [u8s_length]; omega)
  rw [List.drop_zero, List.take_of_length_le (by rw [u8s_length]; omega)] at hr
  exact appC_new H hr (u8s_length st) hn (by omega) fun o orest h' _ H => hk o orest _ H

end Go.Ar
