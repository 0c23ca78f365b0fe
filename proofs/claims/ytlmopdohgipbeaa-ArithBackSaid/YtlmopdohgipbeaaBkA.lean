/- BkA: what the decoder reads is what the coder wrote: the interval of a code, plain numbers. No Go, no memory. -/
import Derived.Test.YtlmopdohgipbeaaArA
set_option linter.unusedVariables false
set_option linter.unusedSimpArgs false
namespace Go.Ar

/-! ### a code's value -/
/-- Of bytes, the last one first: a byte behind a 255 has seven bits of its own. -/
def valR : List Nat → Nat
  | [] => 0
  | x :: r => valR r * (if r.head? = some 255 then 128 else 256) + x
def valL (l : List Nat) : Nat := valR l.reverse
theorem valL_snoc (l : List Nat) (x : Nat) : valL (l ++ [x]) = valL l * (if l.getLast? = some 255 then 128 else 256) + x := by
  unfold valL
  rw [List.reverse_append, List.reverse_singleton, List.singleton_append, valR, List.head?_reverse]

/-! ### the whole code, ones behind it -/
section
variable (E : List Nat)
def fE (k : Nat) : Nat := E.getD k 255
def lenE (k : Nat) : Nat := if k < E.length ∧ fE E (k - 1) = 255 then 7 else 8
def XE : Nat → Nat
  | 0 => fE E 0
  | k + 1 => XE k * 2 ^ lenE E (k + 1) + fE E (k + 1)
def BE : Nat → Nat
  | 0 => 0
  | k + 1 => BE k + lenE E (k + 1)
end

theorem lenE_le (E : List Nat) (k : Nat) : lenE E k ≤ 8 ∧ 7 ≤ lenE E k := by unfold lenE; split <;> omega
theorem BE_mono (E : List Nat) {j k : Nat} (h : j ≤ k) : BE E j ≤ BE E k := by
  induction k with
  | zero => have : j = 0 := by omega
            subst this; exact Nat.le_refl _
  | succ k ih =>
    rcases Nat.lt_or_ge k j with h1 | h1
    · have : j = k + 1 := by omega
      subst this; exact Nat.le_refl _
    · exact Nat.le_trans (ih h1) (Nat.le_add_right _ _)
/-- A code's beginnings only grow. -/
theorem XE_mono (E : List Nat) {j k : Nat} (h : j ≤ k) : XE E j * 2 ^ BE E k ≤ XE E k * 2 ^ BE E j := by
  induction k with
  | zero => have : j = 0 := by omega
            subst this; exact Nat.le_refl _
  | succ k ih =>
    rcases Nat.lt_or_ge k j with h1 | h1
    · have : j = k + 1 := by omega
      subst this; exact Nat.le_refl _
    · have h2 := ih h1
      show XE E j * 2 ^ (BE E k + lenE E (k + 1)) ≤ (XE E k * 2 ^ lenE E (k + 1) + fE E (k + 1)) * 2 ^ BE E j
      rw [Nat.pow_add, ← Nat.mul_assoc, Nat.add_mul]
      have h3 := Nat.mul_le_mul_right (2 ^ lenE E (k + 1)) h2
      have e : XE E k * 2 ^ BE E j * 2 ^ lenE E (k + 1) = XE E k * 2 ^ lenE E (k + 1) * 2 ^ BE E j := Nat.mul_right_comm _ _ _
      omega
/-- Behind the end: ones. -/
theorem XE_end (E : List Nat) {m : Nat} (hm : m + 1 = E.length) : ∀ d, XE E (m + d) + 1 = (XE E m + 1) * 2 ^ (8 * d) ∧ BE E (m + d) = BE E m + 8 * d
  | 0 => by simp
  | d + 1 => by
    obtain ⟨h1, h2⟩ := XE_end E hm d
    have hl : lenE E (m + d + 1) = 8 := by unfold lenE; rw [if_neg (by omega)]
    have hf : fE E (m + d + 1) = 255 := by unfold fE; rw [List.getD_eq_getElem?_getD, List.getElem?_eq_none (by omega)]; rfl
    constructor
    · show XE E (m + d) * 2 ^ lenE E (m + d + 1) + fE E (m + d + 1) + 1 = _
      rw [hl, hf, show 8 * (d + 1) = 8 * d + 8 by omega, Nat.pow_add, ← Nat.mul_assoc, ← h1]
      omega
    · show BE E (m + d) + lenE E (m + d + 1) = _
      rw [hl, h2]; omega
theorem valL_XE (E : List Nat) : ∀ (p : List Nat) (x : Nat), p.length < E.length → (∀ j v, p[j]? = some v → fE E j = v) → valL (p ++ [x]) + fE E p.length = XE E p.length + x := by
  intro p
  have key : ∀ (n : Nat) (p : List Nat) (x : Nat), p.length = n → p.length < E.length → (∀ j v, p[j]? = some v → fE E j = v) → valL (p ++ [x]) + fE E p.length = XE E p.length + x := by
    intro n
    induction n with
    | zero =>
      intro p x hn hl hp
      have : p = [] := List.length_eq_zero_iff.1 hn
      subst this
      rw [valL_snoc]
      show valL [] * _ + x + fE E 0 = fE E 0 + x
      simp [valL, valR]; omega
    | succ n ih =>
      intro p x hn hl hp
      obtain ⟨q, y, rfl⟩ : ∃ q y, p = q ++ [y] := by
        rcases List.eq_nil_or_concat p with rfl | ⟨q, y, rfl⟩
        · simp at hn
        · exact ⟨q, y, by simp⟩
      have hq : q.length = n := by simp at hn; exact hn
      have hy : fE E q.length = y := hp q.length y (by simp)
      have h1 := ih q y hq (by omega) (fun j v hv => hp j v (by rw [List.getElem?_append_left (List.getElem?_eq_some_iff.1 hv).1]; exact hv))
      have h2 : valL (q ++ [y]) = XE E q.length := by omega
      rw [valL_snoc, h2, hn]
      have hlen : (if (q ++ [y]).getLast? = some 255 then 128 else 256) = 2 ^ lenE E (n + 1) := by
        unfold lenE
        rw [List.getLast?_concat, Nat.add_sub_cancel, ← hq, hy]
        by_cases h3 : y = 255
        · rw [if_pos (by rw [h3]), if_pos ⟨by rw [hn] at hl; omega, h3⟩]
        · rw [if_neg (by simpa using h3), if_neg (by simp [h3])]
      rw [hlen, ← hq]
      show _ = XE E q.length * 2 ^ lenE E (q.length + 1) + fE E (q.length + 1) + x
      omega
  exact fun x => key p.length p x rfl

/-! ### a coder's interval, and the code that becomes of it -/
def lowC (s : Cod) : Nat := valL (s.bs ++ [s.l]) * 2 ^ (27 - s.t) + s.c

/-- The code 'E' may become of a coder whose interval is 'A' wide. -/
structure Fut (E : List Nat) (s : Cod) (A : Nat) : Prop where
  len : s.bs.length < E.length
  pre : ∀ j v, s.bs[j]? = some v → fE E j = v
  last : fE E s.bs.length = s.l ∨ fE E s.bs.length = s.l + 1 ∧ s.l ≠ 255
  lo : ∀ k, s.bs.length < k → lowC s * 2 ^ BE E k < (XE E k + 1) * 2 ^ (BE E s.bs.length + (27 - s.t))
  hi : ∀ k, XE E k * 2 ^ (BE E s.bs.length + (27 - s.t)) < (lowC s + A) * 2 ^ BE E k

/-- A part of the interval. -/
theorem Fut.part {E : List Nat} {s : Cod} {A a' c' n' : Nat} {st' : List Nat} {d' : Bool} (h : Fut E { s with a := a', c := c', n := n', st := st', done := d' } A) {A0 : Nat} (h1 : s.c ≤ c') (h2 : c' + A ≤ s.c + A0) : Fut E s A0 := by
  have hl : lowC { s with a := a', c := c', n := n', st := st', done := d' } = lowC s + (c' - s.c) := by
    show valL (s.bs ++ [s.l]) * 2 ^ (27 - s.t) + c' = valL (s.bs ++ [s.l]) * 2 ^ (27 - s.t) + s.c + (c' - s.c)
    omega
  refine ⟨h.len, h.pre, h.last, fun k hk => ?_, fun k => ?_⟩
  · have := h.lo k hk
    rw [hl, Nat.add_mul] at this
    exact Nat.lt_of_le_of_lt (Nat.le_add_right _ _) this
  · have := h.hi k
    rw [hl] at this
    exact Nat.lt_of_lt_of_le this (Nat.mul_le_mul_right _ (by omega))
/-- The interval seen nearer. -/
theorem Fut.near {E : List Nat} {s : Cod} {A j a' : Nat} (h : Fut E { s with a := a', c := s.c * 2 ^ j, t := s.t - j } (A * 2 ^ j)) (hj : j ≤ s.t) (ht : s.t ≤ 27) : Fut E s A := by
  have hl : lowC { s with a := a', c := s.c * 2 ^ j, t := s.t - j } = lowC s * 2 ^ j := by
    show valL (s.bs ++ [s.l]) * 2 ^ (27 - (s.t - j)) + s.c * 2 ^ j = (valL (s.bs ++ [s.l]) * 2 ^ (27 - s.t) + s.c) * 2 ^ j
    rw [Nat.add_mul, Nat.mul_assoc, ← Nat.pow_add]
    congr 3; omega
  have he : BE E s.bs.length + (27 - (s.t - j)) = BE E s.bs.length + (27 - s.t) + j := by omega
  have hp : 0 < 2 ^ j := Nat.two_pow_pos j
  refine ⟨h.len, h.pre, h.last, fun k hk => ?_, fun k => ?_⟩
  · have h1 : _ < (XE E k + 1) * 2 ^ (BE E s.bs.length + (27 - (s.t - j))) := h.lo k hk
    rw [hl, he, Nat.pow_add _ _ j, ← Nat.mul_assoc, Nat.mul_right_comm] at h1
    exact Nat.lt_of_mul_lt_mul_right h1
  · have h1 : XE E k * 2 ^ (BE E s.bs.length + (27 - (s.t - j))) < _ := h.hi k
    rw [hl, he, Nat.pow_add _ _ j, ← Nat.mul_assoc, ← Nat.add_mul, Nat.mul_right_comm (lowC s + A)] at h1
    exact Nat.lt_of_mul_lt_mul_right h1
theorem outTail_low (s : Cod) (l c : Nat) (hc : c < 2 ^ 28) (hc2 : l ≠ 255 → c < 2 ^ 27) : lowC (outTail s l c) = valL (s.bs ++ [l]) * 2 ^ 27 + c := by
  unfold outTail lowC
  split
  · rename_i h
    show valL ((s.bs ++ [l]) ++ [c / 1048576 % 256]) * 2 ^ (27 - 7) + c % 1048576 = _
    rw [valL_snoc, List.getLast?_concat, if_pos (by rw [h])]
    generalize valL (s.bs ++ [l]) = v
    omega
  · rename_i h
    have := hc2 h
    show valL ((s.bs ++ [l]) ++ [c / 524288 % 256]) * 2 ^ (27 - 8) + c % 524288 = _
    rw [valL_snoc, List.getLast?_concat, if_neg (by simpa using h)]
    generalize valL (s.bs ++ [l]) = v
    omega
theorem Fut.tail {E : List Nat} {s : Cod} {A l c : Nat} (h : Fut E (outTail s l c) A) (hc : c < 2 ^ 28) (hc2 : l ≠ 255 → c < 2 ^ 27) (ht : s.t = 0) (hl : l = s.l ∧ c = s.c ∨ l = s.l + 1 ∧ s.l ≠ 255 ∧ c + 2 ^ 27 = s.c) : Fut E s A := by
  have hlow : lowC (outTail s l c) = lowC s := by
    rw [outTail_low s l c hc hc2]
    unfold lowC
    rw [ht, valL_snoc, valL_snoc]
    rcases hl with ⟨rfl, rfl⟩ | ⟨rfl, _, h2⟩
    · rfl
    · generalize (valL s.bs * if s.bs.getLast? = some 255 then 128 else 256) = v
      omega
  have hbs : (outTail s l c).bs = s.bs ++ [l] := by unfold outTail; split <;> rfl
  have hpre := h.pre
  have hlen := h.len
  rw [hbs] at hpre hlen
  have hfl : fE E s.bs.length = l := hpre s.bs.length l (by simp)
  have hlen' : s.bs.length + 1 < E.length := by simpa using hlen
  have hB : BE E (s.bs.length + 1) + (27 - (outTail s l c).t) = BE E s.bs.length + 27 := by
    show BE E s.bs.length + lenE E (s.bs.length + 1) + _ = _
    have : lenE E (s.bs.length + 1) + (27 - (outTail s l c).t) = 27 := by
      unfold lenE outTail
      rw [Nat.add_sub_cancel, hfl]
      by_cases h3 : l = 255
      · simp only [if_pos h3]; rw [if_pos ⟨hlen', h3⟩]
      · simp only [if_neg h3]; rw [if_neg (by simp [h3])]
    omega
  have hsl : (outTail s l c).bs.length = s.bs.length + 1 := by rw [hbs]; simp
  have hlo := h.lo
  have hhi := h.hi
  rw [hsl, hB, hlow] at hlo hhi
  refine ⟨by omega, fun j v hv => hpre j v (by rw [List.getElem?_append_left (List.getElem?_eq_some_iff.1 hv).1]; exact hv), ?_, fun k hk => ?_, fun k => ?_⟩
  · rw [hfl]
    rcases hl with ⟨rfl, rfl⟩ | ⟨rfl, h1, _⟩
    · exact .inl rfl
    · exact .inr ⟨rfl, h1⟩
  · rw [ht]
    rcases Nat.lt_or_ge (s.bs.length + 1) k with h1 | h1
    · exact hlo k h1
    · have hk : k = s.bs.length + 1 := by omega
      subst hk
      rw [← hlow, Nat.sub_zero, ← hB, Nat.pow_add, ← Nat.mul_assoc, Nat.mul_right_comm]
      refine Nat.mul_lt_mul_of_pos_right ?_ (Nat.two_pow_pos _)
      have hX := valL_XE E (s.bs ++ [l]) (outTail s l c).l (by simpa using hlen') hpre
      have hle : (outTail s l c).l ≤ fE E (s.bs.length + 1) := by
        have := h.last
        rw [hsl] at this
        omega
      rw [List.length_append, List.length_singleton] at hX
      have hcl : (outTail s l c).c < 2 ^ (27 - (outTail s l c).t) := by
        unfold outTail
        split
        · exact Nat.mod_lt _ (by decide)
        · exact Nat.mod_lt _ (by decide)
      unfold lowC
      rw [hbs]
      have h4 : valL (s.bs ++ [l] ++ [(outTail s l c).l]) ≤ XE E (s.bs.length + 1) := by omega
      have h5 := Nat.mul_le_mul_right (2 ^ (27 - (outTail s l c).t)) h4
      rw [Nat.add_mul]
      omega
  · rw [ht]; exact hhi k
theorem Fut.out {E : List Nat} {s : Cod} {A : Nat} (h : Fut E (outM s) A) (ht : s.t = 0) (hc : s.c < 2 ^ 28) : Fut E s A := by
  unfold outM at h
  split at h
  · rename_i h1
    refine h.tail (by omega) (fun _ => by omega) ht (.inr ⟨rfl, h1.1, by omega⟩)
  · rename_i h1
    exact h.tail hc (fun h2 => by
      rcases Nat.lt_or_ge s.c 134217728 with h3 | h3
      · exact h3
      · exact absurd ⟨h2, h3⟩ h1) ht (.inl ⟨rfl, rfl⟩)

end Go.Ar
