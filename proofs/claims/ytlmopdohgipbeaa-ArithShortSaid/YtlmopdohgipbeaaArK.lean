/- ArK: the closed runs: what 'wakes' and 'ArithKnown' run, reckoned out. No program in sight. -/
import Derived.Test.YtlmopdohgipbeaaArA
set_option linter.unusedVariables false
set_option linter.unusedSimpArgs false
namespace Go.Ar

/-- A coder behind the first n decisions. -/
def codN (k b : Nat → Nat) (m : Nat) : Nat → Cod
  | 0 => newC m
  | n + 1 => putM (codN k b m n) (k n) (b n)
def decN (k : Nat → Nat) (bytes : List Nat) (m : Nat) : Nat → Dec
  | 0 => newD bytes m
  | n + 1 => (getD (decN k bytes m n) (k n)).1

def wakeK (i : Nat) : Nat := i % 2
def wakeB (i : Nat) : Nat := i / 3 % 2
def wakeBytes : List Nat := bytesM (flushM (codN wakeK wakeB 2 40))
def allB (p : Nat → Bool) : Nat → Bool
  | 0 => true
  | n + 1 => allB p n && p n
theorem allB_of {p : Nat → Bool} : ∀ {n : Nat}, allB p n = true → ∀ i, i < n → p i = true
  | 0, _, i, hi => by omega
  | n + 1, h, i, hi => by
    simp only [allB, Bool.and_eq_true] at h
    rcases Nat.lt_or_ge i n with h1 | h1
    · exact allB_of h.1 i h1
    · have : i = n := by omega
      subst this; exact h.2
set_option maxRecDepth 100000 in
theorem wake_ne : (Nat.beq wakeBytes.length 0) = false := by kernel_rfl
set_option maxRecDepth 100000 in
theorem wake_all : allB (fun i => Nat.beq (getD (decN wakeK wakeBytes 2 i) (wakeK i)).2 (wakeB i)) 40 = true := by kernel_rfl

end Go.Ar
