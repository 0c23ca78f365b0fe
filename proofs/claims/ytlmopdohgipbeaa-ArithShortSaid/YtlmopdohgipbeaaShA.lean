/- ShA: decisions that are all alike cost few doublings: the coder's run said by its range alone, reckoned out. No Go, no memory. -/
import Derived.Test.YtlmopdohgipbeaaArK
set_option linter.unusedVariables false
set_option linter.unusedSimpArgs false
namespace Go.Ar

/-- The likelier bit: the range, the row, how many doublings. -/
def mpsA (a r : Nat) : Nat × Nat × Nat :=
  if 0x8000 ≤ a - qOf r then (a - qOf r, r, 0) else (2 * (if a - qOf r < qOf r then qOf r else a - qOf r), mOf r, 1)
/-- The other bit in a new context. -/
def lpsA (a : Nat) : Nat × Nat :=
  if 0x4000 ≤ (if a - 0x5601 < 0x5601 then a - 0x5601 else 0x5601) then (2 * (if a - 0x5601 < 0x5601 then a - 0x5601 else 0x5601), 1)
  else (4 * (if a - 0x5601 < 0x5601 then a - 0x5601 else 0x5601), 2)
def listEq : List Nat → List Nat → Bool
  | [], [] => true
  | x :: l, y :: m => Nat.beq x y && listEq l m
  | _, _ => false
theorem listEq_of : ∀ {l m : List Nat}, listEq l m = true → l = m
  | [], [], _ => rfl
  | x :: l, y :: m, h => by
    simp only [listEq, Bool.and_eq_true] at h
    rw [Nat.eq_of_beq_eq_true h.1, listEq_of h.2]
  | [], _ :: _, h => by cases h
  | _ :: _, [], h => by cases h
/-- One more run, where it is none that is known. -/
def insR (x : Nat × List Nat × Nat) : List (Nat × List Nat × Nat) → List (Nat × List Nat × Nat)
  | [] => [x]
  | y :: l => if Nat.beq y.1 x.1 && listEq y.2.1 x.2.1 then (y.1, y.2.1, max y.2.2 x.2.2) :: l else y :: insR x l
def two (x : Nat × List Nat × Nat) (l : List (Nat × List Nat × Nat)) : List (Nat × List Nat × Nat) :=
  insR ((mpsA x.1 0).1, x.2.1 ++ [(mpsA x.1 0).2.1], x.2.2 + (mpsA x.1 0).2.2) (insR ((lpsA x.1).1, x.2.1 ++ [1], x.2.2 + (lpsA x.1).2) l)
def firstA : Nat → List (Nat × List Nat × Nat)
  | 0 => [(0x8000, [], 0)]
  | k + 1 => (firstA k).foldr two []
def cycA : List Nat → Nat → Nat × List Nat × Nat
  | [], a => (a, [], 0)
  | r :: rs, a => ((cycA rs (mpsA a r).1).1, (mpsA a r).2.1 :: (cycA rs (mpsA a r).1).2.1, (mpsA a r).2.2 + (cycA rs (mpsA a r).1).2.2)
def sumQ : List Nat → Nat
  | [] => 0
  | r :: rs => qOf r + sumQ rs
def runA : Nat → Nat → Nat → List Nat → Nat → Nat
  | 0, _, _, _, _ => 1000000
  | f + 1, R, a, rows, N =>
    if R ≤ (a - 0x8000) / sumQ rows then N
    else runA f (R - (a - 0x8000) / sumQ rows - 1) (cycA rows (a - (a - 0x8000) / sumQ rows * sumQ rows)).1 (cycA rows (a - (a - 0x8000) / sumQ rows * sumQ rows)).2.1
      (N + (cycA rows (a - (a - 0x8000) / sumQ rows * sumQ rows)).2.2)
def allR (n : Nat) : Bool := (firstA n).all fun x => Nat.ble (runA 200 (20000 / n + 1) x.1 x.2.1 x.2.2) (48 + 21 * n)
set_option maxRecDepth 100000 in
theorem all_runs : (allR 1 && allR 2 && allR 3 && allR 4 && allR 5 && allR 6 && allR 7 && allR 8 && allR 9 && allR 10 && allR 11 && allR 12) = true := by kernel_rfl

end Go.Ar
