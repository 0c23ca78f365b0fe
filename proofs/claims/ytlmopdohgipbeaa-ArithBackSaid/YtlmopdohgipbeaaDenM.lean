/- DenM: the words in which a function's condition is printed, each with the rule that meets it. No program in sight. -/
import Derived.Test.YtlmopdohgipbeaaDenK
set_option linter.unusedVariables false
set_option linter.unusedSimpArgs false
namespace Go.Den

/-- A number gets a name. -/
def bindI (x : Int) (K : Int → Prop) : Prop := K x
theorem bindI_of {x : Int} {K : Int → Prop} (y : Int) (e : x = y) (h : K y) : bindI x K := by subst e; exact h
theorem bindI_gen {x : Int} {K : Int → Prop} (h : ∀ y, y = x → K y) : bindI x K := h x rfl

/-- A new row. -/
def newC (h : Heap) (cs : List Value) (t : TypeId) (K : Nat → Heap → Prop) : Prop := K h.size (h.push (.cells cs.toArray t))
theorem newC_of {h : Heap} {cs : List Value} {t : TypeId} {K : Nat → Heap → Prop} (H : K h.size (h.push (.cells cs.toArray t))) : newC h cs t K := H

/-- Many cells at once. -/
def ldAll (h : Heap) (a : Addr) (n : Nat) (K : List Value → Prop) : Prop := ∃ cs : List Value, rdAll h a n cs ∧ K cs

theorem ldI_of {h : Heap} {a : Addr} {k : IntKind} {x : Int} {K : Int → Prop} (hc : hcell h a = some (.int k x)) (H : K x) : ldI h a k K := ⟨x, hc, H⟩
theorem ldB_of {h : Heap} {a : Addr} {x : Bool} {K : Bool → Prop} (hc : hcell h a = some (.bool x)) (H : K x) : ldB h a K := ⟨x, hc, H⟩
theorem ldP_of {h : Heap} {a : Addr} {q : Option Addr} {K : Option Addr → Prop} (hc : hcell h a = some (.pointer q)) (H : K q) : ldP h a K := ⟨q, hc, H⟩
theorem ldS_of {h : Heap} {a : Addr} {q : Option Addr} {n c : Nat} {K : Option Addr → Nat → Nat → Prop} (hc : hcell h a = some (.slice q n c)) (H : K q n c) : ldS h a K := ⟨q, n, c, hc, H⟩
theorem ldT_of {h : Heap} {a : Addr} {s : ByteArray} {K : ByteArray → Prop} (hc : hcell h a = some (.string s)) (H : K s) : ldT h a K := ⟨s, hc, H⟩
theorem ldV_of {h : Heap} {a : Addr} {v : Value} {K : Value → Prop} (hc : hcell h a = some v) (H : K v) : ldV h a K := ⟨v, hc, H⟩
theorem stV_of {h : Heap} {a : Addr} {v u : Value} {K : Heap → Prop} (h1 : v.oneCell' = true) (h2 : hcell h a = some u) (h3 : hfrozen h a = false) (H : K (hset h a v)) : stV h a v K :=
  ⟨h1, by rw [h2]; rfl, h3, H⟩
theorem ptr_of {a : Addr} {K : Addr → Prop} (H : K a) : ptr (some a) K := H
theorem bcase_true {b : Bool} {X Y : Prop} (h : b = true) (H : X) : bcase b X Y := by subst h; exact H
theorem bcase_false {b : Bool} {X Y : Prop} (h : b = false) (H : Y) : bcase b X Y := by subst h; exact H

end Go.Den
