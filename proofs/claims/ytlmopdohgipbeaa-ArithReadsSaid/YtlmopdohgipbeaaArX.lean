/- ArX: what a call on rows of one's own leaves: the rows that came in, and another known row. -/
import Derived.Test.YtlmopdohgipbeaaArW
set_option linter.unusedVariables false
set_option linter.unusedSimpArgs false
namespace Go.Ar
open Go Go.Den Go.Den.Ytlmopdohgipbeaa

theorem keeps_of {h0 h h' : Heap} {L A B : List Ent} (H : Hp h0 [] h L) (ix : List Nat) (hA : ix.map (fun k => L[k]?) = A.map some) (hw : A.all Ent.w = true) (k : Nat) {en : Ent} (he : L[k]? = some en) (hk : k ∉ ix) (H' : Hp h (A.map Ent.b) h' B) :
    hkeep (fun b => b < h0.size ∨ b = en.b) h h' := by
  refine ⟨H'.fr.1, fun b hb hR => H'.fr.2 b hb fun hm => ?_⟩
  obtain ⟨e, heA, rfl⟩ := List.mem_map.1 hm
  obtain ⟨j, hj⟩ := List.getElem?_of_mem heA
  obtain ⟨i, hi1, hi2⟩ := ix_get hA hj
  rcases hR with h1 | h1
  · rcases H.wr i e hi2 (List.all_eq_true.1 hw e heA) with h2 | h2
    · simp at h2
    · omega
  · have := H.nd i e k en hi2 he h1
    subst this
    exact hk (List.mem_of_getElem? hi1)
theorem cell_lt {h : Heap} {a : Addr} {v : Value} (hc : hcell h a = some v) : a.block < h.size := by
  rcases Nat.lt_or_ge a.block h.size with h1 | h1
  · exact h1
  · simp [hcell, Array.getElem?_eq_none h1] at hc

end Go.Ar
