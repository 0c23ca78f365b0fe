/-
  No cell of these rows narrows 'for every input' (looked for: loops, veiled, ifaces, maps, wideKeys, modest, calm, conditions, laid).
  DERIVED. THE GIVEN ROWS OF THIS SEAT. 9 by the template 'for every input the law returns true; each argument reads behind the call as it read before'; 0 by the template 'total and deterministic' (their statements: YtbknfejmdekhpaaGreatTotals.lean).
  GIVEN WITH THE SEED: the statements are not yours to turn. If you find one false, say at which input.
  Laid BY PROGRAM, IN A SANDBOX (cutbox-rows.mjs): the forced cells as the released guide's own fill.sh prints them over the translation 5ba64236a07b655f… (all of the seat's roots in one cut). By AI agents, Wed Nov 11 2026. No macro, syntax, notation, axiom, sorry.
-/
import Derived.Test.YtbknfejmdekhpaaGreatChecked
import GoSem.Claim
import GoSem.ClaimJoined
import GoSem.ClaimMapViews
import Derived.JoinedTies
import Derived.KernelRfl
namespace Go.Proofs.YtbknfejmdekhpaaGreat
/- THE CELL 'sum', in the pinned program and in every row, IS THE sha256 OF THE DUMP (.gsa) THAT YtbknfejmdekhpaaGreatProg.lean LOADS. Nothing in Lean hashes anything: it is a label: what it is worth is what the hold of that sum in a sandbox is worth. -/
noncomputable def Tryz.pinned : Pinned := { name := "ytbknfejmdekhpaagreat", sum := "5ba64236a07b655f4bf457e0b74206a53bfd33bcfadaddd224c3feb76ca3d4b4", checked := Tryz.checked }
namespace Rows
def none {H : Type} : Left H := { results := [], args := [] }

/-- 'burinlaw14.TextEncodes': WHATEVER THE INPUT: true; the input reads as it did. -/
def textEncodesSpec : ChangeSpec := { name := "textEncodes", fn := fun _ => fun
  | [d] => { results := [.lit (.bool true)], args := [d] }
  | _ => none }
def textEncodesRow : OpenClaim := { program := "ytbknfejmdekhpaagreat", sum := "5ba64236a07b655f4bf457e0b74206a53bfd33bcfadaddd224c3feb76ca3d4b4", func := "burin/burinlaw14.TextEncodes", spec := "textEncodes", unfollowed := true, recurses := true, apart := false }
def TextEncodesSaid : Prop := textEncodesRow.holds Tryz.pinned (OpenSpec.ofChange textEncodesSpec)

/-- ITS FALSE NEIGHBOUR: 'it returns false'. Refute it at one input. -/
def textEncodesWrong : ChangeSpec := { name := "textEncodes", fn := fun _ => fun
  | [d] => { results := [.lit (.bool false)], args := [d] }
  | _ => none }
def TextEncodesWrongFalsely : Prop := textEncodesRow.holds Tryz.pinned (OpenSpec.ofChange textEncodesWrong)

/-- 'burinlaw14.TextReads': WHATEVER THE INPUT: true; the input reads as it did. -/
def textReadsSpec : ChangeSpec := { name := "textReads", fn := fun _ => fun
  | [d] => { results := [.lit (.bool true)], args := [d] }
  | _ => none }
def textReadsRow : OpenClaim := { program := "ytbknfejmdekhpaagreat", sum := "5ba64236a07b655f4bf457e0b74206a53bfd33bcfadaddd224c3feb76ca3d4b4", func := "burin/burinlaw14.TextReads", spec := "textReads", unfollowed := true, recurses := true, apart := false }
def TextReadsSaid : Prop := textReadsRow.holds Tryz.pinned (OpenSpec.ofChange textReadsSpec)

/-- ITS FALSE NEIGHBOUR: 'it returns false'. Refute it at one input. -/
def textReadsWrong : ChangeSpec := { name := "textReads", fn := fun _ => fun
  | [d] => { results := [.lit (.bool false)], args := [d] }
  | _ => none }
def TextReadsWrongFalsely : Prop := textReadsRow.holds Tryz.pinned (OpenSpec.ofChange textReadsWrong)

/-- 'burinlaw14.TextBack': WHATEVER THE INPUT: true; the input reads as it did. -/
def textBackSpec : ChangeSpec := { name := "textBack", fn := fun _ => fun
  | [d] => { results := [.lit (.bool true)], args := [d] }
  | _ => none }
def textBackRow : OpenClaim := { program := "ytbknfejmdekhpaagreat", sum := "5ba64236a07b655f4bf457e0b74206a53bfd33bcfadaddd224c3feb76ca3d4b4", func := "burin/burinlaw14.TextBack", spec := "textBack", unfollowed := true, recurses := true, apart := false }
def TextBackSaid : Prop := textBackRow.holds Tryz.pinned (OpenSpec.ofChange textBackSpec)

/-- ITS FALSE NEIGHBOUR: 'it returns false'. Refute it at one input. -/
def textBackWrong : ChangeSpec := { name := "textBack", fn := fun _ => fun
  | [d] => { results := [.lit (.bool false)], args := [d] }
  | _ => none }
def TextBackWrongFalsely : Prop := textBackRow.holds Tryz.pinned (OpenSpec.ofChange textBackWrong)

/-- 'burinlaw14.TextSorted': WHATEVER THE INPUT: true; the input reads as it did. -/
def textSortedSpec : ChangeSpec := { name := "textSorted", fn := fun _ => fun
  | [d] => { results := [.lit (.bool true)], args := [d] }
  | _ => none }
def textSortedRow : OpenClaim := { program := "ytbknfejmdekhpaagreat", sum := "5ba64236a07b655f4bf457e0b74206a53bfd33bcfadaddd224c3feb76ca3d4b4", func := "burin/burinlaw14.TextSorted", spec := "textSorted", unfollowed := true, recurses := true, apart := false }
def TextSortedSaid : Prop := textSortedRow.holds Tryz.pinned (OpenSpec.ofChange textSortedSpec)

/-- ITS FALSE NEIGHBOUR: 'it returns false'. Refute it at one input. -/
def textSortedWrong : ChangeSpec := { name := "textSorted", fn := fun _ => fun
  | [d] => { results := [.lit (.bool false)], args := [d] }
  | _ => none }
def TextSortedWrongFalsely : Prop := textSortedRow.holds Tryz.pinned (OpenSpec.ofChange textSortedWrong)

/-- 'burinlaw14.TextDraws': WHATEVER THE INPUT: true; the input reads as it did. -/
def textDrawsSpec : ChangeSpec := { name := "textDraws", fn := fun _ => fun
  | [d] => { results := [.lit (.bool true)], args := [d] }
  | _ => none }
def textDrawsRow : OpenClaim := { program := "ytbknfejmdekhpaagreat", sum := "5ba64236a07b655f4bf457e0b74206a53bfd33bcfadaddd224c3feb76ca3d4b4", func := "burin/burinlaw14.TextDraws", spec := "textDraws", unfollowed := true, recurses := true, apart := false }
def TextDrawsSaid : Prop := textDrawsRow.holds Tryz.pinned (OpenSpec.ofChange textDrawsSpec)

/-- ITS FALSE NEIGHBOUR: 'it returns false'. Refute it at one input. -/
def textDrawsWrong : ChangeSpec := { name := "textDraws", fn := fun _ => fun
  | [d] => { results := [.lit (.bool false)], args := [d] }
  | _ => none }
def TextDrawsWrongFalsely : Prop := textDrawsRow.holds Tryz.pinned (OpenSpec.ofChange textDrawsWrong)

/-- 'burinlaw14.TextRefined': WHATEVER THE INPUT: true; the input reads as it did. -/
def textRefinedSpec : ChangeSpec := { name := "textRefined", fn := fun _ => fun
  | [d] => { results := [.lit (.bool true)], args := [d] }
  | _ => none }
def textRefinedRow : OpenClaim := { program := "ytbknfejmdekhpaagreat", sum := "5ba64236a07b655f4bf457e0b74206a53bfd33bcfadaddd224c3feb76ca3d4b4", func := "burin/burinlaw14.TextRefined", spec := "textRefined", unfollowed := true, recurses := true, apart := false }
def TextRefinedSaid : Prop := textRefinedRow.holds Tryz.pinned (OpenSpec.ofChange textRefinedSpec)

/-- ITS FALSE NEIGHBOUR: 'it returns false'. Refute it at one input. -/
def textRefinedWrong : ChangeSpec := { name := "textRefined", fn := fun _ => fun
  | [d] => { results := [.lit (.bool false)], args := [d] }
  | _ => none }
def TextRefinedWrongFalsely : Prop := textRefinedRow.holds Tryz.pinned (OpenSpec.ofChange textRefinedWrong)

/-- 'burinlaw14.TextMoved': WHATEVER THE INPUT: true; the input reads as it did. -/
def textMovedSpec : ChangeSpec := { name := "textMoved", fn := fun _ => fun
  | [d] => { results := [.lit (.bool true)], args := [d] }
  | _ => none }
def textMovedRow : OpenClaim := { program := "ytbknfejmdekhpaagreat", sum := "5ba64236a07b655f4bf457e0b74206a53bfd33bcfadaddd224c3feb76ca3d4b4", func := "burin/burinlaw14.TextMoved", spec := "textMoved", unfollowed := true, recurses := true, apart := false }
def TextMovedSaid : Prop := textMovedRow.holds Tryz.pinned (OpenSpec.ofChange textMovedSpec)

/-- ITS FALSE NEIGHBOUR: 'it returns false'. Refute it at one input. -/
def textMovedWrong : ChangeSpec := { name := "textMoved", fn := fun _ => fun
  | [d] => { results := [.lit (.bool false)], args := [d] }
  | _ => none }
def TextMovedWrongFalsely : Prop := textMovedRow.holds Tryz.pinned (OpenSpec.ofChange textMovedWrong)

/-- 'burinlaw14.TextStrips': WHATEVER THE INPUT: true; the input reads as it did. -/
def textStripsSpec : ChangeSpec := { name := "textStrips", fn := fun _ => fun
  | [d] => { results := [.lit (.bool true)], args := [d] }
  | _ => none }
def textStripsRow : OpenClaim := { program := "ytbknfejmdekhpaagreat", sum := "5ba64236a07b655f4bf457e0b74206a53bfd33bcfadaddd224c3feb76ca3d4b4", func := "burin/burinlaw14.TextStrips", spec := "textStrips", unfollowed := true, recurses := true, apart := false }
def TextStripsSaid : Prop := textStripsRow.holds Tryz.pinned (OpenSpec.ofChange textStripsSpec)

/-- ITS FALSE NEIGHBOUR: 'it returns false'. Refute it at one input. -/
def textStripsWrong : ChangeSpec := { name := "textStrips", fn := fun _ => fun
  | [d] => { results := [.lit (.bool false)], args := [d] }
  | _ => none }
def TextStripsWrongFalsely : Prop := textStripsRow.holds Tryz.pinned (OpenSpec.ofChange textStripsWrong)

/-- 'burinlaw14.TextMost': WHATEVER THE INPUT: true; the input reads as it did. -/
def textMostSpec : ChangeSpec := { name := "textMost", fn := fun _ => fun
  | [] => { results := [.lit (.bool true)], args := [] }
  | _ => none }
def textMostRow : OpenClaim := { program := "ytbknfejmdekhpaagreat", sum := "5ba64236a07b655f4bf457e0b74206a53bfd33bcfadaddd224c3feb76ca3d4b4", func := "burin/burinlaw14.TextMost", spec := "textMost", unfollowed := true, recurses := true, apart := false }
def TextMostSaid : Prop := textMostRow.holds Tryz.pinned (OpenSpec.ofChange textMostSpec)

/-- ITS FALSE NEIGHBOUR: 'it returns false'. Refute it at one input. -/
def textMostWrong : ChangeSpec := { name := "textMost", fn := fun _ => fun
  | [] => { results := [.lit (.bool false)], args := [] }
  | _ => none }
def TextMostWrongFalsely : Prop := textMostRow.holds Tryz.pinned (OpenSpec.ofChange textMostWrong)

/- THE SECOND FORM. 'bulk': how many values and letters a reading holds, each counted each time it is reached (what is shared counts as often as it is met; a slice's spare places count too). A statement '..UptoSaid' is the law's where the arguments, and the package variables that the reading takes, are together of bulk at most 1048576: NARROWER than '..Said'. Prove '..Said' where nothing that the law and all that it calls make is longer than what came in: it says more and counts as full. Else prove '..UptoSaid'. A law counts once. -/
mutual
def uptoBulk {H : Type} : DataW H → Nat
  | .lit (.string bytes) => bytes.length + 1
  | .lit _ => 1
  | .nil => 1
  | .ptr d => uptoBulk d + 1
  | .slice elems spare => uptoBulkAll elems + uptoBulkAll spare + 1
  | .agg parts => uptoBulkAll parts + 1
  | .iface _ d => uptoBulk d + 1
  | .map entries => uptoBulkEntries entries + 1
  | .held _ => 1
def uptoBulkAll {H : Type} : List (DataW H) → Nat
  | [] => 0
  | d :: r => uptoBulk d + uptoBulkAll r
def uptoBulkEntries {H : Type} : List (Lit × DataW H) → Nat
  | [] => 0
  | x :: r => uptoBulkEntry x + uptoBulkEntries r
def uptoBulkEntry {H : Type} : Lit × DataW H → Nat
  | (.string bytes, d) => bytes.length + uptoBulk d + 1
  | (_, d) => uptoBulk d + 1
 end
def uptoSmall : (H : Type) → List (DataW H) → Bool := fun _ ds => decide (uptoBulkAll ds ≤ 1048576)
def OpenSpec.upto (s : _root_.Go.ChangeSpec) : _root_.Go.OpenSpec := { _root_.Go.OpenSpec.ofChange s with cond := some uptoSmall }

/-- 'burinlaw14.TextEncodes', WHERE WHAT IT READS IS OF BULK AT MOST 1048576: true; the input reads as it did. -/
def textEncodesUptoRow : OpenClaim := { program := "ytbknfejmdekhpaagreat", sum := "5ba64236a07b655f4bf457e0b74206a53bfd33bcfadaddd224c3feb76ca3d4b4", func := "burin/burinlaw14.TextEncodes", spec := "textEncodes", unfollowed := true, recurses := true, apart := false, narrowed := true }
def TextEncodesUptoSaid : Prop := textEncodesUptoRow.holds Tryz.pinned (OpenSpec.upto textEncodesSpec)

/-- 'burinlaw14.TextReads', WHERE WHAT IT READS IS OF BULK AT MOST 1048576: true; the input reads as it did. -/
def textReadsUptoRow : OpenClaim := { program := "ytbknfejmdekhpaagreat", sum := "5ba64236a07b655f4bf457e0b74206a53bfd33bcfadaddd224c3feb76ca3d4b4", func := "burin/burinlaw14.TextReads", spec := "textReads", unfollowed := true, recurses := true, apart := false, narrowed := true }
def TextReadsUptoSaid : Prop := textReadsUptoRow.holds Tryz.pinned (OpenSpec.upto textReadsSpec)

/-- 'burinlaw14.TextBack', WHERE WHAT IT READS IS OF BULK AT MOST 1048576: true; the input reads as it did. -/
def textBackUptoRow : OpenClaim := { program := "ytbknfejmdekhpaagreat", sum := "5ba64236a07b655f4bf457e0b74206a53bfd33bcfadaddd224c3feb76ca3d4b4", func := "burin/burinlaw14.TextBack", spec := "textBack", unfollowed := true, recurses := true, apart := false, narrowed := true }
def TextBackUptoSaid : Prop := textBackUptoRow.holds Tryz.pinned (OpenSpec.upto textBackSpec)

/-- 'burinlaw14.TextSorted', WHERE WHAT IT READS IS OF BULK AT MOST 1048576: true; the input reads as it did. -/
def textSortedUptoRow : OpenClaim := { program := "ytbknfejmdekhpaagreat", sum := "5ba64236a07b655f4bf457e0b74206a53bfd33bcfadaddd224c3feb76ca3d4b4", func := "burin/burinlaw14.TextSorted", spec := "textSorted", unfollowed := true, recurses := true, apart := false, narrowed := true }
def TextSortedUptoSaid : Prop := textSortedUptoRow.holds Tryz.pinned (OpenSpec.upto textSortedSpec)

/-- 'burinlaw14.TextDraws', WHERE WHAT IT READS IS OF BULK AT MOST 1048576: true; the input reads as it did. -/
def textDrawsUptoRow : OpenClaim := { program := "ytbknfejmdekhpaagreat", sum := "5ba64236a07b655f4bf457e0b74206a53bfd33bcfadaddd224c3feb76ca3d4b4", func := "burin/burinlaw14.TextDraws", spec := "textDraws", unfollowed := true, recurses := true, apart := false, narrowed := true }
def TextDrawsUptoSaid : Prop := textDrawsUptoRow.holds Tryz.pinned (OpenSpec.upto textDrawsSpec)

/-- 'burinlaw14.TextRefined', WHERE WHAT IT READS IS OF BULK AT MOST 1048576: true; the input reads as it did. -/
def textRefinedUptoRow : OpenClaim := { program := "ytbknfejmdekhpaagreat", sum := "5ba64236a07b655f4bf457e0b74206a53bfd33bcfadaddd224c3feb76ca3d4b4", func := "burin/burinlaw14.TextRefined", spec := "textRefined", unfollowed := true, recurses := true, apart := false, narrowed := true }
def TextRefinedUptoSaid : Prop := textRefinedUptoRow.holds Tryz.pinned (OpenSpec.upto textRefinedSpec)

/-- 'burinlaw14.TextMoved', WHERE WHAT IT READS IS OF BULK AT MOST 1048576: true; the input reads as it did. -/
def textMovedUptoRow : OpenClaim := { program := "ytbknfejmdekhpaagreat", sum := "5ba64236a07b655f4bf457e0b74206a53bfd33bcfadaddd224c3feb76ca3d4b4", func := "burin/burinlaw14.TextMoved", spec := "textMoved", unfollowed := true, recurses := true, apart := false, narrowed := true }
def TextMovedUptoSaid : Prop := textMovedUptoRow.holds Tryz.pinned (OpenSpec.upto textMovedSpec)

/-- 'burinlaw14.TextStrips', WHERE WHAT IT READS IS OF BULK AT MOST 1048576: true; the input reads as it did. -/
def textStripsUptoRow : OpenClaim := { program := "ytbknfejmdekhpaagreat", sum := "5ba64236a07b655f4bf457e0b74206a53bfd33bcfadaddd224c3feb76ca3d4b4", func := "burin/burinlaw14.TextStrips", spec := "textStrips", unfollowed := true, recurses := true, apart := false, narrowed := true }
def TextStripsUptoSaid : Prop := textStripsUptoRow.holds Tryz.pinned (OpenSpec.upto textStripsSpec)

/-- 'burinlaw14.TextMost', WHERE WHAT IT READS IS OF BULK AT MOST 1048576: true; the input reads as it did. -/
def textMostUptoRow : OpenClaim := { program := "ytbknfejmdekhpaagreat", sum := "5ba64236a07b655f4bf457e0b74206a53bfd33bcfadaddd224c3feb76ca3d4b4", func := "burin/burinlaw14.TextMost", spec := "textMost", unfollowed := true, recurses := true, apart := false, narrowed := true }
def TextMostUptoSaid : Prop := textMostUptoRow.holds Tryz.pinned (OpenSpec.upto textMostSpec)

end Rows
end Go.Proofs.YtbknfejmdekhpaaGreat
