/-
  No cell of these rows narrows 'for every input' (looked for: loops, veiled, ifaces, maps, wideKeys, modest, calm, conditions, laid).
  DERIVED. THE GIVEN ROWS OF THIS SEAT. 14 by the template 'for every input the law returns true; each argument reads behind the call as it read before'; 0 by the template 'total and deterministic' (their statements: YteakipgcanafoaaTotals.lean).
  GIVEN WITH THE SEED: the statements are not yours to turn. If you find one false, say at which input.
  Laid BY PROGRAM, IN A SANDBOX (cutbox-rows.mjs): the forced cells as the released guide's own fill.sh prints them over the translation 4dba79ce9fd14390… (all of the seat's roots in one cut). By AI agents, Wed Nov 11 2026. No macro, syntax, notation, axiom, sorry.
-/
import Derived.Test.YteakipgcanafoaaChecked
import GoSem.Claim
import GoSem.ClaimJoined
import GoSem.ClaimMapViews
import Derived.JoinedTies
import Derived.KernelRfl
namespace Go.Proofs.Yteakipgcanafoaa
/- THE CELL 'sum', in the pinned program and in every row, IS THE sha256 OF THE DUMP (.gsa) THAT YteakipgcanafoaaProg.lean LOADS. Nothing in Lean hashes anything: it is a label: what it is worth is what the hold of that sum in a sandbox is worth. -/
noncomputable def Try.pinned : Pinned := { name := "yteakipgcanafoaa", sum := "4dba79ce9fd143900436a27d02bdc2a4ce5dc6187cf9519670448eb1d1b2dd2b", checked := Try.checked }
namespace Rows
def none {H : Type} : Left H := { results := [], args := [] }

/-- 'burinlaw5.WholeEncodes': WHATEVER THE INPUT: true; the input reads as it did. -/
def wholeEncodesSpec : ChangeSpec := { name := "wholeEncodes", fn := fun _ => fun
  | [d] => { results := [.lit (.bool true)], args := [d] }
  | _ => none }
def wholeEncodesRow : OpenClaim := { program := "yteakipgcanafoaa", sum := "4dba79ce9fd143900436a27d02bdc2a4ce5dc6187cf9519670448eb1d1b2dd2b", func := "burin/burinlaw5.WholeEncodes", spec := "wholeEncodes", unfollowed := true, recurses := true, apart := false }
def WholeEncodesSaid : Prop := wholeEncodesRow.holds Try.pinned (OpenSpec.ofChange wholeEncodesSpec)

/-- ITS FALSE NEIGHBOUR: 'it returns false'. Refute it at one input. -/
def wholeEncodesWrong : ChangeSpec := { name := "wholeEncodes", fn := fun _ => fun
  | [d] => { results := [.lit (.bool false)], args := [d] }
  | _ => none }
def WholeEncodesWrongFalsely : Prop := wholeEncodesRow.holds Try.pinned (OpenSpec.ofChange wholeEncodesWrong)

/-- 'burinlaw5.WholeReads': WHATEVER THE INPUT: true; the input reads as it did. -/
def wholeReadsSpec : ChangeSpec := { name := "wholeReads", fn := fun _ => fun
  | [d] => { results := [.lit (.bool true)], args := [d] }
  | _ => none }
def wholeReadsRow : OpenClaim := { program := "yteakipgcanafoaa", sum := "4dba79ce9fd143900436a27d02bdc2a4ce5dc6187cf9519670448eb1d1b2dd2b", func := "burin/burinlaw5.WholeReads", spec := "wholeReads", unfollowed := true, recurses := true, apart := false }
def WholeReadsSaid : Prop := wholeReadsRow.holds Try.pinned (OpenSpec.ofChange wholeReadsSpec)

/-- ITS FALSE NEIGHBOUR: 'it returns false'. Refute it at one input. -/
def wholeReadsWrong : ChangeSpec := { name := "wholeReads", fn := fun _ => fun
  | [d] => { results := [.lit (.bool false)], args := [d] }
  | _ => none }
def WholeReadsWrongFalsely : Prop := wholeReadsRow.holds Try.pinned (OpenSpec.ofChange wholeReadsWrong)

/-- 'burinlaw5.WholeRows': WHATEVER THE INPUT: true; the input reads as it did. -/
def wholeRowsSpec : ChangeSpec := { name := "wholeRows", fn := fun _ => fun
  | [d] => { results := [.lit (.bool true)], args := [d] }
  | _ => none }
def wholeRowsRow : OpenClaim := { program := "yteakipgcanafoaa", sum := "4dba79ce9fd143900436a27d02bdc2a4ce5dc6187cf9519670448eb1d1b2dd2b", func := "burin/burinlaw5.WholeRows", spec := "wholeRows", unfollowed := true, recurses := true, apart := false }
def WholeRowsSaid : Prop := wholeRowsRow.holds Try.pinned (OpenSpec.ofChange wholeRowsSpec)

/-- ITS FALSE NEIGHBOUR: 'it returns false'. Refute it at one input. -/
def wholeRowsWrong : ChangeSpec := { name := "wholeRows", fn := fun _ => fun
  | [d] => { results := [.lit (.bool false)], args := [d] }
  | _ => none }
def WholeRowsWrongFalsely : Prop := wholeRowsRow.holds Try.pinned (OpenSpec.ofChange wholeRowsWrong)

/-- 'burinlaw5.WholeMixed': WHATEVER THE INPUT: true; the input reads as it did. -/
def wholeMixedSpec : ChangeSpec := { name := "wholeMixed", fn := fun _ => fun
  | [d] => { results := [.lit (.bool true)], args := [d] }
  | _ => none }
def wholeMixedRow : OpenClaim := { program := "yteakipgcanafoaa", sum := "4dba79ce9fd143900436a27d02bdc2a4ce5dc6187cf9519670448eb1d1b2dd2b", func := "burin/burinlaw5.WholeMixed", spec := "wholeMixed", unfollowed := true, recurses := true, apart := false }
def WholeMixedSaid : Prop := wholeMixedRow.holds Try.pinned (OpenSpec.ofChange wholeMixedSpec)

/-- ITS FALSE NEIGHBOUR: 'it returns false'. Refute it at one input. -/
def wholeMixedWrong : ChangeSpec := { name := "wholeMixed", fn := fun _ => fun
  | [d] => { results := [.lit (.bool false)], args := [d] }
  | _ => none }
def WholeMixedWrongFalsely : Prop := wholeMixedRow.holds Try.pinned (OpenSpec.ofChange wholeMixedWrong)

/-- 'burinlaw5.WholeNone': WHATEVER THE INPUT: true; the input reads as it did. -/
def wholeNoneSpec : ChangeSpec := { name := "wholeNone", fn := fun _ => fun
  | [] => { results := [.lit (.bool true)], args := [] }
  | _ => none }
def wholeNoneRow : OpenClaim := { program := "yteakipgcanafoaa", sum := "4dba79ce9fd143900436a27d02bdc2a4ce5dc6187cf9519670448eb1d1b2dd2b", func := "burin/burinlaw5.WholeNone", spec := "wholeNone", unfollowed := true, recurses := true, apart := false }
def WholeNoneSaid : Prop := wholeNoneRow.holds Try.pinned (OpenSpec.ofChange wholeNoneSpec)

/-- ITS FALSE NEIGHBOUR: 'it returns false'. Refute it at one input. -/
def wholeNoneWrong : ChangeSpec := { name := "wholeNone", fn := fun _ => fun
  | [] => { results := [.lit (.bool false)], args := [] }
  | _ => none }
def WholeNoneWrongFalsely : Prop := wholeNoneRow.holds Try.pinned (OpenSpec.ofChange wholeNoneWrong)

/-- 'burinlaw5.WholeBack': WHATEVER THE INPUT: true; the input reads as it did. -/
def wholeBackSpec : ChangeSpec := { name := "wholeBack", fn := fun _ => fun
  | [d] => { results := [.lit (.bool true)], args := [d] }
  | _ => none }
def wholeBackRow : OpenClaim := { program := "yteakipgcanafoaa", sum := "4dba79ce9fd143900436a27d02bdc2a4ce5dc6187cf9519670448eb1d1b2dd2b", func := "burin/burinlaw5.WholeBack", spec := "wholeBack", unfollowed := true, recurses := true, apart := false }
def WholeBackSaid : Prop := wholeBackRow.holds Try.pinned (OpenSpec.ofChange wholeBackSpec)

/-- ITS FALSE NEIGHBOUR: 'it returns false'. Refute it at one input. -/
def wholeBackWrong : ChangeSpec := { name := "wholeBack", fn := fun _ => fun
  | [d] => { results := [.lit (.bool false)], args := [d] }
  | _ => none }
def WholeBackWrongFalsely : Prop := wholeBackRow.holds Try.pinned (OpenSpec.ofChange wholeBackWrong)

/-- 'burinlaw7.GenericEncodes': WHATEVER THE INPUT: true; the input reads as it did. -/
def genericEncodesSpec : ChangeSpec := { name := "genericEncodes", fn := fun _ => fun
  | [d] => { results := [.lit (.bool true)], args := [d] }
  | _ => none }
def genericEncodesRow : OpenClaim := { program := "yteakipgcanafoaa", sum := "4dba79ce9fd143900436a27d02bdc2a4ce5dc6187cf9519670448eb1d1b2dd2b", func := "burin/burinlaw7.GenericEncodes", spec := "genericEncodes", unfollowed := true, recurses := true, apart := false }
def GenericEncodesSaid : Prop := genericEncodesRow.holds Try.pinned (OpenSpec.ofChange genericEncodesSpec)

/-- ITS FALSE NEIGHBOUR: 'it returns false'. Refute it at one input. -/
def genericEncodesWrong : ChangeSpec := { name := "genericEncodes", fn := fun _ => fun
  | [d] => { results := [.lit (.bool false)], args := [d] }
  | _ => none }
def GenericEncodesWrongFalsely : Prop := genericEncodesRow.holds Try.pinned (OpenSpec.ofChange genericEncodesWrong)

/-- 'burinlaw7.GenericReads': WHATEVER THE INPUT: true; the input reads as it did. -/
def genericReadsSpec : ChangeSpec := { name := "genericReads", fn := fun _ => fun
  | [d] => { results := [.lit (.bool true)], args := [d] }
  | _ => none }
def genericReadsRow : OpenClaim := { program := "yteakipgcanafoaa", sum := "4dba79ce9fd143900436a27d02bdc2a4ce5dc6187cf9519670448eb1d1b2dd2b", func := "burin/burinlaw7.GenericReads", spec := "genericReads", unfollowed := true, recurses := true, apart := false }
def GenericReadsSaid : Prop := genericReadsRow.holds Try.pinned (OpenSpec.ofChange genericReadsSpec)

/-- ITS FALSE NEIGHBOUR: 'it returns false'. Refute it at one input. -/
def genericReadsWrong : ChangeSpec := { name := "genericReads", fn := fun _ => fun
  | [d] => { results := [.lit (.bool false)], args := [d] }
  | _ => none }
def GenericReadsWrongFalsely : Prop := genericReadsRow.holds Try.pinned (OpenSpec.ofChange genericReadsWrong)

/-- 'burinlaw7.GenericBack': WHATEVER THE INPUT: true; the input reads as it did. -/
def genericBackSpec : ChangeSpec := { name := "genericBack", fn := fun _ => fun
  | [d] => { results := [.lit (.bool true)], args := [d] }
  | _ => none }
def genericBackRow : OpenClaim := { program := "yteakipgcanafoaa", sum := "4dba79ce9fd143900436a27d02bdc2a4ce5dc6187cf9519670448eb1d1b2dd2b", func := "burin/burinlaw7.GenericBack", spec := "genericBack", unfollowed := true, recurses := true, apart := false }
def GenericBackSaid : Prop := genericBackRow.holds Try.pinned (OpenSpec.ofChange genericBackSpec)

/-- ITS FALSE NEIGHBOUR: 'it returns false'. Refute it at one input. -/
def genericBackWrong : ChangeSpec := { name := "genericBack", fn := fun _ => fun
  | [d] => { results := [.lit (.bool false)], args := [d] }
  | _ => none }
def GenericBackWrongFalsely : Prop := genericBackRow.holds Try.pinned (OpenSpec.ofChange genericBackWrong)

/-- 'burinlaw7.GenericTop': WHATEVER THE INPUT: true; the input reads as it did. -/
def genericTopSpec : ChangeSpec := { name := "genericTop", fn := fun _ => fun
  | [d] => { results := [.lit (.bool true)], args := [d] }
  | _ => none }
def genericTopRow : OpenClaim := { program := "yteakipgcanafoaa", sum := "4dba79ce9fd143900436a27d02bdc2a4ce5dc6187cf9519670448eb1d1b2dd2b", func := "burin/burinlaw7.GenericTop", spec := "genericTop", unfollowed := true, recurses := true, apart := false }
def GenericTopSaid : Prop := genericTopRow.holds Try.pinned (OpenSpec.ofChange genericTopSpec)

/-- ITS FALSE NEIGHBOUR: 'it returns false'. Refute it at one input. -/
def genericTopWrong : ChangeSpec := { name := "genericTop", fn := fun _ => fun
  | [d] => { results := [.lit (.bool false)], args := [d] }
  | _ => none }
def GenericTopWrongFalsely : Prop := genericTopRow.holds Try.pinned (OpenSpec.ofChange genericTopWrong)

/-- 'burinlaw7.GenericRepeats': WHATEVER THE INPUT: true; the input reads as it did. -/
def genericRepeatsSpec : ChangeSpec := { name := "genericRepeats", fn := fun _ => fun
  | [d] => { results := [.lit (.bool true)], args := [d] }
  | _ => none }
def genericRepeatsRow : OpenClaim := { program := "yteakipgcanafoaa", sum := "4dba79ce9fd143900436a27d02bdc2a4ce5dc6187cf9519670448eb1d1b2dd2b", func := "burin/burinlaw7.GenericRepeats", spec := "genericRepeats", unfollowed := true, recurses := true, apart := false }
def GenericRepeatsSaid : Prop := genericRepeatsRow.holds Try.pinned (OpenSpec.ofChange genericRepeatsSpec)

/-- ITS FALSE NEIGHBOUR: 'it returns false'. Refute it at one input. -/
def genericRepeatsWrong : ChangeSpec := { name := "genericRepeats", fn := fun _ => fun
  | [d] => { results := [.lit (.bool false)], args := [d] }
  | _ => none }
def GenericRepeatsWrongFalsely : Prop := genericRepeatsRow.holds Try.pinned (OpenSpec.ofChange genericRepeatsWrong)

/-- 'burinlaw7.GenericRefuses': WHATEVER THE INPUT: true; the input reads as it did. -/
def genericRefusesSpec : ChangeSpec := { name := "genericRefuses", fn := fun _ => fun
  | [] => { results := [.lit (.bool true)], args := [] }
  | _ => none }
def genericRefusesRow : OpenClaim := { program := "yteakipgcanafoaa", sum := "4dba79ce9fd143900436a27d02bdc2a4ce5dc6187cf9519670448eb1d1b2dd2b", func := "burin/burinlaw7.GenericRefuses", spec := "genericRefuses", unfollowed := true, recurses := true, apart := false }
def GenericRefusesSaid : Prop := genericRefusesRow.holds Try.pinned (OpenSpec.ofChange genericRefusesSpec)

/-- ITS FALSE NEIGHBOUR: 'it returns false'. Refute it at one input. -/
def genericRefusesWrong : ChangeSpec := { name := "genericRefuses", fn := fun _ => fun
  | [] => { results := [.lit (.bool false)], args := [] }
  | _ => none }
def GenericRefusesWrongFalsely : Prop := genericRefusesRow.holds Try.pinned (OpenSpec.ofChange genericRefusesWrong)

/-- 'burinlaw7.GenericSmall': WHATEVER THE INPUT: true; the input reads as it did. -/
def genericSmallSpec : ChangeSpec := { name := "genericSmall", fn := fun _ => fun
  | [d] => { results := [.lit (.bool true)], args := [d] }
  | _ => none }
def genericSmallRow : OpenClaim := { program := "yteakipgcanafoaa", sum := "4dba79ce9fd143900436a27d02bdc2a4ce5dc6187cf9519670448eb1d1b2dd2b", func := "burin/burinlaw7.GenericSmall", spec := "genericSmall", unfollowed := true, recurses := true, apart := false }
def GenericSmallSaid : Prop := genericSmallRow.holds Try.pinned (OpenSpec.ofChange genericSmallSpec)

/-- ITS FALSE NEIGHBOUR: 'it returns false'. Refute it at one input. -/
def genericSmallWrong : ChangeSpec := { name := "genericSmall", fn := fun _ => fun
  | [d] => { results := [.lit (.bool false)], args := [d] }
  | _ => none }
def GenericSmallWrongFalsely : Prop := genericSmallRow.holds Try.pinned (OpenSpec.ofChange genericSmallWrong)

/-- 'burinlaw7.GenericRow': WHATEVER THE INPUT: true; the input reads as it did. -/
def genericRowSpec : ChangeSpec := { name := "genericRow", fn := fun _ => fun
  | [d] => { results := [.lit (.bool true)], args := [d] }
  | _ => none }
def genericRowRow : OpenClaim := { program := "yteakipgcanafoaa", sum := "4dba79ce9fd143900436a27d02bdc2a4ce5dc6187cf9519670448eb1d1b2dd2b", func := "burin/burinlaw7.GenericRow", spec := "genericRow", unfollowed := true, recurses := true, apart := false }
def GenericRowSaid : Prop := genericRowRow.holds Try.pinned (OpenSpec.ofChange genericRowSpec)

/-- ITS FALSE NEIGHBOUR: 'it returns false'. Refute it at one input. -/
def genericRowWrong : ChangeSpec := { name := "genericRow", fn := fun _ => fun
  | [d] => { results := [.lit (.bool false)], args := [d] }
  | _ => none }
def GenericRowWrongFalsely : Prop := genericRowRow.holds Try.pinned (OpenSpec.ofChange genericRowWrong)

/- THE SECOND FORM. 'bulk': how many values and letters a reading holds, each counted each time it is reached (what is shared counts as often as it is met; a slice's spare places count too). A statement '..UptoSaid' is the law's where the arguments, and the package variables that the reading takes, are together of bulk at most 1048576: NARROWER than '..Said'. Prove '..Said' where nothing that the law and all that it calls make is longer than what came in: it says more and counts as full. Else prove '..UptoSaid'. A law counts once. -/
mutual
def uptoBulk {H : Type} : DataW H → Nat
  | .lit (.string bytes) => bytes.length + 1
  | .lit _ => 1
  | .nil => 1
  | .ptr d => uptoBulk d + 1
  | .slice elems spare => uptoBulkAll elems + uptoBulkAll spare + 1
  | .agg parts => uptoBulkAll parts + 1
  | .iface _ d => uptoBulk d + 1
  | .map entries => uptoBulkEntries entries + 1
  | .held _ => 1
def uptoBulkAll {H : Type} : List (DataW H) → Nat
  | [] => 0
  | d :: r => uptoBulk d + uptoBulkAll r
def uptoBulkEntries {H : Type} : List (Lit × DataW H) → Nat
  | [] => 0
  | x :: r => uptoBulkEntry x + uptoBulkEntries r
def uptoBulkEntry {H : Type} : Lit × DataW H → Nat
  | (.string bytes, d) => bytes.length + uptoBulk d + 1
  | (_, d) => uptoBulk d + 1
 end
def uptoSmall : (H : Type) → List (DataW H) → Bool := fun _ ds => decide (uptoBulkAll ds ≤ 1048576)
def OpenSpec.upto (s : _root_.Go.ChangeSpec) : _root_.Go.OpenSpec := { _root_.Go.OpenSpec.ofChange s with cond := some uptoSmall }

/-- 'burinlaw5.WholeEncodes', WHERE WHAT IT READS IS OF BULK AT MOST 1048576: true; the input reads as it did. -/
def wholeEncodesUptoRow : OpenClaim := { program := "yteakipgcanafoaa", sum := "4dba79ce9fd143900436a27d02bdc2a4ce5dc6187cf9519670448eb1d1b2dd2b", func := "burin/burinlaw5.WholeEncodes", spec := "wholeEncodes", unfollowed := true, recurses := true, apart := false, narrowed := true }
def WholeEncodesUptoSaid : Prop := wholeEncodesUptoRow.holds Try.pinned (OpenSpec.upto wholeEncodesSpec)

/-- 'burinlaw5.WholeReads', WHERE WHAT IT READS IS OF BULK AT MOST 1048576: true; the input reads as it did. -/
def wholeReadsUptoRow : OpenClaim := { program := "yteakipgcanafoaa", sum := "4dba79ce9fd143900436a27d02bdc2a4ce5dc6187cf9519670448eb1d1b2dd2b", func := "burin/burinlaw5.WholeReads", spec := "wholeReads", unfollowed := true, recurses := true, apart := false, narrowed := true }
def WholeReadsUptoSaid : Prop := wholeReadsUptoRow.holds Try.pinned (OpenSpec.upto wholeReadsSpec)

/-- 'burinlaw5.WholeRows', WHERE WHAT IT READS IS OF BULK AT MOST 1048576: true; the input reads as it did. -/
def wholeRowsUptoRow : OpenClaim := { program := "yteakipgcanafoaa", sum := "4dba79ce9fd143900436a27d02bdc2a4ce5dc6187cf9519670448eb1d1b2dd2b", func := "burin/burinlaw5.WholeRows", spec := "wholeRows", unfollowed := true, recurses := true, apart := false, narrowed := true }
def WholeRowsUptoSaid : Prop := wholeRowsUptoRow.holds Try.pinned (OpenSpec.upto wholeRowsSpec)

/-- 'burinlaw5.WholeMixed', WHERE WHAT IT READS IS OF BULK AT MOST 1048576: true; the input reads as it did. -/
def wholeMixedUptoRow : OpenClaim := { program := "yteakipgcanafoaa", sum := "4dba79ce9fd143900436a27d02bdc2a4ce5dc6187cf9519670448eb1d1b2dd2b", func := "burin/burinlaw5.WholeMixed", spec := "wholeMixed", unfollowed := true, recurses := true, apart := false, narrowed := true }
def WholeMixedUptoSaid : Prop := wholeMixedUptoRow.holds Try.pinned (OpenSpec.upto wholeMixedSpec)

/-- 'burinlaw5.WholeNone', WHERE WHAT IT READS IS OF BULK AT MOST 1048576: true; the input reads as it did. -/
def wholeNoneUptoRow : OpenClaim := { program := "yteakipgcanafoaa", sum := "4dba79ce9fd143900436a27d02bdc2a4ce5dc6187cf9519670448eb1d1b2dd2b", func := "burin/burinlaw5.WholeNone", spec := "wholeNone", unfollowed := true, recurses := true, apart := false, narrowed := true }
def WholeNoneUptoSaid : Prop := wholeNoneUptoRow.holds Try.pinned (OpenSpec.upto wholeNoneSpec)

/-- 'burinlaw5.WholeBack', WHERE WHAT IT READS IS OF BULK AT MOST 1048576: true; the input reads as it did. -/
def wholeBackUptoRow : OpenClaim := { program := "yteakipgcanafoaa", sum := "4dba79ce9fd143900436a27d02bdc2a4ce5dc6187cf9519670448eb1d1b2dd2b", func := "burin/burinlaw5.WholeBack", spec := "wholeBack", unfollowed := true, recurses := true, apart := false, narrowed := true }
def WholeBackUptoSaid : Prop := wholeBackUptoRow.holds Try.pinned (OpenSpec.upto wholeBackSpec)

/-- 'burinlaw7.GenericEncodes', WHERE WHAT IT READS IS OF BULK AT MOST 1048576: true; the input reads as it did. -/
def genericEncodesUptoRow : OpenClaim := { program := "yteakipgcanafoaa", sum := "4dba79ce9fd143900436a27d02bdc2a4ce5dc6187cf9519670448eb1d1b2dd2b", func := "burin/burinlaw7.GenericEncodes", spec := "genericEncodes", unfollowed := true, recurses := true, apart := false, narrowed := true }
def GenericEncodesUptoSaid : Prop := genericEncodesUptoRow.holds Try.pinned (OpenSpec.upto genericEncodesSpec)

/-- 'burinlaw7.GenericReads', WHERE WHAT IT READS IS OF BULK AT MOST 1048576: true; the input reads as it did. -/
def genericReadsUptoRow : OpenClaim := { program := "yteakipgcanafoaa", sum := "4dba79ce9fd143900436a27d02bdc2a4ce5dc6187cf9519670448eb1d1b2dd2b", func := "burin/burinlaw7.GenericReads", spec := "genericReads", unfollowed := true, recurses := true, apart := false, narrowed := true }
def GenericReadsUptoSaid : Prop := genericReadsUptoRow.holds Try.pinned (OpenSpec.upto genericReadsSpec)

/-- 'burinlaw7.GenericBack', WHERE WHAT IT READS IS OF BULK AT MOST 1048576: true; the input reads as it did. -/
def genericBackUptoRow : OpenClaim := { program := "yteakipgcanafoaa", sum := "4dba79ce9fd143900436a27d02bdc2a4ce5dc6187cf9519670448eb1d1b2dd2b", func := "burin/burinlaw7.GenericBack", spec := "genericBack", unfollowed := true, recurses := true, apart := false, narrowed := true }
def GenericBackUptoSaid : Prop := genericBackUptoRow.holds Try.pinned (OpenSpec.upto genericBackSpec)

/-- 'burinlaw7.GenericTop', WHERE WHAT IT READS IS OF BULK AT MOST 1048576: true; the input reads as it did. -/
def genericTopUptoRow : OpenClaim := { program := "yteakipgcanafoaa", sum := "4dba79ce9fd143900436a27d02bdc2a4ce5dc6187cf9519670448eb1d1b2dd2b", func := "burin/burinlaw7.GenericTop", spec := "genericTop", unfollowed := true, recurses := true, apart := false, narrowed := true }
def GenericTopUptoSaid : Prop := genericTopUptoRow.holds Try.pinned (OpenSpec.upto genericTopSpec)

/-- 'burinlaw7.GenericRepeats', WHERE WHAT IT READS IS OF BULK AT MOST 1048576: true; the input reads as it did. -/
def genericRepeatsUptoRow : OpenClaim := { program := "yteakipgcanafoaa", sum := "4dba79ce9fd143900436a27d02bdc2a4ce5dc6187cf9519670448eb1d1b2dd2b", func := "burin/burinlaw7.GenericRepeats", spec := "genericRepeats", unfollowed := true, recurses := true, apart := false, narrowed := true }
def GenericRepeatsUptoSaid : Prop := genericRepeatsUptoRow.holds Try.pinned (OpenSpec.upto genericRepeatsSpec)

/-- 'burinlaw7.GenericRefuses', WHERE WHAT IT READS IS OF BULK AT MOST 1048576: true; the input reads as it did. -/
def genericRefusesUptoRow : OpenClaim := { program := "yteakipgcanafoaa", sum := "4dba79ce9fd143900436a27d02bdc2a4ce5dc6187cf9519670448eb1d1b2dd2b", func := "burin/burinlaw7.GenericRefuses", spec := "genericRefuses", unfollowed := true, recurses := true, apart := false, narrowed := true }
def GenericRefusesUptoSaid : Prop := genericRefusesUptoRow.holds Try.pinned (OpenSpec.upto genericRefusesSpec)

/-- 'burinlaw7.GenericSmall', WHERE WHAT IT READS IS OF BULK AT MOST 1048576: true; the input reads as it did. -/
def genericSmallUptoRow : OpenClaim := { program := "yteakipgcanafoaa", sum := "4dba79ce9fd143900436a27d02bdc2a4ce5dc6187cf9519670448eb1d1b2dd2b", func := "burin/burinlaw7.GenericSmall", spec := "genericSmall", unfollowed := true, recurses := true, apart := false, narrowed := true }
def GenericSmallUptoSaid : Prop := genericSmallUptoRow.holds Try.pinned (OpenSpec.upto genericSmallSpec)

/-- 'burinlaw7.GenericRow', WHERE WHAT IT READS IS OF BULK AT MOST 1048576: true; the input reads as it did. -/
def genericRowUptoRow : OpenClaim := { program := "yteakipgcanafoaa", sum := "4dba79ce9fd143900436a27d02bdc2a4ce5dc6187cf9519670448eb1d1b2dd2b", func := "burin/burinlaw7.GenericRow", spec := "genericRow", unfollowed := true, recurses := true, apart := false, narrowed := true }
def GenericRowUptoSaid : Prop := genericRowUptoRow.holds Try.pinned (OpenSpec.upto genericRowSpec)

end Rows
end Go.Proofs.Yteakipgcanafoaa
