/-
  No cell of these rows narrows 'for every input' (looked for: loops, veiled, ifaces, maps, wideKeys, modest, calm, conditions, laid).
  DERIVED. THE GIVEN ROWS OF THIS SEAT. 13 by the template 'for every input the law returns true; each argument reads behind the call as it read before'; 0 by the template 'total and deterministic' (their statements: YtcicfilkdhhnmaaTotals.lean).
  GIVEN WITH THE SEED: the statements are not yours to turn. If you find one false, say at which input.
  Laid BY PROGRAM, IN A SANDBOX (cutbox-rows.mjs): the forced cells as the released guide's own fill.sh prints them over the translation b7520d052c0e2fb3… (all of the seat's roots in one cut). By AI agents, Wed Nov 11 2026. No macro, syntax, notation, axiom, sorry.
-/
import Derived.Test.YtcicfilkdhhnmaaChecked
import GoSem.Claim
import GoSem.ClaimJoined
import GoSem.ClaimMapViews
import Derived.JoinedTies
import Derived.KernelRfl
namespace Go.Proofs.Ytcicfilkdhhnmaa
/- THE CELL 'sum', in the pinned program and in every row, IS THE sha256 OF THE DUMP (.gsa) THAT YtcicfilkdhhnmaaProg.lean LOADS. Nothing in Lean hashes anything: it is a label: what it is worth is what the hold of that sum in a sandbox is worth. -/
noncomputable def Try.pinned : Pinned := { name := "ytcicfilkdhhnmaa", sum := "b7520d052c0e2fb3fa3d3e11e1c266d2bbe1eed492b53640c554ec441af98e89", checked := Try.checked }
namespace Rows
def none {H : Type} : Left H := { results := [], args := [] }

/-- 'burinlaw5.WholeEncodes': WHATEVER THE INPUT: true; the input reads as it did. -/
def wholeEncodesSpec : ChangeSpec := { name := "wholeEncodes", fn := fun _ => fun
  | [d] => { results := [.lit (.bool true)], args := [d] }
  | _ => none }
def wholeEncodesRow : OpenClaim := { program := "ytcicfilkdhhnmaa", sum := "b7520d052c0e2fb3fa3d3e11e1c266d2bbe1eed492b53640c554ec441af98e89", func := "burin/burinlaw5.WholeEncodes", spec := "wholeEncodes", unfollowed := true, recurses := true, apart := false }
def WholeEncodesSaid : Prop := wholeEncodesRow.holds Try.pinned (OpenSpec.ofChange wholeEncodesSpec)

/-- ITS FALSE NEIGHBOUR: 'it returns false'. Refute it at one input. -/
def wholeEncodesWrong : ChangeSpec := { name := "wholeEncodes", fn := fun _ => fun
  | [d] => { results := [.lit (.bool false)], args := [d] }
  | _ => none }
def WholeEncodesWrongFalsely : Prop := wholeEncodesRow.holds Try.pinned (OpenSpec.ofChange wholeEncodesWrong)

/-- 'burinlaw5.WholeReads': WHATEVER THE INPUT: true; the input reads as it did. -/
def wholeReadsSpec : ChangeSpec := { name := "wholeReads", fn := fun _ => fun
  | [d] => { results := [.lit (.bool true)], args := [d] }
  | _ => none }
def wholeReadsRow : OpenClaim := { program := "ytcicfilkdhhnmaa", sum := "b7520d052c0e2fb3fa3d3e11e1c266d2bbe1eed492b53640c554ec441af98e89", func := "burin/burinlaw5.WholeReads", spec := "wholeReads", unfollowed := true, recurses := true, apart := false }
def WholeReadsSaid : Prop := wholeReadsRow.holds Try.pinned (OpenSpec.ofChange wholeReadsSpec)

/-- ITS FALSE NEIGHBOUR: 'it returns false'. Refute it at one input. -/
def wholeReadsWrong : ChangeSpec := { name := "wholeReads", fn := fun _ => fun
  | [d] => { results := [.lit (.bool false)], args := [d] }
  | _ => none }
def WholeReadsWrongFalsely : Prop := wholeReadsRow.holds Try.pinned (OpenSpec.ofChange wholeReadsWrong)

/-- 'burinlaw5.WholeRows': WHATEVER THE INPUT: true; the input reads as it did. -/
def wholeRowsSpec : ChangeSpec := { name := "wholeRows", fn := fun _ => fun
  | [d] => { results := [.lit (.bool true)], args := [d] }
  | _ => none }
def wholeRowsRow : OpenClaim := { program := "ytcicfilkdhhnmaa", sum := "b7520d052c0e2fb3fa3d3e11e1c266d2bbe1eed492b53640c554ec441af98e89", func := "burin/burinlaw5.WholeRows", spec := "wholeRows", unfollowed := true, recurses := true, apart := false }
def WholeRowsSaid : Prop := wholeRowsRow.holds Try.pinned (OpenSpec.ofChange wholeRowsSpec)

/-- ITS FALSE NEIGHBOUR: 'it returns false'. Refute it at one input. -/
def wholeRowsWrong : ChangeSpec := { name := "wholeRows", fn := fun _ => fun
  | [d] => { results := [.lit (.bool false)], args := [d] }
  | _ => none }
def WholeRowsWrongFalsely : Prop := wholeRowsRow.holds Try.pinned (OpenSpec.ofChange wholeRowsWrong)

/-- 'burinlaw8.RefineEncodes': WHATEVER THE INPUT: true; the input reads as it did. -/
def refineEncodesSpec : ChangeSpec := { name := "refineEncodes", fn := fun _ => fun
  | [d] => { results := [.lit (.bool true)], args := [d] }
  | _ => none }
def refineEncodesRow : OpenClaim := { program := "ytcicfilkdhhnmaa", sum := "b7520d052c0e2fb3fa3d3e11e1c266d2bbe1eed492b53640c554ec441af98e89", func := "burin/burinlaw8.RefineEncodes", spec := "refineEncodes", unfollowed := true, recurses := true, apart := false }
def RefineEncodesSaid : Prop := refineEncodesRow.holds Try.pinned (OpenSpec.ofChange refineEncodesSpec)

/-- ITS FALSE NEIGHBOUR: 'it returns false'. Refute it at one input. -/
def refineEncodesWrong : ChangeSpec := { name := "refineEncodes", fn := fun _ => fun
  | [d] => { results := [.lit (.bool false)], args := [d] }
  | _ => none }
def RefineEncodesWrongFalsely : Prop := refineEncodesRow.holds Try.pinned (OpenSpec.ofChange refineEncodesWrong)

/-- 'burinlaw8.RefineReads': WHATEVER THE INPUT: true; the input reads as it did. -/
def refineReadsSpec : ChangeSpec := { name := "refineReads", fn := fun _ => fun
  | [d] => { results := [.lit (.bool true)], args := [d] }
  | _ => none }
def refineReadsRow : OpenClaim := { program := "ytcicfilkdhhnmaa", sum := "b7520d052c0e2fb3fa3d3e11e1c266d2bbe1eed492b53640c554ec441af98e89", func := "burin/burinlaw8.RefineReads", spec := "refineReads", unfollowed := true, recurses := true, apart := false }
def RefineReadsSaid : Prop := refineReadsRow.holds Try.pinned (OpenSpec.ofChange refineReadsSpec)

/-- ITS FALSE NEIGHBOUR: 'it returns false'. Refute it at one input. -/
def refineReadsWrong : ChangeSpec := { name := "refineReads", fn := fun _ => fun
  | [d] => { results := [.lit (.bool false)], args := [d] }
  | _ => none }
def RefineReadsWrongFalsely : Prop := refineReadsRow.holds Try.pinned (OpenSpec.ofChange refineReadsWrong)

/-- 'burinlaw8.RefineBack': WHATEVER THE INPUT: true; the input reads as it did. -/
def refineBackSpec : ChangeSpec := { name := "refineBack", fn := fun _ => fun
  | [d] => { results := [.lit (.bool true)], args := [d] }
  | _ => none }
def refineBackRow : OpenClaim := { program := "ytcicfilkdhhnmaa", sum := "b7520d052c0e2fb3fa3d3e11e1c266d2bbe1eed492b53640c554ec441af98e89", func := "burin/burinlaw8.RefineBack", spec := "refineBack", unfollowed := true, recurses := true, apart := false }
def RefineBackSaid : Prop := refineBackRow.holds Try.pinned (OpenSpec.ofChange refineBackSpec)

/-- ITS FALSE NEIGHBOUR: 'it returns false'. Refute it at one input. -/
def refineBackWrong : ChangeSpec := { name := "refineBack", fn := fun _ => fun
  | [d] => { results := [.lit (.bool false)], args := [d] }
  | _ => none }
def RefineBackWrongFalsely : Prop := refineBackRow.holds Try.pinned (OpenSpec.ofChange refineBackWrong)

/-- 'burinlaw8.RefineFar': WHATEVER THE INPUT: true; the input reads as it did. -/
def refineFarSpec : ChangeSpec := { name := "refineFar", fn := fun _ => fun
  | [d] => { results := [.lit (.bool true)], args := [d] }
  | _ => none }
def refineFarRow : OpenClaim := { program := "ytcicfilkdhhnmaa", sum := "b7520d052c0e2fb3fa3d3e11e1c266d2bbe1eed492b53640c554ec441af98e89", func := "burin/burinlaw8.RefineFar", spec := "refineFar", unfollowed := true, recurses := true, apart := false }
def RefineFarSaid : Prop := refineFarRow.holds Try.pinned (OpenSpec.ofChange refineFarSpec)

/-- ITS FALSE NEIGHBOUR: 'it returns false'. Refute it at one input. -/
def refineFarWrong : ChangeSpec := { name := "refineFar", fn := fun _ => fun
  | [d] => { results := [.lit (.bool false)], args := [d] }
  | _ => none }
def RefineFarWrongFalsely : Prop := refineFarRow.holds Try.pinned (OpenSpec.ofChange refineFarWrong)

/-- 'burinlaw8.RefineTop': WHATEVER THE INPUT: true; the input reads as it did. -/
def refineTopSpec : ChangeSpec := { name := "refineTop", fn := fun _ => fun
  | [d] => { results := [.lit (.bool true)], args := [d] }
  | _ => none }
def refineTopRow : OpenClaim := { program := "ytcicfilkdhhnmaa", sum := "b7520d052c0e2fb3fa3d3e11e1c266d2bbe1eed492b53640c554ec441af98e89", func := "burin/burinlaw8.RefineTop", spec := "refineTop", unfollowed := true, recurses := true, apart := false }
def RefineTopSaid : Prop := refineTopRow.holds Try.pinned (OpenSpec.ofChange refineTopSpec)

/-- ITS FALSE NEIGHBOUR: 'it returns false'. Refute it at one input. -/
def refineTopWrong : ChangeSpec := { name := "refineTop", fn := fun _ => fun
  | [d] => { results := [.lit (.bool false)], args := [d] }
  | _ => none }
def RefineTopWrongFalsely : Prop := refineTopRow.holds Try.pinned (OpenSpec.ofChange refineTopWrong)

/-- 'burinlaw8.RefineRefuses': WHATEVER THE INPUT: true; the input reads as it did. -/
def refineRefusesSpec : ChangeSpec := { name := "refineRefuses", fn := fun _ => fun
  | [] => { results := [.lit (.bool true)], args := [] }
  | _ => none }
def refineRefusesRow : OpenClaim := { program := "ytcicfilkdhhnmaa", sum := "b7520d052c0e2fb3fa3d3e11e1c266d2bbe1eed492b53640c554ec441af98e89", func := "burin/burinlaw8.RefineRefuses", spec := "refineRefuses", unfollowed := true, recurses := true, apart := false }
def RefineRefusesSaid : Prop := refineRefusesRow.holds Try.pinned (OpenSpec.ofChange refineRefusesSpec)

/-- ITS FALSE NEIGHBOUR: 'it returns false'. Refute it at one input. -/
def refineRefusesWrong : ChangeSpec := { name := "refineRefuses", fn := fun _ => fun
  | [] => { results := [.lit (.bool false)], args := [] }
  | _ => none }
def RefineRefusesWrongFalsely : Prop := refineRefusesRow.holds Try.pinned (OpenSpec.ofChange refineRefusesWrong)

/-- 'burinlaw8.RefineRow': WHATEVER THE INPUT: true; the input reads as it did. -/
def refineRowSpec : ChangeSpec := { name := "refineRow", fn := fun _ => fun
  | [d] => { results := [.lit (.bool true)], args := [d] }
  | _ => none }
def refineRowRow : OpenClaim := { program := "ytcicfilkdhhnmaa", sum := "b7520d052c0e2fb3fa3d3e11e1c266d2bbe1eed492b53640c554ec441af98e89", func := "burin/burinlaw8.RefineRow", spec := "refineRow", unfollowed := true, recurses := true, apart := false }
def RefineRowSaid : Prop := refineRowRow.holds Try.pinned (OpenSpec.ofChange refineRowSpec)

/-- ITS FALSE NEIGHBOUR: 'it returns false'. Refute it at one input. -/
def refineRowWrong : ChangeSpec := { name := "refineRow", fn := fun _ => fun
  | [d] => { results := [.lit (.bool false)], args := [d] }
  | _ => none }
def RefineRowWrongFalsely : Prop := refineRowRow.holds Try.pinned (OpenSpec.ofChange refineRowWrong)

/-- 'burinlaw5.WholeMixed': WHATEVER THE INPUT: true; the input reads as it did. -/
def wholeMixedSpec : ChangeSpec := { name := "wholeMixed", fn := fun _ => fun
  | [d] => { results := [.lit (.bool true)], args := [d] }
  | _ => none }
def wholeMixedRow : OpenClaim := { program := "ytcicfilkdhhnmaa", sum := "b7520d052c0e2fb3fa3d3e11e1c266d2bbe1eed492b53640c554ec441af98e89", func := "burin/burinlaw5.WholeMixed", spec := "wholeMixed", unfollowed := true, recurses := true, apart := false }
def WholeMixedSaid : Prop := wholeMixedRow.holds Try.pinned (OpenSpec.ofChange wholeMixedSpec)

/-- ITS FALSE NEIGHBOUR: 'it returns false'. Refute it at one input. -/
def wholeMixedWrong : ChangeSpec := { name := "wholeMixed", fn := fun _ => fun
  | [d] => { results := [.lit (.bool false)], args := [d] }
  | _ => none }
def WholeMixedWrongFalsely : Prop := wholeMixedRow.holds Try.pinned (OpenSpec.ofChange wholeMixedWrong)

/-- 'burinlaw5.WholeNone': WHATEVER THE INPUT: true; the input reads as it did. -/
def wholeNoneSpec : ChangeSpec := { name := "wholeNone", fn := fun _ => fun
  | [] => { results := [.lit (.bool true)], args := [] }
  | _ => none }
def wholeNoneRow : OpenClaim := { program := "ytcicfilkdhhnmaa", sum := "b7520d052c0e2fb3fa3d3e11e1c266d2bbe1eed492b53640c554ec441af98e89", func := "burin/burinlaw5.WholeNone", spec := "wholeNone", unfollowed := true, recurses := true, apart := false }
def WholeNoneSaid : Prop := wholeNoneRow.holds Try.pinned (OpenSpec.ofChange wholeNoneSpec)

/-- ITS FALSE NEIGHBOUR: 'it returns false'. Refute it at one input. -/
def wholeNoneWrong : ChangeSpec := { name := "wholeNone", fn := fun _ => fun
  | [] => { results := [.lit (.bool false)], args := [] }
  | _ => none }
def WholeNoneWrongFalsely : Prop := wholeNoneRow.holds Try.pinned (OpenSpec.ofChange wholeNoneWrong)

/-- 'burinlaw5.WholeBack': WHATEVER THE INPUT: true; the input reads as it did. -/
def wholeBackSpec : ChangeSpec := { name := "wholeBack", fn := fun _ => fun
  | [d] => { results := [.lit (.bool true)], args := [d] }
  | _ => none }
def wholeBackRow : OpenClaim := { program := "ytcicfilkdhhnmaa", sum := "b7520d052c0e2fb3fa3d3e11e1c266d2bbe1eed492b53640c554ec441af98e89", func := "burin/burinlaw5.WholeBack", spec := "wholeBack", unfollowed := true, recurses := true, apart := false }
def WholeBackSaid : Prop := wholeBackRow.holds Try.pinned (OpenSpec.ofChange wholeBackSpec)

/-- ITS FALSE NEIGHBOUR: 'it returns false'. Refute it at one input. -/
def wholeBackWrong : ChangeSpec := { name := "wholeBack", fn := fun _ => fun
  | [d] => { results := [.lit (.bool false)], args := [d] }
  | _ => none }
def WholeBackWrongFalsely : Prop := wholeBackRow.holds Try.pinned (OpenSpec.ofChange wholeBackWrong)

/- THE SECOND FORM. 'bulk': how many values and letters a reading holds, each counted each time it is reached (what is shared counts as often as it is met; a slice's spare places count too). A statement '..UptoSaid' is the law's where the arguments, and the package variables that the reading takes, are together of bulk at most 1048576: NARROWER than '..Said'. Prove '..Said' where nothing that the law and all that it calls make is longer than what came in: it says more and counts as full. Else prove '..UptoSaid'. A law counts once. -/
mutual
def uptoBulk {H : Type} : DataW H → Nat
  | .lit (.string bytes) => bytes.length + 1
  | .lit _ => 1
  | .nil => 1
  | .ptr d => uptoBulk d + 1
  | .slice elems spare => uptoBulkAll elems + uptoBulkAll spare + 1
  | .agg parts => uptoBulkAll parts + 1
  | .iface _ d => uptoBulk d + 1
  | .map entries => uptoBulkEntries entries + 1
  | .held _ => 1
def uptoBulkAll {H : Type} : List (DataW H) → Nat
  | [] => 0
  | d :: r => uptoBulk d + uptoBulkAll r
def uptoBulkEntries {H : Type} : List (Lit × DataW H) → Nat
  | [] => 0
  | x :: r => uptoBulkEntry x + uptoBulkEntries r
def uptoBulkEntry {H : Type} : Lit × DataW H → Nat
  | (.string bytes, d) => bytes.length + uptoBulk d + 1
  | (_, d) => uptoBulk d + 1
 end
def uptoSmall : (H : Type) → List (DataW H) → Bool := fun _ ds => decide (uptoBulkAll ds ≤ 1048576)
def OpenSpec.upto (s : _root_.Go.ChangeSpec) : _root_.Go.OpenSpec := { _root_.Go.OpenSpec.ofChange s with cond := some uptoSmall }

/-- 'burinlaw5.WholeEncodes', WHERE WHAT IT READS IS OF BULK AT MOST 1048576: true; the input reads as it did. -/
def wholeEncodesUptoRow : OpenClaim := { program := "ytcicfilkdhhnmaa", sum := "b7520d052c0e2fb3fa3d3e11e1c266d2bbe1eed492b53640c554ec441af98e89", func := "burin/burinlaw5.WholeEncodes", spec := "wholeEncodes", unfollowed := true, recurses := true, apart := false, narrowed := true }
def WholeEncodesUptoSaid : Prop := wholeEncodesUptoRow.holds Try.pinned (OpenSpec.upto wholeEncodesSpec)

/-- 'burinlaw5.WholeReads', WHERE WHAT IT READS IS OF BULK AT MOST 1048576: true; the input reads as it did. -/
def wholeReadsUptoRow : OpenClaim := { program := "ytcicfilkdhhnmaa", sum := "b7520d052c0e2fb3fa3d3e11e1c266d2bbe1eed492b53640c554ec441af98e89", func := "burin/burinlaw5.WholeReads", spec := "wholeReads", unfollowed := true, recurses := true, apart := false, narrowed := true }
def WholeReadsUptoSaid : Prop := wholeReadsUptoRow.holds Try.pinned (OpenSpec.upto wholeReadsSpec)

/-- 'burinlaw5.WholeRows', WHERE WHAT IT READS IS OF BULK AT MOST 1048576: true; the input reads as it did. -/
def wholeRowsUptoRow : OpenClaim := { program := "ytcicfilkdhhnmaa", sum := "b7520d052c0e2fb3fa3d3e11e1c266d2bbe1eed492b53640c554ec441af98e89", func := "burin/burinlaw5.WholeRows", spec := "wholeRows", unfollowed := true, recurses := true, apart := false, narrowed := true }
def WholeRowsUptoSaid : Prop := wholeRowsUptoRow.holds Try.pinned (OpenSpec.upto wholeRowsSpec)

/-- 'burinlaw8.RefineEncodes', WHERE WHAT IT READS IS OF BULK AT MOST 1048576: true; the input reads as it did. -/
def refineEncodesUptoRow : OpenClaim := { program := "ytcicfilkdhhnmaa", sum := "b7520d052c0e2fb3fa3d3e11e1c266d2bbe1eed492b53640c554ec441af98e89", func := "burin/burinlaw8.RefineEncodes", spec := "refineEncodes", unfollowed := true, recurses := true, apart := false, narrowed := true }
def RefineEncodesUptoSaid : Prop := refineEncodesUptoRow.holds Try.pinned (OpenSpec.upto refineEncodesSpec)

/-- 'burinlaw8.RefineReads', WHERE WHAT IT READS IS OF BULK AT MOST 1048576: true; the input reads as it did. -/
def refineReadsUptoRow : OpenClaim := { program := "ytcicfilkdhhnmaa", sum := "b7520d052c0e2fb3fa3d3e11e1c266d2bbe1eed492b53640c554ec441af98e89", func := "burin/burinlaw8.RefineReads", spec := "refineReads", unfollowed := true, recurses := true, apart := false, narrowed := true }
def RefineReadsUptoSaid : Prop := refineReadsUptoRow.holds Try.pinned (OpenSpec.upto refineReadsSpec)

/-- 'burinlaw8.RefineBack', WHERE WHAT IT READS IS OF BULK AT MOST 1048576: true; the input reads as it did. -/
def refineBackUptoRow : OpenClaim := { program := "ytcicfilkdhhnmaa", sum := "b7520d052c0e2fb3fa3d3e11e1c266d2bbe1eed492b53640c554ec441af98e89", func := "burin/burinlaw8.RefineBack", spec := "refineBack", unfollowed := true, recurses := true, apart := false, narrowed := true }
def RefineBackUptoSaid : Prop := refineBackUptoRow.holds Try.pinned (OpenSpec.upto refineBackSpec)

/-- 'burinlaw8.RefineFar', WHERE WHAT IT READS IS OF BULK AT MOST 1048576: true; the input reads as it did. -/
def refineFarUptoRow : OpenClaim := { program := "ytcicfilkdhhnmaa", sum := "b7520d052c0e2fb3fa3d3e11e1c266d2bbe1eed492b53640c554ec441af98e89", func := "burin/burinlaw8.RefineFar", spec := "refineFar", unfollowed := true, recurses := true, apart := false, narrowed := true }
def RefineFarUptoSaid : Prop := refineFarUptoRow.holds Try.pinned (OpenSpec.upto refineFarSpec)

/-- 'burinlaw8.RefineTop', WHERE WHAT IT READS IS OF BULK AT MOST 1048576: true; the input reads as it did. -/
def refineTopUptoRow : OpenClaim := { program := "ytcicfilkdhhnmaa", sum := "b7520d052c0e2fb3fa3d3e11e1c266d2bbe1eed492b53640c554ec441af98e89", func := "burin/burinlaw8.RefineTop", spec := "refineTop", unfollowed := true, recurses := true, apart := false, narrowed := true }
def RefineTopUptoSaid : Prop := refineTopUptoRow.holds Try.pinned (OpenSpec.upto refineTopSpec)

/-- 'burinlaw8.RefineRefuses', WHERE WHAT IT READS IS OF BULK AT MOST 1048576: true; the input reads as it did. -/
def refineRefusesUptoRow : OpenClaim := { program := "ytcicfilkdhhnmaa", sum := "b7520d052c0e2fb3fa3d3e11e1c266d2bbe1eed492b53640c554ec441af98e89", func := "burin/burinlaw8.RefineRefuses", spec := "refineRefuses", unfollowed := true, recurses := true, apart := false, narrowed := true }
def RefineRefusesUptoSaid : Prop := refineRefusesUptoRow.holds Try.pinned (OpenSpec.upto refineRefusesSpec)

/-- 'burinlaw8.RefineRow', WHERE WHAT IT READS IS OF BULK AT MOST 1048576: true; the input reads as it did. -/
def refineRowUptoRow : OpenClaim := { program := "ytcicfilkdhhnmaa", sum := "b7520d052c0e2fb3fa3d3e11e1c266d2bbe1eed492b53640c554ec441af98e89", func := "burin/burinlaw8.RefineRow", spec := "refineRow", unfollowed := true, recurses := true, apart := false, narrowed := true }
def RefineRowUptoSaid : Prop := refineRowUptoRow.holds Try.pinned (OpenSpec.upto refineRowSpec)

/-- 'burinlaw5.WholeMixed', WHERE WHAT IT READS IS OF BULK AT MOST 1048576: true; the input reads as it did. -/
def wholeMixedUptoRow : OpenClaim := { program := "ytcicfilkdhhnmaa", sum := "b7520d052c0e2fb3fa3d3e11e1c266d2bbe1eed492b53640c554ec441af98e89", func := "burin/burinlaw5.WholeMixed", spec := "wholeMixed", unfollowed := true, recurses := true, apart := false, narrowed := true }
def WholeMixedUptoSaid : Prop := wholeMixedUptoRow.holds Try.pinned (OpenSpec.upto wholeMixedSpec)

/-- 'burinlaw5.WholeNone', WHERE WHAT IT READS IS OF BULK AT MOST 1048576: true; the input reads as it did. -/
def wholeNoneUptoRow : OpenClaim := { program := "ytcicfilkdhhnmaa", sum := "b7520d052c0e2fb3fa3d3e11e1c266d2bbe1eed492b53640c554ec441af98e89", func := "burin/burinlaw5.WholeNone", spec := "wholeNone", unfollowed := true, recurses := true, apart := false, narrowed := true }
def WholeNoneUptoSaid : Prop := wholeNoneUptoRow.holds Try.pinned (OpenSpec.upto wholeNoneSpec)

/-- 'burinlaw5.WholeBack', WHERE WHAT IT READS IS OF BULK AT MOST 1048576: true; the input reads as it did. -/
def wholeBackUptoRow : OpenClaim := { program := "ytcicfilkdhhnmaa", sum := "b7520d052c0e2fb3fa3d3e11e1c266d2bbe1eed492b53640c554ec441af98e89", func := "burin/burinlaw5.WholeBack", spec := "wholeBack", unfollowed := true, recurses := true, apart := false, narrowed := true }
def WholeBackUptoSaid : Prop := wholeBackUptoRow.holds Try.pinned (OpenSpec.upto wholeBackSpec)

end Rows
end Go.Proofs.Ytcicfilkdhhnmaa
