/-
  No cell of these rows narrows 'for every input' (looked for: loops, veiled, ifaces, maps, wideKeys, modest, calm, conditions, laid).
  DERIVED. THE GIVEN ROWS OF THIS SEAT. 9 by the template 'for every input the law returns true; each argument reads behind the call as it read before'; 0 by the template 'total and deterministic' (their statements: YtfaclehehhgpcaaGreatTotals.lean).
  GIVEN WITH THE SEED: the statements are not yours to turn. If you find one false, say at which input.
  Laid BY PROGRAM, IN A SANDBOX (cutbox-rows.mjs): the forced cells as the released guide's own fill.sh prints them over the translation 332ecf114af8639a… (all of the seat's roots in one cut). By AI agents, Wed Nov 11 2026. No macro, syntax, notation, axiom, sorry.
-/
import Derived.Test.YtfaclehehhgpcaaGreatChecked
import GoSem.Claim
import GoSem.ClaimJoined
import GoSem.ClaimMapViews
import Derived.JoinedTies
import Derived.KernelRfl
namespace Go.Proofs.YtfaclehehhgpcaaGreat
/- THE CELL 'sum', in the pinned program and in every row, IS THE sha256 OF THE DUMP (.gsa) THAT YtfaclehehhgpcaaGreatProg.lean LOADS. Nothing in Lean hashes anything: it is a label: what it is worth is what the hold of that sum in a sandbox is worth. -/
noncomputable def Tryz.pinned : Pinned := { name := "ytfaclehehhgpcaagreat", sum := "332ecf114af8639ae69e146b0395782207d63e3fef7480e1daf6ee4037860ba3", checked := Tryz.checked }
namespace Rows
def none {H : Type} : Left H := { results := [], args := [] }

/-- 'burinlaw15.PageEncodes': WHATEVER THE INPUT: true; the input reads as it did. -/
def pageEncodesSpec : ChangeSpec := { name := "pageEncodes", fn := fun _ => fun
  | [d] => { results := [.lit (.bool true)], args := [d] }
  | _ => none }
def pageEncodesRow : OpenClaim := { program := "ytfaclehehhgpcaagreat", sum := "332ecf114af8639ae69e146b0395782207d63e3fef7480e1daf6ee4037860ba3", func := "burin/burinlaw15.PageEncodes", spec := "pageEncodes", unfollowed := true, recurses := true, apart := false }
def PageEncodesSaid : Prop := pageEncodesRow.holds Tryz.pinned (OpenSpec.ofChange pageEncodesSpec)

/-- ITS FALSE NEIGHBOUR: 'it returns false'. Refute it at one input. -/
def pageEncodesWrong : ChangeSpec := { name := "pageEncodes", fn := fun _ => fun
  | [d] => { results := [.lit (.bool false)], args := [d] }
  | _ => none }
def PageEncodesWrongFalsely : Prop := pageEncodesRow.holds Tryz.pinned (OpenSpec.ofChange pageEncodesWrong)

/-- 'burinlaw15.PageReads': WHATEVER THE INPUT: true; the input reads as it did. -/
def pageReadsSpec : ChangeSpec := { name := "pageReads", fn := fun _ => fun
  | [d] => { results := [.lit (.bool true)], args := [d] }
  | _ => none }
def pageReadsRow : OpenClaim := { program := "ytfaclehehhgpcaagreat", sum := "332ecf114af8639ae69e146b0395782207d63e3fef7480e1daf6ee4037860ba3", func := "burin/burinlaw15.PageReads", spec := "pageReads", unfollowed := true, recurses := true, apart := false }
def PageReadsSaid : Prop := pageReadsRow.holds Tryz.pinned (OpenSpec.ofChange pageReadsSpec)

/-- ITS FALSE NEIGHBOUR: 'it returns false'. Refute it at one input. -/
def pageReadsWrong : ChangeSpec := { name := "pageReads", fn := fun _ => fun
  | [d] => { results := [.lit (.bool false)], args := [d] }
  | _ => none }
def PageReadsWrongFalsely : Prop := pageReadsRow.holds Tryz.pinned (OpenSpec.ofChange pageReadsWrong)

/-- 'burinlaw15.PageBack': WHATEVER THE INPUT: true; the input reads as it did. -/
def pageBackSpec : ChangeSpec := { name := "pageBack", fn := fun _ => fun
  | [d] => { results := [.lit (.bool true)], args := [d] }
  | _ => none }
def pageBackRow : OpenClaim := { program := "ytfaclehehhgpcaagreat", sum := "332ecf114af8639ae69e146b0395782207d63e3fef7480e1daf6ee4037860ba3", func := "burin/burinlaw15.PageBack", spec := "pageBack", unfollowed := true, recurses := true, apart := false }
def PageBackSaid : Prop := pageBackRow.holds Tryz.pinned (OpenSpec.ofChange pageBackSpec)

/-- ITS FALSE NEIGHBOUR: 'it returns false'. Refute it at one input. -/
def pageBackWrong : ChangeSpec := { name := "pageBack", fn := fun _ => fun
  | [d] => { results := [.lit (.bool false)], args := [d] }
  | _ => none }
def PageBackWrongFalsely : Prop := pageBackRow.holds Tryz.pinned (OpenSpec.ofChange pageBackWrong)

/-- 'burinlaw13.DictEncodes': WHATEVER THE INPUT: true; the input reads as it did. -/
def dictEncodesSpec : ChangeSpec := { name := "dictEncodes", fn := fun _ => fun
  | [d] => { results := [.lit (.bool true)], args := [d] }
  | _ => none }
def dictEncodesRow : OpenClaim := { program := "ytfaclehehhgpcaagreat", sum := "332ecf114af8639ae69e146b0395782207d63e3fef7480e1daf6ee4037860ba3", func := "burin/burinlaw13.DictEncodes", spec := "dictEncodes", unfollowed := true, recurses := true, apart := false }
def DictEncodesSaid : Prop := dictEncodesRow.holds Tryz.pinned (OpenSpec.ofChange dictEncodesSpec)

/-- ITS FALSE NEIGHBOUR: 'it returns false'. Refute it at one input. -/
def dictEncodesWrong : ChangeSpec := { name := "dictEncodes", fn := fun _ => fun
  | [d] => { results := [.lit (.bool false)], args := [d] }
  | _ => none }
def DictEncodesWrongFalsely : Prop := dictEncodesRow.holds Tryz.pinned (OpenSpec.ofChange dictEncodesWrong)

/-- 'burinlaw13.DictReads': WHATEVER THE INPUT: true; the input reads as it did. -/
def dictReadsSpec : ChangeSpec := { name := "dictReads", fn := fun _ => fun
  | [d] => { results := [.lit (.bool true)], args := [d] }
  | _ => none }
def dictReadsRow : OpenClaim := { program := "ytfaclehehhgpcaagreat", sum := "332ecf114af8639ae69e146b0395782207d63e3fef7480e1daf6ee4037860ba3", func := "burin/burinlaw13.DictReads", spec := "dictReads", unfollowed := true, recurses := true, apart := false }
def DictReadsSaid : Prop := dictReadsRow.holds Tryz.pinned (OpenSpec.ofChange dictReadsSpec)

/-- ITS FALSE NEIGHBOUR: 'it returns false'. Refute it at one input. -/
def dictReadsWrong : ChangeSpec := { name := "dictReads", fn := fun _ => fun
  | [d] => { results := [.lit (.bool false)], args := [d] }
  | _ => none }
def DictReadsWrongFalsely : Prop := dictReadsRow.holds Tryz.pinned (OpenSpec.ofChange dictReadsWrong)

/-- 'burinlaw13.DictBack': WHATEVER THE INPUT: true; the input reads as it did. -/
def dictBackSpec : ChangeSpec := { name := "dictBack", fn := fun _ => fun
  | [d] => { results := [.lit (.bool true)], args := [d] }
  | _ => none }
def dictBackRow : OpenClaim := { program := "ytfaclehehhgpcaagreat", sum := "332ecf114af8639ae69e146b0395782207d63e3fef7480e1daf6ee4037860ba3", func := "burin/burinlaw13.DictBack", spec := "dictBack", unfollowed := true, recurses := true, apart := false }
def DictBackSaid : Prop := dictBackRow.holds Tryz.pinned (OpenSpec.ofChange dictBackSpec)

/-- ITS FALSE NEIGHBOUR: 'it returns false'. Refute it at one input. -/
def dictBackWrong : ChangeSpec := { name := "dictBack", fn := fun _ => fun
  | [d] => { results := [.lit (.bool false)], args := [d] }
  | _ => none }
def DictBackWrongFalsely : Prop := dictBackRow.holds Tryz.pinned (OpenSpec.ofChange dictBackWrong)

/-- 'burinlaw13.DictHurt': WHATEVER THE INPUT: true; the input reads as it did. -/
def dictHurtSpec : ChangeSpec := { name := "dictHurt", fn := fun _ => fun
  | [d] => { results := [.lit (.bool true)], args := [d] }
  | _ => none }
def dictHurtRow : OpenClaim := { program := "ytfaclehehhgpcaagreat", sum := "332ecf114af8639ae69e146b0395782207d63e3fef7480e1daf6ee4037860ba3", func := "burin/burinlaw13.DictHurt", spec := "dictHurt", unfollowed := true, recurses := true, apart := false }
def DictHurtSaid : Prop := dictHurtRow.holds Tryz.pinned (OpenSpec.ofChange dictHurtSpec)

/-- ITS FALSE NEIGHBOUR: 'it returns false'. Refute it at one input. -/
def dictHurtWrong : ChangeSpec := { name := "dictHurt", fn := fun _ => fun
  | [d] => { results := [.lit (.bool false)], args := [d] }
  | _ => none }
def DictHurtWrongFalsely : Prop := dictHurtRow.holds Tryz.pinned (OpenSpec.ofChange dictHurtWrong)

/-- 'burinlaw13.DictChain': WHATEVER THE INPUT: true; the input reads as it did. -/
def dictChainSpec : ChangeSpec := { name := "dictChain", fn := fun _ => fun
  | [d] => { results := [.lit (.bool true)], args := [d] }
  | _ => none }
def dictChainRow : OpenClaim := { program := "ytfaclehehhgpcaagreat", sum := "332ecf114af8639ae69e146b0395782207d63e3fef7480e1daf6ee4037860ba3", func := "burin/burinlaw13.DictChain", spec := "dictChain", unfollowed := true, recurses := true, apart := false }
def DictChainSaid : Prop := dictChainRow.holds Tryz.pinned (OpenSpec.ofChange dictChainSpec)

/-- ITS FALSE NEIGHBOUR: 'it returns false'. Refute it at one input. -/
def dictChainWrong : ChangeSpec := { name := "dictChain", fn := fun _ => fun
  | [d] => { results := [.lit (.bool false)], args := [d] }
  | _ => none }
def DictChainWrongFalsely : Prop := dictChainRow.holds Tryz.pinned (OpenSpec.ofChange dictChainWrong)

/-- 'burinlaw13.DictMost': WHATEVER THE INPUT: true; the input reads as it did. -/
def dictMostSpec : ChangeSpec := { name := "dictMost", fn := fun _ => fun
  | [] => { results := [.lit (.bool true)], args := [] }
  | _ => none }
def dictMostRow : OpenClaim := { program := "ytfaclehehhgpcaagreat", sum := "332ecf114af8639ae69e146b0395782207d63e3fef7480e1daf6ee4037860ba3", func := "burin/burinlaw13.DictMost", spec := "dictMost", unfollowed := true, recurses := true, apart := false }
def DictMostSaid : Prop := dictMostRow.holds Tryz.pinned (OpenSpec.ofChange dictMostSpec)

/-- ITS FALSE NEIGHBOUR: 'it returns false'. Refute it at one input. -/
def dictMostWrong : ChangeSpec := { name := "dictMost", fn := fun _ => fun
  | [] => { results := [.lit (.bool false)], args := [] }
  | _ => none }
def DictMostWrongFalsely : Prop := dictMostRow.holds Tryz.pinned (OpenSpec.ofChange dictMostWrong)

/- THE SECOND FORM. 'bulk': how many values and letters a reading holds, each counted each time it is reached (what is shared counts as often as it is met; a slice's spare places count too). A statement '..UptoSaid' is the law's where the arguments, and the package variables that the reading takes, are together of bulk at most 1048576: NARROWER than '..Said'. Prove '..Said' where nothing that the law and all that it calls make is longer than what came in: it says more and counts as full. Else prove '..UptoSaid'. A law counts once. -/
mutual
def uptoBulk {H : Type} : DataW H → Nat
  | .lit (.string bytes) => bytes.length + 1
  | .lit _ => 1
  | .nil => 1
  | .ptr d => uptoBulk d + 1
  | .slice elems spare => uptoBulkAll elems + uptoBulkAll spare + 1
  | .agg parts => uptoBulkAll parts + 1
  | .iface _ d => uptoBulk d + 1
  | .map entries => uptoBulkEntries entries + 1
  | .held _ => 1
def uptoBulkAll {H : Type} : List (DataW H) → Nat
  | [] => 0
  | d :: r => uptoBulk d + uptoBulkAll r
def uptoBulkEntries {H : Type} : List (Lit × DataW H) → Nat
  | [] => 0
  | x :: r => uptoBulkEntry x + uptoBulkEntries r
def uptoBulkEntry {H : Type} : Lit × DataW H → Nat
  | (.string bytes, d) => bytes.length + uptoBulk d + 1
  | (_, d) => uptoBulk d + 1
 end
def uptoSmall : (H : Type) → List (DataW H) → Bool := fun _ ds => decide (uptoBulkAll ds ≤ 1048576)
def OpenSpec.upto (s : _root_.Go.ChangeSpec) : _root_.Go.OpenSpec := { _root_.Go.OpenSpec.ofChange s with cond := some uptoSmall }

/-- 'burinlaw15.PageEncodes', WHERE WHAT IT READS IS OF BULK AT MOST 1048576: true; the input reads as it did. -/
def pageEncodesUptoRow : OpenClaim := { program := "ytfaclehehhgpcaagreat", sum := "332ecf114af8639ae69e146b0395782207d63e3fef7480e1daf6ee4037860ba3", func := "burin/burinlaw15.PageEncodes", spec := "pageEncodes", unfollowed := true, recurses := true, apart := false, narrowed := true }
def PageEncodesUptoSaid : Prop := pageEncodesUptoRow.holds Tryz.pinned (OpenSpec.upto pageEncodesSpec)

/-- 'burinlaw15.PageReads', WHERE WHAT IT READS IS OF BULK AT MOST 1048576: true; the input reads as it did. -/
def pageReadsUptoRow : OpenClaim := { program := "ytfaclehehhgpcaagreat", sum := "332ecf114af8639ae69e146b0395782207d63e3fef7480e1daf6ee4037860ba3", func := "burin/burinlaw15.PageReads", spec := "pageReads", unfollowed := true, recurses := true, apart := false, narrowed := true }
def PageReadsUptoSaid : Prop := pageReadsUptoRow.holds Tryz.pinned (OpenSpec.upto pageReadsSpec)

/-- 'burinlaw15.PageBack', WHERE WHAT IT READS IS OF BULK AT MOST 1048576: true; the input reads as it did. -/
def pageBackUptoRow : OpenClaim := { program := "ytfaclehehhgpcaagreat", sum := "332ecf114af8639ae69e146b0395782207d63e3fef7480e1daf6ee4037860ba3", func := "burin/burinlaw15.PageBack", spec := "pageBack", unfollowed := true, recurses := true, apart := false, narrowed := true }
def PageBackUptoSaid : Prop := pageBackUptoRow.holds Tryz.pinned (OpenSpec.upto pageBackSpec)

/-- 'burinlaw13.DictEncodes', WHERE WHAT IT READS IS OF BULK AT MOST 1048576: true; the input reads as it did. -/
def dictEncodesUptoRow : OpenClaim := { program := "ytfaclehehhgpcaagreat", sum := "332ecf114af8639ae69e146b0395782207d63e3fef7480e1daf6ee4037860ba3", func := "burin/burinlaw13.DictEncodes", spec := "dictEncodes", unfollowed := true, recurses := true, apart := false, narrowed := true }
def DictEncodesUptoSaid : Prop := dictEncodesUptoRow.holds Tryz.pinned (OpenSpec.upto dictEncodesSpec)

/-- 'burinlaw13.DictReads', WHERE WHAT IT READS IS OF BULK AT MOST 1048576: true; the input reads as it did. -/
def dictReadsUptoRow : OpenClaim := { program := "ytfaclehehhgpcaagreat", sum := "332ecf114af8639ae69e146b0395782207d63e3fef7480e1daf6ee4037860ba3", func := "burin/burinlaw13.DictReads", spec := "dictReads", unfollowed := true, recurses := true, apart := false, narrowed := true }
def DictReadsUptoSaid : Prop := dictReadsUptoRow.holds Tryz.pinned (OpenSpec.upto dictReadsSpec)

/-- 'burinlaw13.DictBack', WHERE WHAT IT READS IS OF BULK AT MOST 1048576: true; the input reads as it did. -/
def dictBackUptoRow : OpenClaim := { program := "ytfaclehehhgpcaagreat", sum := "332ecf114af8639ae69e146b0395782207d63e3fef7480e1daf6ee4037860ba3", func := "burin/burinlaw13.DictBack", spec := "dictBack", unfollowed := true, recurses := true, apart := false, narrowed := true }
def DictBackUptoSaid : Prop := dictBackUptoRow.holds Tryz.pinned (OpenSpec.upto dictBackSpec)

/-- 'burinlaw13.DictHurt', WHERE WHAT IT READS IS OF BULK AT MOST 1048576: true; the input reads as it did. -/
def dictHurtUptoRow : OpenClaim := { program := "ytfaclehehhgpcaagreat", sum := "332ecf114af8639ae69e146b0395782207d63e3fef7480e1daf6ee4037860ba3", func := "burin/burinlaw13.DictHurt", spec := "dictHurt", unfollowed := true, recurses := true, apart := false, narrowed := true }
def DictHurtUptoSaid : Prop := dictHurtUptoRow.holds Tryz.pinned (OpenSpec.upto dictHurtSpec)

/-- 'burinlaw13.DictChain', WHERE WHAT IT READS IS OF BULK AT MOST 1048576: true; the input reads as it did. -/
def dictChainUptoRow : OpenClaim := { program := "ytfaclehehhgpcaagreat", sum := "332ecf114af8639ae69e146b0395782207d63e3fef7480e1daf6ee4037860ba3", func := "burin/burinlaw13.DictChain", spec := "dictChain", unfollowed := true, recurses := true, apart := false, narrowed := true }
def DictChainUptoSaid : Prop := dictChainUptoRow.holds Tryz.pinned (OpenSpec.upto dictChainSpec)

/-- 'burinlaw13.DictMost', WHERE WHAT IT READS IS OF BULK AT MOST 1048576: true; the input reads as it did. -/
def dictMostUptoRow : OpenClaim := { program := "ytfaclehehhgpcaagreat", sum := "332ecf114af8639ae69e146b0395782207d63e3fef7480e1daf6ee4037860ba3", func := "burin/burinlaw13.DictMost", spec := "dictMost", unfollowed := true, recurses := true, apart := false, narrowed := true }
def DictMostUptoSaid : Prop := dictMostUptoRow.holds Tryz.pinned (OpenSpec.upto dictMostSpec)

end Rows
end Go.Proofs.YtfaclehehhgpcaaGreat
