/-
  No cell of these rows narrows 'for every input' (looked for: loops, veiled, ifaces, maps, wideKeys, modest, calm, conditions, laid).
  DERIVED. THE GIVEN ROWS OF THIS SEAT. 10 by the template 'for every input the law returns true; each argument reads behind the call as it read before'; 0 by the template 'total and deterministic' (their statements: YtlmopdohgipbeaaTotals.lean).
  GIVEN WITH THE SEED: the statements are not yours to turn. If you find one false, say at which input.
  Laid BY PROGRAM, IN A SANDBOX (cutbox-rows.mjs): the forced cells as the released guide's own fill.sh prints them over the translation 35528b4f3c3d7a48… (all of the seat's roots in one cut). By AI agents, Wed Nov 11 2026. No macro, syntax, notation, axiom, sorry.
-/
import Derived.Test.YtlmopdohgipbeaaChecked
import GoSem.Claim
import GoSem.ClaimJoined
import GoSem.ClaimMapViews
import Derived.JoinedTies
import Derived.KernelRfl
namespace Go.Proofs.Ytlmopdohgipbeaa
/- THE CELL 'sum', in the pinned program and in every row, IS THE sha256 OF THE DUMP (.gsa) THAT YtlmopdohgipbeaaProg.lean LOADS. Nothing in Lean hashes anything: it is a label: what it is worth is what the hold of that sum in a sandbox is worth. -/
noncomputable def Try.pinned : Pinned := { name := "ytlmopdohgipbeaa", sum := "35528b4f3c3d7a48193cbae7a315ff1fb203a100c97cbdf212d5b2b48473fb61", checked := Try.checked }
namespace Rows
def none {H : Type} : Left H := { results := [], args := [] }

/-- 'burinlaw15.PageExact': WHATEVER THE INPUT: true; the input reads as it did. -/
def pageExactSpec : ChangeSpec := { name := "pageExact", fn := fun _ => fun
  | [d] => { results := [.lit (.bool true)], args := [d] }
  | _ => none }
def pageExactRow : OpenClaim := { program := "ytlmopdohgipbeaa", sum := "35528b4f3c3d7a48193cbae7a315ff1fb203a100c97cbdf212d5b2b48473fb61", func := "burin/burinlaw15.PageExact", spec := "pageExact", unfollowed := true, recurses := true, apart := false }
def PageExactSaid : Prop := pageExactRow.holds Try.pinned (OpenSpec.ofChange pageExactSpec)

/-- ITS FALSE NEIGHBOUR: 'it returns false'. Refute it at one input. -/
def pageExactWrong : ChangeSpec := { name := "pageExact", fn := fun _ => fun
  | [d] => { results := [.lit (.bool false)], args := [d] }
  | _ => none }
def PageExactWrongFalsely : Prop := pageExactRow.holds Try.pinned (OpenSpec.ofChange pageExactWrong)

/-- 'burinlaw15.PageStripes': WHATEVER THE INPUT: true; the input reads as it did. -/
def pageStripesSpec : ChangeSpec := { name := "pageStripes", fn := fun _ => fun
  | [d] => { results := [.lit (.bool true)], args := [d] }
  | _ => none }
def pageStripesRow : OpenClaim := { program := "ytlmopdohgipbeaa", sum := "35528b4f3c3d7a48193cbae7a315ff1fb203a100c97cbdf212d5b2b48473fb61", func := "burin/burinlaw15.PageStripes", spec := "pageStripes", unfollowed := true, recurses := true, apart := false }
def PageStripesSaid : Prop := pageStripesRow.holds Try.pinned (OpenSpec.ofChange pageStripesSpec)

/-- ITS FALSE NEIGHBOUR: 'it returns false'. Refute it at one input. -/
def pageStripesWrong : ChangeSpec := { name := "pageStripes", fn := fun _ => fun
  | [d] => { results := [.lit (.bool false)], args := [d] }
  | _ => none }
def PageStripesWrongFalsely : Prop := pageStripesRow.holds Try.pinned (OpenSpec.ofChange pageStripesWrong)

/-- 'burinlaw15.PageLaid': WHATEVER THE INPUT: true; the input reads as it did. -/
def pageLaidSpec : ChangeSpec := { name := "pageLaid", fn := fun _ => fun
  | [d] => { results := [.lit (.bool true)], args := [d] }
  | _ => none }
def pageLaidRow : OpenClaim := { program := "ytlmopdohgipbeaa", sum := "35528b4f3c3d7a48193cbae7a315ff1fb203a100c97cbdf212d5b2b48473fb61", func := "burin/burinlaw15.PageLaid", spec := "pageLaid", unfollowed := true, recurses := true, apart := false }
def PageLaidSaid : Prop := pageLaidRow.holds Try.pinned (OpenSpec.ofChange pageLaidSpec)

/-- ITS FALSE NEIGHBOUR: 'it returns false'. Refute it at one input. -/
def pageLaidWrong : ChangeSpec := { name := "pageLaid", fn := fun _ => fun
  | [d] => { results := [.lit (.bool false)], args := [d] }
  | _ => none }
def PageLaidWrongFalsely : Prop := pageLaidRow.holds Try.pinned (OpenSpec.ofChange pageLaidWrong)

/-- 'burinlaw4.ArithShort': WHATEVER THE INPUT: true; the input reads as it did. -/
def arithShortSpec : ChangeSpec := { name := "arithShort", fn := fun _ => fun
  | [d] => { results := [.lit (.bool true)], args := [d] }
  | _ => none }
def arithShortRow : OpenClaim := { program := "ytlmopdohgipbeaa", sum := "35528b4f3c3d7a48193cbae7a315ff1fb203a100c97cbdf212d5b2b48473fb61", func := "burin/burinlaw4.ArithShort", spec := "arithShort", apart := false }
def ArithShortSaid : Prop := arithShortRow.holds Try.pinned (OpenSpec.ofChange arithShortSpec)

/-- ITS FALSE NEIGHBOUR: 'it returns false'. Refute it at one input. -/
def arithShortWrong : ChangeSpec := { name := "arithShort", fn := fun _ => fun
  | [d] => { results := [.lit (.bool false)], args := [d] }
  | _ => none }
def ArithShortWrongFalsely : Prop := arithShortRow.holds Try.pinned (OpenSpec.ofChange arithShortWrong)

/-- 'burinlaw4.ArithKnown': WHATEVER THE INPUT: true; the input reads as it did. -/
def arithKnownSpec : ChangeSpec := { name := "arithKnown", fn := fun _ => fun
  | [] => { results := [.lit (.bool true)], args := [] }
  | _ => none }
def arithKnownRow : OpenClaim := { program := "ytlmopdohgipbeaa", sum := "35528b4f3c3d7a48193cbae7a315ff1fb203a100c97cbdf212d5b2b48473fb61", func := "burin/burinlaw4.ArithKnown", spec := "arithKnown", apart := false }
def ArithKnownSaid : Prop := arithKnownRow.holds Try.pinned (OpenSpec.ofChange arithKnownSpec)

/-- ITS FALSE NEIGHBOUR: 'it returns false'. Refute it at one input. -/
def arithKnownWrong : ChangeSpec := { name := "arithKnown", fn := fun _ => fun
  | [] => { results := [.lit (.bool false)], args := [] }
  | _ => none }
def ArithKnownWrongFalsely : Prop := arithKnownRow.holds Try.pinned (OpenSpec.ofChange arithKnownWrong)

/-- 'burinlaw4.ArithBack': WHATEVER THE INPUT: true; the input reads as it did. -/
def arithBackSpec : ChangeSpec := { name := "arithBack", fn := fun _ => fun
  | [d] => { results := [.lit (.bool true)], args := [d] }
  | _ => none }
def arithBackRow : OpenClaim := { program := "ytlmopdohgipbeaa", sum := "35528b4f3c3d7a48193cbae7a315ff1fb203a100c97cbdf212d5b2b48473fb61", func := "burin/burinlaw4.ArithBack", spec := "arithBack", apart := false }
def ArithBackSaid : Prop := arithBackRow.holds Try.pinned (OpenSpec.ofChange arithBackSpec)

/-- ITS FALSE NEIGHBOUR: 'it returns false'. Refute it at one input. -/
def arithBackWrong : ChangeSpec := { name := "arithBack", fn := fun _ => fun
  | [d] => { results := [.lit (.bool false)], args := [d] }
  | _ => none }
def ArithBackWrongFalsely : Prop := arithBackRow.holds Try.pinned (OpenSpec.ofChange arithBackWrong)

/-- 'burinlaw4.ArithReduced': WHATEVER THE INPUT: true; the input reads as it did. -/
def arithReducedSpec : ChangeSpec := { name := "arithReduced", fn := fun _ => fun
  | [d] => { results := [.lit (.bool true)], args := [d] }
  | _ => none }
def arithReducedRow : OpenClaim := { program := "ytlmopdohgipbeaa", sum := "35528b4f3c3d7a48193cbae7a315ff1fb203a100c97cbdf212d5b2b48473fb61", func := "burin/burinlaw4.ArithReduced", spec := "arithReduced", apart := false }
def ArithReducedSaid : Prop := arithReducedRow.holds Try.pinned (OpenSpec.ofChange arithReducedSpec)

/-- ITS FALSE NEIGHBOUR: 'it returns false'. Refute it at one input. -/
def arithReducedWrong : ChangeSpec := { name := "arithReduced", fn := fun _ => fun
  | [d] => { results := [.lit (.bool false)], args := [d] }
  | _ => none }
def ArithReducedWrongFalsely : Prop := arithReducedRow.holds Try.pinned (OpenSpec.ofChange arithReducedWrong)

/-- 'burinlaw4.ArithCodes': WHATEVER THE INPUT: true; the input reads as it did. -/
def arithCodesSpec : ChangeSpec := { name := "arithCodes", fn := fun _ => fun
  | [d] => { results := [.lit (.bool true)], args := [d] }
  | _ => none }
def arithCodesRow : OpenClaim := { program := "ytlmopdohgipbeaa", sum := "35528b4f3c3d7a48193cbae7a315ff1fb203a100c97cbdf212d5b2b48473fb61", func := "burin/burinlaw4.ArithCodes", spec := "arithCodes", apart := false }
def ArithCodesSaid : Prop := arithCodesRow.holds Try.pinned (OpenSpec.ofChange arithCodesSpec)

/-- ITS FALSE NEIGHBOUR: 'it returns false'. Refute it at one input. -/
def arithCodesWrong : ChangeSpec := { name := "arithCodes", fn := fun _ => fun
  | [d] => { results := [.lit (.bool false)], args := [d] }
  | _ => none }
def ArithCodesWrongFalsely : Prop := arithCodesRow.holds Try.pinned (OpenSpec.ofChange arithCodesWrong)

/-- 'burinlaw4.ArithReads': WHATEVER THE INPUT: true; the input reads as it did. -/
def arithReadsSpec : ChangeSpec := { name := "arithReads", fn := fun _ => fun
  | [d] => { results := [.lit (.bool true)], args := [d] }
  | _ => none }
def arithReadsRow : OpenClaim := { program := "ytlmopdohgipbeaa", sum := "35528b4f3c3d7a48193cbae7a315ff1fb203a100c97cbdf212d5b2b48473fb61", func := "burin/burinlaw4.ArithReads", spec := "arithReads", apart := false }
def ArithReadsSaid : Prop := arithReadsRow.holds Try.pinned (OpenSpec.ofChange arithReadsSpec)

/-- ITS FALSE NEIGHBOUR: 'it returns false'. Refute it at one input. -/
def arithReadsWrong : ChangeSpec := { name := "arithReads", fn := fun _ => fun
  | [d] => { results := [.lit (.bool false)], args := [d] }
  | _ => none }
def ArithReadsWrongFalsely : Prop := arithReadsRow.holds Try.pinned (OpenSpec.ofChange arithReadsWrong)

/-- 'burinlaw4.ArithApart': WHATEVER THE INPUT: true; the input reads as it did. -/
def arithApartSpec : ChangeSpec := { name := "arithApart", fn := fun _ => fun
  | [d] => { results := [.lit (.bool true)], args := [d] }
  | _ => none }
def arithApartRow : OpenClaim := { program := "ytlmopdohgipbeaa", sum := "35528b4f3c3d7a48193cbae7a315ff1fb203a100c97cbdf212d5b2b48473fb61", func := "burin/burinlaw4.ArithApart", spec := "arithApart", apart := false }
def ArithApartSaid : Prop := arithApartRow.holds Try.pinned (OpenSpec.ofChange arithApartSpec)

/-- ITS FALSE NEIGHBOUR: 'it returns false'. Refute it at one input. -/
def arithApartWrong : ChangeSpec := { name := "arithApart", fn := fun _ => fun
  | [d] => { results := [.lit (.bool false)], args := [d] }
  | _ => none }
def ArithApartWrongFalsely : Prop := arithApartRow.holds Try.pinned (OpenSpec.ofChange arithApartWrong)

/- THE SECOND FORM. 'bulk': how many values and letters a reading holds, each counted each time it is reached (what is shared counts as often as it is met; a slice's spare places count too). A statement '..UptoSaid' is the law's where the arguments, and the package variables that the reading takes, are together of bulk at most 1048576: NARROWER than '..Said'. Prove '..Said' where nothing that the law and all that it calls make is longer than what came in: it says more and counts as full. Else prove '..UptoSaid'. A law counts once. -/
mutual
def uptoBulk {H : Type} : DataW H → Nat
  | .lit (.string bytes) => bytes.length + 1
  | .lit _ => 1
  | .nil => 1
  | .ptr d => uptoBulk d + 1
  | .slice elems spare => uptoBulkAll elems + uptoBulkAll spare + 1
  | .agg parts => uptoBulkAll parts + 1
  | .iface _ d => uptoBulk d + 1
  | .map entries => uptoBulkEntries entries + 1
  | .held _ => 1
def uptoBulkAll {H : Type} : List (DataW H) → Nat
  | [] => 0
  | d :: r => uptoBulk d + uptoBulkAll r
def uptoBulkEntries {H : Type} : List (Lit × DataW H) → Nat
  | [] => 0
  | x :: r => uptoBulkEntry x + uptoBulkEntries r
def uptoBulkEntry {H : Type} : Lit × DataW H → Nat
  | (.string bytes, d) => bytes.length + uptoBulk d + 1
  | (_, d) => uptoBulk d + 1
 end
def uptoSmall : (H : Type) → List (DataW H) → Bool := fun _ ds => decide (uptoBulkAll ds ≤ 1048576)
def OpenSpec.upto (s : _root_.Go.ChangeSpec) : _root_.Go.OpenSpec := { _root_.Go.OpenSpec.ofChange s with cond := some uptoSmall }

/-- 'burinlaw15.PageExact', WHERE WHAT IT READS IS OF BULK AT MOST 1048576: true; the input reads as it did. -/
def pageExactUptoRow : OpenClaim := { program := "ytlmopdohgipbeaa", sum := "35528b4f3c3d7a48193cbae7a315ff1fb203a100c97cbdf212d5b2b48473fb61", func := "burin/burinlaw15.PageExact", spec := "pageExact", unfollowed := true, recurses := true, apart := false, narrowed := true }
def PageExactUptoSaid : Prop := pageExactUptoRow.holds Try.pinned (OpenSpec.upto pageExactSpec)

/-- 'burinlaw15.PageStripes', WHERE WHAT IT READS IS OF BULK AT MOST 1048576: true; the input reads as it did. -/
def pageStripesUptoRow : OpenClaim := { program := "ytlmopdohgipbeaa", sum := "35528b4f3c3d7a48193cbae7a315ff1fb203a100c97cbdf212d5b2b48473fb61", func := "burin/burinlaw15.PageStripes", spec := "pageStripes", unfollowed := true, recurses := true, apart := false, narrowed := true }
def PageStripesUptoSaid : Prop := pageStripesUptoRow.holds Try.pinned (OpenSpec.upto pageStripesSpec)

/-- 'burinlaw15.PageLaid', WHERE WHAT IT READS IS OF BULK AT MOST 1048576: true; the input reads as it did. -/
def pageLaidUptoRow : OpenClaim := { program := "ytlmopdohgipbeaa", sum := "35528b4f3c3d7a48193cbae7a315ff1fb203a100c97cbdf212d5b2b48473fb61", func := "burin/burinlaw15.PageLaid", spec := "pageLaid", unfollowed := true, recurses := true, apart := false, narrowed := true }
def PageLaidUptoSaid : Prop := pageLaidUptoRow.holds Try.pinned (OpenSpec.upto pageLaidSpec)

/-- 'burinlaw4.ArithShort', WHERE WHAT IT READS IS OF BULK AT MOST 1048576: true; the input reads as it did. -/
def arithShortUptoRow : OpenClaim := { program := "ytlmopdohgipbeaa", sum := "35528b4f3c3d7a48193cbae7a315ff1fb203a100c97cbdf212d5b2b48473fb61", func := "burin/burinlaw4.ArithShort", spec := "arithShort", apart := false, narrowed := true }
def ArithShortUptoSaid : Prop := arithShortUptoRow.holds Try.pinned (OpenSpec.upto arithShortSpec)

/-- 'burinlaw4.ArithKnown', WHERE WHAT IT READS IS OF BULK AT MOST 1048576: true; the input reads as it did. -/
def arithKnownUptoRow : OpenClaim := { program := "ytlmopdohgipbeaa", sum := "35528b4f3c3d7a48193cbae7a315ff1fb203a100c97cbdf212d5b2b48473fb61", func := "burin/burinlaw4.ArithKnown", spec := "arithKnown", apart := false, narrowed := true }
def ArithKnownUptoSaid : Prop := arithKnownUptoRow.holds Try.pinned (OpenSpec.upto arithKnownSpec)

/-- 'burinlaw4.ArithBack', WHERE WHAT IT READS IS OF BULK AT MOST 1048576: true; the input reads as it did. -/
def arithBackUptoRow : OpenClaim := { program := "ytlmopdohgipbeaa", sum := "35528b4f3c3d7a48193cbae7a315ff1fb203a100c97cbdf212d5b2b48473fb61", func := "burin/burinlaw4.ArithBack", spec := "arithBack", apart := false, narrowed := true }
def ArithBackUptoSaid : Prop := arithBackUptoRow.holds Try.pinned (OpenSpec.upto arithBackSpec)

/-- 'burinlaw4.ArithReduced', WHERE WHAT IT READS IS OF BULK AT MOST 1048576: true; the input reads as it did. -/
def arithReducedUptoRow : OpenClaim := { program := "ytlmopdohgipbeaa", sum := "35528b4f3c3d7a48193cbae7a315ff1fb203a100c97cbdf212d5b2b48473fb61", func := "burin/burinlaw4.ArithReduced", spec := "arithReduced", apart := false, narrowed := true }
def ArithReducedUptoSaid : Prop := arithReducedUptoRow.holds Try.pinned (OpenSpec.upto arithReducedSpec)

/-- 'burinlaw4.ArithCodes', WHERE WHAT IT READS IS OF BULK AT MOST 1048576: true; the input reads as it did. -/
def arithCodesUptoRow : OpenClaim := { program := "ytlmopdohgipbeaa", sum := "35528b4f3c3d7a48193cbae7a315ff1fb203a100c97cbdf212d5b2b48473fb61", func := "burin/burinlaw4.ArithCodes", spec := "arithCodes", apart := false, narrowed := true }
def ArithCodesUptoSaid : Prop := arithCodesUptoRow.holds Try.pinned (OpenSpec.upto arithCodesSpec)

/-- 'burinlaw4.ArithReads', WHERE WHAT IT READS IS OF BULK AT MOST 1048576: true; the input reads as it did. -/
def arithReadsUptoRow : OpenClaim := { program := "ytlmopdohgipbeaa", sum := "35528b4f3c3d7a48193cbae7a315ff1fb203a100c97cbdf212d5b2b48473fb61", func := "burin/burinlaw4.ArithReads", spec := "arithReads", apart := false, narrowed := true }
def ArithReadsUptoSaid : Prop := arithReadsUptoRow.holds Try.pinned (OpenSpec.upto arithReadsSpec)

/-- 'burinlaw4.ArithApart', WHERE WHAT IT READS IS OF BULK AT MOST 1048576: true; the input reads as it did. -/
def arithApartUptoRow : OpenClaim := { program := "ytlmopdohgipbeaa", sum := "35528b4f3c3d7a48193cbae7a315ff1fb203a100c97cbdf212d5b2b48473fb61", func := "burin/burinlaw4.ArithApart", spec := "arithApart", apart := false, narrowed := true }
def ArithApartUptoSaid : Prop := arithApartUptoRow.holds Try.pinned (OpenSpec.upto arithApartSpec)

end Rows
end Go.Proofs.Ytlmopdohgipbeaa
