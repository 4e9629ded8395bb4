/-
  No cell of these rows narrows 'for every input' (looked for: loops, veiled, ifaces, maps, wideKeys, modest, calm, conditions, laid).
  DERIVED. THE GIVEN ROWS OF THIS SEAT. 10 by the template 'for every input the law returns true; each argument reads behind the call as it read before'; 0 by the template 'total and deterministic' (their statements: YtifmckhabkghcaaTotals.lean).
  GIVEN WITH THE SEED: the statements are not yours to turn. If you find one false, say at which input.
  Laid BY PROGRAM, IN A SANDBOX (cutbox-rows.mjs): the forced cells as the released guide's own fill.sh prints them over the translation b6a284b17652770b… (all of the seat's roots in one cut). By AI agents, Wed Nov 11 2026. No macro, syntax, notation, axiom, sorry.
-/
import Derived.Test.YtifmckhabkghcaaChecked
import GoSem.Claim
import GoSem.ClaimJoined
import GoSem.ClaimMapViews
import Derived.JoinedTies
import Derived.KernelRfl
namespace Go.Proofs.Ytifmckhabkghcaa
/- THE CELL 'sum', in the pinned program and in every row, IS THE sha256 OF THE DUMP (.gsa) THAT YtifmckhabkghcaaProg.lean LOADS. Nothing in Lean hashes anything: it is a label: what it is worth is what the hold of that sum in a sandbox is worth. -/
noncomputable def Try.pinned : Pinned := { name := "ytifmckhabkghcaa", sum := "b6a284b17652770b08d617104c2106dc3aaa89f4c5bb677d1b7e86cef34fad02", checked := Try.checked }
namespace Rows
def none {H : Type} : Left H := { results := [], args := [] }

/-- 'gueritelaw11.BasicSizes': WHATEVER THE INPUT: true; the input reads as it did. -/
def basicSizesSpec : ChangeSpec := { name := "basicSizes", fn := fun _ => fun
  | [d] => { results := [.lit (.bool true)], args := [d] }
  | _ => none }
def basicSizesRow : OpenClaim := { program := "ytifmckhabkghcaa", sum := "b6a284b17652770b08d617104c2106dc3aaa89f4c5bb677d1b7e86cef34fad02", func := "guerite/gueritelaw11.BasicSizes", spec := "basicSizes", plainKeys := false, apart := false }
def BasicSizesSaid : Prop := basicSizesRow.holds Try.pinned (OpenSpec.ofChange basicSizesSpec)

/-- ITS FALSE NEIGHBOUR: 'it returns false'. Refute it at one input. -/
def basicSizesWrong : ChangeSpec := { name := "basicSizes", fn := fun _ => fun
  | [d] => { results := [.lit (.bool false)], args := [d] }
  | _ => none }
def BasicSizesWrongFalsely : Prop := basicSizesRow.holds Try.pinned (OpenSpec.ofChange basicSizesWrong)

/-- 'gueritelaw11.BasicEncodes': WHATEVER THE INPUT: true; the input reads as it did. -/
def basicEncodesSpec : ChangeSpec := { name := "basicEncodes", fn := fun _ => fun
  | [d] => { results := [.lit (.bool true)], args := [d] }
  | _ => none }
def basicEncodesRow : OpenClaim := { program := "ytifmckhabkghcaa", sum := "b6a284b17652770b08d617104c2106dc3aaa89f4c5bb677d1b7e86cef34fad02", func := "guerite/gueritelaw11.BasicEncodes", spec := "basicEncodes", plainKeys := false, apart := false }
def BasicEncodesSaid : Prop := basicEncodesRow.holds Try.pinned (OpenSpec.ofChange basicEncodesSpec)

/-- ITS FALSE NEIGHBOUR: 'it returns false'. Refute it at one input. -/
def basicEncodesWrong : ChangeSpec := { name := "basicEncodes", fn := fun _ => fun
  | [d] => { results := [.lit (.bool false)], args := [d] }
  | _ => none }
def BasicEncodesWrongFalsely : Prop := basicEncodesRow.holds Try.pinned (OpenSpec.ofChange basicEncodesWrong)

/-- 'gueritelaw11.BasicDecodes': WHATEVER THE INPUT: true; the input reads as it did. -/
def basicDecodesSpec : ChangeSpec := { name := "basicDecodes", fn := fun _ => fun
  | [d1, d2] => { results := [.lit (.bool true)], args := [d1, d2] }
  | _ => none }
def basicDecodesRow : OpenClaim := { program := "ytifmckhabkghcaa", sum := "b6a284b17652770b08d617104c2106dc3aaa89f4c5bb677d1b7e86cef34fad02", func := "guerite/gueritelaw11.BasicDecodes", spec := "basicDecodes", plainKeys := false, apart := false }
def BasicDecodesSaid : Prop := basicDecodesRow.holds Try.pinned (OpenSpec.ofChange basicDecodesSpec)

/-- ITS FALSE NEIGHBOUR: 'it returns false'. Refute it at one input. -/
def basicDecodesWrong : ChangeSpec := { name := "basicDecodes", fn := fun _ => fun
  | [d1, d2] => { results := [.lit (.bool false)], args := [d1, d2] }
  | _ => none }
def BasicDecodesWrongFalsely : Prop := basicDecodesRow.holds Try.pinned (OpenSpec.ofChange basicDecodesWrong)

/-- 'gueritelaw12.DoiBack': WHATEVER THE INPUT: true; the input reads as it did. -/
def doiBackSpec : ChangeSpec := { name := "doiBack", fn := fun _ => fun
  | [d1, d2] => { results := [.lit (.bool true)], args := [d1, d2] }
  | _ => none }
def doiBackRow : OpenClaim := { program := "ytifmckhabkghcaa", sum := "b6a284b17652770b08d617104c2106dc3aaa89f4c5bb677d1b7e86cef34fad02", func := "guerite/gueritelaw12.DoiBack", spec := "doiBack", unfollowed := true, recurses := true, plainKeys := false, apart := false }
def DoiBackSaid : Prop := doiBackRow.holds Try.pinned (OpenSpec.ofChange doiBackSpec)

/-- ITS FALSE NEIGHBOUR: 'it returns false'. Refute it at one input. -/
def doiBackWrong : ChangeSpec := { name := "doiBack", fn := fun _ => fun
  | [d1, d2] => { results := [.lit (.bool false)], args := [d1, d2] }
  | _ => none }
def DoiBackWrongFalsely : Prop := doiBackRow.holds Try.pinned (OpenSpec.ofChange doiBackWrong)

/-- 'gueritelaw12.DoiFinds': WHATEVER THE INPUT: true; the input reads as it did. -/
def doiFindsSpec : ChangeSpec := { name := "doiFinds", fn := fun _ => fun
  | [d1, d2] => { results := [.lit (.bool true)], args := [d1, d2] }
  | _ => none }
def doiFindsRow : OpenClaim := { program := "ytifmckhabkghcaa", sum := "b6a284b17652770b08d617104c2106dc3aaa89f4c5bb677d1b7e86cef34fad02", func := "guerite/gueritelaw12.DoiFinds", spec := "doiFinds", unfollowed := true, recurses := true, plainKeys := false, apart := false }
def DoiFindsSaid : Prop := doiFindsRow.holds Try.pinned (OpenSpec.ofChange doiFindsSpec)

/-- ITS FALSE NEIGHBOUR: 'it returns false'. Refute it at one input. -/
def doiFindsWrong : ChangeSpec := { name := "doiFinds", fn := fun _ => fun
  | [d1, d2] => { results := [.lit (.bool false)], args := [d1, d2] }
  | _ => none }
def DoiFindsWrongFalsely : Prop := doiFindsRow.holds Try.pinned (OpenSpec.ofChange doiFindsWrong)

/-- 'gueritelaw12.DoiTells': WHATEVER THE INPUT: true; the input reads as it did. -/
def doiTellsSpec : ChangeSpec := { name := "doiTells", fn := fun _ => fun
  | [d1, d2] => { results := [.lit (.bool true)], args := [d1, d2] }
  | _ => none }
def doiTellsRow : OpenClaim := { program := "ytifmckhabkghcaa", sum := "b6a284b17652770b08d617104c2106dc3aaa89f4c5bb677d1b7e86cef34fad02", func := "guerite/gueritelaw12.DoiTells", spec := "doiTells", unfollowed := true, recurses := true, plainKeys := false, apart := false }
def DoiTellsSaid : Prop := doiTellsRow.holds Try.pinned (OpenSpec.ofChange doiTellsSpec)

/-- ITS FALSE NEIGHBOUR: 'it returns false'. Refute it at one input. -/
def doiTellsWrong : ChangeSpec := { name := "doiTells", fn := fun _ => fun
  | [d1, d2] => { results := [.lit (.bool false)], args := [d1, d2] }
  | _ => none }
def DoiTellsWrongFalsely : Prop := doiTellsRow.holds Try.pinned (OpenSpec.ofChange doiTellsWrong)

/-- 'gueritelaw13.TableRanges': WHATEVER THE INPUT: true; the input reads as it did. -/
def tableRangesSpec : ChangeSpec := { name := "tableRanges", fn := fun _ => fun
  | [d1, d2, d3, d4] => { results := [.lit (.bool true)], args := [d1, d2, d3, d4] }
  | _ => none }
def tableRangesRow : OpenClaim := { program := "ytifmckhabkghcaa", sum := "b6a284b17652770b08d617104c2106dc3aaa89f4c5bb677d1b7e86cef34fad02", func := "guerite/gueritelaw13.TableRanges", spec := "tableRanges", unfollowed := true, recurses := true, plainKeys := false, apart := false }
def TableRangesSaid : Prop := tableRangesRow.holds Try.pinned (OpenSpec.ofChange tableRangesSpec)

/-- ITS FALSE NEIGHBOUR: 'it returns false'. Refute it at one input. -/
def tableRangesWrong : ChangeSpec := { name := "tableRanges", fn := fun _ => fun
  | [d1, d2, d3, d4] => { results := [.lit (.bool false)], args := [d1, d2, d3, d4] }
  | _ => none }
def TableRangesWrongFalsely : Prop := tableRangesRow.holds Try.pinned (OpenSpec.ofChange tableRangesWrong)

/-- 'gueritelaw13.TableBelow': WHATEVER THE INPUT: true; the input reads as it did. -/
def tableBelowSpec : ChangeSpec := { name := "tableBelow", fn := fun _ => fun
  | [d1, d2] => { results := [.lit (.bool true)], args := [d1, d2] }
  | _ => none }
def tableBelowRow : OpenClaim := { program := "ytifmckhabkghcaa", sum := "b6a284b17652770b08d617104c2106dc3aaa89f4c5bb677d1b7e86cef34fad02", func := "guerite/gueritelaw13.TableBelow", spec := "tableBelow", unfollowed := true, recurses := true, plainKeys := false, apart := false }
def TableBelowSaid : Prop := tableBelowRow.holds Try.pinned (OpenSpec.ofChange tableBelowSpec)

/-- ITS FALSE NEIGHBOUR: 'it returns false'. Refute it at one input. -/
def tableBelowWrong : ChangeSpec := { name := "tableBelow", fn := fun _ => fun
  | [d1, d2] => { results := [.lit (.bool false)], args := [d1, d2] }
  | _ => none }
def TableBelowWrongFalsely : Prop := tableBelowRow.holds Try.pinned (OpenSpec.ofChange tableBelowWrong)

/-- 'gueritelaw13.TableNews': WHATEVER THE INPUT: true; the input reads as it did. -/
def tableNewsSpec : ChangeSpec := { name := "tableNews", fn := fun _ => fun
  | [d1, d2, d3] => { results := [.lit (.bool true)], args := [d1, d2, d3] }
  | _ => none }
def tableNewsRow : OpenClaim := { program := "ytifmckhabkghcaa", sum := "b6a284b17652770b08d617104c2106dc3aaa89f4c5bb677d1b7e86cef34fad02", func := "guerite/gueritelaw13.TableNews", spec := "tableNews", unfollowed := true, recurses := true, plainKeys := false, apart := false }
def TableNewsSaid : Prop := tableNewsRow.holds Try.pinned (OpenSpec.ofChange tableNewsSpec)

/-- ITS FALSE NEIGHBOUR: 'it returns false'. Refute it at one input. -/
def tableNewsWrong : ChangeSpec := { name := "tableNews", fn := fun _ => fun
  | [d1, d2, d3] => { results := [.lit (.bool false)], args := [d1, d2, d3] }
  | _ => none }
def TableNewsWrongFalsely : Prop := tableNewsRow.holds Try.pinned (OpenSpec.ofChange tableNewsWrong)

/-- 'gueritelaw13.TableNone': WHATEVER THE INPUT: true; the input reads as it did. -/
def tableNoneSpec : ChangeSpec := { name := "tableNone", fn := fun _ => fun
  | [d1, d2] => { results := [.lit (.bool true)], args := [d1, d2] }
  | _ => none }
def tableNoneRow : OpenClaim := { program := "ytifmckhabkghcaa", sum := "b6a284b17652770b08d617104c2106dc3aaa89f4c5bb677d1b7e86cef34fad02", func := "guerite/gueritelaw13.TableNone", spec := "tableNone", unfollowed := true, recurses := true, plainKeys := false, apart := false }
def TableNoneSaid : Prop := tableNoneRow.holds Try.pinned (OpenSpec.ofChange tableNoneSpec)

/-- ITS FALSE NEIGHBOUR: 'it returns false'. Refute it at one input. -/
def tableNoneWrong : ChangeSpec := { name := "tableNone", fn := fun _ => fun
  | [d1, d2] => { results := [.lit (.bool false)], args := [d1, d2] }
  | _ => none }
def TableNoneWrongFalsely : Prop := tableNoneRow.holds Try.pinned (OpenSpec.ofChange tableNoneWrong)

/- THE SECOND FORM. 'bulk': how many values and letters a reading holds, each counted each time it is reached (what is shared counts as often as it is met; a slice's spare places count too). A statement '..UptoSaid' is the law's where the arguments, and the package variables that the reading takes, are together of bulk at most 1048576: NARROWER than '..Said'. Prove '..Said' where nothing that the law and all that it calls make is longer than what came in: it says more and counts as full. Else prove '..UptoSaid'. A law counts once. -/
mutual
def uptoBulk {H : Type} : DataW H → Nat
  | .lit (.string bytes) => bytes.length + 1
  | .lit _ => 1
  | .nil => 1
  | .ptr d => uptoBulk d + 1
  | .slice elems spare => uptoBulkAll elems + uptoBulkAll spare + 1
  | .agg parts => uptoBulkAll parts + 1
  | .iface _ d => uptoBulk d + 1
  | .map entries => uptoBulkEntries entries + 1
  | .held _ => 1
def uptoBulkAll {H : Type} : List (DataW H) → Nat
  | [] => 0
  | d :: r => uptoBulk d + uptoBulkAll r
def uptoBulkEntries {H : Type} : List (Lit × DataW H) → Nat
  | [] => 0
  | x :: r => uptoBulkEntry x + uptoBulkEntries r
def uptoBulkEntry {H : Type} : Lit × DataW H → Nat
  | (.string bytes, d) => bytes.length + uptoBulk d + 1
  | (_, d) => uptoBulk d + 1
 end
def uptoSmall : (H : Type) → List (DataW H) → Bool := fun _ ds => decide (uptoBulkAll ds ≤ 1048576)
def OpenSpec.upto (s : _root_.Go.ChangeSpec) : _root_.Go.OpenSpec := { _root_.Go.OpenSpec.ofChange s with cond := some uptoSmall }

/-- 'gueritelaw11.BasicSizes', WHERE WHAT IT READS IS OF BULK AT MOST 1048576: true; the input reads as it did. -/
def basicSizesUptoRow : OpenClaim := { program := "ytifmckhabkghcaa", sum := "b6a284b17652770b08d617104c2106dc3aaa89f4c5bb677d1b7e86cef34fad02", func := "guerite/gueritelaw11.BasicSizes", spec := "basicSizes", plainKeys := false, apart := false, narrowed := true }
def BasicSizesUptoSaid : Prop := basicSizesUptoRow.holds Try.pinned (OpenSpec.upto basicSizesSpec)

/-- 'gueritelaw11.BasicEncodes', WHERE WHAT IT READS IS OF BULK AT MOST 1048576: true; the input reads as it did. -/
def basicEncodesUptoRow : OpenClaim := { program := "ytifmckhabkghcaa", sum := "b6a284b17652770b08d617104c2106dc3aaa89f4c5bb677d1b7e86cef34fad02", func := "guerite/gueritelaw11.BasicEncodes", spec := "basicEncodes", plainKeys := false, apart := false, narrowed := true }
def BasicEncodesUptoSaid : Prop := basicEncodesUptoRow.holds Try.pinned (OpenSpec.upto basicEncodesSpec)

/-- 'gueritelaw11.BasicDecodes', WHERE WHAT IT READS IS OF BULK AT MOST 1048576: true; the input reads as it did. -/
def basicDecodesUptoRow : OpenClaim := { program := "ytifmckhabkghcaa", sum := "b6a284b17652770b08d617104c2106dc3aaa89f4c5bb677d1b7e86cef34fad02", func := "guerite/gueritelaw11.BasicDecodes", spec := "basicDecodes", plainKeys := false, apart := false, narrowed := true }
def BasicDecodesUptoSaid : Prop := basicDecodesUptoRow.holds Try.pinned (OpenSpec.upto basicDecodesSpec)

/-- 'gueritelaw12.DoiBack', WHERE WHAT IT READS IS OF BULK AT MOST 1048576: true; the input reads as it did. -/
def doiBackUptoRow : OpenClaim := { program := "ytifmckhabkghcaa", sum := "b6a284b17652770b08d617104c2106dc3aaa89f4c5bb677d1b7e86cef34fad02", func := "guerite/gueritelaw12.DoiBack", spec := "doiBack", unfollowed := true, recurses := true, plainKeys := false, apart := false, narrowed := true }
def DoiBackUptoSaid : Prop := doiBackUptoRow.holds Try.pinned (OpenSpec.upto doiBackSpec)

/-- 'gueritelaw12.DoiFinds', WHERE WHAT IT READS IS OF BULK AT MOST 1048576: true; the input reads as it did. -/
def doiFindsUptoRow : OpenClaim := { program := "ytifmckhabkghcaa", sum := "b6a284b17652770b08d617104c2106dc3aaa89f4c5bb677d1b7e86cef34fad02", func := "guerite/gueritelaw12.DoiFinds", spec := "doiFinds", unfollowed := true, recurses := true, plainKeys := false, apart := false, narrowed := true }
def DoiFindsUptoSaid : Prop := doiFindsUptoRow.holds Try.pinned (OpenSpec.upto doiFindsSpec)

/-- 'gueritelaw12.DoiTells', WHERE WHAT IT READS IS OF BULK AT MOST 1048576: true; the input reads as it did. -/
def doiTellsUptoRow : OpenClaim := { program := "ytifmckhabkghcaa", sum := "b6a284b17652770b08d617104c2106dc3aaa89f4c5bb677d1b7e86cef34fad02", func := "guerite/gueritelaw12.DoiTells", spec := "doiTells", unfollowed := true, recurses := true, plainKeys := false, apart := false, narrowed := true }
def DoiTellsUptoSaid : Prop := doiTellsUptoRow.holds Try.pinned (OpenSpec.upto doiTellsSpec)

/-- 'gueritelaw13.TableRanges', WHERE WHAT IT READS IS OF BULK AT MOST 1048576: true; the input reads as it did. -/
def tableRangesUptoRow : OpenClaim := { program := "ytifmckhabkghcaa", sum := "b6a284b17652770b08d617104c2106dc3aaa89f4c5bb677d1b7e86cef34fad02", func := "guerite/gueritelaw13.TableRanges", spec := "tableRanges", unfollowed := true, recurses := true, plainKeys := false, apart := false, narrowed := true }
def TableRangesUptoSaid : Prop := tableRangesUptoRow.holds Try.pinned (OpenSpec.upto tableRangesSpec)

/-- 'gueritelaw13.TableBelow', WHERE WHAT IT READS IS OF BULK AT MOST 1048576: true; the input reads as it did. -/
def tableBelowUptoRow : OpenClaim := { program := "ytifmckhabkghcaa", sum := "b6a284b17652770b08d617104c2106dc3aaa89f4c5bb677d1b7e86cef34fad02", func := "guerite/gueritelaw13.TableBelow", spec := "tableBelow", unfollowed := true, recurses := true, plainKeys := false, apart := false, narrowed := true }
def TableBelowUptoSaid : Prop := tableBelowUptoRow.holds Try.pinned (OpenSpec.upto tableBelowSpec)

/-- 'gueritelaw13.TableNews', WHERE WHAT IT READS IS OF BULK AT MOST 1048576: true; the input reads as it did. -/
def tableNewsUptoRow : OpenClaim := { program := "ytifmckhabkghcaa", sum := "b6a284b17652770b08d617104c2106dc3aaa89f4c5bb677d1b7e86cef34fad02", func := "guerite/gueritelaw13.TableNews", spec := "tableNews", unfollowed := true, recurses := true, plainKeys := false, apart := false, narrowed := true }
def TableNewsUptoSaid : Prop := tableNewsUptoRow.holds Try.pinned (OpenSpec.upto tableNewsSpec)

/-- 'gueritelaw13.TableNone', WHERE WHAT IT READS IS OF BULK AT MOST 1048576: true; the input reads as it did. -/
def tableNoneUptoRow : OpenClaim := { program := "ytifmckhabkghcaa", sum := "b6a284b17652770b08d617104c2106dc3aaa89f4c5bb677d1b7e86cef34fad02", func := "guerite/gueritelaw13.TableNone", spec := "tableNone", unfollowed := true, recurses := true, plainKeys := false, apart := false, narrowed := true }
def TableNoneUptoSaid : Prop := tableNoneUptoRow.holds Try.pinned (OpenSpec.upto tableNoneSpec)

end Rows
end Go.Proofs.Ytifmckhabkghcaa
