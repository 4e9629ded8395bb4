/-
  No cell of these rows narrows 'for every input' (looked for: loops, veiled, ifaces, maps, wideKeys, modest, calm, conditions, laid).
  DERIVED. THE GIVEN ROWS OF THIS SEAT. 4 by the template 'for every input the law returns true; each argument reads behind the call as it read before'; 0 by the template 'total and deterministic' (their statements: YtkpnbkcebpeaoaaTotals.lean).
  GIVEN WITH THE SEED: the statements are not yours to turn. If you find one false, say at which input.
  Laid BY PROGRAM, IN A SANDBOX (cutbox-rows.mjs): the forced cells as the released guide's own fill.sh prints them over the translation bc5ee7a3c6720f4f… (all of the seat's roots in one cut). By AI agents, Wed Nov 11 2026. No macro, syntax, notation, axiom, sorry.
-/
import Derived.Test.YtkpnbkcebpeaoaaChecked
import GoSem.Claim
import GoSem.ClaimJoined
import GoSem.ClaimMapViews
import Derived.JoinedTies
import Derived.KernelRfl
namespace Go.Proofs.Ytkpnbkcebpeaoaa
/- THE CELL 'sum', in the pinned program and in every row, IS THE sha256 OF THE DUMP (.gsa) THAT YtkpnbkcebpeaoaaProg.lean LOADS. Nothing in Lean hashes anything: it is a label: what it is worth is what the hold of that sum in a sandbox is worth. -/
noncomputable def Try.pinned : Pinned := { name := "ytkpnbkcebpeaoaa", sum := "bc5ee7a3c6720f4f902793541bccf185234f2523f18eea3a50e1ce059e069f92", checked := Try.checked }
namespace Rows
def none {H : Type} : Left H := { results := [], args := [] }

/-- 'gueritelaw26.CountSums': WHATEVER THE INPUT: true; the input reads as it did. -/
def countSumsSpec : ChangeSpec := { name := "countSums", fn := fun _ => fun
  | [d1, d2] => { results := [.lit (.bool true)], args := [d1, d2] }
  | _ => none }
def countSumsRow : OpenClaim := { program := "ytkpnbkcebpeaoaa", sum := "bc5ee7a3c6720f4f902793541bccf185234f2523f18eea3a50e1ce059e069f92", func := "guerite/gueritelaw26.CountSums", spec := "countSums", apart := false }
def CountSumsSaid : Prop := countSumsRow.holds Try.pinned (OpenSpec.ofChange countSumsSpec)

/-- ITS FALSE NEIGHBOUR: 'it returns false'. Refute it at one input. -/
def countSumsWrong : ChangeSpec := { name := "countSums", fn := fun _ => fun
  | [d1, d2] => { results := [.lit (.bool false)], args := [d1, d2] }
  | _ => none }
def CountSumsWrongFalsely : Prop := countSumsRow.holds Try.pinned (OpenSpec.ofChange countSumsWrong)

/-- 'gueritelaw26.CountPlays': WHATEVER THE INPUT: true; the input reads as it did. -/
def countPlaysSpec : ChangeSpec := { name := "countPlays", fn := fun _ => fun
  | [d1, d2, d3] => { results := [.lit (.bool true)], args := [d1, d2, d3] }
  | _ => none }
def countPlaysRow : OpenClaim := { program := "ytkpnbkcebpeaoaa", sum := "bc5ee7a3c6720f4f902793541bccf185234f2523f18eea3a50e1ce059e069f92", func := "guerite/gueritelaw26.CountPlays", spec := "countPlays", apart := false }
def CountPlaysSaid : Prop := countPlaysRow.holds Try.pinned (OpenSpec.ofChange countPlaysSpec)

/-- ITS FALSE NEIGHBOUR: 'it returns false'. Refute it at one input. -/
def countPlaysWrong : ChangeSpec := { name := "countPlays", fn := fun _ => fun
  | [d1, d2, d3] => { results := [.lit (.bool false)], args := [d1, d2, d3] }
  | _ => none }
def CountPlaysWrongFalsely : Prop := countPlaysRow.holds Try.pinned (OpenSpec.ofChange countPlaysWrong)

/-- 'gueritelaw26.CountNone': WHATEVER THE INPUT: true; the input reads as it did. -/
def countNoneSpec : ChangeSpec := { name := "countNone", fn := fun _ => fun
  | [d1, d2, d3] => { results := [.lit (.bool true)], args := [d1, d2, d3] }
  | _ => none }
def countNoneRow : OpenClaim := { program := "ytkpnbkcebpeaoaa", sum := "bc5ee7a3c6720f4f902793541bccf185234f2523f18eea3a50e1ce059e069f92", func := "guerite/gueritelaw26.CountNone", spec := "countNone", apart := false }
def CountNoneSaid : Prop := countNoneRow.holds Try.pinned (OpenSpec.ofChange countNoneSpec)

/-- ITS FALSE NEIGHBOUR: 'it returns false'. Refute it at one input. -/
def countNoneWrong : ChangeSpec := { name := "countNone", fn := fun _ => fun
  | [d1, d2, d3] => { results := [.lit (.bool false)], args := [d1, d2, d3] }
  | _ => none }
def CountNoneWrongFalsely : Prop := countNoneRow.holds Try.pinned (OpenSpec.ofChange countNoneWrong)

/-- 'gueritelaw26.CountNames': WHATEVER THE INPUT: true; the input reads as it did. -/
def countNamesSpec : ChangeSpec := { name := "countNames", fn := fun _ => fun
  | [d1, d2] => { results := [.lit (.bool true)], args := [d1, d2] }
  | _ => none }
def countNamesRow : OpenClaim := { program := "ytkpnbkcebpeaoaa", sum := "bc5ee7a3c6720f4f902793541bccf185234f2523f18eea3a50e1ce059e069f92", func := "guerite/gueritelaw26.CountNames", spec := "countNames", apart := false }
def CountNamesSaid : Prop := countNamesRow.holds Try.pinned (OpenSpec.ofChange countNamesSpec)

/-- ITS FALSE NEIGHBOUR: 'it returns false'. Refute it at one input. -/
def countNamesWrong : ChangeSpec := { name := "countNames", fn := fun _ => fun
  | [d1, d2] => { results := [.lit (.bool false)], args := [d1, d2] }
  | _ => none }
def CountNamesWrongFalsely : Prop := countNamesRow.holds Try.pinned (OpenSpec.ofChange countNamesWrong)

/- THE SECOND FORM. 'bulk': how many values and letters a reading holds, each counted each time it is reached (what is shared counts as often as it is met; a slice's spare places count too). A statement '..UptoSaid' is the law's where the arguments, and the package variables that the reading takes, are together of bulk at most 1048576: NARROWER than '..Said'. Prove '..Said' where nothing that the law and all that it calls make is longer than what came in: it says more and counts as full. Else prove '..UptoSaid'. A law counts once. -/
mutual
def uptoBulk {H : Type} : DataW H → Nat
  | .lit (.string bytes) => bytes.length + 1
  | .lit _ => 1
  | .nil => 1
  | .ptr d => uptoBulk d + 1
  | .slice elems spare => uptoBulkAll elems + uptoBulkAll spare + 1
  | .agg parts => uptoBulkAll parts + 1
  | .iface _ d => uptoBulk d + 1
  | .map entries => uptoBulkEntries entries + 1
  | .held _ => 1
def uptoBulkAll {H : Type} : List (DataW H) → Nat
  | [] => 0
  | d :: r => uptoBulk d + uptoBulkAll r
def uptoBulkEntries {H : Type} : List (Lit × DataW H) → Nat
  | [] => 0
  | x :: r => uptoBulkEntry x + uptoBulkEntries r
def uptoBulkEntry {H : Type} : Lit × DataW H → Nat
  | (.string bytes, d) => bytes.length + uptoBulk d + 1
  | (_, d) => uptoBulk d + 1
 end
def uptoSmall : (H : Type) → List (DataW H) → Bool := fun _ ds => decide (uptoBulkAll ds ≤ 1048576)
def OpenSpec.upto (s : _root_.Go.ChangeSpec) : _root_.Go.OpenSpec := { _root_.Go.OpenSpec.ofChange s with cond := some uptoSmall }

/-- 'gueritelaw26.CountSums', WHERE WHAT IT READS IS OF BULK AT MOST 1048576: true; the input reads as it did. -/
def countSumsUptoRow : OpenClaim := { program := "ytkpnbkcebpeaoaa", sum := "bc5ee7a3c6720f4f902793541bccf185234f2523f18eea3a50e1ce059e069f92", func := "guerite/gueritelaw26.CountSums", spec := "countSums", apart := false, narrowed := true }
def CountSumsUptoSaid : Prop := countSumsUptoRow.holds Try.pinned (OpenSpec.upto countSumsSpec)

/-- 'gueritelaw26.CountPlays', WHERE WHAT IT READS IS OF BULK AT MOST 1048576: true; the input reads as it did. -/
def countPlaysUptoRow : OpenClaim := { program := "ytkpnbkcebpeaoaa", sum := "bc5ee7a3c6720f4f902793541bccf185234f2523f18eea3a50e1ce059e069f92", func := "guerite/gueritelaw26.CountPlays", spec := "countPlays", apart := false, narrowed := true }
def CountPlaysUptoSaid : Prop := countPlaysUptoRow.holds Try.pinned (OpenSpec.upto countPlaysSpec)

/-- 'gueritelaw26.CountNone', WHERE WHAT IT READS IS OF BULK AT MOST 1048576: true; the input reads as it did. -/
def countNoneUptoRow : OpenClaim := { program := "ytkpnbkcebpeaoaa", sum := "bc5ee7a3c6720f4f902793541bccf185234f2523f18eea3a50e1ce059e069f92", func := "guerite/gueritelaw26.CountNone", spec := "countNone", apart := false, narrowed := true }
def CountNoneUptoSaid : Prop := countNoneUptoRow.holds Try.pinned (OpenSpec.upto countNoneSpec)

/-- 'gueritelaw26.CountNames', WHERE WHAT IT READS IS OF BULK AT MOST 1048576: true; the input reads as it did. -/
def countNamesUptoRow : OpenClaim := { program := "ytkpnbkcebpeaoaa", sum := "bc5ee7a3c6720f4f902793541bccf185234f2523f18eea3a50e1ce059e069f92", func := "guerite/gueritelaw26.CountNames", spec := "countNames", apart := false, narrowed := true }
def CountNamesUptoSaid : Prop := countNamesUptoRow.holds Try.pinned (OpenSpec.upto countNamesSpec)

end Rows
end Go.Proofs.Ytkpnbkcebpeaoaa
