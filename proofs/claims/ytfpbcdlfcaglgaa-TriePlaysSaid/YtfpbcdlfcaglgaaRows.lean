/-
  No cell of these rows narrows 'for every input' (looked for: loops, veiled, ifaces, maps, wideKeys, modest, calm, conditions, laid).
  DERIVED. THE GIVEN ROWS OF THIS SEAT. 4 by the template 'for every input the law returns true; each argument reads behind the call as it read before'; 0 by the template 'total and deterministic' (their statements: YtfpbcdlfcaglgaaTotals.lean).
  GIVEN WITH THE SEED: the statements are not yours to turn. If you find one false, say at which input.
  Laid BY PROGRAM, IN A SANDBOX (cutbox-rows.mjs): the forced cells as the released guide's own fill.sh prints them over the translation 3192a02a9a1469c0… (all of the seat's roots in one cut). By AI agents, Wed Nov 11 2026. No macro, syntax, notation, axiom, sorry.
-/
import Derived.Test.YtfpbcdlfcaglgaaChecked
import GoSem.Claim
import GoSem.ClaimJoined
import GoSem.ClaimMapViews
import Derived.JoinedTies
import Derived.KernelRfl
namespace Go.Proofs.Ytfpbcdlfcaglgaa
/- THE CELL 'sum', in the pinned program and in every row, IS THE sha256 OF THE DUMP (.gsa) THAT YtfpbcdlfcaglgaaProg.lean LOADS. Nothing in Lean hashes anything: it is a label: what it is worth is what the hold of that sum in a sandbox is worth. -/
noncomputable def Try.pinned : Pinned := { name := "ytfpbcdlfcaglgaa", sum := "3192a02a9a1469c00de5b3376d48b937b520d6c9b5fc2badbfb8ffa3bc15bd45", checked := Try.checked }
namespace Rows
def none {H : Type} : Left H := { results := [], args := [] }

/-- 'gueritelaw14.TriePrefers': WHATEVER THE INPUT: true; the input reads as it did. -/
def triePrefersSpec : ChangeSpec := { name := "triePrefers", fn := fun _ => fun
  | [d1, d2] => { results := [.lit (.bool true)], args := [d1, d2] }
  | _ => none }
def triePrefersRow : OpenClaim := { program := "ytfpbcdlfcaglgaa", sum := "3192a02a9a1469c00de5b3376d48b937b520d6c9b5fc2badbfb8ffa3bc15bd45", func := "guerite/gueritelaw14.TriePrefers", spec := "triePrefers", apart := false }
def TriePrefersSaid : Prop := triePrefersRow.holds Try.pinned (OpenSpec.ofChange triePrefersSpec)

/-- ITS FALSE NEIGHBOUR: 'it returns false'. Refute it at one input. -/
def triePrefersWrong : ChangeSpec := { name := "triePrefers", fn := fun _ => fun
  | [d1, d2] => { results := [.lit (.bool false)], args := [d1, d2] }
  | _ => none }
def TriePrefersWrongFalsely : Prop := triePrefersRow.holds Try.pinned (OpenSpec.ofChange triePrefersWrong)

/-- 'gueritelaw14.TrieOrders': WHATEVER THE INPUT: true; the input reads as it did. -/
def trieOrdersSpec : ChangeSpec := { name := "trieOrders", fn := fun _ => fun
  | [d1, d2, d3] => { results := [.lit (.bool true)], args := [d1, d2, d3] }
  | _ => none }
def trieOrdersRow : OpenClaim := { program := "ytfpbcdlfcaglgaa", sum := "3192a02a9a1469c00de5b3376d48b937b520d6c9b5fc2badbfb8ffa3bc15bd45", func := "guerite/gueritelaw14.TrieOrders", spec := "trieOrders", apart := false }
def TrieOrdersSaid : Prop := trieOrdersRow.holds Try.pinned (OpenSpec.ofChange trieOrdersSpec)

/-- ITS FALSE NEIGHBOUR: 'it returns false'. Refute it at one input. -/
def trieOrdersWrong : ChangeSpec := { name := "trieOrders", fn := fun _ => fun
  | [d1, d2, d3] => { results := [.lit (.bool false)], args := [d1, d2, d3] }
  | _ => none }
def TrieOrdersWrongFalsely : Prop := trieOrdersRow.holds Try.pinned (OpenSpec.ofChange trieOrdersWrong)

/-- 'gueritelaw14.TriePlays': WHATEVER THE INPUT: true; the input reads as it did. -/
def triePlaysSpec : ChangeSpec := { name := "triePlays", fn := fun _ => fun
  | [d] => { results := [.lit (.bool true)], args := [d] }
  | _ => none }
def triePlaysRow : OpenClaim := { program := "ytfpbcdlfcaglgaa", sum := "3192a02a9a1469c00de5b3376d48b937b520d6c9b5fc2badbfb8ffa3bc15bd45", func := "guerite/gueritelaw14.TriePlays", spec := "triePlays", unfollowed := true, recurses := true, apart := false }
def TriePlaysSaid : Prop := triePlaysRow.holds Try.pinned (OpenSpec.ofChange triePlaysSpec)

/-- ITS FALSE NEIGHBOUR: 'it returns false'. Refute it at one input. -/
def triePlaysWrong : ChangeSpec := { name := "triePlays", fn := fun _ => fun
  | [d] => { results := [.lit (.bool false)], args := [d] }
  | _ => none }
def TriePlaysWrongFalsely : Prop := triePlaysRow.holds Try.pinned (OpenSpec.ofChange triePlaysWrong)

/-- 'gueritelaw14.TrieFull': WHATEVER THE INPUT: true; the input reads as it did. -/
def trieFullSpec : ChangeSpec := { name := "trieFull", fn := fun _ => fun
  | [d1, d2, d3] => { results := [.lit (.bool true)], args := [d1, d2, d3] }
  | _ => none }
def trieFullRow : OpenClaim := { program := "ytfpbcdlfcaglgaa", sum := "3192a02a9a1469c00de5b3376d48b937b520d6c9b5fc2badbfb8ffa3bc15bd45", func := "guerite/gueritelaw14.TrieFull", spec := "trieFull", unfollowed := true, recurses := true, apart := false }
def TrieFullSaid : Prop := trieFullRow.holds Try.pinned (OpenSpec.ofChange trieFullSpec)

/-- ITS FALSE NEIGHBOUR: 'it returns false'. Refute it at one input. -/
def trieFullWrong : ChangeSpec := { name := "trieFull", fn := fun _ => fun
  | [d1, d2, d3] => { results := [.lit (.bool false)], args := [d1, d2, d3] }
  | _ => none }
def TrieFullWrongFalsely : Prop := trieFullRow.holds Try.pinned (OpenSpec.ofChange trieFullWrong)

/- THE SECOND FORM. 'bulk': how many values and letters a reading holds, each counted each time it is reached (what is shared counts as often as it is met; a slice's spare places count too). A statement '..UptoSaid' is the law's where the arguments, and the package variables that the reading takes, are together of bulk at most 1048576: NARROWER than '..Said'. Prove '..Said' where nothing that the law and all that it calls make is longer than what came in: it says more and counts as full. Else prove '..UptoSaid'. A law counts once. -/
mutual
def uptoBulk {H : Type} : DataW H → Nat
  | .lit (.string bytes) => bytes.length + 1
  | .lit _ => 1
  | .nil => 1
  | .ptr d => uptoBulk d + 1
  | .slice elems spare => uptoBulkAll elems + uptoBulkAll spare + 1
  | .agg parts => uptoBulkAll parts + 1
  | .iface _ d => uptoBulk d + 1
  | .map entries => uptoBulkEntries entries + 1
  | .held _ => 1
def uptoBulkAll {H : Type} : List (DataW H) → Nat
  | [] => 0
  | d :: r => uptoBulk d + uptoBulkAll r
def uptoBulkEntries {H : Type} : List (Lit × DataW H) → Nat
  | [] => 0
  | x :: r => uptoBulkEntry x + uptoBulkEntries r
def uptoBulkEntry {H : Type} : Lit × DataW H → Nat
  | (.string bytes, d) => bytes.length + uptoBulk d + 1
  | (_, d) => uptoBulk d + 1
 end
def uptoSmall : (H : Type) → List (DataW H) → Bool := fun _ ds => decide (uptoBulkAll ds ≤ 1048576)
def OpenSpec.upto (s : _root_.Go.ChangeSpec) : _root_.Go.OpenSpec := { _root_.Go.OpenSpec.ofChange s with cond := some uptoSmall }

/-- 'gueritelaw14.TriePrefers', WHERE WHAT IT READS IS OF BULK AT MOST 1048576: true; the input reads as it did. -/
def triePrefersUptoRow : OpenClaim := { program := "ytfpbcdlfcaglgaa", sum := "3192a02a9a1469c00de5b3376d48b937b520d6c9b5fc2badbfb8ffa3bc15bd45", func := "guerite/gueritelaw14.TriePrefers", spec := "triePrefers", apart := false, narrowed := true }
def TriePrefersUptoSaid : Prop := triePrefersUptoRow.holds Try.pinned (OpenSpec.upto triePrefersSpec)

/-- 'gueritelaw14.TrieOrders', WHERE WHAT IT READS IS OF BULK AT MOST 1048576: true; the input reads as it did. -/
def trieOrdersUptoRow : OpenClaim := { program := "ytfpbcdlfcaglgaa", sum := "3192a02a9a1469c00de5b3376d48b937b520d6c9b5fc2badbfb8ffa3bc15bd45", func := "guerite/gueritelaw14.TrieOrders", spec := "trieOrders", apart := false, narrowed := true }
def TrieOrdersUptoSaid : Prop := trieOrdersUptoRow.holds Try.pinned (OpenSpec.upto trieOrdersSpec)

/-- 'gueritelaw14.TriePlays', WHERE WHAT IT READS IS OF BULK AT MOST 1048576: true; the input reads as it did. -/
def triePlaysUptoRow : OpenClaim := { program := "ytfpbcdlfcaglgaa", sum := "3192a02a9a1469c00de5b3376d48b937b520d6c9b5fc2badbfb8ffa3bc15bd45", func := "guerite/gueritelaw14.TriePlays", spec := "triePlays", unfollowed := true, recurses := true, apart := false, narrowed := true }
def TriePlaysUptoSaid : Prop := triePlaysUptoRow.holds Try.pinned (OpenSpec.upto triePlaysSpec)

/-- 'gueritelaw14.TrieFull', WHERE WHAT IT READS IS OF BULK AT MOST 1048576: true; the input reads as it did. -/
def trieFullUptoRow : OpenClaim := { program := "ytfpbcdlfcaglgaa", sum := "3192a02a9a1469c00de5b3376d48b937b520d6c9b5fc2badbfb8ffa3bc15bd45", func := "guerite/gueritelaw14.TrieFull", spec := "trieFull", unfollowed := true, recurses := true, apart := false, narrowed := true }
def TrieFullUptoSaid : Prop := trieFullUptoRow.holds Try.pinned (OpenSpec.upto trieFullSpec)

end Rows
end Go.Proofs.Ytfpbcdlfcaglgaa
