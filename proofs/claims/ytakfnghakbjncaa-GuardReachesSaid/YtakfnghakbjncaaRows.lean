/-
  No cell of these rows narrows 'for every input' (looked for: loops, veiled, ifaces, maps, wideKeys, modest, calm, conditions, laid).
  DERIVED. THE GIVEN ROWS OF THIS SEAT. 7 by the template 'for every input the law returns true; each argument reads behind the call as it read before'; 0 by the template 'total and deterministic' (their statements: YtakfnghakbjncaaTotals.lean).
  GIVEN WITH THE SEED: the statements are not yours to turn. If you find one false, say at which input.
  Laid BY PROGRAM, IN A SANDBOX (cutbox-rows.mjs): the forced cells as the released guide's own fill.sh prints them over the translation 36c0dec6ba74e628… (all of the seat's roots in one cut). By AI agents, Wed Nov 11 2026. No macro, syntax, notation, axiom, sorry.
-/
import Derived.Test.YtakfnghakbjncaaChecked
import GoSem.Claim
import GoSem.ClaimJoined
import GoSem.ClaimMapViews
import Derived.JoinedTies
import Derived.KernelRfl
namespace Go.Proofs.Ytakfnghakbjncaa
/- THE CELL 'sum', in the pinned program and in every row, IS THE sha256 OF THE DUMP (.gsa) THAT YtakfnghakbjncaaProg.lean LOADS. Nothing in Lean hashes anything: it is a label: what it is worth is what the hold of that sum in a sandbox is worth. -/
noncomputable def Try.pinned : Pinned := { name := "ytakfnghakbjncaa", sum := "36c0dec6ba74e628256bcec521f0f525fa1a177933438fa694471d1bb3b918ff", checked := Try.checked }
namespace Rows
def none {H : Type} : Left H := { results := [], args := [] }

/-- 'gueritelaw16.GuardTo': WHATEVER THE INPUT: true; the input reads as it did. -/
def guardToSpec : ChangeSpec := { name := "guardTo", fn := fun _ => fun
  | [d1, d2, d3] => { results := [.lit (.bool true)], args := [d1, d2, d3] }
  | _ => none }
def guardToRow : OpenClaim := { program := "ytakfnghakbjncaa", sum := "36c0dec6ba74e628256bcec521f0f525fa1a177933438fa694471d1bb3b918ff", func := "guerite/gueritelaw16.GuardTo", spec := "guardTo", unfollowed := true, recurses := true, apart := false }
def GuardToSaid : Prop := guardToRow.holds Try.pinned (OpenSpec.ofChange guardToSpec)

/-- ITS FALSE NEIGHBOUR: 'it returns false'. Refute it at one input. -/
def guardToWrong : ChangeSpec := { name := "guardTo", fn := fun _ => fun
  | [d1, d2, d3] => { results := [.lit (.bool false)], args := [d1, d2, d3] }
  | _ => none }
def GuardToWrongFalsely : Prop := guardToRow.holds Try.pinned (OpenSpec.ofChange guardToWrong)

/-- 'gueritelaw16.GuardStays': WHATEVER THE INPUT: true; the input reads as it did. -/
def guardStaysSpec : ChangeSpec := { name := "guardStays", fn := fun _ => fun
  | [d1, d2, d3] => { results := [.lit (.bool true)], args := [d1, d2, d3] }
  | _ => none }
def guardStaysRow : OpenClaim := { program := "ytakfnghakbjncaa", sum := "36c0dec6ba74e628256bcec521f0f525fa1a177933438fa694471d1bb3b918ff", func := "guerite/gueritelaw16.GuardStays", spec := "guardStays", unfollowed := true, recurses := true, apart := false }
def GuardStaysSaid : Prop := guardStaysRow.holds Try.pinned (OpenSpec.ofChange guardStaysSpec)

/-- ITS FALSE NEIGHBOUR: 'it returns false'. Refute it at one input. -/
def guardStaysWrong : ChangeSpec := { name := "guardStays", fn := fun _ => fun
  | [d1, d2, d3] => { results := [.lit (.bool false)], args := [d1, d2, d3] }
  | _ => none }
def GuardStaysWrongFalsely : Prop := guardStaysRow.holds Try.pinned (OpenSpec.ofChange guardStaysWrong)

/-- 'gueritelaw16.GuardReaches': WHATEVER THE INPUT: true; the input reads as it did. -/
def guardReachesSpec : ChangeSpec := { name := "guardReaches", fn := fun _ => fun
  | [d1, d2, d3] => { results := [.lit (.bool true)], args := [d1, d2, d3] }
  | _ => none }
def guardReachesRow : OpenClaim := { program := "ytakfnghakbjncaa", sum := "36c0dec6ba74e628256bcec521f0f525fa1a177933438fa694471d1bb3b918ff", func := "guerite/gueritelaw16.GuardReaches", spec := "guardReaches", unfollowed := true, recurses := true, apart := false }
def GuardReachesSaid : Prop := guardReachesRow.holds Try.pinned (OpenSpec.ofChange guardReachesSpec)

/-- ITS FALSE NEIGHBOUR: 'it returns false'. Refute it at one input. -/
def guardReachesWrong : ChangeSpec := { name := "guardReaches", fn := fun _ => fun
  | [d1, d2, d3] => { results := [.lit (.bool false)], args := [d1, d2, d3] }
  | _ => none }
def GuardReachesWrongFalsely : Prop := guardReachesRow.holds Try.pinned (OpenSpec.ofChange guardReachesWrong)

/-- 'gueritelaw15.RuleBehind': WHATEVER THE INPUT: true; the input reads as it did. -/
def ruleBehindSpec : ChangeSpec := { name := "ruleBehind", fn := fun _ => fun
  | [d1, d2, d3] => { results := [.lit (.bool true)], args := [d1, d2, d3] }
  | _ => none }
def ruleBehindRow : OpenClaim := { program := "ytakfnghakbjncaa", sum := "36c0dec6ba74e628256bcec521f0f525fa1a177933438fa694471d1bb3b918ff", func := "guerite/gueritelaw15.RuleBehind", spec := "ruleBehind", unfollowed := true, recurses := true, apart := false }
def RuleBehindSaid : Prop := ruleBehindRow.holds Try.pinned (OpenSpec.ofChange ruleBehindSpec)

/-- ITS FALSE NEIGHBOUR: 'it returns false'. Refute it at one input. -/
def ruleBehindWrong : ChangeSpec := { name := "ruleBehind", fn := fun _ => fun
  | [d1, d2, d3] => { results := [.lit (.bool false)], args := [d1, d2, d3] }
  | _ => none }
def RuleBehindWrongFalsely : Prop := ruleBehindRow.holds Try.pinned (OpenSpec.ofChange ruleBehindWrong)

/-- 'gueritelaw15.RuleFirst': WHATEVER THE INPUT: true; the input reads as it did. -/
def ruleFirstSpec : ChangeSpec := { name := "ruleFirst", fn := fun _ => fun
  | [d1, d2] => { results := [.lit (.bool true)], args := [d1, d2] }
  | _ => none }
def ruleFirstRow : OpenClaim := { program := "ytakfnghakbjncaa", sum := "36c0dec6ba74e628256bcec521f0f525fa1a177933438fa694471d1bb3b918ff", func := "guerite/gueritelaw15.RuleFirst", spec := "ruleFirst", unfollowed := true, recurses := true, apart := false }
def RuleFirstSaid : Prop := ruleFirstRow.holds Try.pinned (OpenSpec.ofChange ruleFirstSpec)

/-- ITS FALSE NEIGHBOUR: 'it returns false'. Refute it at one input. -/
def ruleFirstWrong : ChangeSpec := { name := "ruleFirst", fn := fun _ => fun
  | [d1, d2] => { results := [.lit (.bool false)], args := [d1, d2] }
  | _ => none }
def RuleFirstWrongFalsely : Prop := ruleFirstRow.holds Try.pinned (OpenSpec.ofChange ruleFirstWrong)

/-- 'gueritelaw15.RuleCovers': WHATEVER THE INPUT: true; the input reads as it did. -/
def ruleCoversSpec : ChangeSpec := { name := "ruleCovers", fn := fun _ => fun
  | [d1, d2, d3] => { results := [.lit (.bool true)], args := [d1, d2, d3] }
  | _ => none }
def ruleCoversRow : OpenClaim := { program := "ytakfnghakbjncaa", sum := "36c0dec6ba74e628256bcec521f0f525fa1a177933438fa694471d1bb3b918ff", func := "guerite/gueritelaw15.RuleCovers", spec := "ruleCovers", unfollowed := true, recurses := true, apart := false }
def RuleCoversSaid : Prop := ruleCoversRow.holds Try.pinned (OpenSpec.ofChange ruleCoversSpec)

/-- ITS FALSE NEIGHBOUR: 'it returns false'. Refute it at one input. -/
def ruleCoversWrong : ChangeSpec := { name := "ruleCovers", fn := fun _ => fun
  | [d1, d2, d3] => { results := [.lit (.bool false)], args := [d1, d2, d3] }
  | _ => none }
def RuleCoversWrongFalsely : Prop := ruleCoversRow.holds Try.pinned (OpenSpec.ofChange ruleCoversWrong)

/-- 'gueritelaw15.RuleShadows': WHATEVER THE INPUT: true; the input reads as it did. -/
def ruleShadowsSpec : ChangeSpec := { name := "ruleShadows", fn := fun _ => fun
  | [d1, d2] => { results := [.lit (.bool true)], args := [d1, d2] }
  | _ => none }
def ruleShadowsRow : OpenClaim := { program := "ytakfnghakbjncaa", sum := "36c0dec6ba74e628256bcec521f0f525fa1a177933438fa694471d1bb3b918ff", func := "guerite/gueritelaw15.RuleShadows", spec := "ruleShadows", unfollowed := true, recurses := true, apart := false }
def RuleShadowsSaid : Prop := ruleShadowsRow.holds Try.pinned (OpenSpec.ofChange ruleShadowsSpec)

/-- ITS FALSE NEIGHBOUR: 'it returns false'. Refute it at one input. -/
def ruleShadowsWrong : ChangeSpec := { name := "ruleShadows", fn := fun _ => fun
  | [d1, d2] => { results := [.lit (.bool false)], args := [d1, d2] }
  | _ => none }
def RuleShadowsWrongFalsely : Prop := ruleShadowsRow.holds Try.pinned (OpenSpec.ofChange ruleShadowsWrong)

/- THE SECOND FORM. 'bulk': how many values and letters a reading holds, each counted each time it is reached (what is shared counts as often as it is met; a slice's spare places count too). A statement '..UptoSaid' is the law's where the arguments, and the package variables that the reading takes, are together of bulk at most 1048576: NARROWER than '..Said'. Prove '..Said' where nothing that the law and all that it calls make is longer than what came in: it says more and counts as full. Else prove '..UptoSaid'. A law counts once. -/
mutual
def uptoBulk {H : Type} : DataW H → Nat
  | .lit (.string bytes) => bytes.length + 1
  | .lit _ => 1
  | .nil => 1
  | .ptr d => uptoBulk d + 1
  | .slice elems spare => uptoBulkAll elems + uptoBulkAll spare + 1
  | .agg parts => uptoBulkAll parts + 1
  | .iface _ d => uptoBulk d + 1
  | .map entries => uptoBulkEntries entries + 1
  | .held _ => 1
def uptoBulkAll {H : Type} : List (DataW H) → Nat
  | [] => 0
  | d :: r => uptoBulk d + uptoBulkAll r
def uptoBulkEntries {H : Type} : List (Lit × DataW H) → Nat
  | [] => 0
  | x :: r => uptoBulkEntry x + uptoBulkEntries r
def uptoBulkEntry {H : Type} : Lit × DataW H → Nat
  | (.string bytes, d) => bytes.length + uptoBulk d + 1
  | (_, d) => uptoBulk d + 1
 end
def uptoSmall : (H : Type) → List (DataW H) → Bool := fun _ ds => decide (uptoBulkAll ds ≤ 1048576)
def OpenSpec.upto (s : _root_.Go.ChangeSpec) : _root_.Go.OpenSpec := { _root_.Go.OpenSpec.ofChange s with cond := some uptoSmall }

/-- 'gueritelaw16.GuardTo', WHERE WHAT IT READS IS OF BULK AT MOST 1048576: true; the input reads as it did. -/
def guardToUptoRow : OpenClaim := { program := "ytakfnghakbjncaa", sum := "36c0dec6ba74e628256bcec521f0f525fa1a177933438fa694471d1bb3b918ff", func := "guerite/gueritelaw16.GuardTo", spec := "guardTo", unfollowed := true, recurses := true, apart := false, narrowed := true }
def GuardToUptoSaid : Prop := guardToUptoRow.holds Try.pinned (OpenSpec.upto guardToSpec)

/-- 'gueritelaw16.GuardStays', WHERE WHAT IT READS IS OF BULK AT MOST 1048576: true; the input reads as it did. -/
def guardStaysUptoRow : OpenClaim := { program := "ytakfnghakbjncaa", sum := "36c0dec6ba74e628256bcec521f0f525fa1a177933438fa694471d1bb3b918ff", func := "guerite/gueritelaw16.GuardStays", spec := "guardStays", unfollowed := true, recurses := true, apart := false, narrowed := true }
def GuardStaysUptoSaid : Prop := guardStaysUptoRow.holds Try.pinned (OpenSpec.upto guardStaysSpec)

/-- 'gueritelaw16.GuardReaches', WHERE WHAT IT READS IS OF BULK AT MOST 1048576: true; the input reads as it did. -/
def guardReachesUptoRow : OpenClaim := { program := "ytakfnghakbjncaa", sum := "36c0dec6ba74e628256bcec521f0f525fa1a177933438fa694471d1bb3b918ff", func := "guerite/gueritelaw16.GuardReaches", spec := "guardReaches", unfollowed := true, recurses := true, apart := false, narrowed := true }
def GuardReachesUptoSaid : Prop := guardReachesUptoRow.holds Try.pinned (OpenSpec.upto guardReachesSpec)

/-- 'gueritelaw15.RuleBehind', WHERE WHAT IT READS IS OF BULK AT MOST 1048576: true; the input reads as it did. -/
def ruleBehindUptoRow : OpenClaim := { program := "ytakfnghakbjncaa", sum := "36c0dec6ba74e628256bcec521f0f525fa1a177933438fa694471d1bb3b918ff", func := "guerite/gueritelaw15.RuleBehind", spec := "ruleBehind", unfollowed := true, recurses := true, apart := false, narrowed := true }
def RuleBehindUptoSaid : Prop := ruleBehindUptoRow.holds Try.pinned (OpenSpec.upto ruleBehindSpec)

/-- 'gueritelaw15.RuleFirst', WHERE WHAT IT READS IS OF BULK AT MOST 1048576: true; the input reads as it did. -/
def ruleFirstUptoRow : OpenClaim := { program := "ytakfnghakbjncaa", sum := "36c0dec6ba74e628256bcec521f0f525fa1a177933438fa694471d1bb3b918ff", func := "guerite/gueritelaw15.RuleFirst", spec := "ruleFirst", unfollowed := true, recurses := true, apart := false, narrowed := true }
def RuleFirstUptoSaid : Prop := ruleFirstUptoRow.holds Try.pinned (OpenSpec.upto ruleFirstSpec)

/-- 'gueritelaw15.RuleCovers', WHERE WHAT IT READS IS OF BULK AT MOST 1048576: true; the input reads as it did. -/
def ruleCoversUptoRow : OpenClaim := { program := "ytakfnghakbjncaa", sum := "36c0dec6ba74e628256bcec521f0f525fa1a177933438fa694471d1bb3b918ff", func := "guerite/gueritelaw15.RuleCovers", spec := "ruleCovers", unfollowed := true, recurses := true, apart := false, narrowed := true }
def RuleCoversUptoSaid : Prop := ruleCoversUptoRow.holds Try.pinned (OpenSpec.upto ruleCoversSpec)

/-- 'gueritelaw15.RuleShadows', WHERE WHAT IT READS IS OF BULK AT MOST 1048576: true; the input reads as it did. -/
def ruleShadowsUptoRow : OpenClaim := { program := "ytakfnghakbjncaa", sum := "36c0dec6ba74e628256bcec521f0f525fa1a177933438fa694471d1bb3b918ff", func := "guerite/gueritelaw15.RuleShadows", spec := "ruleShadows", unfollowed := true, recurses := true, apart := false, narrowed := true }
def RuleShadowsUptoSaid : Prop := ruleShadowsUptoRow.holds Try.pinned (OpenSpec.upto ruleShadowsSpec)

end Rows
end Go.Proofs.Ytakfnghakbjncaa
