/-
  No cell of these rows narrows 'for every input' (looked for: loops, veiled, ifaces, maps, wideKeys, modest, calm, conditions, laid).
  DERIVED. THE GIVEN ROWS OF THIS SEAT. 10 by the template 'for every input the law returns true; each argument reads behind the call as it read before'; 0 by the template 'total and deterministic' (their statements: YtncdgndeidbgoaaTotals.lean).
  GIVEN WITH THE SEED: the statements are not yours to turn. If you find one false, say at which input.
  Laid BY PROGRAM, IN A SANDBOX (cutbox-rows.mjs): the forced cells as the released guide's own fill.sh prints them over the translation ba8bda3765aa01cd… (all of the seat's roots in one cut). By AI agents, Wed Nov 11 2026. No macro, syntax, notation, axiom, sorry.
-/
import Derived.Test.YtncdgndeidbgoaaChecked
import GoSem.Claim
import GoSem.ClaimJoined
import GoSem.ClaimMapViews
import Derived.JoinedTies
import Derived.KernelRfl
namespace Go.Proofs.Ytncdgndeidbgoaa
/- THE CELL 'sum', in the pinned program and in every row, IS THE sha256 OF THE DUMP (.gsa) THAT YtncdgndeidbgoaaProg.lean LOADS. Nothing in Lean hashes anything: it is a label: what it is worth is what the hold of that sum in a sandbox is worth. -/
noncomputable def Try.pinned : Pinned := { name := "ytncdgndeidbgoaa", sum := "ba8bda3765aa01cd6ecd2854c6fa1da27bc0fe997179f8e03e9e07fe42cd4383", checked := Try.checked }
namespace Rows
def none {H : Type} : Left H := { results := [], args := [] }

/-- 'marlstonelaw05.TreeRoots': WHATEVER THE INPUT: true; the input reads as it did. -/
def treeRootsSpec : ChangeSpec := { name := "treeRoots", fn := fun _ => fun
  | [d1, d2, d3, d4] => { results := [.lit (.bool true)], args := [d1, d2, d3, d4] }
  | _ => none }
def treeRootsRow : OpenClaim := { program := "ytncdgndeidbgoaa", sum := "ba8bda3765aa01cd6ecd2854c6fa1da27bc0fe997179f8e03e9e07fe42cd4383", func := "marlstone/marlstonelaw05.TreeRoots", spec := "treeRoots", unfollowed := true, recurses := true, apart := false }
def TreeRootsSaid : Prop := treeRootsRow.holds Try.pinned (OpenSpec.ofChange treeRootsSpec)

/-- ITS FALSE NEIGHBOUR: 'it returns false'. Refute it at one input. -/
def treeRootsWrong : ChangeSpec := { name := "treeRoots", fn := fun _ => fun
  | [d1, d2, d3, d4] => { results := [.lit (.bool false)], args := [d1, d2, d3, d4] }
  | _ => none }
def TreeRootsWrongFalsely : Prop := treeRootsRow.holds Try.pinned (OpenSpec.ofChange treeRootsWrong)

/-- 'marlstonelaw05.TreePaths': WHATEVER THE INPUT: true; the input reads as it did. -/
def treePathsSpec : ChangeSpec := { name := "treePaths", fn := fun _ => fun
  | [d1, d2, d3, d4] => { results := [.lit (.bool true)], args := [d1, d2, d3, d4] }
  | _ => none }
def treePathsRow : OpenClaim := { program := "ytncdgndeidbgoaa", sum := "ba8bda3765aa01cd6ecd2854c6fa1da27bc0fe997179f8e03e9e07fe42cd4383", func := "marlstone/marlstonelaw05.TreePaths", spec := "treePaths", unfollowed := true, recurses := true, apart := false }
def TreePathsSaid : Prop := treePathsRow.holds Try.pinned (OpenSpec.ofChange treePathsSpec)

/-- ITS FALSE NEIGHBOUR: 'it returns false'. Refute it at one input. -/
def treePathsWrong : ChangeSpec := { name := "treePaths", fn := fun _ => fun
  | [d1, d2, d3, d4] => { results := [.lit (.bool false)], args := [d1, d2, d3, d4] }
  | _ => none }
def TreePathsWrongFalsely : Prop := treePathsRow.holds Try.pinned (OpenSpec.ofChange treePathsWrong)

/-- 'marlstonelaw05.TreeChecks': WHATEVER THE INPUT: true; the input reads as it did. -/
def treeChecksSpec : ChangeSpec := { name := "treeChecks", fn := fun _ => fun
  | [d1, d2, d3, d4, d5, d6] => { results := [.lit (.bool true)], args := [d1, d2, d3, d4, d5, d6] }
  | _ => none }
def treeChecksRow : OpenClaim := { program := "ytncdgndeidbgoaa", sum := "ba8bda3765aa01cd6ecd2854c6fa1da27bc0fe997179f8e03e9e07fe42cd4383", func := "marlstone/marlstonelaw05.TreeChecks", spec := "treeChecks", unfollowed := true, recurses := true, apart := false }
def TreeChecksSaid : Prop := treeChecksRow.holds Try.pinned (OpenSpec.ofChange treeChecksSpec)

/-- ITS FALSE NEIGHBOUR: 'it returns false'. Refute it at one input. -/
def treeChecksWrong : ChangeSpec := { name := "treeChecks", fn := fun _ => fun
  | [d1, d2, d3, d4, d5, d6] => { results := [.lit (.bool false)], args := [d1, d2, d3, d4, d5, d6] }
  | _ => none }
def TreeChecksWrongFalsely : Prop := treeChecksRow.holds Try.pinned (OpenSpec.ofChange treeChecksWrong)

/-- 'marlstonelaw05.TreeCheckRanges': WHATEVER THE INPUT: true; the input reads as it did. -/
def treeCheckRangesSpec : ChangeSpec := { name := "treeCheckRanges", fn := fun _ => fun
  | [d1, d2, d3, d4, d5, d6] => { results := [.lit (.bool true)], args := [d1, d2, d3, d4, d5, d6] }
  | _ => none }
def treeCheckRangesRow : OpenClaim := { program := "ytncdgndeidbgoaa", sum := "ba8bda3765aa01cd6ecd2854c6fa1da27bc0fe997179f8e03e9e07fe42cd4383", func := "marlstone/marlstonelaw05.TreeCheckRanges", spec := "treeCheckRanges", unfollowed := true, recurses := true, apart := false }
def TreeCheckRangesSaid : Prop := treeCheckRangesRow.holds Try.pinned (OpenSpec.ofChange treeCheckRangesSpec)

/-- ITS FALSE NEIGHBOUR: 'it returns false'. Refute it at one input. -/
def treeCheckRangesWrong : ChangeSpec := { name := "treeCheckRanges", fn := fun _ => fun
  | [d1, d2, d3, d4, d5, d6] => { results := [.lit (.bool false)], args := [d1, d2, d3, d4, d5, d6] }
  | _ => none }
def TreeCheckRangesWrongFalsely : Prop := treeCheckRangesRow.holds Try.pinned (OpenSpec.ofChange treeCheckRangesWrong)

/-- 'marlstonelaw05.TreeProves': WHATEVER THE INPUT: true; the input reads as it did. -/
def treeProvesSpec : ChangeSpec := { name := "treeProves", fn := fun _ => fun
  | [d1, d2, d3, d4] => { results := [.lit (.bool true)], args := [d1, d2, d3, d4] }
  | _ => none }
def treeProvesRow : OpenClaim := { program := "ytncdgndeidbgoaa", sum := "ba8bda3765aa01cd6ecd2854c6fa1da27bc0fe997179f8e03e9e07fe42cd4383", func := "marlstone/marlstonelaw05.TreeProves", spec := "treeProves", unfollowed := true, recurses := true, apart := false }
def TreeProvesSaid : Prop := treeProvesRow.holds Try.pinned (OpenSpec.ofChange treeProvesSpec)

/-- ITS FALSE NEIGHBOUR: 'it returns false'. Refute it at one input. -/
def treeProvesWrong : ChangeSpec := { name := "treeProves", fn := fun _ => fun
  | [d1, d2, d3, d4] => { results := [.lit (.bool false)], args := [d1, d2, d3, d4] }
  | _ => none }
def TreeProvesWrongFalsely : Prop := treeProvesRow.holds Try.pinned (OpenSpec.ofChange treeProvesWrong)

/-- 'marlstonelaw05.TreeShort': WHATEVER THE INPUT: true; the input reads as it did. -/
def treeShortSpec : ChangeSpec := { name := "treeShort", fn := fun _ => fun
  | [d1, d2, d3] => { results := [.lit (.bool true)], args := [d1, d2, d3] }
  | _ => none }
def treeShortRow : OpenClaim := { program := "ytncdgndeidbgoaa", sum := "ba8bda3765aa01cd6ecd2854c6fa1da27bc0fe997179f8e03e9e07fe42cd4383", func := "marlstone/marlstonelaw05.TreeShort", spec := "treeShort", unfollowed := true, recurses := true, apart := false }
def TreeShortSaid : Prop := treeShortRow.holds Try.pinned (OpenSpec.ofChange treeShortSpec)

/-- ITS FALSE NEIGHBOUR: 'it returns false'. Refute it at one input. -/
def treeShortWrong : ChangeSpec := { name := "treeShort", fn := fun _ => fun
  | [d1, d2, d3] => { results := [.lit (.bool false)], args := [d1, d2, d3] }
  | _ => none }
def TreeShortWrongFalsely : Prop := treeShortRow.holds Try.pinned (OpenSpec.ofChange treeShortWrong)

/-- 'marlstonelaw05.TreeSplits': WHATEVER THE INPUT: true; the input reads as it did. -/
def treeSplitsSpec : ChangeSpec := { name := "treeSplits", fn := fun _ => fun
  | [d1, d2] => { results := [.lit (.bool true)], args := [d1, d2] }
  | _ => none }
def treeSplitsRow : OpenClaim := { program := "ytncdgndeidbgoaa", sum := "ba8bda3765aa01cd6ecd2854c6fa1da27bc0fe997179f8e03e9e07fe42cd4383", func := "marlstone/marlstonelaw05.TreeSplits", spec := "treeSplits", unfollowed := true, recurses := true, apart := false }
def TreeSplitsSaid : Prop := treeSplitsRow.holds Try.pinned (OpenSpec.ofChange treeSplitsSpec)

/-- ITS FALSE NEIGHBOUR: 'it returns false'. Refute it at one input. -/
def treeSplitsWrong : ChangeSpec := { name := "treeSplits", fn := fun _ => fun
  | [d1, d2] => { results := [.lit (.bool false)], args := [d1, d2] }
  | _ => none }
def TreeSplitsWrongFalsely : Prop := treeSplitsRow.holds Try.pinned (OpenSpec.ofChange treeSplitsWrong)

/-- 'marlstonelaw05.TreeWide': WHATEVER THE INPUT: true; the input reads as it did. -/
def treeWideSpec : ChangeSpec := { name := "treeWide", fn := fun _ => fun
  | [d1, d2, d3, d4] => { results := [.lit (.bool true)], args := [d1, d2, d3, d4] }
  | _ => none }
def treeWideRow : OpenClaim := { program := "ytncdgndeidbgoaa", sum := "ba8bda3765aa01cd6ecd2854c6fa1da27bc0fe997179f8e03e9e07fe42cd4383", func := "marlstone/marlstonelaw05.TreeWide", spec := "treeWide", unfollowed := true, recurses := true, apart := false }
def TreeWideSaid : Prop := treeWideRow.holds Try.pinned (OpenSpec.ofChange treeWideSpec)

/-- ITS FALSE NEIGHBOUR: 'it returns false'. Refute it at one input. -/
def treeWideWrong : ChangeSpec := { name := "treeWide", fn := fun _ => fun
  | [d1, d2, d3, d4] => { results := [.lit (.bool false)], args := [d1, d2, d3, d4] }
  | _ => none }
def TreeWideWrongFalsely : Prop := treeWideRow.holds Try.pinned (OpenSpec.ofChange treeWideWrong)

/-- 'marlstonelaw05.TreeWhole': WHATEVER THE INPUT: true; the input reads as it did. -/
def treeWholeSpec : ChangeSpec := { name := "treeWhole", fn := fun _ => fun
  | [d1, d2, d3] => { results := [.lit (.bool true)], args := [d1, d2, d3] }
  | _ => none }
def treeWholeRow : OpenClaim := { program := "ytncdgndeidbgoaa", sum := "ba8bda3765aa01cd6ecd2854c6fa1da27bc0fe997179f8e03e9e07fe42cd4383", func := "marlstone/marlstonelaw05.TreeWhole", spec := "treeWhole", unfollowed := true, recurses := true, apart := false }
def TreeWholeSaid : Prop := treeWholeRow.holds Try.pinned (OpenSpec.ofChange treeWholeSpec)

/-- ITS FALSE NEIGHBOUR: 'it returns false'. Refute it at one input. -/
def treeWholeWrong : ChangeSpec := { name := "treeWhole", fn := fun _ => fun
  | [d1, d2, d3] => { results := [.lit (.bool false)], args := [d1, d2, d3] }
  | _ => none }
def TreeWholeWrongFalsely : Prop := treeWholeRow.holds Try.pinned (OpenSpec.ofChange treeWholeWrong)

/-- 'marlstonelaw05.TreeDepth': WHATEVER THE INPUT: true; the input reads as it did. -/
def treeDepthSpec : ChangeSpec := { name := "treeDepth", fn := fun _ => fun
  | [d1, d2] => { results := [.lit (.bool true)], args := [d1, d2] }
  | _ => none }
def treeDepthRow : OpenClaim := { program := "ytncdgndeidbgoaa", sum := "ba8bda3765aa01cd6ecd2854c6fa1da27bc0fe997179f8e03e9e07fe42cd4383", func := "marlstone/marlstonelaw05.TreeDepth", spec := "treeDepth", unfollowed := true, recurses := true, apart := false }
def TreeDepthSaid : Prop := treeDepthRow.holds Try.pinned (OpenSpec.ofChange treeDepthSpec)

/-- ITS FALSE NEIGHBOUR: 'it returns false'. Refute it at one input. -/
def treeDepthWrong : ChangeSpec := { name := "treeDepth", fn := fun _ => fun
  | [d1, d2] => { results := [.lit (.bool false)], args := [d1, d2] }
  | _ => none }
def TreeDepthWrongFalsely : Prop := treeDepthRow.holds Try.pinned (OpenSpec.ofChange treeDepthWrong)

/- THE SECOND FORM. 'bulk': how many values and letters a reading holds, each counted each time it is reached (what is shared counts as often as it is met; a slice's spare places count too). A statement '..UptoSaid' is the law's where the arguments, and the package variables that the reading takes, are together of bulk at most 1048576: NARROWER than '..Said'. Prove '..Said' where nothing that the law and all that it calls make is longer than what came in: it says more and counts as full. Else prove '..UptoSaid'. A law counts once. -/
mutual
def uptoBulk {H : Type} : DataW H → Nat
  | .lit (.string bytes) => bytes.length + 1
  | .lit _ => 1
  | .nil => 1
  | .ptr d => uptoBulk d + 1
  | .slice elems spare => uptoBulkAll elems + uptoBulkAll spare + 1
  | .agg parts => uptoBulkAll parts + 1
  | .iface _ d => uptoBulk d + 1
  | .map entries => uptoBulkEntries entries + 1
  | .held _ => 1
def uptoBulkAll {H : Type} : List (DataW H) → Nat
  | [] => 0
  | d :: r => uptoBulk d + uptoBulkAll r
def uptoBulkEntries {H : Type} : List (Lit × DataW H) → Nat
  | [] => 0
  | x :: r => uptoBulkEntry x + uptoBulkEntries r
def uptoBulkEntry {H : Type} : Lit × DataW H → Nat
  | (.string bytes, d) => bytes.length + uptoBulk d + 1
  | (_, d) => uptoBulk d + 1
 end
def uptoSmall : (H : Type) → List (DataW H) → Bool := fun _ ds => decide (uptoBulkAll ds ≤ 1048576)
def OpenSpec.upto (s : _root_.Go.ChangeSpec) : _root_.Go.OpenSpec := { _root_.Go.OpenSpec.ofChange s with cond := some uptoSmall }

/-- 'marlstonelaw05.TreeRoots', WHERE WHAT IT READS IS OF BULK AT MOST 1048576: true; the input reads as it did. -/
def treeRootsUptoRow : OpenClaim := { program := "ytncdgndeidbgoaa", sum := "ba8bda3765aa01cd6ecd2854c6fa1da27bc0fe997179f8e03e9e07fe42cd4383", func := "marlstone/marlstonelaw05.TreeRoots", spec := "treeRoots", unfollowed := true, recurses := true, apart := false, narrowed := true }
def TreeRootsUptoSaid : Prop := treeRootsUptoRow.holds Try.pinned (OpenSpec.upto treeRootsSpec)

/-- 'marlstonelaw05.TreePaths', WHERE WHAT IT READS IS OF BULK AT MOST 1048576: true; the input reads as it did. -/
def treePathsUptoRow : OpenClaim := { program := "ytncdgndeidbgoaa", sum := "ba8bda3765aa01cd6ecd2854c6fa1da27bc0fe997179f8e03e9e07fe42cd4383", func := "marlstone/marlstonelaw05.TreePaths", spec := "treePaths", unfollowed := true, recurses := true, apart := false, narrowed := true }
def TreePathsUptoSaid : Prop := treePathsUptoRow.holds Try.pinned (OpenSpec.upto treePathsSpec)

/-- 'marlstonelaw05.TreeChecks', WHERE WHAT IT READS IS OF BULK AT MOST 1048576: true; the input reads as it did. -/
def treeChecksUptoRow : OpenClaim := { program := "ytncdgndeidbgoaa", sum := "ba8bda3765aa01cd6ecd2854c6fa1da27bc0fe997179f8e03e9e07fe42cd4383", func := "marlstone/marlstonelaw05.TreeChecks", spec := "treeChecks", unfollowed := true, recurses := true, apart := false, narrowed := true }
def TreeChecksUptoSaid : Prop := treeChecksUptoRow.holds Try.pinned (OpenSpec.upto treeChecksSpec)

/-- 'marlstonelaw05.TreeCheckRanges', WHERE WHAT IT READS IS OF BULK AT MOST 1048576: true; the input reads as it did. -/
def treeCheckRangesUptoRow : OpenClaim := { program := "ytncdgndeidbgoaa", sum := "ba8bda3765aa01cd6ecd2854c6fa1da27bc0fe997179f8e03e9e07fe42cd4383", func := "marlstone/marlstonelaw05.TreeCheckRanges", spec := "treeCheckRanges", unfollowed := true, recurses := true, apart := false, narrowed := true }
def TreeCheckRangesUptoSaid : Prop := treeCheckRangesUptoRow.holds Try.pinned (OpenSpec.upto treeCheckRangesSpec)

/-- 'marlstonelaw05.TreeProves', WHERE WHAT IT READS IS OF BULK AT MOST 1048576: true; the input reads as it did. -/
def treeProvesUptoRow : OpenClaim := { program := "ytncdgndeidbgoaa", sum := "ba8bda3765aa01cd6ecd2854c6fa1da27bc0fe997179f8e03e9e07fe42cd4383", func := "marlstone/marlstonelaw05.TreeProves", spec := "treeProves", unfollowed := true, recurses := true, apart := false, narrowed := true }
def TreeProvesUptoSaid : Prop := treeProvesUptoRow.holds Try.pinned (OpenSpec.upto treeProvesSpec)

/-- 'marlstonelaw05.TreeShort', WHERE WHAT IT READS IS OF BULK AT MOST 1048576: true; the input reads as it did. -/
def treeShortUptoRow : OpenClaim := { program := "ytncdgndeidbgoaa", sum := "ba8bda3765aa01cd6ecd2854c6fa1da27bc0fe997179f8e03e9e07fe42cd4383", func := "marlstone/marlstonelaw05.TreeShort", spec := "treeShort", unfollowed := true, recurses := true, apart := false, narrowed := true }
def TreeShortUptoSaid : Prop := treeShortUptoRow.holds Try.pinned (OpenSpec.upto treeShortSpec)

/-- 'marlstonelaw05.TreeSplits', WHERE WHAT IT READS IS OF BULK AT MOST 1048576: true; the input reads as it did. -/
def treeSplitsUptoRow : OpenClaim := { program := "ytncdgndeidbgoaa", sum := "ba8bda3765aa01cd6ecd2854c6fa1da27bc0fe997179f8e03e9e07fe42cd4383", func := "marlstone/marlstonelaw05.TreeSplits", spec := "treeSplits", unfollowed := true, recurses := true, apart := false, narrowed := true }
def TreeSplitsUptoSaid : Prop := treeSplitsUptoRow.holds Try.pinned (OpenSpec.upto treeSplitsSpec)

/-- 'marlstonelaw05.TreeWide', WHERE WHAT IT READS IS OF BULK AT MOST 1048576: true; the input reads as it did. -/
def treeWideUptoRow : OpenClaim := { program := "ytncdgndeidbgoaa", sum := "ba8bda3765aa01cd6ecd2854c6fa1da27bc0fe997179f8e03e9e07fe42cd4383", func := "marlstone/marlstonelaw05.TreeWide", spec := "treeWide", unfollowed := true, recurses := true, apart := false, narrowed := true }
def TreeWideUptoSaid : Prop := treeWideUptoRow.holds Try.pinned (OpenSpec.upto treeWideSpec)

/-- 'marlstonelaw05.TreeWhole', WHERE WHAT IT READS IS OF BULK AT MOST 1048576: true; the input reads as it did. -/
def treeWholeUptoRow : OpenClaim := { program := "ytncdgndeidbgoaa", sum := "ba8bda3765aa01cd6ecd2854c6fa1da27bc0fe997179f8e03e9e07fe42cd4383", func := "marlstone/marlstonelaw05.TreeWhole", spec := "treeWhole", unfollowed := true, recurses := true, apart := false, narrowed := true }
def TreeWholeUptoSaid : Prop := treeWholeUptoRow.holds Try.pinned (OpenSpec.upto treeWholeSpec)

/-- 'marlstonelaw05.TreeDepth', WHERE WHAT IT READS IS OF BULK AT MOST 1048576: true; the input reads as it did. -/
def treeDepthUptoRow : OpenClaim := { program := "ytncdgndeidbgoaa", sum := "ba8bda3765aa01cd6ecd2854c6fa1da27bc0fe997179f8e03e9e07fe42cd4383", func := "marlstone/marlstonelaw05.TreeDepth", spec := "treeDepth", unfollowed := true, recurses := true, apart := false, narrowed := true }
def TreeDepthUptoSaid : Prop := treeDepthUptoRow.holds Try.pinned (OpenSpec.upto treeDepthSpec)

end Rows
end Go.Proofs.Ytncdgndeidbgoaa
