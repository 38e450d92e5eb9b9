/-
  No cell of these rows narrows 'for every input' (looked for: loops, veiled, ifaces, maps, wideKeys, modest, calm, conditions, laid).
  DERIVED. THE GIVEN ROWS OF THIS SEAT. 7 by the template 'for every input the law returns true; each argument reads behind the call as it read before'; 0 by the template 'total and deterministic' (their statements: YthaoibgcgkmnbaaTotals.lean).
  GIVEN WITH THE SEED: the statements are not yours to turn. If you find one false, say at which input.
  Laid BY PROGRAM, IN A SANDBOX (cutbox-rows.mjs): the forced cells as the released guide's own fill.sh prints them over the translation 7b749f9e68c5d1f2… (all of the seat's roots in one cut). By AI agents, Wed Nov 11 2026. No macro, syntax, notation, axiom, sorry.
-/
import Derived.Test.YthaoibgcgkmnbaaChecked
import GoSem.Claim
import GoSem.ClaimJoined
import GoSem.ClaimMapViews
import Derived.JoinedTies
import Derived.KernelRfl
namespace Go.Proofs.Ythaoibgcgkmnbaa
/- THE CELL 'sum', in the pinned program and in every row, IS THE sha256 OF THE DUMP (.gsa) THAT YthaoibgcgkmnbaaProg.lean LOADS. Nothing in Lean hashes anything: it is a label: what it is worth is what the hold of that sum in a sandbox is worth. -/
noncomputable def Try.pinned : Pinned := { name := "ythaoibgcgkmnbaa", sum := "7b749f9e68c5d1f2d582a61e526bf98e5301b6688e148ee0fa994c0de546bd17", checked := Try.checked }
namespace Rows
def none {H : Type} : Left H := { results := [], args := [] }

/-- 'marlstonelaw06.ClashOpens': WHATEVER THE INPUT: true; the input reads as it did. -/
def clashOpensSpec : ChangeSpec := { name := "clashOpens", fn := fun _ => fun
  | [d1, d2, d3, d4, d5] => { results := [.lit (.bool true)], args := [d1, d2, d3, d4, d5] }
  | _ => none }
def clashOpensRow : OpenClaim := { program := "ythaoibgcgkmnbaa", sum := "7b749f9e68c5d1f2d582a61e526bf98e5301b6688e148ee0fa994c0de546bd17", func := "marlstone/marlstonelaw06.ClashOpens", spec := "clashOpens", unfollowed := true, recurses := true, apart := false }
def ClashOpensSaid : Prop := clashOpensRow.holds Try.pinned (OpenSpec.ofChange clashOpensSpec)

/-- ITS FALSE NEIGHBOUR: 'it returns false'. Refute it at one input. -/
def clashOpensWrong : ChangeSpec := { name := "clashOpens", fn := fun _ => fun
  | [d1, d2, d3, d4, d5] => { results := [.lit (.bool false)], args := [d1, d2, d3, d4, d5] }
  | _ => none }
def ClashOpensWrongFalsely : Prop := clashOpensRow.holds Try.pinned (OpenSpec.ofChange clashOpensWrong)

/-- 'marlstonelaw06.ClashParts': WHATEVER THE INPUT: true; the input reads as it did. -/
def clashPartsSpec : ChangeSpec := { name := "clashParts", fn := fun _ => fun
  | [d1, d2, d3, d4, d5] => { results := [.lit (.bool true)], args := [d1, d2, d3, d4, d5] }
  | _ => none }
def clashPartsRow : OpenClaim := { program := "ythaoibgcgkmnbaa", sum := "7b749f9e68c5d1f2d582a61e526bf98e5301b6688e148ee0fa994c0de546bd17", func := "marlstone/marlstonelaw06.ClashParts", spec := "clashParts", unfollowed := true, recurses := true, apart := false }
def ClashPartsSaid : Prop := clashPartsRow.holds Try.pinned (OpenSpec.ofChange clashPartsSpec)

/-- ITS FALSE NEIGHBOUR: 'it returns false'. Refute it at one input. -/
def clashPartsWrong : ChangeSpec := { name := "clashParts", fn := fun _ => fun
  | [d1, d2, d3, d4, d5] => { results := [.lit (.bool false)], args := [d1, d2, d3, d4, d5] }
  | _ => none }
def ClashPartsWrongFalsely : Prop := clashPartsRow.holds Try.pinned (OpenSpec.ofChange clashPartsWrong)

/-- 'marlstonelaw06.ClashLists': WHATEVER THE INPUT: true; the input reads as it did. -/
def clashListsSpec : ChangeSpec := { name := "clashLists", fn := fun _ => fun
  | [d1, d2, d3] => { results := [.lit (.bool true)], args := [d1, d2, d3] }
  | _ => none }
def clashListsRow : OpenClaim := { program := "ythaoibgcgkmnbaa", sum := "7b749f9e68c5d1f2d582a61e526bf98e5301b6688e148ee0fa994c0de546bd17", func := "marlstone/marlstonelaw06.ClashLists", spec := "clashLists", unfollowed := true, recurses := true, apart := false }
def ClashListsSaid : Prop := clashListsRow.holds Try.pinned (OpenSpec.ofChange clashListsSpec)

/-- ITS FALSE NEIGHBOUR: 'it returns false'. Refute it at one input. -/
def clashListsWrong : ChangeSpec := { name := "clashLists", fn := fun _ => fun
  | [d1, d2, d3] => { results := [.lit (.bool false)], args := [d1, d2, d3] }
  | _ => none }
def ClashListsWrongFalsely : Prop := clashListsRow.holds Try.pinned (OpenSpec.ofChange clashListsWrong)

/-- 'marlstonelaw06.ClashTurned': WHATEVER THE INPUT: true; the input reads as it did. -/
def clashTurnedSpec : ChangeSpec := { name := "clashTurned", fn := fun _ => fun
  | [d1, d2, d3] => { results := [.lit (.bool true)], args := [d1, d2, d3] }
  | _ => none }
def clashTurnedRow : OpenClaim := { program := "ythaoibgcgkmnbaa", sum := "7b749f9e68c5d1f2d582a61e526bf98e5301b6688e148ee0fa994c0de546bd17", func := "marlstone/marlstonelaw06.ClashTurned", spec := "clashTurned", unfollowed := true, recurses := true, apart := false }
def ClashTurnedSaid : Prop := clashTurnedRow.holds Try.pinned (OpenSpec.ofChange clashTurnedSpec)

/-- ITS FALSE NEIGHBOUR: 'it returns false'. Refute it at one input. -/
def clashTurnedWrong : ChangeSpec := { name := "clashTurned", fn := fun _ => fun
  | [d1, d2, d3] => { results := [.lit (.bool false)], args := [d1, d2, d3] }
  | _ => none }
def ClashTurnedWrongFalsely : Prop := clashTurnedRow.holds Try.pinned (OpenSpec.ofChange clashTurnedWrong)

/-- 'marlstonelaw06.ClashSound': WHATEVER THE INPUT: true; the input reads as it did. -/
def clashSoundSpec : ChangeSpec := { name := "clashSound", fn := fun _ => fun
  | [d1, d2, d3, d4, d5] => { results := [.lit (.bool true)], args := [d1, d2, d3, d4, d5] }
  | _ => none }
def clashSoundRow : OpenClaim := { program := "ythaoibgcgkmnbaa", sum := "7b749f9e68c5d1f2d582a61e526bf98e5301b6688e148ee0fa994c0de546bd17", func := "marlstone/marlstonelaw06.ClashSound", spec := "clashSound", unfollowed := true, recurses := true, apart := false }
def ClashSoundSaid : Prop := clashSoundRow.holds Try.pinned (OpenSpec.ofChange clashSoundSpec)

/-- ITS FALSE NEIGHBOUR: 'it returns false'. Refute it at one input. -/
def clashSoundWrong : ChangeSpec := { name := "clashSound", fn := fun _ => fun
  | [d1, d2, d3, d4, d5] => { results := [.lit (.bool false)], args := [d1, d2, d3, d4, d5] }
  | _ => none }
def ClashSoundWrongFalsely : Prop := clashSoundRow.holds Try.pinned (OpenSpec.ofChange clashSoundWrong)

/-- 'marlstonelaw06.ClashWhole': WHATEVER THE INPUT: true; the input reads as it did. -/
def clashWholeSpec : ChangeSpec := { name := "clashWhole", fn := fun _ => fun
  | [d1, d2, d3, d4, d5] => { results := [.lit (.bool true)], args := [d1, d2, d3, d4, d5] }
  | _ => none }
def clashWholeRow : OpenClaim := { program := "ythaoibgcgkmnbaa", sum := "7b749f9e68c5d1f2d582a61e526bf98e5301b6688e148ee0fa994c0de546bd17", func := "marlstone/marlstonelaw06.ClashWhole", spec := "clashWhole", unfollowed := true, recurses := true, apart := false }
def ClashWholeSaid : Prop := clashWholeRow.holds Try.pinned (OpenSpec.ofChange clashWholeSpec)

/-- ITS FALSE NEIGHBOUR: 'it returns false'. Refute it at one input. -/
def clashWholeWrong : ChangeSpec := { name := "clashWhole", fn := fun _ => fun
  | [d1, d2, d3, d4, d5] => { results := [.lit (.bool false)], args := [d1, d2, d3, d4, d5] }
  | _ => none }
def ClashWholeWrongFalsely : Prop := clashWholeRow.holds Try.pinned (OpenSpec.ofChange clashWholeWrong)

/-- 'marlstonelaw06.ClashNone': WHATEVER THE INPUT: true; the input reads as it did. -/
def clashNoneSpec : ChangeSpec := { name := "clashNone", fn := fun _ => fun
  | [d1, d2, d3, d4] => { results := [.lit (.bool true)], args := [d1, d2, d3, d4] }
  | _ => none }
def clashNoneRow : OpenClaim := { program := "ythaoibgcgkmnbaa", sum := "7b749f9e68c5d1f2d582a61e526bf98e5301b6688e148ee0fa994c0de546bd17", func := "marlstone/marlstonelaw06.ClashNone", spec := "clashNone", unfollowed := true, recurses := true, apart := false }
def ClashNoneSaid : Prop := clashNoneRow.holds Try.pinned (OpenSpec.ofChange clashNoneSpec)

/-- ITS FALSE NEIGHBOUR: 'it returns false'. Refute it at one input. -/
def clashNoneWrong : ChangeSpec := { name := "clashNone", fn := fun _ => fun
  | [d1, d2, d3, d4] => { results := [.lit (.bool false)], args := [d1, d2, d3, d4] }
  | _ => none }
def ClashNoneWrongFalsely : Prop := clashNoneRow.holds Try.pinned (OpenSpec.ofChange clashNoneWrong)

/- THE SECOND FORM. 'bulk': how many values and letters a reading holds, each counted each time it is reached (what is shared counts as often as it is met; a slice's spare places count too). A statement '..UptoSaid' is the law's where the arguments, and the package variables that the reading takes, are together of bulk at most 1048576: NARROWER than '..Said'. Prove '..Said' where nothing that the law and all that it calls make is longer than what came in: it says more and counts as full. Else prove '..UptoSaid'. A law counts once. -/
mutual
def uptoBulk {H : Type} : DataW H → Nat
  | .lit (.string bytes) => bytes.length + 1
  | .lit _ => 1
  | .nil => 1
  | .ptr d => uptoBulk d + 1
  | .slice elems spare => uptoBulkAll elems + uptoBulkAll spare + 1
  | .agg parts => uptoBulkAll parts + 1
  | .iface _ d => uptoBulk d + 1
  | .map entries => uptoBulkEntries entries + 1
  | .held _ => 1
def uptoBulkAll {H : Type} : List (DataW H) → Nat
  | [] => 0
  | d :: r => uptoBulk d + uptoBulkAll r
def uptoBulkEntries {H : Type} : List (Lit × DataW H) → Nat
  | [] => 0
  | x :: r => uptoBulkEntry x + uptoBulkEntries r
def uptoBulkEntry {H : Type} : Lit × DataW H → Nat
  | (.string bytes, d) => bytes.length + uptoBulk d + 1
  | (_, d) => uptoBulk d + 1
 end
def uptoSmall : (H : Type) → List (DataW H) → Bool := fun _ ds => decide (uptoBulkAll ds ≤ 1048576)
def OpenSpec.upto (s : _root_.Go.ChangeSpec) : _root_.Go.OpenSpec := { _root_.Go.OpenSpec.ofChange s with cond := some uptoSmall }

/-- 'marlstonelaw06.ClashOpens', WHERE WHAT IT READS IS OF BULK AT MOST 1048576: true; the input reads as it did. -/
def clashOpensUptoRow : OpenClaim := { program := "ythaoibgcgkmnbaa", sum := "7b749f9e68c5d1f2d582a61e526bf98e5301b6688e148ee0fa994c0de546bd17", func := "marlstone/marlstonelaw06.ClashOpens", spec := "clashOpens", unfollowed := true, recurses := true, apart := false, narrowed := true }
def ClashOpensUptoSaid : Prop := clashOpensUptoRow.holds Try.pinned (OpenSpec.upto clashOpensSpec)

/-- 'marlstonelaw06.ClashParts', WHERE WHAT IT READS IS OF BULK AT MOST 1048576: true; the input reads as it did. -/
def clashPartsUptoRow : OpenClaim := { program := "ythaoibgcgkmnbaa", sum := "7b749f9e68c5d1f2d582a61e526bf98e5301b6688e148ee0fa994c0de546bd17", func := "marlstone/marlstonelaw06.ClashParts", spec := "clashParts", unfollowed := true, recurses := true, apart := false, narrowed := true }
def ClashPartsUptoSaid : Prop := clashPartsUptoRow.holds Try.pinned (OpenSpec.upto clashPartsSpec)

/-- 'marlstonelaw06.ClashLists', WHERE WHAT IT READS IS OF BULK AT MOST 1048576: true; the input reads as it did. -/
def clashListsUptoRow : OpenClaim := { program := "ythaoibgcgkmnbaa", sum := "7b749f9e68c5d1f2d582a61e526bf98e5301b6688e148ee0fa994c0de546bd17", func := "marlstone/marlstonelaw06.ClashLists", spec := "clashLists", unfollowed := true, recurses := true, apart := false, narrowed := true }
def ClashListsUptoSaid : Prop := clashListsUptoRow.holds Try.pinned (OpenSpec.upto clashListsSpec)

/-- 'marlstonelaw06.ClashTurned', WHERE WHAT IT READS IS OF BULK AT MOST 1048576: true; the input reads as it did. -/
def clashTurnedUptoRow : OpenClaim := { program := "ythaoibgcgkmnbaa", sum := "7b749f9e68c5d1f2d582a61e526bf98e5301b6688e148ee0fa994c0de546bd17", func := "marlstone/marlstonelaw06.ClashTurned", spec := "clashTurned", unfollowed := true, recurses := true, apart := false, narrowed := true }
def ClashTurnedUptoSaid : Prop := clashTurnedUptoRow.holds Try.pinned (OpenSpec.upto clashTurnedSpec)

/-- 'marlstonelaw06.ClashSound', WHERE WHAT IT READS IS OF BULK AT MOST 1048576: true; the input reads as it did. -/
def clashSoundUptoRow : OpenClaim := { program := "ythaoibgcgkmnbaa", sum := "7b749f9e68c5d1f2d582a61e526bf98e5301b6688e148ee0fa994c0de546bd17", func := "marlstone/marlstonelaw06.ClashSound", spec := "clashSound", unfollowed := true, recurses := true, apart := false, narrowed := true }
def ClashSoundUptoSaid : Prop := clashSoundUptoRow.holds Try.pinned (OpenSpec.upto clashSoundSpec)

/-- 'marlstonelaw06.ClashWhole', WHERE WHAT IT READS IS OF BULK AT MOST 1048576: true; the input reads as it did. -/
def clashWholeUptoRow : OpenClaim := { program := "ythaoibgcgkmnbaa", sum := "7b749f9e68c5d1f2d582a61e526bf98e5301b6688e148ee0fa994c0de546bd17", func := "marlstone/marlstonelaw06.ClashWhole", spec := "clashWhole", unfollowed := true, recurses := true, apart := false, narrowed := true }
def ClashWholeUptoSaid : Prop := clashWholeUptoRow.holds Try.pinned (OpenSpec.upto clashWholeSpec)

/-- 'marlstonelaw06.ClashNone', WHERE WHAT IT READS IS OF BULK AT MOST 1048576: true; the input reads as it did. -/
def clashNoneUptoRow : OpenClaim := { program := "ythaoibgcgkmnbaa", sum := "7b749f9e68c5d1f2d582a61e526bf98e5301b6688e148ee0fa994c0de546bd17", func := "marlstone/marlstonelaw06.ClashNone", spec := "clashNone", unfollowed := true, recurses := true, apart := false, narrowed := true }
def ClashNoneUptoSaid : Prop := clashNoneUptoRow.holds Try.pinned (OpenSpec.upto clashNoneSpec)

end Rows
end Go.Proofs.Ythaoibgcgkmnbaa
