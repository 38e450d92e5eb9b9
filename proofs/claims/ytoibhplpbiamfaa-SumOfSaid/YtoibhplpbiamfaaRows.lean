/-
  No cell of these rows narrows 'for every input' (looked for: loops, veiled, ifaces, maps, wideKeys, modest, calm, conditions, laid).
  DERIVED. THE GIVEN ROWS OF THIS SEAT. 6 by the template 'for every input the law returns true; each argument reads behind the call as it read before'; 0 by the template 'total and deterministic' (their statements: YtoibhplpbiamfaaTotals.lean).
  GIVEN WITH THE SEED: the statements are not yours to turn. If you find one false, say at which input.
  Laid BY PROGRAM, IN A SANDBOX (cutbox-rows.mjs): the forced cells as the released guide's own fill.sh prints them over the translation f8714e1eea38bffe… (all of the seat's roots in one cut). By AI agents, Wed Nov 11 2026. No macro, syntax, notation, axiom, sorry.
-/
import Derived.Test.YtoibhplpbiamfaaChecked
import GoSem.Claim
import GoSem.ClaimJoined
import GoSem.ClaimMapViews
import Derived.JoinedTies
import Derived.KernelRfl
namespace Go.Proofs.Ytoibhplpbiamfaa
/- THE CELL 'sum', in the pinned program and in every row, IS THE sha256 OF THE DUMP (.gsa) THAT YtoibhplpbiamfaaProg.lean LOADS. Nothing in Lean hashes anything: it is a label: what it is worth is what the hold of that sum in a sandbox is worth. -/
noncomputable def Try.pinned : Pinned := { name := "ytoibhplpbiamfaa", sum := "f8714e1eea38bffe64938ca11de794701f4a1c3d3cac5d206bbc5f779c92e97d", checked := Try.checked }
namespace Rows
def none {H : Type} : Left H := { results := [], args := [] }

/-- 'marlstonelaw02.SumOf': WHATEVER THE INPUT: true; the input reads as it did. -/
def sumOfSpec : ChangeSpec := { name := "sumOf", fn := fun _ => fun
  | [d1, d2] => { results := [.lit (.bool true)], args := [d1, d2] }
  | _ => none }
def sumOfRow : OpenClaim := { program := "ytoibhplpbiamfaa", sum := "f8714e1eea38bffe64938ca11de794701f4a1c3d3cac5d206bbc5f779c92e97d", func := "marlstone/marlstonelaw02.SumOf", spec := "sumOf", apart := false }
def SumOfSaid : Prop := sumOfRow.holds Try.pinned (OpenSpec.ofChange sumOfSpec)

/-- ITS FALSE NEIGHBOUR: 'it returns false'. Refute it at one input. -/
def sumOfWrong : ChangeSpec := { name := "sumOf", fn := fun _ => fun
  | [d1, d2] => { results := [.lit (.bool false)], args := [d1, d2] }
  | _ => none }
def SumOfWrongFalsely : Prop := sumOfRow.holds Try.pinned (OpenSpec.ofChange sumOfWrong)

/-- 'marlstonelaw02.SumChecks': WHATEVER THE INPUT: true; the input reads as it did. -/
def sumChecksSpec : ChangeSpec := { name := "sumChecks", fn := fun _ => fun
  | [d1, d2] => { results := [.lit (.bool true)], args := [d1, d2] }
  | _ => none }
def sumChecksRow : OpenClaim := { program := "ytoibhplpbiamfaa", sum := "f8714e1eea38bffe64938ca11de794701f4a1c3d3cac5d206bbc5f779c92e97d", func := "marlstone/marlstonelaw02.SumChecks", spec := "sumChecks", apart := false }
def SumChecksSaid : Prop := sumChecksRow.holds Try.pinned (OpenSpec.ofChange sumChecksSpec)

/-- ITS FALSE NEIGHBOUR: 'it returns false'. Refute it at one input. -/
def sumChecksWrong : ChangeSpec := { name := "sumChecks", fn := fun _ => fun
  | [d1, d2] => { results := [.lit (.bool false)], args := [d1, d2] }
  | _ => none }
def SumChecksWrongFalsely : Prop := sumChecksRow.holds Try.pinned (OpenSpec.ofChange sumChecksWrong)

/-- 'marlstonelaw02.SumPieces': WHATEVER THE INPUT: true; the input reads as it did. -/
def sumPiecesSpec : ChangeSpec := { name := "sumPieces", fn := fun _ => fun
  | [d] => { results := [.lit (.bool true)], args := [d] }
  | _ => none }
def sumPiecesRow : OpenClaim := { program := "ytoibhplpbiamfaa", sum := "f8714e1eea38bffe64938ca11de794701f4a1c3d3cac5d206bbc5f779c92e97d", func := "marlstone/marlstonelaw02.SumPieces", spec := "sumPieces", apart := false }
def SumPiecesSaid : Prop := sumPiecesRow.holds Try.pinned (OpenSpec.ofChange sumPiecesSpec)

/-- ITS FALSE NEIGHBOUR: 'it returns false'. Refute it at one input. -/
def sumPiecesWrong : ChangeSpec := { name := "sumPieces", fn := fun _ => fun
  | [d] => { results := [.lit (.bool false)], args := [d] }
  | _ => none }
def SumPiecesWrongFalsely : Prop := sumPiecesRow.holds Try.pinned (OpenSpec.ofChange sumPiecesWrong)

/-- 'marlstonelaw02.SumKept': WHATEVER THE INPUT: true; the input reads as it did. -/
def sumKeptSpec : ChangeSpec := { name := "sumKept", fn := fun _ => fun
  | [d1, d2, d3] => { results := [.lit (.bool true)], args := [d1, d2, d3] }
  | _ => none }
def sumKeptRow : OpenClaim := { program := "ytoibhplpbiamfaa", sum := "f8714e1eea38bffe64938ca11de794701f4a1c3d3cac5d206bbc5f779c92e97d", func := "marlstone/marlstonelaw02.SumKept", spec := "sumKept", apart := false }
def SumKeptSaid : Prop := sumKeptRow.holds Try.pinned (OpenSpec.ofChange sumKeptSpec)

/-- ITS FALSE NEIGHBOUR: 'it returns false'. Refute it at one input. -/
def sumKeptWrong : ChangeSpec := { name := "sumKept", fn := fun _ => fun
  | [d1, d2, d3] => { results := [.lit (.bool false)], args := [d1, d2, d3] }
  | _ => none }
def SumKeptWrongFalsely : Prop := sumKeptRow.holds Try.pinned (OpenSpec.ofChange sumKeptWrong)

/-- 'marlstonelaw02.SumBursts': WHATEVER THE INPUT: true; the input reads as it did. -/
def sumBurstsSpec : ChangeSpec := { name := "sumBursts", fn := fun _ => fun
  | [d1, d2, d3] => { results := [.lit (.bool true)], args := [d1, d2, d3] }
  | _ => none }
def sumBurstsRow : OpenClaim := { program := "ytoibhplpbiamfaa", sum := "f8714e1eea38bffe64938ca11de794701f4a1c3d3cac5d206bbc5f779c92e97d", func := "marlstone/marlstonelaw02.SumBursts", spec := "sumBursts", apart := false }
def SumBurstsSaid : Prop := sumBurstsRow.holds Try.pinned (OpenSpec.ofChange sumBurstsSpec)

/-- ITS FALSE NEIGHBOUR: 'it returns false'. Refute it at one input. -/
def sumBurstsWrong : ChangeSpec := { name := "sumBursts", fn := fun _ => fun
  | [d1, d2, d3] => { results := [.lit (.bool false)], args := [d1, d2, d3] }
  | _ => none }
def SumBurstsWrongFalsely : Prop := sumBurstsRow.holds Try.pinned (OpenSpec.ofChange sumBurstsWrong)

/-- 'marlstonelaw02.SumDigits': WHATEVER THE INPUT: true; the input reads as it did. -/
def sumDigitsSpec : ChangeSpec := { name := "sumDigits", fn := fun _ => fun
  | [d] => { results := [.lit (.bool true)], args := [d] }
  | _ => none }
def sumDigitsRow : OpenClaim := { program := "ytoibhplpbiamfaa", sum := "f8714e1eea38bffe64938ca11de794701f4a1c3d3cac5d206bbc5f779c92e97d", func := "marlstone/marlstonelaw02.SumDigits", spec := "sumDigits", apart := false }
def SumDigitsSaid : Prop := sumDigitsRow.holds Try.pinned (OpenSpec.ofChange sumDigitsSpec)

/-- ITS FALSE NEIGHBOUR: 'it returns false'. Refute it at one input. -/
def sumDigitsWrong : ChangeSpec := { name := "sumDigits", fn := fun _ => fun
  | [d] => { results := [.lit (.bool false)], args := [d] }
  | _ => none }
def SumDigitsWrongFalsely : Prop := sumDigitsRow.holds Try.pinned (OpenSpec.ofChange sumDigitsWrong)

/- THE SECOND FORM. 'bulk': how many values and letters a reading holds, each counted each time it is reached (what is shared counts as often as it is met; a slice's spare places count too). A statement '..UptoSaid' is the law's where the arguments, and the package variables that the reading takes, are together of bulk at most 1048576: NARROWER than '..Said'. Prove '..Said' where nothing that the law and all that it calls make is longer than what came in: it says more and counts as full. Else prove '..UptoSaid'. A law counts once. -/
mutual
def uptoBulk {H : Type} : DataW H → Nat
  | .lit (.string bytes) => bytes.length + 1
  | .lit _ => 1
  | .nil => 1
  | .ptr d => uptoBulk d + 1
  | .slice elems spare => uptoBulkAll elems + uptoBulkAll spare + 1
  | .agg parts => uptoBulkAll parts + 1
  | .iface _ d => uptoBulk d + 1
  | .map entries => uptoBulkEntries entries + 1
  | .held _ => 1
def uptoBulkAll {H : Type} : List (DataW H) → Nat
  | [] => 0
  | d :: r => uptoBulk d + uptoBulkAll r
def uptoBulkEntries {H : Type} : List (Lit × DataW H) → Nat
  | [] => 0
  | x :: r => uptoBulkEntry x + uptoBulkEntries r
def uptoBulkEntry {H : Type} : Lit × DataW H → Nat
  | (.string bytes, d) => bytes.length + uptoBulk d + 1
  | (_, d) => uptoBulk d + 1
 end
def uptoSmall : (H : Type) → List (DataW H) → Bool := fun _ ds => decide (uptoBulkAll ds ≤ 1048576)
def OpenSpec.upto (s : _root_.Go.ChangeSpec) : _root_.Go.OpenSpec := { _root_.Go.OpenSpec.ofChange s with cond := some uptoSmall }

/-- 'marlstonelaw02.SumOf', WHERE WHAT IT READS IS OF BULK AT MOST 1048576: true; the input reads as it did. -/
def sumOfUptoRow : OpenClaim := { program := "ytoibhplpbiamfaa", sum := "f8714e1eea38bffe64938ca11de794701f4a1c3d3cac5d206bbc5f779c92e97d", func := "marlstone/marlstonelaw02.SumOf", spec := "sumOf", apart := false, narrowed := true }
def SumOfUptoSaid : Prop := sumOfUptoRow.holds Try.pinned (OpenSpec.upto sumOfSpec)

/-- 'marlstonelaw02.SumChecks', WHERE WHAT IT READS IS OF BULK AT MOST 1048576: true; the input reads as it did. -/
def sumChecksUptoRow : OpenClaim := { program := "ytoibhplpbiamfaa", sum := "f8714e1eea38bffe64938ca11de794701f4a1c3d3cac5d206bbc5f779c92e97d", func := "marlstone/marlstonelaw02.SumChecks", spec := "sumChecks", apart := false, narrowed := true }
def SumChecksUptoSaid : Prop := sumChecksUptoRow.holds Try.pinned (OpenSpec.upto sumChecksSpec)

/-- 'marlstonelaw02.SumPieces', WHERE WHAT IT READS IS OF BULK AT MOST 1048576: true; the input reads as it did. -/
def sumPiecesUptoRow : OpenClaim := { program := "ytoibhplpbiamfaa", sum := "f8714e1eea38bffe64938ca11de794701f4a1c3d3cac5d206bbc5f779c92e97d", func := "marlstone/marlstonelaw02.SumPieces", spec := "sumPieces", apart := false, narrowed := true }
def SumPiecesUptoSaid : Prop := sumPiecesUptoRow.holds Try.pinned (OpenSpec.upto sumPiecesSpec)

/-- 'marlstonelaw02.SumKept', WHERE WHAT IT READS IS OF BULK AT MOST 1048576: true; the input reads as it did. -/
def sumKeptUptoRow : OpenClaim := { program := "ytoibhplpbiamfaa", sum := "f8714e1eea38bffe64938ca11de794701f4a1c3d3cac5d206bbc5f779c92e97d", func := "marlstone/marlstonelaw02.SumKept", spec := "sumKept", apart := false, narrowed := true }
def SumKeptUptoSaid : Prop := sumKeptUptoRow.holds Try.pinned (OpenSpec.upto sumKeptSpec)

/-- 'marlstonelaw02.SumBursts', WHERE WHAT IT READS IS OF BULK AT MOST 1048576: true; the input reads as it did. -/
def sumBurstsUptoRow : OpenClaim := { program := "ytoibhplpbiamfaa", sum := "f8714e1eea38bffe64938ca11de794701f4a1c3d3cac5d206bbc5f779c92e97d", func := "marlstone/marlstonelaw02.SumBursts", spec := "sumBursts", apart := false, narrowed := true }
def SumBurstsUptoSaid : Prop := sumBurstsUptoRow.holds Try.pinned (OpenSpec.upto sumBurstsSpec)

/-- 'marlstonelaw02.SumDigits', WHERE WHAT IT READS IS OF BULK AT MOST 1048576: true; the input reads as it did. -/
def sumDigitsUptoRow : OpenClaim := { program := "ytoibhplpbiamfaa", sum := "f8714e1eea38bffe64938ca11de794701f4a1c3d3cac5d206bbc5f779c92e97d", func := "marlstone/marlstonelaw02.SumDigits", spec := "sumDigits", apart := false, narrowed := true }
def SumDigitsUptoSaid : Prop := sumDigitsUptoRow.holds Try.pinned (OpenSpec.upto sumDigitsSpec)

end Rows
end Go.Proofs.Ytoibhplpbiamfaa
