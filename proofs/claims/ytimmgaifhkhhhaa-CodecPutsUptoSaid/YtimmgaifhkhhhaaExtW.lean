/- Values that are told by what they read as. -/
import Derived.Test.YtimmgaifhkhhhaaW
import Derived.Test.YtimmgaifhkhhhaaExt
namespace Go.Proofs.Ytimmgaifhkhhhaa
open Go.RowKit

/-- v is a slice of bytes that reads as xs -/
def IsBytes (xs : List UInt8) (v : Value) (w : World) : Prop := ∃ A n c, v = .slice A n c ∧ Rd w A n c 1 (bvs xs)
theorem IsBytes.mono (xs : List UInt8) : ∀ v w w', IsBytes xs v w → ExtW w w' → IsBytes xs v w' := by
  rintro v w w' ⟨A, n, c, h1, h2⟩ hx
  exact ⟨A, n, c, h1, h2.below hx (Nat.le_refl _)⟩
theorem IsBytes.own {xs : List UInt8} {v : Value} {w : World} {base e n : Nat} (h : w.ownsRow base e 1 v n (bvs xs)) : IsBytes xs v w := by
  obtain ⟨A, c, hv, hr, _⟩ := Rd.of_own h
  exact ⟨A, n, c, hv, hr⟩
/-- fresh: it lies in memory from base on -/
def IsOwn (base : Nat) (xs : List UInt8) (v : Value) (w : World) : Prop := ∃ n, w.ownsRow base 5 1 v n (bvs xs)
end Go.Proofs.Ytimmgaifhkhhhaa
