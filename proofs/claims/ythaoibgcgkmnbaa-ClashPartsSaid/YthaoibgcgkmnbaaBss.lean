/- A slice of slices of bytes, read. -/
import Derived.Test.YthaoibgcgkmnbaaW
namespace Go.Proofs.Ythaoibgcgkmnbaa
set_option maxRecDepth 100000
open Go.RowKit

/-- the slice reads as the rows of bytes l -/
structure Bss (w : World) (A : Option Addr) (n c : Nat) (l : List (List UInt8)) : Prop where
  len : l.length = n
  nc : n ≤ c
  cm : c ≤ maxLen
  nil0 : A = none → c = 0
  row : ∀ a, A = some a → ∀ i x, l[i]? = some x → ∃ B m d, w.cell? (a.add i) = some (.slice B m d) ∧ Rd w B m d 1 (bvs x)

theorem Bss.nil (w : World) : Bss w none 0 0 [] := ⟨rfl, Nat.le_refl _, by simp [maxLen], fun _ => rfl, fun a h => by cases h⟩
theorem Bss.below {w w' : World} {A : Option Addr} {n c : Nat} {l : List (List UInt8)} (h : Bss w A n c l) {B : Nat} (hb : Below B w w') (hB : w.heap.size ≤ B) : Bss w' A n c l :=
  ⟨h.len, h.nc, h.cm, h.nil0, fun a ha i x hx => by
    obtain ⟨B', m, d, hc, hr⟩ := h.row a ha i x hx
    exact ⟨B', m, d, by rw [hb.cell (Nat.lt_of_lt_of_le (cell_lt hc) hB)]; exact hc, hr.below hb hB⟩⟩
end Go.Proofs.Ythaoibgcgkmnbaa
