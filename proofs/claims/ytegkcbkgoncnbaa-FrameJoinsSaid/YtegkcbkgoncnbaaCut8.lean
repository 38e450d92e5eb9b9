/- Words of FrameBack and FrameJoins: rows that are cut, what Put hands back in any world. -/
import Derived.Test.YtegkcbkgoncnbaaShown8
import Derived.Test.YtegkcbkgoncnbaaTold
import Derived.Test.YtegkcbkgoncnbaaBss
import Derived.Test.YtegkcbkgoncnbaaTurnedW
namespace Go.Proofs.Ytegkcbkgoncnbaa
open Go.RowKit

theorem fram_row_at {w : World} {base e g n c i : Nat} {vs : List Value} {x : Value} (h : w.ownsRow base e 1 (.slice (some ⟨g, 0, none⟩) n c) n vs) (hx : vs[i]? = some x) : w.cell? ⟨g, i, none⟩ = some x := by
  have hi := (List.getElem?_eq_some_iff.1 hx).1
  have hl := h.1
  rw [h.cellAt i (by omega), hx]

theorem framesOf_snoc (l : List (List UInt8)) (y : List UInt8) : framesOf (l ++ [y]) = framesOf l ++ frameOf y := by simp [framesOf]

/-- the first j rows, cut -/
def cutRows (k : Nat) (l : List (List UInt8)) (j : Nat) : List (List UInt8) := (l.take j).map (List.take k)
theorem cutRows_succ {k : Nat} {l : List (List UInt8)} {j : Nat} {x : List UInt8} (h : l[j]? = some x) : cutRows k l (j + 1) = cutRows k l j ++ [x.take k] := by
  unfold cutRows
  rw [List.take_add_one, h]; simp

theorem cutRows_len {k : Nat} {l : List (List UInt8)} {j : Nat} (h : j ≤ l.length) : (cutRows k l j).length = j := by unfold cutRows; rw [List.length_map, List.length_take]; omega
theorem cutRows_le (l : List (List UInt8)) (j : Nat) : ∀ y, y ∈ cutRows 3000 l j → y.length ≤ 65536 := by
  intro y hy
  unfold cutRows at hy
  obtain ⟨x, _, rfl⟩ := List.mem_map.1 hy
  rw [List.length_take]; omega

/-- what All tells of some frames and a beginning of one more -/
theorem back_told {l : List (List UInt8)} {j jj : Nat} {b : List UInt8} {xs : List Fram} (hj : j ≤ l.length) (hb : b.length ≤ 3000) (hjj : jj < b.length + 8) (h : AllF (framesOf (cutRows 3000 l j) ++ (frameOf b).take jj) xs) :
    xs.length = j ∧ lastAt xs = (framesOf (cutRows 3000 l j)).length ∧ xs.map Fram.body = cutRows 3000 l j ∧
    (if lastAt xs = (framesOf (cutRows 3000 l j) ++ (frameOf b).take jj).length then 0 else (nextF ((framesOf (cutRows 3000 l j) ++ (frameOf b).take jj).drop (lastAt xs))).2.2) = if jj = 0 then 0 else 5 := by
  have hN := nextF_cut b jj (by omega) hjj
  have hne : (nextF ((frameOf b).take jj)).2.2 ≠ 0 := by rw [hN]; simp
  obtain ⟨e1, e2⟩ := allF_frames h (cutRows_le l j) hne
  have e3 := allF_bodies h (cutRows_le l j) hne
  refine ⟨?_, e2, e3, ?_⟩
  · rw [← List.length_map (f := Fram.body), e3, cutRows_len hj]
  · rw [e2, List.drop_left, hN, List.length_append, List.length_take, frameOf_len]
    by_cases h0 : jj = 0
    · rw [if_pos (by omega), if_pos h0]
    · rw [if_neg (by omega), if_neg h0]

/-- what Put hands back, in any world -/
def PutF (xs : List UInt8) (k : Nat) (v : Value) (w : World) : Prop := ∃ A c, v = .tuple #[.slice A k c, .int .i64 0] ∧ Rd w A k c 1 (bvs xs)
theorem PutF.mono (xs : List UInt8) (k : Nat) : ∀ v w w', PutF xs k v w → ExtW w w' → PutF xs k v w' := by
  rintro v w w' ⟨A, c, e, h⟩ hb
  exact ⟨A, c, e, h.below hb (Nat.le_refl _)⟩
theorem sign_of {x : Int} (hx : -9223372036854775808 ≤ x ∧ x ≤ 9223372036854775807) : (∃ y : Nat, x + 1 = -(y : Int) ∧ x < 0 ∧ y < 9223372036854775808 ∧ wrap64 (-(y : Int)) = -(y : Int) ∧ wrap64 (y : Int) = (y : Int)) ∨ (∃ y : Nat, x = (y : Int) ∧ y < 9223372036854775808 ∧ decide ((y : Int) < 0) = false) := by
  rcases (by omega : x < 0 ∨ 0 ≤ x) with h | h
  · refine .inl ⟨(-(x + 1)).toNat, by omega, h, by omega, ?_, wrap64_small (by omega) (by omega)⟩
    unfold wrap64; omega
  · exact .inr ⟨x.toNat, by omega, by omega, decide_eq_false (by omega)⟩

def SlF (xs : List UInt8) (k : Nat) (v : Value) (w : World) : Prop := ∃ A c, v = .slice A k c ∧ Rd w A k c 1 (bvs xs)
theorem SlF.mono (xs : List UInt8) (k : Nat) : ∀ v w w', SlF xs k v w → ExtW w w' → SlF xs k v w' := by
  rintro v w w' ⟨A, c, e, h⟩ hb
  exact ⟨A, c, e, h.below hb (Nat.le_refl _)⟩

end Go.Proofs.Ytegkcbkgoncnbaa
