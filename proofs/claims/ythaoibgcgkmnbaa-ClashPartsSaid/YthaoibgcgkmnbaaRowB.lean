/- What a law's row gives for a slice of slices of bytes. -/
import Derived.Test.YthaoibgcgkmnbaaRow
import Derived.Test.YthaoibgcgkmnbaaBss
import Derived.Deep.Matrix
namespace Go.Proofs.Ythaoibgcgkmnbaa
set_option maxRecDepth 100000
open Go.ChangeShapes Go.WideShapes Go.ChangeAt Go.RowKit

theorem bss_of_rows {w : World} {a : Addr} {len cap : Nat} {A : Nat → Option Addr} {L C : Nat → Nat} {Z : Nat → List Int} {base : Nat} (hl : len ≤ cap) (hm : cap ≤ maxLen)
    (h : ∀ r, r < cap → w.cell? (a.add r) = some (.slice (A r) (L r) (C r)) ∧ L r ≤ C r ∧ C r ≤ maxLen ∧ (Z r).length = C r ∧ (∀ n ∈ Z r, (Lit.int .u8 n).wf = true) ∧ (A r = none → C r = 0) ∧
        ∀ a', A r = some a' → base ≤ a'.block ∧ ∀ c, c < C r → w.cell? (a'.add c) = some (.int .u8 ((Z r).getD c 0))) :
    ∃ l, Bss w (some a) len cap l := by
  have each : ∀ r, r < cap → ∃ x : List UInt8, Rd w (A r) (L r) (C r) 1 (bvs x) := fun r hr => by
    obtain ⟨_, h2, h3, h4, h5, h6, h7⟩ := h r hr
    cases hA : A r with
    | none =>
      have h0 := h6 hA
      have hL : L r = 0 := by omega
      rw [hL, h0]
      exact ⟨[], Rd.nil w 1⟩
    | some a' =>
      obtain ⟨xs, hx⟩ := rd_of_row h2 h3 h4 (fun i hi => (h7 a' hA).2 i (by omega)) h5
      exact ⟨xs, hx⟩
  obtain ⟨f, hf⟩ := Deep.choose_lt each
  refine ⟨(List.range len).map f, by simp, hl, hm, (fun e => by cases e), ?_⟩
  rintro a' ha i x hx
  cases ha
  rw [List.getElem?_map] at hx
  by_cases hi : i < len
  · rw [List.getElem?_range hi] at hx
    cases hx
    exact ⟨_, _, _, (h i (by omega)).1, hf i (by omega)⟩
  · rw [List.getElem?_eq_none (by simp; omega)] at hx; cases hx
end Go.Proofs.Ythaoibgcgkmnbaa
