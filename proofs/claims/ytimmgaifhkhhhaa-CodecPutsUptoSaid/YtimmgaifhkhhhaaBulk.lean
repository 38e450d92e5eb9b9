/- What the bound on what is read gives (for the second form of a statement). -/
import Derived.Test.YtimmgaifhkhhhaaRows
namespace Go.Proofs.Ytimmgaifhkhhhaa.blk

theorem in_le {H : Type} {d : DataW H} {l : List (DataW H)} (h : d ∈ l) : Rows.uptoBulk d ≤ Rows.uptoBulkAll l := by
  induction l with
  | nil => cases h
  | cons x r ih =>
    simp only [Rows.uptoBulkAll]
    rcases List.mem_cons.1 h with e | e
    · subst e; omega
    · have := ih e; omega
theorem of_small {H : Type} {l : List (DataW H)} (hk : Rows.uptoSmall H l = true) {d : DataW H} (h : d ∈ l) : Rows.uptoBulk d ≤ 1048576 :=
  Nat.le_trans (in_le h) (of_decide_eq_true hk)
theorem one_le {H : Type} (d : DataW H) : 1 ≤ Rows.uptoBulk d := by
  cases d with
  | lit l => cases l <;> simp [Rows.uptoBulk]
  | nil => simp [Rows.uptoBulk]
  | ptr d => simp [Rows.uptoBulk]
  | slice elems spare => simp [Rows.uptoBulk]
  | agg parts => simp [Rows.uptoBulk]
  | iface t d => simp [Rows.uptoBulk]
  | map entries => simp [Rows.uptoBulk]
  | held h => simp [Rows.uptoBulk]
theorem len_le {H : Type} (l : List (DataW H)) : l.length ≤ Rows.uptoBulkAll l := by
  induction l with
  | nil => simp [Rows.uptoBulkAll]
  | cons x r ih => have := one_le x; simp only [Rows.uptoBulkAll, List.length_cons]; omega
theorem of_slice {H : Type} {elems spare : List (DataW H)} {k : Nat} (h : Rows.uptoBulk (.slice elems spare) ≤ k) : elems.length + spare.length ≤ k := by
  have h1 := len_le elems
  have h2 := len_le spare
  simp only [Rows.uptoBulk] at h
  omega
theorem of_string {H : Type} {bytes : List UInt8} {k : Nat} (h : Rows.uptoBulk (DataW.lit (H := H) (.string bytes)) ≤ k) : bytes.length ≤ k := by
  simp only [Rows.uptoBulk] at h; omega
theorem of_elem {H : Type} {elems spare : List (DataW H)} {k : Nat} (h : Rows.uptoBulk (.slice elems spare) ≤ k) {d : DataW H} (hd : d ∈ elems) : Rows.uptoBulk d ≤ k := by
  have h1 := in_le hd
  simp only [Rows.uptoBulk] at h
  omega
end Go.Proofs.Ytimmgaifhkhhhaa.blk
