/- What a law's row gives: arguments opened into the words of these proofs. -/
import Derived.Test.YthaoibgcgkmnbaaRows
import Derived.Test.YthaoibgcgkmnbaaW
import Derived.WalkKit
import Derived.ProofKit
import Derived.OpenShut
import Derived.ShutString
import Derived.ChangeOld
import Derived.Below
import Derived.SizedLaws
import Derived.SliceStrings
import Derived.JoinedCond
import Derived.Deep.CondSized
namespace Go.Proofs.Ythaoibgcgkmnbaa
set_option maxRecDepth 100000
open Go.ChangeShapes Go.WideShapes Go.ChangeAt Go.RowKit

theorem u8_of_wf {n : Int} (h : (Lit.int .u8 n).wf = true) : 0 ≤ n ∧ n < 256 := by
  have := bounds_u8 h; omega

theorem nat_u64 {n : Int} (h : (Lit.int .u64 n).wf = true) : ∃ m : Nat, n = m ∧ m < 18446744073709551616 := by
  have h1 := bounds_u64 h
  obtain ⟨m, rfl⟩ := Int.eq_ofNat_of_zero_le h1.1
  exact ⟨m, rfl, by omega⟩
theorem nat_u32 {n : Int} (h : (Lit.int .u32 n).wf = true) : ∃ m : Nat, n = m ∧ m < 4294967296 := by
  have h1 := bounds_u32 h
  obtain ⟨m, rfl⟩ := Int.eq_ofNat_of_zero_le h1.1
  exact ⟨m, rfl, by omega⟩
theorem nat_u8 {n : Int} (h : (Lit.int .u8 n).wf = true) : ∃ m : Nat, n = m ∧ m < 256 := by
  have h1 := bounds_u8 h
  obtain ⟨m, rfl⟩ := Int.eq_ofNat_of_zero_le h1.1
  exact ⟨m, rfl, by omega⟩
theorem int_i64 {n : Int} (h : (Lit.int .i64 n).wf = true) : -9223372036854775808 ≤ n ∧ n ≤ 9223372036854775807 := bounds_i64 h

theorem rd_of_row {w : World} {a : Addr} {len cap : Nat} {zs : List Int} (hl : len ≤ cap) (hm : cap ≤ maxLen) (hz : zs.length = cap)
    (hcell : ∀ i, i < zs.length → w.cell? (a.add i) = some (.int .u8 (zs.getD i 0))) (hw : ∀ n ∈ zs, (Lit.int .u8 n).wf = true) :
    ∃ xs, Rd w (some a) len cap 1 (bvs xs) := by
  refine ⟨(zs.take len).map fun z => UInt8.ofNat z.toNat, ⟨?_, hl, hm, (fun h => by cases h), ?_⟩⟩
  · simp only [bvs, List.length_map, List.length_take]; omega
  · intro b hb j u hj
    cases hb
    simp only [bvs, List.map_map, List.getElem?_map, List.getElem?_take] at hj
    split at hj
    · rename_i hjl
      have hjz : j < zs.length := by omega
      rw [List.getElem?_eq_getElem hjz] at hj
      simp only [Option.map_some, Option.some.injEq, Function.comp_def] at hj
      have hb := u8_of_wf (hw zs[j] (List.getElem_mem hjz))
      have e : ((UInt8.ofNat (zs[j]).toNat).toNat : Int) = zs[j] := by
        simp only [UInt8.toNat_ofNat']; omega
      rw [e] at hj
      rw [hcell j hjz, ← hj, List.getD_eq_getElem?_getD, List.getElem?_eq_getElem hjz]
      rfl
    · simp at hj

theorem rds_of_row {w : World} {a : Addr} {len cap : Nat} {ss : List ByteArray} (hl : len ≤ cap) (hm : cap ≤ maxLen) (hz : ss.length = cap)
    (hcell : ∀ i, i < ss.length → w.cell? (a.add i) = some (.string (ss.getD i ByteArray.empty))) (hw : ∀ s ∈ ss, s.size ≤ maxLen) :
    ∃ xs : List ByteArray, Rd w (some a) len cap 1 (xs.map Value.string) ∧ ∀ s ∈ xs, s.size ≤ maxLen := by
  refine ⟨ss.take len, ⟨?_, hl, hm, (fun h => by cases h), ?_⟩, fun s hs => hw s (List.mem_of_mem_take hs)⟩
  · simp only [List.length_map, List.length_take]; omega
  · intro b hb j u hj
    cases hb
    simp only [List.getElem?_map, List.getElem?_take] at hj
    split at hj
    · rename_i hjl
      have hjz : j < ss.length := by omega
      rw [List.getElem?_eq_getElem hjz] at hj
      simp only [Option.map_some, Option.some.injEq] at hj
      rw [hcell j hjz, ← hj, List.getD_eq_getElem?_getD, List.getElem?_eq_getElem hjz]
      rfl
    · simp at hj
end Go.Proofs.Ythaoibgcgkmnbaa
