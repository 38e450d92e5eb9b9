/- Tree{v}; strings compared. -/
import Derived.Test.YthaoibgcgkmnbaaCB
namespace Go.Proofs.Ythaoibgcgkmnbaa
set_option maxRecDepth 100000
open Go.RowKit

theorem bldT (v : Int) (W : World) : (Instr.build 30 #[(0, .int .i64 v)]).run Try.prog W = .ok (.agg #[.int .i64 v]) W := run_build W _ _ _ (by kernel_rfl)
theorem list_beq (a b : List UInt8) : (a == b) = decide (a = b) := by by_cases h : a = b <;> simp [h]
theorem streq0 (a b : List UInt8) : ((⟨a.toArray⟩ : ByteArray).toList == (⟨b.toArray⟩ : ByteArray).toList) = decide (a = b) := by
  rw [ByteArray.toList_eq, ByteArray.toList_eq]
  by_cases h : a = b
  · subst h; simp
  · rw [decide_eq_false h, beq_eq_false_iff_ne]
    simpa using h
end Go.Proofs.Ythaoibgcgkmnbaa
