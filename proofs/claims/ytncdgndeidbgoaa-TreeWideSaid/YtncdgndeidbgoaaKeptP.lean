/- The bits that are kept, plainly. -/
import Derived.Test.YtncdgndeidbgoaaKept
namespace Go.Proofs.Ytncdgndeidbgoaa
open Go.RowKit

theorem i64_and7 (n : Nat) (h : n < 256) : bits .and .i64 (n : Int) 7 = ((n % 8 : Nat) : Int) := by
  have : ∀ m : Fin 256, bits .and .i64 ((m.1 : Nat) : Int) 7 = ((m.1 % 8 : Nat) : Int) := by decide +kernel
  exact this ⟨n, h⟩
/-- bit r of a byte, from the greatest on -/
def bitR (r : Nat) : UInt8 := UInt8.ofNat (128 / 2 ^ r)
theorem keepB_bit (b : UInt8) (m : Nat) {r : Nat} (hr : r < 8) : keepB b m &&& bitR r = if r < m then b &&& bitR r else 0 := by
  have key : ∀ (m r : Fin 8), m.1 ≠ 0 → UInt8.ofNat (255 * 2 ^ (8 - m.1) % 256) &&& bitR r.1 = if r.1 < m.1 then bitR r.1 else 0 := by decide
  unfold keepB
  by_cases h0 : m = 0
  · rw [if_pos h0, if_neg (by omega), UInt8.zero_and]
  · rw [if_neg h0]
    by_cases h8 : m < 8
    · rw [if_pos h8, UInt8.and_assoc, key ⟨m, h8⟩ ⟨r, hr⟩ h0]
      split
      · rfl
      · rw [UInt8.and_zero]
    · rw [if_neg h8, if_pos (by omega)]
theorem keep_bit {d : List UInt8} {n i : Nat} (hd : d.length = 32) (hi : i < 256) : (keep d n).getD (i / 8) 0 &&& bitR (i % 8) = if i < n then d.getD (i / 8) 0 &&& bitR (i % 8) else 0 := by
  have h := keep_get d n (i / 8) (by omega)
  rw [List.getD_eq_getElem?_getD, h, Option.getD_some, keepB_bit _ _ (Nat.mod_lt _ (by decide))]
  by_cases h1 : i < n
  · rw [if_pos h1, if_pos (by omega)]
  · rw [if_neg h1, if_neg (by omega)]
theorem bitsN_lt {x : Int} {i : Nat} (h : i < 256) : i < bitsN x ↔ (i : Int) < x := by unfold bitsN; omega
theorem and_u8 (a b : UInt8) : bits .and .u8 (a.toNat : Int) (b.toNat : Int) = ((a &&& b).toNat : Int) := by
  rw [u8_and_nat _ _ a.toNat_lt b.toNat_lt, UInt8.toNat_and]
end Go.Proofs.Ytncdgndeidbgoaa
