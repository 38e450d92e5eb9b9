/- Words of 32 bits as the model's values; the walk of RotateLeft32. -/
import Derived.Test.YthaoibgcgkmnbaaWa
import Derived.Test.YthaoibgcgkmnbaaSha
namespace Go.Proofs.Ythaoibgcgkmnbaa
set_option maxRecDepth 100000
open Go.RowKit

/-- a word's number -/
def un (x : UInt32) : Nat := x.toNat
theorem un_lt (x : UInt32) : un x < 4294967296 := x.toNat_lt
theorem un_of (n : Nat) (h : n < 4294967296) : un (UInt32.ofNat n) = n := by unfold un; rw [UInt32.toNat_ofNat']; omega
theorem un_inj {x y : UInt32} (h : un x = un y) : x = y := UInt32.toNat_inj.1 h
theorem un_xor (a b : UInt32) : bits .xor .u32 (un a : Int) (un b : Int) = (un (a ^^^ b) : Int) := by
  rw [u32_xor_nat _ _ (un_lt a) (un_lt b)]; unfold un; rw [UInt32.toNat_xor]
theorem un_and (a b : UInt32) : bits .and .u32 (un a : Int) (un b : Int) = (un (a &&& b) : Int) := by
  rw [u32_and_nat _ _ (un_lt a) (un_lt b)]; unfold un; rw [UInt32.toNat_and]
theorem un_or (a b : UInt32) : bits .or .u32 (un a : Int) (un b : Int) = (un (a ||| b) : Int) := by
  rw [u32_or_nat _ _ (un_lt a) (un_lt b)]; unfold un; rw [UInt32.toNat_or]
theorem un_add (a b : UInt32) : ((un a : Int) + (un b : Int)) % 4294967296 = (un (a + b) : Int) := by
  unfold un; rw [UInt32.toNat_add]; omega
theorem un_not (a : UInt32) : bits .xor .u32 IntKind.u32.max (un a : Int) = (un (~~~a) : Int) := by
  have e : IntKind.u32.max = ((un 4294967295 : Nat) : Int) := by decide +kernel
  rw [e, un_xor]
  congr 2
theorem un_shr (a n : UInt32) (k : Nat) (hn : n.toNat = k) (hk : k < 32) : (un a : Int) / ((2 ^ k : Nat) : Int) = (un (a >>> n) : Int) := by
  unfold un
  rw [UInt32.toNat_shiftRight, hn, Nat.mod_eq_of_lt hk, Nat.shiftRight_eq_div_pow]
  simp
theorem un_shl (a n : UInt32) (k : Nat) (hn : n.toNat = k) (hk : k < 32) : (un a : Int) * ((2 ^ k : Nat) : Int) % 4294967296 = (un (a <<< n) : Int) := by
  unfold un
  rw [UInt32.toNat_shiftLeft, hn, Nat.mod_eq_of_lt hk, Nat.shiftLeft_eq]
  simp
theorem un_shr3 (a : UInt32) : (un a : Int) / (8 : Int) = (un (a >>> 3) : Int) := un_shr a 3 3 rfl (by decide)
theorem un_shr10 (a : UInt32) : (un a : Int) / (1024 : Int) = (un (a >>> 10) : Int) := un_shr a 10 10 rfl (by decide)

theorem rot_any (x n : UInt32) (k : Int) (s : Nat) (hs : bits .and .u64 (IntKind.u64.wrap k) 31 = (s : Int)) (h0 : 0 < s) (h1 : s < 32) (hn : n.toNat = 32 - s) (w : World) :
    Calls Try.prog 75 #[.int .u32 (un x : Nat), .int .i64 k] w fun e w' => e = .returned (.int .u32 (un (S.rotr x n) : Nat)) ∧ w' = w := by
  have hl := un_shl x (32 - n) s (by rw [UInt32.toNat_sub]; simp; omega) h1
  have hr := un_shr x n (32 - s) hn (by omega)
  have ho := un_or (x <<< (32 - n)) (x >>> n)
  have hfin : bits .or .u32 ((un x : Int) * 2 ^ s % 4294967296) ((un x : Int) / 2 ^ (32 - s)) = (un (S.rotr x n) : Int) := by
    have e1 : ((2 ^ s : Nat) : Int) = 2 ^ s := by simp
    have e2 : ((2 ^ (32 - s) : Nat) : Int) = 2 ^ (32 - s) := by simp
    rw [← e1, ← e2, hl, hr, ho]
    unfold S.rotr; rw [UInt32.or_comm]
  go_enter Try.func75, Try.ntmps75
  go_wp2
  go_ret
  exact ⟨rfl, rfl⟩
theorem rot_m (x : UInt32) (w : World) (k : Int) (n : UInt32) (s : Nat) (hs : bits .and .u64 (IntKind.u64.wrap k) 31 = (s : Int) ∧ 0 < s ∧ s < 32 ∧ n.toNat = 32 - s) :
    Calls Try.prog 75 #[.int .u32 (un x : Nat), .int .i64 k] w fun e w' => e = .returned (.int .u32 (un (S.rotr x n) : Nat)) ∧ w' = w := rot_any x n k s hs.1 hs.2.1 hs.2.2.1 hs.2.2.2 w
theorem rot7 (x : UInt32) (w : World) : Calls Try.prog 75 #[.int .u32 (un x : Nat), .int .i64 (-7)] w fun e w' => e = .returned (.int .u32 (un (S.rotr x 7) : Nat)) ∧ w' = w := rot_m x w (-7) 7 25 (by decide +kernel)
theorem rot18 (x : UInt32) (w : World) : Calls Try.prog 75 #[.int .u32 (un x : Nat), .int .i64 (-18)] w fun e w' => e = .returned (.int .u32 (un (S.rotr x 18) : Nat)) ∧ w' = w := rot_m x w (-18) 18 14 (by decide +kernel)
theorem rot17 (x : UInt32) (w : World) : Calls Try.prog 75 #[.int .u32 (un x : Nat), .int .i64 (-17)] w fun e w' => e = .returned (.int .u32 (un (S.rotr x 17) : Nat)) ∧ w' = w := rot_m x w (-17) 17 15 (by decide +kernel)
theorem rot19 (x : UInt32) (w : World) : Calls Try.prog 75 #[.int .u32 (un x : Nat), .int .i64 (-19)] w fun e w' => e = .returned (.int .u32 (un (S.rotr x 19) : Nat)) ∧ w' = w := rot_m x w (-19) 19 13 (by decide +kernel)
theorem rot6 (x : UInt32) (w : World) : Calls Try.prog 75 #[.int .u32 (un x : Nat), .int .i64 (-6)] w fun e w' => e = .returned (.int .u32 (un (S.rotr x 6) : Nat)) ∧ w' = w := rot_m x w (-6) 6 26 (by decide +kernel)
theorem rot11 (x : UInt32) (w : World) : Calls Try.prog 75 #[.int .u32 (un x : Nat), .int .i64 (-11)] w fun e w' => e = .returned (.int .u32 (un (S.rotr x 11) : Nat)) ∧ w' = w := rot_m x w (-11) 11 21 (by decide +kernel)
theorem rot25 (x : UInt32) (w : World) : Calls Try.prog 75 #[.int .u32 (un x : Nat), .int .i64 (-25)] w fun e w' => e = .returned (.int .u32 (un (S.rotr x 25) : Nat)) ∧ w' = w := rot_m x w (-25) 25 7 (by decide +kernel)
theorem rot2 (x : UInt32) (w : World) : Calls Try.prog 75 #[.int .u32 (un x : Nat), .int .i64 (-2)] w fun e w' => e = .returned (.int .u32 (un (S.rotr x 2) : Nat)) ∧ w' = w := rot_m x w (-2) 2 30 (by decide +kernel)
theorem rot13 (x : UInt32) (w : World) : Calls Try.prog 75 #[.int .u32 (un x : Nat), .int .i64 (-13)] w fun e w' => e = .returned (.int .u32 (un (S.rotr x 13) : Nat)) ∧ w' = w := rot_m x w (-13) 13 19 (by decide +kernel)
theorem rot22 (x : UInt32) (w : World) : Calls Try.prog 75 #[.int .u32 (un x : Nat), .int .i64 (-22)] w fun e w' => e = .returned (.int .u32 (un (S.rotr x 22) : Nat)) ∧ w' = w := rot_m x w (-22) 22 10 (by decide +kernel)
end Go.Proofs.Ythaoibgcgkmnbaa
