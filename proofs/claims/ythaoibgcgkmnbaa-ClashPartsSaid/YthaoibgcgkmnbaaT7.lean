/- Walks of Range. -/
import Derived.Test.YthaoibgcgkmnbaaT6
namespace Go.Proofs.Ythaoibgcgkmnbaa
set_option maxRecDepth 100000
open Go.RowKit

set_option maxHeartbeats 4000000 in
set_option maxRecDepth 100000 in
theorem mrange_ok (x : Int) (hx : -9223372036854775808 ≤ x ∧ x ≤ 9223372036854775807) (A : Option Addr) (n c : Nat) (l : List (List UInt8)) (a b : Int) (w : World) (hnb : n ≤ 1000000) (ha : 0 ≤ a) (hab : a < b) (hb : b ≤ n) (hr : Bss w A n c l) (hlv : Lv l) :
    Calls Try.prog 26 #[.agg #[.int .i64 x], .slice A n c, .int .i64 a, .int .i64 b] w fun e w' => ∃ v, e = .returned (.tuple #[v, .int .i64 0]) ∧ OwnDs w.heap.size (T.besideD (bitsN x) l a b) v w' ∧ ExtW w w' := by
  have HX := Lib.hid hx
  have HR := Lib.hid hr
  have HV := Lib.hid hlv
  have HB0 := Lib.hid (cell_new1 w (.int .i64 x) 30)
  have HE0 : Hid (ExtW w (w.alloc (.cells #[.int .i64 x] 30))) := Lib.hid ((Below.refl _ _).alloc (Nat.le_refl _) _)
  clear hr hlv hx
  have h1 : ¬ a < 0 := by omega
  have h2 : ¬ b ≤ a := by omega
  have h3 : ¬ (n : Int) < b := by omega
  go_enter Try.func26, Try.ntmps26
  go_upto_region 1 with (fail)
  generalize w.alloc (.cells #[.int .i64 x] 30) = w1 at HB0 HE0 ⊢
  have k7 := HB0.out
  go_wp2_with fail
  refine (beside_any x HX.out w1 (n + 1) A n c l [] a b (.slice none 0 0) w1 (by omega) (by omega) (by simp; omega) (by omega) (by omega) (by omega) (by omega) (HR.out.same HE0.out) HV.out (ExtW.refl _) (OwnDs.nil _ _)).mono ?_
  rintro e w' ⟨v, rfl, ho, hg⟩
  have HO := Lib.hid ho
  have HE := Lib.hid (ExtW.trans HE0.out (hg.below (Nat.le_refl _) (fun k hk => by cases hk)))
  clear ho hg k7
  go_wp2
  go_ret2
  exact ⟨_, rfl, HO.out.le HE0.out.size, HE.out⟩

set_option maxHeartbeats 4000000 in
set_option maxRecDepth 100000 in
theorem mrange_no (x : Int) (A : Option Addr) (n c : Nat) (a b : Int) (w : World) (hin : a < 0 ∨ b ≤ a ∨ (n : Int) < b) :
    Calls Try.prog 26 #[.agg #[.int .i64 x], .slice A n c, .int .i64 a, .int .i64 b] w fun e w' => e = .returned (.tuple #[.slice none 0 0, .int .i64 1]) ∧ ExtW w w' := by
  have HE0 : Hid (ExtW w (w.alloc (.cells #[.int .i64 x] 30))) := Lib.hid ((Below.refl _ _).alloc (Nat.le_refl _) _)
  have hcase : a < 0 ∨ (¬ a < 0 ∧ b ≤ a ∧ ¬ a < b) ∨ (¬ a < 0 ∧ ¬ b ≤ a ∧ a < b ∧ (n : Int) < b) := by omega
  clear hin
  rcases hcase with h | ⟨h1, h2, h3⟩ | ⟨h1, h2, h3, h4⟩
  all_goals
    go_enter Try.func26, Try.ntmps26
    go_wp2
    go_ret2
    exact ⟨rfl, HE0.out⟩

end Go.Proofs.Ythaoibgcgkmnbaa
