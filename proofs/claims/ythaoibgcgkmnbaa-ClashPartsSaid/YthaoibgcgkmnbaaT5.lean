/- Walks of Path and of the package's Leaf, Node, Root, Path. -/
import Derived.Test.YthaoibgcgkmnbaaT4
namespace Go.Proofs.Ythaoibgcgkmnbaa
set_option maxRecDepth 100000
open Go.RowKit

set_option maxHeartbeats 4000000 in
set_option maxRecDepth 100000 in
theorem mpath_ok (x : Int) (hx : -9223372036854775808 ≤ x ∧ x ≤ 9223372036854775807) (A : Option Addr) (n c : Nat) (l : List (List UInt8)) (i : Nat) (w : World) (hnb : n ≤ 1000000) (hin : i < n) (hr : Bss w A n c l) (hlv : Lv l) :
    Calls Try.prog 24 #[.agg #[.int .i64 x], .slice A n c, .int .i64 (i : Int)] w fun e w' => ∃ v, e = .returned (.tuple #[v, .int .i64 0]) ∧ OwnDs w.heap.size (T.pathD (bitsN x) l i) v w' ∧ ExtW w w' := by
  have HX := Lib.hid hx
  have HR := Lib.hid hr
  have HV := Lib.hid hlv
  have HB0 := Lib.hid (cell_new1 w (.int .i64 x) 30)
  have HE0 : Hid (ExtW w (w.alloc (.cells #[.int .i64 x] 30))) := Lib.hid ((Below.refl _ _).alloc (Nat.le_refl _) _)
  clear hr hlv hx
  have h1 : (0 : Int) ≤ (i : Int) := by omega
  have h2 : (i : Int) < (n : Int) := by omega
  go_enter Try.func24, Try.ntmps24
  go_upto_region 1 with (fail)
  generalize w.alloc (.cells #[.int .i64 x] 30) = w1 at HB0 HE0 ⊢
  have k7 := HB0.out
  go_wp2_with fail
  refine (path_any x HX.out (n + 1) A n c l i _ (by omega) hnb hin (HR.out.same HE0.out) HV.out).mono ?_
  rintro e w' ⟨v, rfl, ho, hb⟩
  have HO := Lib.hid ho
  have HE := Lib.hid (ExtW.trans HE0.out hb)
  clear ho hb k7
  go_wp2
  go_ret2
  exact ⟨_, rfl, HO.out.le HE0.out.size, HE.out⟩

set_option maxHeartbeats 4000000 in
set_option maxRecDepth 100000 in
theorem mpath_no (x : Int) (A : Option Addr) (n c : Nat) (i : Int) (w : World) (hin : i < 0 ∨ (n : Int) ≤ i) :
    Calls Try.prog 24 #[.agg #[.int .i64 x], .slice A n c, .int .i64 i] w fun e w' => e = .returned (.tuple #[.slice none 0 0, .int .i64 1]) ∧ ExtW w w' := by
  have HE0 : Hid (ExtW w (w.alloc (.cells #[.int .i64 x] 30))) := Lib.hid ((Below.refl _ _).alloc (Nat.le_refl _) _)
  by_cases h : i < 0
  · clear hin
    go_enter Try.func24, Try.ntmps24
    go_wp2
    go_ret2
    exact ⟨rfl, HE0.out⟩
  · have h2 : (n : Int) ≤ i := by omega
    have h3 : ¬ i < (n : Int) := by omega
    clear hin
    go_enter Try.func24, Try.ntmps24
    go_wp2
    go_ret2
    exact ⟨rfl, HE0.out⟩

end Go.Proofs.Ythaoibgcgkmnbaa
