/- Walk of FramePuts. -/
import Derived.Test.YtegkcbkgoncnbaaShown8
import Derived.Test.YtegkcbkgoncnbaaRef8b
namespace Go.Proofs.Ytegkcbkgoncnbaa
open Go.RowKit

set_option maxHeartbeats 4000000 in
set_option maxRecDepth 100000 in
theorem framePuts_walk (A : Option Addr) (n c : Nat) (xs : List UInt8) (A2 : Option Addr) (n2 c2 : Nat) (ys : List UInt8) (w : World)
    (hr : Rd w A n c 1 (bvs xs)) (_hc : c ≤ 140737488351232) (hr2 : Rd w A2 n2 c2 1 (bvs ys)) (_hc2 : c2 ≤ 140737488351232) :
    Calls Try.prog 3 #[.slice A n c, .slice A2 n2 c2] w fun e w' => e = .returned (.bool true) ∧ Below w.heap.size w w' := by
  obtain ⟨i0, hi, hz0, hz1, hz2⟩ := info_parts infoB
  have HS := Lib.hid fun w => shown_any w
  obtain ⟨m, hm⟩ : ∃ m, m = min n 3000 := ⟨_, rfl⟩
  have hm1 : m ≤ 3000 := by omega
  have hm2 : m ≤ n := by omega
  have hmm : (if 3000 < (n : Int) then (3000 : Int) else (n : Int)) = (m : Int) := by split <;> omega
  obtain ⟨p, hp⟩ : ∃ p, p = min n2 3000 := ⟨_, rfl⟩
  have hp1 : p ≤ 3000 := by omega
  have hp2 : p ≤ n2 := by omega
  have hpp : (if 3000 < (n2 : Int) then (3000 : Int) else (n2 : Int)) = (p : Int) := by split <;> omega
  clear hm hp
  have hnc := hr.nc
  have hnc2 := hr2.nc
  have hrm := hr.take m hm2
  rw [Nat.mul_one, bvs_take] at hrm
  have hrp := hr2.take p hp2
  rw [Nat.mul_one, bvs_take] at hrp
  clear hr hr2
  obtain ⟨a, ha⟩ : ∃ a, a = xs.take m := ⟨_, rfl⟩
  obtain ⟨b, hb⟩ : ∃ b, b = ys.take p := ⟨_, rfl⟩
  rw [← ha] at hrm
  rw [← hb] at hrp
  clear ha hb
  have hal : a.length = m := by have := hrm.len; rw [bvs_len] at this; omega
  have hbl : b.length = p := by have := hrp.len; rw [bvs_len] at this; omega
  have HR := Lib.hid hrm
  have HR2 := Lib.hid hrp
  have HAL := Lib.hid hal
  have HBL := Lib.hid hbl
  clear hrm hrp hal hbl
  go_enter Try.func3, Try.ntmps3
  go_wp2_with fail
  refine (HS.out _).mono ?_
  rintro e w1 ⟨rfl, hb1⟩
  have HB1 := Lib.hid hb1
  have HO := Lib.hid (own_empty w1 w1.heap.size (Nat.le_refl _))
  have HY := Lib.hid ((HR.out.below HB1.out (Nat.le_refl _)).alloc (.cells #[] 5))
  clear hb1
  go_wp2_with (first | (at_builtin; refine wpList_append_appd _ rfl _ _ _ rfl w1.heap.size 5 i0 _ 1 1 Try.underlying22 hi hz0 hz1 hz2 rfl (by omega) _ _ _ rfl (.inr HO.out) A m c _ rfl HY.out (bvs_one _) (by simp [maxLen]; omega) (by omega) (by simp) (.inl HO.out) ?_; intro v2 w2 hown2 hb2 _; obtain ⟨A3, c3, rfl, hr3, _⟩ := Rd.of_own hown2; have HB2 : Hid (Below w.heap.size w w2) := Lib.hid (HB1.out.trans ((((Below.refl _ _).alloc (Nat.le_refl _) _).trans hb2).mono HB1.out.size)); rw [Nat.zero_add] at hr3 ⊢; have HR3 := Lib.hid hr3; clear hown2 hb2 hr3 HO HY; have HO2 := Lib.hid (own_empty w2 w2.heap.size (Nat.le_refl _)); have HY2 := Lib.hid ((HR2.out.below HB2.out (Nat.le_refl _)).alloc (.cells #[] 5))) | (at_builtin; refine wpList_append_appd _ rfl _ _ _ rfl w2.heap.size 5 i0 _ 1 1 Try.underlying22 hi hz0 hz1 hz2 rfl (by omega) _ _ _ rfl (.inr HO2.out) A2 p c2 _ rfl HY2.out (bvs_one _) (by simp [maxLen]; omega) (by omega) (by simp) (.inl HO2.out) ?_; intro v4 w4 hown4 hb4 _; obtain ⟨A4, c4, rfl, hr4, _⟩ := Rd.of_own hown4; have HE24 : Hid (ExtW w2 w4) := Lib.hid ((((Below.refl _ _).alloc (Nat.le_refl _) _).trans hb4)); rw [Nat.zero_add] at hr4 ⊢; have HR4 := Lib.hid hr4; clear hown4 hb4 hr4 HO2 HY2))
  have HB4 := Lib.hid (HB2.out.trans (HE24.out.mono HB2.out.size))
  have HX4 := Lib.hid (HR3.out.below HE24.out (Nat.le_refl _))
  have HRA4 := Lib.hid (HR.out.below HB4.out (Nat.le_refl _))
  have HRB4 := Lib.hid (HR2.out.below HB4.out (Nat.le_refl _))
  refine (framePut_any A3 m c3 a A4 p c4 b _ HX4.out HR4.out (by omega) (by omega)).mono ?_
  rintro e w5 ⟨r, rfl, hown, hb5⟩
  have HE5 : Hid (ExtW w4 w5) := Lib.hid hb5
  have HB5 := Lib.hid (HB4.out.trans (hb5.mono HB4.out.size))
  obtain ⟨k, hk⟩ : ∃ k, k = m + (p + 8) := ⟨_, rfl⟩
  rw [← hk] at hown
  have hk0 : 0 < k := by omega
  have hkb : k ≤ 6016 := by clear hmm hpp; omega
  obtain ⟨g, c5, rfl, hg, hgl⟩ := own_form hown hk0
  obtain ⟨A', c', hv, hr5, _⟩ := own_rd hown
  cases hv
  have HG : Hid (w4.heap.size ≤ g) := Lib.hid hg
  have HO := Lib.hid hown
  have HR5 := Lib.hid hr5
  have HPV : Hid (refPutV a b = .tuple #[.string (txt (a ++ frameOf b)), .int .i64 0]) := Lib.hid (by unfold refPutV; rw [if_neg (by rw [HBL.out]; omega)])
  have hca : (convert 22 9 (.slice A m c)).run Try.prog w5 = .ok (.string (txt a)) w5 := conv_str (HRA4.out.below HE5.out (Nat.le_refl _))
  have hcb : (convert 22 9 (.slice A2 p c2)).run Try.prog w5 = .ok (.string (txt b)) w5 := conv_str (HRB4.out.below HE5.out (Nat.le_refl _))
  clear hk hown hr5 hb5 hg hgl hmm hpp
  go_wp2_with fail
  refine (refPut_any a b _ (by rw [HAL.out]; omega) (by rw [HBL.out]; omega)).mono ?_
  rintro e w6 ⟨rfl, hb6⟩
  rw [HPV.out]
  have HE6 : Hid (ExtW w5 w6) := Lib.hid hb6
  have HB6 := Lib.hid (HB5.out.trans (hb6.mono HB5.out.size))
  have HO6 := Lib.hid (own_ext HO.out hb6)
  have hcr : (convert 22 9 (.slice (some ⟨g, 0, none⟩) k c5)).run Try.prog w6 = .ok (.string (txt (a ++ frameOf b))) w6 := conv_str (HR5.out.below hb6 (Nat.le_refl _))
  clear hca hcb hb6 HO
  go_wp2_with fail
  go_loopw [12] (fun i wr => ∃ (j : Nat) (zs : List Value), i = .int .i64 j ∧ j ≤ k ∧ Hid (wr.ownsRow w4.heap.size 5 1 (.slice (some ⟨g, 0, none⟩) k c5) k zs) ∧ Hid (Below w4.heap.size w4 wr)) (fun i _ => k - (intOf i).toNat)
  case atStart => exact ⟨0, _, rfl, by omega, HO6, Lib.hid (ExtW.trans HE5.out HE6.out)⟩
  case round =>
    clear HO6 hcr
    obtain ⟨j, zs, rfl, hj, HA, HL⟩ := hrel
    by_cases hlt : j < k
    · have hji : (j : Int) < (k : Int) := by omega
      have hcell : ∃ u, wr.cell? ⟨g, j, none⟩ = some u := by
        have h1 := HA.out.cellAt j (by omega)
        have h2 := HA.out.1
        rw [List.getElem?_eq_getElem (by omega)] at h1
        exact ⟨_, h1⟩
      obtain ⟨u, hcell⟩ := hcell
      have hfr := HA.out.frozenAt j
      have HST := Lib.hid (HA.out.stored j (.int .u8 63))
      go_wp2
      go_roundw
      case rel => exact ⟨j + 1, zs.set j (.int .u8 63), by simp, by omega, Lib.hid HST.out.1, Lib.hid (HL.out.setCell (p := ⟨g, j, none⟩) HG.out _)⟩
      case measure => simp [intOf]; omega
    · obtain rfl : j = k := by omega
      have hji : ¬ (j : Int) < (j : Int) := by omega
      have hcx : (convert 22 9 (.slice A3 m c3)).run Try.prog wr = .ok (.string (txt a)) wr := conv_str (HX4.out.below HL.out (Nat.le_refl _))
      have hcy : (convert 22 9 (.slice A4 p c4)).run Try.prog wr = .ok (.string (txt b)) wr := conv_str (HR4.out.below HL.out (Nat.le_refl _))
      have hca : (convert 22 9 (.slice A m c)).run Try.prog wr = .ok (.string (txt a)) wr := conv_str (HRA4.out.below HL.out (Nat.le_refl _))
      have hcb : (convert 22 9 (.slice A2 p c2)).run Try.prog wr = .ok (.string (txt b)) wr := conv_str (HRB4.out.below HL.out (Nat.le_refl _))
      go_wp2
      go_ret
      exact ⟨rfl, HB4.out.trans (HL.out.mono HB4.out.size)⟩
end Go.Proofs.Ytegkcbkgoncnbaa
