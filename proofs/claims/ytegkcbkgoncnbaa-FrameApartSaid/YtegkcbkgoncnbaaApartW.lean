/- Walk of FrameApart. -/
import Derived.Test.YtegkcbkgoncnbaaShown8
namespace Go.Proofs.Ytegkcbkgoncnbaa
open Go.RowKit

theorem frame_inj {a b : List UInt8} (ha : a.length ≤ 65536) (hb : b.length ≤ 65536) (h : frameOf a = frameOf b) : a = b := by
  have h1 := nextF_frame a [] ha
  have h2 := nextF_frame b [] hb
  rw [h] at h1
  have := h1.symm.trans h2
  simp at this
  exact this.1

theorem frame_apart {a b : List UInt8} (ha : a.length ≤ 65536) (hb : b.length ≤ 65536) {k : Nat} (hk : k = min (a.length + 8) (b.length + 8)) :
    (frameOf a).take k = (frameOf b).take k ↔ a = b := by
  refine ⟨fun h => ?_, fun h => by rw [h]⟩
  have la := frameOf_len a
  have lb := frameOf_len b
  rcases Nat.lt_trichotomy a.length b.length with hl | hl | hl
  · exfalso
    rw [show k = a.length + 8 by omega, List.take_of_length_le (by omega)] at h
    have h1 := nextF_frame a [] ha
    rw [List.append_nil, h, nextF_cut b _ hb (by omega)] at h1
    simp at h1
  · rw [show k = a.length + 8 by omega, List.take_of_length_le (by omega), List.take_of_length_le (by omega)] at h
    exact frame_inj ha hb h
  · exfalso
    rw [show k = b.length + 8 by omega, List.take_of_length_le (l := frameOf b) (by omega)] at h
    have h1 := nextF_frame b [] hb
    rw [List.append_nil, ← h, nextF_cut a _ ha (by omega)] at h1
    simp at h1

set_option maxHeartbeats 4000000 in
set_option maxRecDepth 100000 in
theorem frameApart_walk (A : Option Addr) (n c : Nat) (xs : List UInt8) (A2 : Option Addr) (n2 c2 : Nat) (ys : List UInt8) (w : World)
    (hr : Rd w A n c 1 (bvs xs)) (_hc : c ≤ 140737488351232) (hr2 : Rd w A2 n2 c2 1 (bvs ys)) (_hc2 : c2 ≤ 140737488351232) :
    Calls Try.prog 9 #[.slice A n c, .slice A2 n2 c2] w fun e w' => e = .returned (.bool true) ∧ Below w.heap.size w w' := by
  obtain ⟨i0, hi, hz0, hz1, hz2⟩ := info_parts infoB
  have HS := Lib.hid fun w => shown_any w
  obtain ⟨m, hm⟩ : ∃ m, m = min n 1000 := ⟨_, rfl⟩
  have hm1 : m ≤ 1000 := by omega
  have hm2 : m ≤ n := by omega
  have hmm : (if 1000 < (n : Int) then (1000 : Int) else (n : Int)) = (m : Int) := by split <;> omega
  obtain ⟨p, hp⟩ : ∃ p, p = min n2 1000 := ⟨_, rfl⟩
  have hp1 : p ≤ 1000 := by omega
  have hp2 : p ≤ n2 := by omega
  have hpp : (if 1000 < (n2 : Int) then (1000 : Int) else (n2 : Int)) = (p : Int) := by split <;> omega
  clear hm hp
  have hnc := hr.nc
  have hnc2 := hr2.nc
  have hrm := hr.take m hm2
  rw [Nat.mul_one, bvs_take] at hrm
  have hrp := hr2.take p hp2
  rw [Nat.mul_one, bvs_take] at hrp
  clear hr hr2
  obtain ⟨a, ha⟩ : ∃ a, a = xs.take m := ⟨_, rfl⟩
  obtain ⟨b, hb⟩ : ∃ b, b = ys.take p := ⟨_, rfl⟩
  rw [← ha] at hrm
  rw [← hb] at hrp
  clear ha hb
  have hal : a.length = m := by have := hrm.len; rw [bvs_len] at this; omega
  have hbl : b.length = p := by have := hrp.len; rw [bvs_len] at this; omega
  have HR := Lib.hid hrm
  have HR2 := Lib.hid hrp
  have HAL := Lib.hid hal
  have HBL := Lib.hid hbl
  clear hrm hrp hal hbl
  go_enter Try.func9, Try.ntmps9
  go_wp2_with fail
  refine (HS.out _).mono ?_
  rintro e w1 ⟨rfl, hb1⟩
  have HB1 := Lib.hid hb1
  have HR1 := Lib.hid (HR.out.below hb1 (Nat.le_refl _))
  have HR21 := Lib.hid (HR2.out.below hb1 (Nat.le_refl _))
  clear hb1
  go_wp2_with fail
  refine (framePut_any none 0 0 [] A m c a _ (Rd.nil _ 1) HR1.out (by omega) (by omega)).mono ?_
  rintro e w2 ⟨r, rfl, hown, hb2⟩
  have HB2 := Lib.hid (HB1.out.trans (hb2.mono HB1.out.size))
  rw [Nat.zero_add, List.nil_append] at hown
  obtain ⟨k1, hk1⟩ : ∃ k1, k1 = m + 8 := ⟨_, rfl⟩
  rw [← hk1] at hown
  obtain ⟨A3, c3, rfl, hr3, _⟩ := own_rd hown
  have HR3 := Lib.hid hr3
  have HR22 := Lib.hid (HR21.out.below hb2 (Nat.le_refl _))
  have HR12 := Lib.hid (HR1.out.below hb2 (Nat.le_refl _))
  clear hown hb2 hr3
  have HK1 := Lib.hid hk1
  clear hk1
  go_wp2_with fail
  refine (framePut_any none 0 0 [] A2 p c2 b _ (Rd.nil _ 1) HR22.out (by omega) (by omega)).mono ?_
  rintro e w3 ⟨r, rfl, hown, hb3⟩
  have HB3 := Lib.hid (HB2.out.trans (hb3.mono HB2.out.size))
  rw [Nat.zero_add, List.nil_append] at hown
  obtain ⟨k2, hk2⟩ : ∃ k2, k2 = p + 8 := ⟨_, rfl⟩
  rw [← hk2] at hown
  obtain ⟨A4, c4, rfl, hr4, _⟩ := own_rd hown
  have hx := HR3.out.below hb3 (Nat.le_refl _)
  have ha3 := HR12.out.below hb3 (Nat.le_refl _)
  have hb3' := HR22.out.below hb3 (Nat.le_refl _)
  have hk1 := HK1.out
  have hn1 := hx.nc
  have hn2 := hr4.nc
  have hcm1 : ((k1 : Int) != IntKind.i64.wrap ((m : Int) + 8)) = false := by rw [IntKind.wrap_i64]; simp; omega
  have hcm2 : ((k2 : Int) != IntKind.i64.wrap ((p : Int) + 8)) = false := by rw [IntKind.wrap_i64]; simp; omega
  obtain ⟨A5, hs5, hr5⟩ := cut_l (P := Try.prog) Try.underlying22 hi hz1 A3 k1 c3 .i64 8 8 rfl (by omega) hn1
  obtain ⟨A6, hs6, hr6⟩ := cut_l (P := Try.prog) Try.underlying22 hi hz1 A4 k2 c4 .i64 8 8 rfl (by omega) hn2
  obtain ⟨k, hk⟩ : ∃ k, k = min k1 k2 := ⟨_, rfl⟩
  have hkk : (if k2 < k1 then (k2 : Int) else (k1 : Int)) = (k : Int) := by split <;> omega
  obtain ⟨hs7, hr7⟩ := cut_h (P := Try.prog) Try.underlying22 hi hz1 A3 k1 c3 .i64 (k : Int) k rfl (by omega) hn1
  obtain ⟨hs8, hr8⟩ := cut_h (P := Try.prog) Try.underlying22 hi hz1 A4 k2 c4 .i64 (k : Int) k rfl (by omega) hn2
  have h5 := hr5 _ _ hx
  have h6 := hr6 _ _ hr4
  have h7 := hr7 _ _ hx
  have h8 := hr8 _ _ hr4
  rw [Nat.mul_one, Nat.mul_one, bvs_drop, bvs_take, List.take_of_length_le (by rw [List.length_drop, frameOf_len, HAL.out]; omega)] at h5
  rw [Nat.mul_one, Nat.mul_one, bvs_drop, bvs_take, List.take_of_length_le (by rw [List.length_drop, frameOf_len, HBL.out]; omega)] at h6
  have e5 : (frameOf a).drop 8 = a := by have := frame_body a []; simpa using this
  have e6 : (frameOf b).drop 8 = b := by have := frame_body b []; simpa using this
  rw [e5] at h5
  rw [e6] at h6
  rw [Nat.mul_one, bvs_take] at h7 h8
  have cs5 : ∀ wq, ExtW w3.drew wq → (convert 22 9 (.slice A5 (k1 - 8) (c3 - 8))).run Try.prog wq = .ok (.string ⟨a.toArray⟩) wq := fun wq h => conv_str (h5.below (ExtW.of_drew h) (Nat.le_refl _))
  have cs6 : ∀ wq, ExtW w3.drew wq → (convert 22 9 (.slice A6 (k2 - 8) (c4 - 8))).run Try.prog wq = .ok (.string ⟨b.toArray⟩) wq := fun wq h => conv_str (h6.below (ExtW.of_drew h) (Nat.le_refl _))
  have csa : ∀ wq, ExtW w3.drew wq → (convert 22 9 (.slice A m c)).run Try.prog wq = .ok (.string ⟨a.toArray⟩) wq := fun wq h => conv_str (ha3.below (ExtW.of_drew h) (Nat.le_refl _))
  have csb : ∀ wq, ExtW w3.drew wq → (convert 22 9 (.slice A2 p c2)).run Try.prog wq = .ok (.string ⟨b.toArray⟩) wq := fun wq h => conv_str (hb3'.below (ExtW.of_drew h) (Nat.le_refl _))
  have HC7 : Hid (∀ wq, ExtW w3 wq → (convert 22 9 (.slice A3 k c3)).run Try.prog wq = .ok (.string ⟨((frameOf a).take k).toArray⟩) wq) := Lib.hid fun wq h => conv_str (h7.below h (Nat.le_refl _))
  have HC8 : Hid (∀ wq, ExtW w3 wq → (convert 22 9 (.slice A4 k c4)).run Try.prog wq = .ok (.string ⟨((frameOf b).take k).toArray⟩) wq) := Lib.hid fun wq h => conv_str (h8.below h (Nat.le_refl _))
  have HCA : Hid (∀ wq, ExtW w3 wq → (convert 22 9 (.slice A m c)).run Try.prog wq = .ok (.string ⟨a.toArray⟩) wq) := Lib.hid fun wq h => conv_str (ha3.below h (Nat.le_refl _))
  have HCB : Hid (∀ wq, ExtW w3 wq → (convert 22 9 (.slice A2 p c2)).run Try.prog wq = .ok (.string ⟨b.toArray⟩) wq) := Lib.hid fun wq h => conv_str (hb3'.below h (Nat.le_refl _))
  have HAP := Lib.hid (frame_apart (a := a) (b := b) (by rw [HAL.out]; omega) (by rw [HBL.out]; omega) (k := k) (by rw [HAL.out, HBL.out]; omega))
  have HKK := Lib.hid hkk
  have HS7 := Lib.hid hs7
  have HS8 := Lib.hid hs8
  clear hown hr4 hx ha3 hb3' hr5 hr6 hr7 hr8 h5 h6 h7 h8 e5 e6 hz0 hz2 hk1 hk2 hb3 hk hkk hs7 hs8
  go_wp2_with fail
  apply wp_region_ext _ (by kernel_rfl) (by kernel_rfl)
  iterate 38 (apply wpZ_det; (intro wq hE hG; first | exact obl_non (by rfl) | (apply obl_val (by rfl); go_simp; rfl)); (intro ak hak; simp only [Act.put, List.setIfInBounds_toArray, List.set_cons_succ, List.set_cons_zero] at hak; subst hak))
  (apply wpZ_nil; intro wq hE hG)
  have HE1 : Hid (ExtW w3 wq) := Lib.hid (ExtW.of_drew hE)
  have hkk := HKK.out
  clear hE hG cs5 cs6 csa csb hcm1 hcm2 hs5 hs6 hmm hpp
  obtain ⟨t, ht1, ht2⟩ : ∃ t : Bool, ((frameOf a).take k == (frameOf b).take k) = t ∧ (a == b) = t := by
    refine ⟨_, rfl, ?_⟩
    rw [Bool.eq_iff_iff, beq_iff_eq, beq_iff_eq]
    exact HAP.out.symm
  go_wp2_with fail
  have hs7 := HS7.out
  have hs8 := HS8.out
  have cs7 : ∀ wv, ExtW wq.drew wv → (convert 22 9 (.slice A3 k c3)).run Try.prog wv = .ok (.string ⟨((frameOf a).take k).toArray⟩) wv := fun wv h => HC7.out wv (HE1.out.trans (ExtW.of_drew h))
  have cs8 : ∀ wv, ExtW wq.drew wv → (convert 22 9 (.slice A4 k c4)).run Try.prog wv = .ok (.string ⟨((frameOf b).take k).toArray⟩) wv := fun wv h => HC8.out wv (HE1.out.trans (ExtW.of_drew h))
  apply wp_region_ext _ (by kernel_rfl) (by kernel_rfl)
  iterate 10 (apply wpZ_det; (intro wq hE hG; first | exact obl_non (by rfl) | (apply obl_val (by rfl); go_simp; rfl)); (intro ak hak; simp only [Act.put, List.setIfInBounds_toArray, List.set_cons_succ, List.set_cons_zero] at hak; subst hak))
  (apply wpZ_nil; intro wk hE hG)
  have HE2 : Hid (ExtW w3 wk) := Lib.hid (HE1.out.trans (ExtW.of_drew hE))
  have csa := HCA.out _ HE2.out
  have csb := HCB.out _ HE2.out
  clear hE hG cs7 cs8 ht1 hs7 hs8 hkk
  have htt : (t == t) = true := by simp
  go_wp2
  go_ret
  exact ⟨by simp, HB3.out.trans (HE2.out.mono HB3.out.size)⟩
end Go.Proofs.Ytegkcbkgoncnbaa
