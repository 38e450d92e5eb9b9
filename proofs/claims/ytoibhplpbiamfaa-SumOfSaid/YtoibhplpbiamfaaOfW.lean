/- Walk of SumOf. -/
import Derived.Test.YtoibhplpbiamfaaRefKept
import Derived.Test.YtoibhplpbiamfaaChecksW
namespace Go.Proofs.Ytoibhplpbiamfaa
open Go.RowKit

set_option maxHeartbeats 4000000 in
set_option maxRecDepth 100000 in
theorem sumOf_walk (A : Option Addr) (n c : Nat) (xs : List UInt8) (x : Int) (w : World) (hr : Rd w A n c 1 (bvs xs)) (_hc : c ≤ 140737488351232) (hx : -9223372036854775808 ≤ x ∧ x ≤ 9223372036854775807) :
    Calls Try.prog 3 #[.slice A n c, .int .i64 x] w fun e w' => e = .returned (.bool true) ∧ Below w.heap.size w w' := by
  obtain ⟨i0, hi, hz0, hz1, hz2⟩ := info_parts infoB
  obtain ⟨p, hp⟩ : ∃ p, p = min n 2000 := ⟨_, rfl⟩
  have hp1 : p ≤ 2000 := by omega
  have hp2 : p ≤ n := by omega
  have hpp : min (n : Int) 2000 = (p : Int) := by omega
  clear hp
  have hnc := hr.nc
  obtain ⟨hsl, hslr⟩ := cut_h (P := Try.prog) Try.underlying22 hi hz1 A n c .i64 (p : Int) p rfl hp2 hnc
  have hrp := hslr _ _ hr
  rw [Nat.mul_one, bvs_take] at hrp
  obtain ⟨b, hb⟩ : ∃ b, b = xs.take p := ⟨_, rfl⟩
  rw [← hb] at hrp
  have HR := Lib.hid hrp
  have HX := Lib.hid hx
  have HBL : Hid (b.length = p) := Lib.hid (by have := hrp.len; rw [bvs_len] at this; omega)
  clear hslr hr hb hrp hx
  go_enter Try.func3, Try.ntmps3
  go_wp2_with fail
  refine (shown_any _).mono ?_
  rintro e w1 ⟨rfl, hb1⟩
  have HB1 := Lib.hid hb1
  have HR1 := Lib.hid (HR.out.below HB1.out (Nat.le_refl _))
  have HO := Lib.hid (own_empty w1 w1.heap.size (Nat.le_refl _))
  have HY := Lib.hid (HR1.out.alloc (.cells #[] 5))
  clear hb1
  go_upto_region 4 with (at_builtin; refine wpList_append_appd _ rfl _ _ _ rfl w1.heap.size 5 i0 _ 1 1 Try.underlying22 hi hz0 hz1 hz2 rfl (by omega) _ _ _ rfl (.inr HO.out) A p c _ rfl HY.out (bvs_one _) (by simp [maxLen]; omega) (by omega) (by simp) (.inl HO.out) ?_; intro v2 w2 hown2 hb2 _; obtain ⟨A3, c3, rfl, _, _⟩ := Rd.of_own hown2; have HB2 : Hid (ExtW w1 w2) := Lib.hid (((Below.refl _ _).alloc (Nat.le_refl _) _).trans hb2); rw [Nat.zero_add] at hown2 ⊢; have HA2 : Hid (w2.ownsRow w1.heap.size 5 1 (.slice A3 p c3) p (bvs b)) := Lib.hid hown2; clear hown2 hb2 HO HY)
  have HA3 : Hid (Rd w2 A3 p c3 1 (bvs b)) := Lib.hid (by obtain ⟨A', c', e1, h1, _⟩ := Rd.of_own HA2.out; cases e1; exact h1)
  have HR2 := Lib.hid (HR1.out.below HB2.out (Nat.le_refl _))
  have HE2 := Lib.hid (ExtW.trans HB1.out HB2.out)
  clear HA2 HR1 HB1 HB2 hsl hpp
  obtain ⟨d, hd⟩ : ∃ d, d = S.sha b := ⟨_, rfl⟩
  have HDL : Hid (d.length = 32) := Lib.hid (by rw [hd]; rfl)
  have HD := Lib.hid hd
  obtain ⟨k, hk⟩ : ∃ k, k = keep d (bitsN x) := ⟨_, rfl⟩
  have HKL : Hid (k.length = 32) := Lib.hid (by rw [hk, keep_len, HDL.out])
  have HK := Lib.hid hk
  clear hd hk
  go_wp2_with fail
  refine (of_any A3 p c3 b _ HA3.out (by omega)).mono ?_
  rintro e w3 ⟨rfl, hb3⟩
  rw [← HD.out]
  have HB3 := Lib.hid (ExtW.trans HE2.out hb3)
  have HE3 := Lib.hid hb3
  have HS1 : Hid ((bvs d).toArray.size = 32) := Lib.hid (dg_size HDL.out)
  clear hb3
  unfold dgV
  go_upto_region 5 with (first
    | (refine wpList_runW rfl rfl ?_; refine ⟨.pointer (some ⟨w3.heap.size, 0, none⟩), w3.alloc (.cells zDig 25), by kernel_rfl, ?_⟩)
    | (refine wpList_st rfl rfl ?_; refine ⟨w3.heap.size, _, _, _, rfl, rfl, zDig_row w3, by rw [HS1.out]; kernel_rfl, Eq.trans (show (bvs (List.replicate 32 0)).toArray.size = 32 from rfl) HS1.out.symm, dg_one _, ?_⟩))
  have HX4 : Hid (Row ((w3.alloc (.cells zDig 25)).setRow w3.heap.size (bvs d).toArray) w3.heap.size 25 (bvs d)) := Lib.hid ((zDig_row w3).setRow _)
  have HE4 : Hid (ExtW w3 ((w3.alloc (.cells zDig 25)).setRow w3.heap.size (bvs d).toArray)) := Lib.hid (below_setRow ((Below.refl _ _).alloc (Nat.le_refl _) _) (Nat.le_refl _) _)
  generalize (w3.alloc (.cells zDig 25)).setRow w3.heap.size (bvs d).toArray = w4 at HX4 HE4 ⊢
  obtain ⟨gx, hgx⟩ : ∃ g, g = w3.heap.size := ⟨_, rfl⟩
  rw [← hgx] at HX4 ⊢
  have HB4 := Lib.hid (ExtW.trans HB3.out HE4.out)
  have HE24 := Lib.hid (ExtW.trans HE3.out HE4.out)
  clear hgx HB3 HE3 HE4
  go_wp2_with fail
  refine (kept_any A3 p c3 b x _ (HA3.out.below HE24.out (Nat.le_refl _)) (by omega) HX.out).mono ?_
  rintro e w5 ⟨rfl, hb5⟩
  rw [← HD.out, ← HK.out]
  have HB5 := Lib.hid (ExtW.trans HB4.out hb5)
  have HE25 := Lib.hid (ExtW.trans HE24.out hb5)
  have HX5 := Lib.hid (HX4.out.ext hb5)
  have HS2 : Hid ((bvs k).toArray.size = 32) := Lib.hid (dg_size HKL.out)
  clear hb5
  unfold dgV
  go_upto_region 6 with (first
    | (refine wpList_runW rfl rfl ?_; refine ⟨.pointer (some ⟨w5.heap.size, 0, none⟩), w5.alloc (.cells zDig 25), by kernel_rfl, ?_⟩)
    | (refine wpList_st rfl rfl ?_; refine ⟨w5.heap.size, _, _, _, rfl, rfl, zDig_row w5, by rw [HS2.out]; kernel_rfl, Eq.trans (show (bvs (List.replicate 32 0)).toArray.size = 32 from rfl) HS2.out.symm, dg_one _, ?_⟩))
  have HK6 : Hid (Row ((w5.alloc (.cells zDig 25)).setRow w5.heap.size (bvs k).toArray) w5.heap.size 25 (bvs k)) := Lib.hid ((zDig_row w5).setRow _)
  have HE6 : Hid (ExtW w5 ((w5.alloc (.cells zDig 25)).setRow w5.heap.size (bvs k).toArray)) := Lib.hid (below_setRow ((Below.refl _ _).alloc (Nat.le_refl _) _) (Nat.le_refl _) _)
  generalize (w5.alloc (.cells zDig 25)).setRow w5.heap.size (bvs k).toArray = w6 at HK6 HE6 ⊢
  obtain ⟨gy, hgy⟩ : ∃ g, g = w5.heap.size := ⟨_, rfl⟩
  rw [← hgy] at HK6 ⊢
  have HX6 := Lib.hid (HX5.out.ext HE6.out)
  have HB6 := Lib.hid (ExtW.trans HB5.out HE6.out)
  have HE26 := Lib.hid (ExtW.trans HE25.out HE6.out)
  have HR6 := Lib.hid (HR2.out.below HE26.out (Nat.le_refl _))
  have HA6 := Lib.hid (HA3.out.below HE26.out (Nat.le_refl _))
  have HSZ1 : Hid ((bvs d).length = 32) := Lib.hid (by rw [bvs_len, HDL.out])
  have HSZ2 : Hid ((bvs k).length = 32) := Lib.hid (by rw [bvs_len, HKL.out])
  clear hgy HX4 HX5 HB4 HB5 HE6 HE24 HE25 HA3 HR2 HE2
  have hct : ∀ wq, ExtW w6.drew wq → (convert 22 9 (.slice A p c)).run Try.prog wq = .ok (.string ⟨b.toArray⟩) wq := fun wq h => conv_str (HR6.out.below (ExtW.of_drew h) (Nat.le_refl _))
  have hct2 : ∀ wq, ExtW w6.drew wq → (convert 22 9 (.slice A3 p c3)).run Try.prog wq = .ok (.string ⟨b.toArray⟩) wq := fun wq h => conv_str (HA6.out.below (ExtW.of_drew h) (Nat.le_refl _))
  have heq1 : ∀ W, (Op.equalIn 10000 25 (.agg (bvs d).toArray) (.agg (bvs d).toArray)).run Try.prog W = .ok true W := fun W => by
    have h := eq_dg d d HDL.out HDL.out W
    rwa [decide_eq_true rfl] at h
  have heq2 : ∀ W, (Op.equalIn 10000 25 (.agg (bvs k).toArray) (.agg (bvs k).toArray)).run Try.prog W = .ok true W := fun W => by
    have h := eq_dg k k HKL.out HKL.out W
    rwa [decide_eq_true rfl] at h
  have HBS : Hid ((⟨b.toArray⟩ : ByteArray).size ≤ 1000000000) := Lib.hid (by rw [str_size, HBL.out]; omega)
  clear hnc hp2
  apply wp_region_ext _ (by kernel_rfl) (by kernel_rfl)
  iterate 2 (apply wpZ_det; (intro wq hE hG; first | exact obl_non (by rfl) | (apply obl_val (by rfl); go_simp; rfl)); (intro ak hak; simp only [Act.put, List.setIfInBounds_toArray, List.set_cons_succ, List.set_cons_zero] at hak; subst hak))
  apply wpZ_det
  · intro wq hE hG
    exact obl_ld (by kernel_rfl) rfl rfl (HX6.out.ext (ExtW.of_drew hE)).range Try.underlying25 rfl (by rw [HSZ1.out]; kernel_rfl)
  (intro ak hak; simp only [Act.put, List.setIfInBounds_toArray, List.set_cons_succ, List.set_cons_zero] at hak; subst hak)
  iterate 2 (apply wpZ_det; (intro wq hE hG; first | exact obl_non (by rfl) | (apply obl_val (by rfl); go_simp; rfl)); (intro ak hak; simp only [Act.put, List.setIfInBounds_toArray, List.set_cons_succ, List.set_cons_zero] at hak; subst hak))
  apply wpZ_det
  · intro wq hE hG
    apply obl_on (by kernel_rfl)
    go_simp
    simp only [extUpon_enter]
    refine (refOf_any ⟨b.toArray⟩ wq HBS.out).mono ?_
    rintro e w' ⟨rfl, hb⟩
    rw [str_bytes, ← HD.out]
    unfold dgV
    exact ⟨_, rfl, hb, rfl⟩
  (intro ak hak; simp only [Act.put, List.setIfInBounds_toArray, List.set_cons_succ, List.set_cons_zero] at hak; subst hak)
  iterate 3 (apply wpZ_det; (intro wq hE hG; first | exact obl_non (by rfl) | (apply obl_val (by rfl); go_simp; rfl)); (intro ak hak; simp only [Act.put, List.setIfInBounds_toArray, List.set_cons_succ, List.set_cons_zero] at hak; subst hak))
  apply wpZ_det
  · intro wq hE hG
    exact obl_ld (by kernel_rfl) rfl rfl (HK6.out.ext (ExtW.of_drew hE)).range Try.underlying25 rfl (by rw [HSZ2.out]; kernel_rfl)
  (intro ak hak; simp only [Act.put, List.setIfInBounds_toArray, List.set_cons_succ, List.set_cons_zero] at hak; subst hak)
  iterate 3 (apply wpZ_det; (intro wq hE hG; first | exact obl_non (by rfl) | (apply obl_val (by rfl); go_simp; rfl)); (intro ak hak; simp only [Act.put, List.setIfInBounds_toArray, List.set_cons_succ, List.set_cons_zero] at hak; subst hak))
  apply wpZ_det
  · intro wq hE hG
    apply obl_on (by kernel_rfl)
    go_simp
    simp only [extUpon_enter]
    refine (refKept_any ⟨b.toArray⟩ x wq HBS.out HX.out).mono ?_
    rintro e w' ⟨rfl, hb⟩
    rw [str_bytes, ← HD.out, ← HK.out]
    unfold dgV
    exact ⟨_, rfl, hb, rfl⟩
  (intro ak hak; simp only [Act.put, List.setIfInBounds_toArray, List.set_cons_succ, List.set_cons_zero] at hak; subst hak)
  iterate 10 (apply wpZ_det; (intro wq hE hG; first | exact obl_non (by rfl) | (apply obl_val (by rfl); go_simp; rfl)); (intro ak hak; simp only [Act.put, List.setIfInBounds_toArray, List.set_cons_succ, List.set_cons_zero] at hak; subst hak))
  (apply wpZ_nil; intro wk hE hG)
  have HEK : Hid (ExtW w wk) := Lib.hid (ExtW.trans HB6.out (ExtW.of_drew hE))
  clear hE hG hct hct2
  go_wp2
  go_ret
  exact ⟨rfl, HEK.out⟩
end Go.Proofs.Ytoibhplpbiamfaa
