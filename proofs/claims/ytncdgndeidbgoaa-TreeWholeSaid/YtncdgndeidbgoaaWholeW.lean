/- Walk of TreeWhole. -/
import Derived.Test.YtncdgndeidbgoaaS5
import Derived.Test.YtncdgndeidbgoaaSmall5
import Derived.Test.YtncdgndeidbgoaaTq
namespace Go.Proofs.Ytncdgndeidbgoaa
open Go.RowKit

set_option maxHeartbeats 4000000 in
set_option maxRecDepth 100000 in
theorem treeWhole_walk (x : Int) (A : Option Addr) (n0 c0 : Nat) (l : List (List UInt8)) (mo : List UInt8) (w : World) (hx : -9223372036854775808 ≤ x ∧ x ≤ 9223372036854775807) (hr : Bss w A n0 c0 l) (_hc : c0 ≤ 140737488351232) (hmo : mo.length = 32) :
    Calls Try.prog 11 #[.int .i64 x, .slice A n0 c0, .agg (bvs mo).toArray] w fun e w' => e = .returned (.bool true) ∧ Below w.heap.size w w' := by
  have HX := Lib.hid hx
  have HR := Lib.hid hr
  have HMO := Lib.hid hmo
  have HMR := Lib.hid (show Row (w.alloc (.cells (bvs mo).toArray 24)) w.heap.size 24 (bvs mo) from heap_alloc_last _ _)
  have HE0 : Hid (ExtW w (w.alloc (.cells (bvs mo).toArray 24))) := Lib.hid ((Below.refl _ _).alloc (Nat.le_refl _) _)
  clear hr hx hmo
  go_enter Try.func11, Try.ntmps11
  go_upto_region 1 with (fail)
  generalize w.alloc (.cells (bvs mo).toArray 24) = w0 at HMR HE0 ⊢
  obtain ⟨gm, hgm⟩ : ∃ g, g = w.heap.size := ⟨_, rfl⟩
  rw [← hgm] at HMR ⊢
  clear hgm
  go_wp2_with fail
  refine (shown_any _).mono ?_
  rintro e w1 ⟨rfl, hb1⟩
  have HE1 := Lib.hid (ExtW.trans HE0.out hb1)
  have HM1 := Lib.hid (HMR.out.ext hb1)
  clear hb1 HE0 HMR
  go_wp2_with fail
  refine (small_any A n0 c0 l _ (HR.out.same HE1.out)).mono ?_
  rintro e w2 ⟨v, rfl, hlot, hb⟩
  have HE2 := Lib.hid (ExtW.trans HE1.out hb)
  have HM2 := Lib.hid (HM1.out.ext hb)
  obtain ⟨s, hs⟩ : ∃ s, s = smallL l := ⟨_, rfl⟩
  have HLV : Hid (Lv s) := Lib.hid (fun y hy => Nat.le_trans (smallL_lv l y (by rw [← hs]; exact hy)) (by decide))
  have hsn := smallL_len l
  rw [← hs] at hlot hsn
  obtain ⟨B, c, rfl, hbs⟩ := hlot.bss
  obtain ⟨n, hn⟩ : ∃ n, n = s.length := ⟨_, rfl⟩
  rw [← hn] at hbs hsn ⊢
  have HB2 := Lib.hid hbs
  have HN : Hid (s.length = n) := Lib.hid hn.symm
  have hnc := hbs.nc
  clear hb hlot hbs hs hn HE1 HM1
  by_cases h0 : n = 0
  · have hne0 : ((n : Int) == 0) = true := by rw [beq_iff_eq]; omega
    subst h0
    go_wp2
    go_ret
    exact ⟨rfl, HE2.out⟩
  have hne0 : ((n : Int) == 0) = false := by rw [beq_eq_false_iff_ne]; omega
  have HC0 := Lib.hid (cell_new1 w2 (.int .i64 x) 30)
  have HE3 : Hid (ExtW w2 (w2.alloc (.cells #[.int .i64 x] 30))) := Lib.hid ((Below.refl _ _).alloc (Nat.le_refl _) _)
  go_upto_region 7 with (fail)
  generalize w2.alloc (.cells #[.int .i64 x] 30) = w3 at HC0 HE3 ⊢
  obtain ⟨gt, hgt⟩ : ∃ g, g = w2.heap.size := ⟨_, rfl⟩
  rw [← hgt] at HC0 ⊢
  have HE4 := Lib.hid (ExtW.trans HE2.out HE3.out)
  have HB3 := Lib.hid (HB2.out.same HE3.out)
  have HM3 := Lib.hid (HM2.out.ext HE3.out)
  clear hgt HE3 HE2 HB2 HM2
  have k7 := HC0.out
  go_wp2_with fail
  refine (root_any x HX.out (n + 1) B n c s _ (by omega) HB3.out HLV.out).mono ?_
  rintro e w4 ⟨rfl, hb⟩
  have HB4 := Lib.hid hb
  clear hb k7
  obtain ⟨rt, hrt⟩ : ∃ d, d = T.rootD (bitsN x) s := ⟨_, rfl⟩
  have HRT := Lib.hid hrt
  have HRTL : Hid (rt.length = 32) := Lib.hid (by rw [hrt]; exact T.rootD_len _ _)
  rw [← hrt]
  clear hrt
  go_upto_region 8 with (first
    | (refine wpList_newD rfl rfl ?_)
    | (refine wpList_newst rfl rfl rfl HRTL.out (d0 := List.replicate 32 0) rfl rfl rfl (zDig_row _) ?_))
  have HRR := Lib.hid (stD_row w4 rt)
  have HE5 := Lib.hid (ExtW.trans HB4.out (stD_ext w4 rt))
  generalize (w4.alloc (.cells zDig 24)).setRow w4.heap.size (bvs rt).toArray = w5 at HRR HE5 ⊢
  obtain ⟨grt, hgr⟩ : ∃ g, g = w4.heap.size := ⟨_, rfl⟩
  rw [← hgr] at HRR ⊢
  have HC5 := Lib.hid (HE5.out.cellAt HC0.out)
  have HB5 := Lib.hid (HB3.out.same HE5.out)
  have HM5 := Lib.hid (HM3.out.ext HE5.out)
  have HE6 := Lib.hid (ExtW.trans HE4.out HE5.out)
  clear hgr HC0 HB4 HB3 HM3 HE4 HE5
  have hct := run_takeA B n c (n - 1) (by omega) hnc
  have HBT := Lib.hid (HB5.out.take (m := n - 1) (by omega))
  have V1 : Hid (T.checkRD (bitsN x) rt (n : Int) 0 s [] = true) := Lib.hid (by
    have h := T.checkRD_takes (bitsN x) (l := s) (part := s) (a := 0) HN.out HN.out (by omega) (fun p y hy _ _ => by rw [show ((p : Int) - 0).toNat = p by omega]; exact hy)
    have hz : T.besideD (bitsN x) s 0 (0 + (n : Int)) = [] := by
      apply List.length_eq_zero_iff.1
      have := T.besideD_pops (bitsN x) (m := n) (s.length + 1) s 0 (by omega) (by rw [HN.out]; omega)
      rw [this]
      exact T.popsD_full (s.length + 1) s.length 0 (by omega) (by rw [HN.out]; omega) (by omega) (by rw [HN.out]; omega)
    rw [hz, ← HRT.out] at h
    exact h)
  have V2 : Hid (T.checkRD (bitsN x) rt (n : Int) 0 s [mo] = false) := Lib.hid (T.checkRD_many _ _ HN.out (by rw [T.popsD_full (n + 1) n 0 (by omega) (by omega) (by omega) (by omega)]; exact Nat.zero_lt_one))
  have V3 : Hid (T.checkRD (bitsN x) rt (n : Int) 1 s [] = false) := Lib.hid (T.checkRD_no HN.out (by omega))
  have V4 : Hid (T.checkRD (bitsN x) rt ((n + 1 : Nat) : Int) 0 s [] = false) := Lib.hid (T.checkRD_few _ _ HN.out (T.popsD_pos (n + 2) (n + 1) 0 (by omega) (by omega) (by omega)))
  have V5 : Hid (T.checkRD (bitsN x) rt ((n - 1 : Nat) : Int) 0 s [] = false) := Lib.hid (T.checkRD_no HN.out (by omega))
  have V6 : Hid (T.checkRD (bitsN x) rt (n : Int) 0 (s.take (n - 1)) [] = false) := Lib.hid (T.checkRD_few _ _ (m := n - 1) (by rw [List.length_take, HN.out]; omega) (T.popsD_pos (n + 1) n 0 (by omega) (by omega) (by omega)))
  apply wp_region_ext _ (by kernel_rfl) (by kernel_rfl)
  iterate 2 (apply wpZ_det; (intro wq hE hG; first | exact obl_non (by rfl) | (apply obl_val (by rfl); go_simp; rfl)); (intro ak hak; simp only [Act.put, List.setIfInBounds_toArray, List.set_cons_succ, List.set_cons_zero] at hak; subst hak))
  (apply wpZ_det; (intro wq hE hG; have kk := (ExtW.of_drew hE).cellAt HC5.out; apply obl_val (by rfl); go_simp; rfl); (intro ak hak; simp only [Act.put, List.setIfInBounds_toArray, List.set_cons_succ, List.set_cons_zero] at hak; subst hak))
  (apply wpZ_det; (intro wq hE hG; exact obl_ldg (by rfl) rfl (by rfl) (HRR.out.ext (ExtW.of_drew hE)) Try.underlying24 rfl (sizeD HRTL.out)); (intro ak hak; simp only [Act.put, List.setIfInBounds_toArray, List.set_cons_succ, List.set_cons_zero] at hak; subst hak))
  iterate 2 (apply wpZ_det; (intro wq hE hG; first | exact obl_non (by rfl) | (apply obl_val (by rfl); go_simp; rfl)); (intro ak hak; simp only [Act.put, List.setIfInBounds_toArray, List.set_cons_succ, List.set_cons_zero] at hak; subst hak))
  (apply wpZ_det (c := .bool true); (intro wq hE hG; apply obl_on (by kernel_rfl); go_simp; simp only [extUpon_enter]; refine (mcr_any x HX.out rt HRTL.out n 0 (by omega) B n c s none 0 0 [] wq (HB5.out.same (ExtW.of_drew hE)) HLV.out (by omega) (Dls.nil _)).mono ?_; rintro e w' ⟨rfl, hb⟩; exact ⟨_, rfl, hb, by rw [V1.out]⟩); (intro ak hak; simp only [Act.put, List.setIfInBounds_toArray, List.set_cons_succ, List.set_cons_zero] at hak; subst hak))
  iterate 2 (apply wpZ_det; (intro wq hE hG; first | exact obl_non (by rfl) | (apply obl_val (by rfl); go_simp; rfl)); (intro ak hak; simp only [Act.put, List.setIfInBounds_toArray, List.set_cons_succ, List.set_cons_zero] at hak; subst hak))
  (apply wpZ_det; (intro wq hE hG; have kk := (ExtW.of_drew hE).cellAt HC5.out; apply obl_val (by rfl); go_simp; rfl); (intro ak hak; simp only [Act.put, List.setIfInBounds_toArray, List.set_cons_succ, List.set_cons_zero] at hak; subst hak))
  (apply wpZ_det; (intro wq hE hG; exact obl_ldg (by rfl) rfl (by rfl) (HRR.out.ext (ExtW.of_drew hE)) Try.underlying24 rfl (sizeD HRTL.out)); (intro ak hak; simp only [Act.put, List.setIfInBounds_toArray, List.set_cons_succ, List.set_cons_zero] at hak; subst hak))
  iterate 2 (apply wpZ_det; (intro wq hE hG; first | exact obl_non (by rfl) | (apply obl_val (by rfl); go_simp; rfl)); (intro ak hak; simp only [Act.put, List.setIfInBounds_toArray, List.set_cons_succ, List.set_cons_zero] at hak; subst hak))
  (apply wpZ_det; (intro wq hE hG; exact obl_ldg (by rfl) rfl (by rfl) (HM5.out.ext (ExtW.of_drew hE)) Try.underlying24 rfl (sizeD HMO.out)); (intro ak hak; simp only [Act.put, List.setIfInBounds_toArray, List.set_cons_succ, List.set_cons_zero] at hak; subst hak))
  (apply wpZ_nd (One32 (mo)) (One32.mono _); (intro wq hE hG; exact obl_build1 (HMO.out) (by kernel_rfl) rfl rfl); (intro u14 ak hak; simp only [Act.put, List.setIfInBounds_toArray, List.set_cons_succ, List.set_cons_zero] at hak; subst hak))
  apply wpZ_det (c := .bool false)
  · intro wq hE hG
    obtain ⟨g1, rfl, hg1⟩ : One32 mo u14 wq := hG _ (List.mem_cons_self ..) (by kernel_rfl)
    apply obl_on (by kernel_rfl)
    go_simp
    simp only [extUpon_enter]
    refine (mcr_any x HX.out rt HRTL.out n 0 (by omega) B n c s _ 1 1 [mo] wq (HB5.out.same (ExtW.of_drew hE)) HLV.out (by omega) ⟨rfl, (fun d hd => by rw [List.mem_singleton] at hd; rw [hd]; exact HMO.out), ⟨by rw [dcs_len (fun d hd => by rw [List.mem_singleton] at hd; rw [hd]; exact HMO.out)]; rfl, Nat.le_refl _, by decide, (fun h => by cases h), fun a ha j u hj => by cases ha; rw [Addr.add_mid, Nat.zero_add]; exact hg1.cell (by simpa [dcs] using hj)⟩⟩).mono ?_
    rintro e w' ⟨rfl, hb⟩
    exact ⟨_, rfl, hb, by rw [V2.out]⟩
  (intro ak hak; simp only [Act.put, List.setIfInBounds_toArray, List.set_cons_succ, List.set_cons_zero] at hak; subst hak)
  iterate 3 (apply wpZ_det; (intro wq hE hG; first | exact obl_non (by rfl) | (apply obl_val (by rfl); go_simp; rfl)); (intro ak hak; simp only [Act.put, List.setIfInBounds_toArray, List.set_cons_succ, List.set_cons_zero] at hak; subst hak))
  (apply wpZ_det; (intro wq hE hG; have kk := (ExtW.of_drew hE).cellAt HC5.out; apply obl_val (by rfl); go_simp; rfl); (intro ak hak; simp only [Act.put, List.setIfInBounds_toArray, List.set_cons_succ, List.set_cons_zero] at hak; subst hak))
  (apply wpZ_det; (intro wq hE hG; exact obl_ldg (by rfl) rfl (by rfl) (HRR.out.ext (ExtW.of_drew hE)) Try.underlying24 rfl (sizeD HRTL.out)); (intro ak hak; simp only [Act.put, List.setIfInBounds_toArray, List.set_cons_succ, List.set_cons_zero] at hak; subst hak))
  iterate 2 (apply wpZ_det; (intro wq hE hG; first | exact obl_non (by rfl) | (apply obl_val (by rfl); go_simp; rfl)); (intro ak hak; simp only [Act.put, List.setIfInBounds_toArray, List.set_cons_succ, List.set_cons_zero] at hak; subst hak))
  (apply wpZ_det (c := .bool false); (intro wq hE hG; apply obl_on (by kernel_rfl); go_simp; simp only [extUpon_enter]; refine (mcr_any x HX.out rt HRTL.out n 1 (by omega) B n c s none 0 0 [] wq (HB5.out.same (ExtW.of_drew hE)) HLV.out (by omega) (Dls.nil _)).mono ?_; rintro e w' ⟨rfl, hb⟩; exact ⟨_, rfl, hb, by rw [V3.out]⟩); (intro ak hak; simp only [Act.put, List.setIfInBounds_toArray, List.set_cons_succ, List.set_cons_zero] at hak; subst hak))
  iterate 3 (apply wpZ_det; (intro wq hE hG; first | exact obl_non (by rfl) | (apply obl_val (by rfl); go_simp; rfl)); (intro ak hak; simp only [Act.put, List.setIfInBounds_toArray, List.set_cons_succ, List.set_cons_zero] at hak; subst hak))
  (apply wpZ_det; (intro wq hE hG; have kk := (ExtW.of_drew hE).cellAt HC5.out; apply obl_val (by rfl); go_simp; rfl); (intro ak hak; simp only [Act.put, List.setIfInBounds_toArray, List.set_cons_succ, List.set_cons_zero] at hak; subst hak))
  (apply wpZ_det; (intro wq hE hG; exact obl_ldg (by rfl) rfl (by rfl) (HRR.out.ext (ExtW.of_drew hE)) Try.underlying24 rfl (sizeD HRTL.out)); (intro ak hak; simp only [Act.put, List.setIfInBounds_toArray, List.set_cons_succ, List.set_cons_zero] at hak; subst hak))
  (apply wpZ_det; (intro wq hE hG; first | exact obl_non (by rfl) | (apply obl_val (by rfl); go_simp; rfl)); (intro ak hak; simp only [Act.put, List.setIfInBounds_toArray, List.set_cons_succ, List.set_cons_zero] at hak; subst hak))
  (apply wpZ_det (c := .int .i64 ((n + 1 : Nat) : Int)); (intro wq hE hG; exact obl_same (by rfl) (by go_simp; rfl) (by first | rfl | (apply int_eq; omega) | (apply int_eq; rw [IntWalk.i64_in _ (by omega)]; omega) | (apply int_eq; simp; omega))); (intro ak hak; simp only [Act.put, List.setIfInBounds_toArray, List.set_cons_succ, List.set_cons_zero] at hak; subst hak))
  (apply wpZ_det; (intro wq hE hG; first | exact obl_non (by rfl) | (apply obl_val (by rfl); go_simp; rfl)); (intro ak hak; simp only [Act.put, List.setIfInBounds_toArray, List.set_cons_succ, List.set_cons_zero] at hak; subst hak))
  (apply wpZ_det (c := .bool false); (intro wq hE hG; apply obl_on (by kernel_rfl); go_simp; simp only [extUpon_enter]; refine (mcr_any x HX.out rt HRTL.out ((n + 1 : Nat) : Int) 0 (by omega) B n c s none 0 0 [] wq (HB5.out.same (ExtW.of_drew hE)) HLV.out (by omega) (Dls.nil _)).mono ?_; rintro e w' ⟨rfl, hb⟩; exact ⟨_, rfl, hb, by rw [V4.out]⟩); (intro ak hak; simp only [Act.put, List.setIfInBounds_toArray, List.set_cons_succ, List.set_cons_zero] at hak; subst hak))
  iterate 3 (apply wpZ_det; (intro wq hE hG; first | exact obl_non (by rfl) | (apply obl_val (by rfl); go_simp; rfl)); (intro ak hak; simp only [Act.put, List.setIfInBounds_toArray, List.set_cons_succ, List.set_cons_zero] at hak; subst hak))
  (apply wpZ_det; (intro wq hE hG; have kk := (ExtW.of_drew hE).cellAt HC5.out; apply obl_val (by rfl); go_simp; rfl); (intro ak hak; simp only [Act.put, List.setIfInBounds_toArray, List.set_cons_succ, List.set_cons_zero] at hak; subst hak))
  (apply wpZ_det; (intro wq hE hG; exact obl_ldg (by rfl) rfl (by rfl) (HRR.out.ext (ExtW.of_drew hE)) Try.underlying24 rfl (sizeD HRTL.out)); (intro ak hak; simp only [Act.put, List.setIfInBounds_toArray, List.set_cons_succ, List.set_cons_zero] at hak; subst hak))
  (apply wpZ_det; (intro wq hE hG; first | exact obl_non (by rfl) | (apply obl_val (by rfl); go_simp; rfl)); (intro ak hak; simp only [Act.put, List.setIfInBounds_toArray, List.set_cons_succ, List.set_cons_zero] at hak; subst hak))
  (apply wpZ_det (c := .int .i64 ((n - 1 : Nat) : Int)); (intro wq hE hG; exact obl_same (by rfl) (by go_simp; rfl) (by first | rfl | (apply int_eq; omega) | (apply int_eq; rw [IntWalk.i64_in _ (by omega)]; omega) | (apply int_eq; simp; omega))); (intro ak hak; simp only [Act.put, List.setIfInBounds_toArray, List.set_cons_succ, List.set_cons_zero] at hak; subst hak))
  (apply wpZ_det; (intro wq hE hG; first | exact obl_non (by rfl) | (apply obl_val (by rfl); go_simp; rfl)); (intro ak hak; simp only [Act.put, List.setIfInBounds_toArray, List.set_cons_succ, List.set_cons_zero] at hak; subst hak))
  (apply wpZ_det (c := .bool false); (intro wq hE hG; apply obl_on (by kernel_rfl); go_simp; simp only [extUpon_enter]; refine (mcr_any x HX.out rt HRTL.out ((n - 1 : Nat) : Int) 0 (by omega) B n c s none 0 0 [] wq (HB5.out.same (ExtW.of_drew hE)) HLV.out (by omega) (Dls.nil _)).mono ?_; rintro e w' ⟨rfl, hb⟩; exact ⟨_, rfl, hb, by rw [V5.out]⟩); (intro ak hak; simp only [Act.put, List.setIfInBounds_toArray, List.set_cons_succ, List.set_cons_zero] at hak; subst hak))
  iterate 3 (apply wpZ_det; (intro wq hE hG; first | exact obl_non (by rfl) | (apply obl_val (by rfl); go_simp; rfl)); (intro ak hak; simp only [Act.put, List.setIfInBounds_toArray, List.set_cons_succ, List.set_cons_zero] at hak; subst hak))
  (apply wpZ_det; (intro wq hE hG; have kk := (ExtW.of_drew hE).cellAt HC5.out; apply obl_val (by rfl); go_simp; rfl); (intro ak hak; simp only [Act.put, List.setIfInBounds_toArray, List.set_cons_succ, List.set_cons_zero] at hak; subst hak))
  (apply wpZ_det; (intro wq hE hG; exact obl_ldg (by rfl) rfl (by rfl) (HRR.out.ext (ExtW.of_drew hE)) Try.underlying24 rfl (sizeD HRTL.out)); (intro ak hak; simp only [Act.put, List.setIfInBounds_toArray, List.set_cons_succ, List.set_cons_zero] at hak; subst hak))
  iterate 3 (apply wpZ_det; (intro wq hE hG; first | exact obl_non (by rfl) | (apply obl_val (by rfl); go_simp; rfl)); (intro ak hak; simp only [Act.put, List.setIfInBounds_toArray, List.set_cons_succ, List.set_cons_zero] at hak; subst hak))
  (apply wpZ_det (c := .int .i64 ((n - 1 : Nat) : Int)); (intro wq hE hG; exact obl_same (by rfl) (by go_simp; rfl) (by first | rfl | (apply int_eq; omega) | (apply int_eq; rw [IntWalk.i64_in _ (by omega)]; omega) | (apply int_eq; simp; omega))); (intro ak hak; simp only [Act.put, List.setIfInBounds_toArray, List.set_cons_succ, List.set_cons_zero] at hak; subst hak))
  (apply wpZ_det; (intro wq hE hG; first | exact obl_non (by rfl) | (apply obl_val (by rfl); go_simp; rfl)); (intro ak hak; simp only [Act.put, List.setIfInBounds_toArray, List.set_cons_succ, List.set_cons_zero] at hak; subst hak))
  (apply wpZ_det (c := .bool false); (intro wq hE hG; apply obl_on (by kernel_rfl); go_simp; simp only [extUpon_enter]; refine (mcr_any x HX.out rt HRTL.out n 0 (by omega) B (n - 1) c (s.take (n - 1)) none 0 0 [] wq (HBT.out.same (ExtW.of_drew hE)) (HLV.out.take _) (by omega) (Dls.nil _)).mono ?_; rintro e w' ⟨rfl, hb⟩; exact ⟨_, rfl, hb, by rw [V6.out]⟩); (intro ak hak; simp only [Act.put, List.setIfInBounds_toArray, List.set_cons_succ, List.set_cons_zero] at hak; subst hak))
  iterate 3 (apply wpZ_det; (intro wq hE hG; first | exact obl_non (by rfl) | (apply obl_val (by rfl); go_simp; rfl)); (intro ak hak; simp only [Act.put, List.setIfInBounds_toArray, List.set_cons_succ, List.set_cons_zero] at hak; subst hak))
  (apply wpZ_nil; intro wq hE hG)
  have HE7 := Lib.hid (ExtW.trans HE6.out (ExtW.of_drew hE))
  clear hE hG
  go_wp2
  go_ret
  exact ⟨rfl, HE7.out⟩
end Go.Proofs.Ytncdgndeidbgoaa
