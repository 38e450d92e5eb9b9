/- Walk of TreeRoots. -/
import Derived.Test.YtncdgndeidbgoaaS5
import Derived.Test.YtncdgndeidbgoaaSmall5
import Derived.Test.YtncdgndeidbgoaaR2
namespace Go.Proofs.Ytncdgndeidbgoaa
open Go.RowKit

set_option maxHeartbeats 4000000 in
set_option maxRecDepth 100000 in
theorem treeRoots_walk (x : Int) (A : Option Addr) (n0 c0 : Nat) (l : List (List UInt8)) (da db : List UInt8) (w : World) (hx : -9223372036854775808 ≤ x ∧ x ≤ 9223372036854775807) (hr : Bss w A n0 c0 l) (_hc : c0 ≤ 140737488351232) (ha : da.length = 32) (hb : db.length = 32) :
    Calls Try.prog 3 #[.int .i64 x, .slice A n0 c0, .agg (bvs da).toArray, .agg (bvs db).toArray] w fun e w' => e = .returned (.bool true) ∧ Below w.heap.size w w' := by
  have HX := Lib.hid hx
  have HR := Lib.hid hr
  have HAL := Lib.hid ha
  have HBL := Lib.hid hb
  clear hr hx ha hb
  go_enter Try.func3, Try.ntmps3
  go_upto_region 1 with (fail)
  have HA0 : Hid (Row (w.alloc (.cells (bvs da).toArray 24)) w.heap.size 24 (bvs da)) := Lib.hid (heap_alloc_last _ _)
  have HEa : Hid (ExtW w (w.alloc (.cells (bvs da).toArray 24))) := Lib.hid ((Below.refl _ _).alloc (Nat.le_refl _) _)
  have HZa : Hid ((w.alloc (.cells (bvs da).toArray 24)).heap.size = w.heap.size + 1) := Lib.hid (by simp)
  generalize w.alloc (.cells (bvs da).toArray 24) = wa at HA0 HEa HZa ⊢
  have HB0 : Hid (Row (wa.alloc (.cells (bvs db).toArray 24)) (w.heap.size + 1) 24 (bvs db)) := Lib.hid (by rw [← HZa.out]; exact heap_alloc_last _ _)
  have HEb : Hid (ExtW wa (wa.alloc (.cells (bvs db).toArray 24))) := Lib.hid ((Below.refl _ _).alloc (Nat.le_refl _) _)
  generalize wa.alloc (.cells (bvs db).toArray 24) = wb at HB0 HEb ⊢
  have HA1 := Lib.hid (HA0.out.ext HEb.out)
  have HE0 := Lib.hid (ExtW.trans HEa.out HEb.out)
  obtain ⟨ga, hga⟩ : ∃ g, g = w.heap.size := ⟨_, rfl⟩
  obtain ⟨gb, hgb⟩ : ∃ g, g = w.heap.size + 1 := ⟨_, rfl⟩
  rw [← hga] at HA1
  rw [← hgb] at HB0
  rw [← hgb, ← hga]
  clear hga hgb HA0 HEa HEb HZa
  go_wp2_with fail
  refine (shown_any _).mono ?_
  rintro e w1 ⟨rfl, hb1⟩
  have HE1 := Lib.hid (ExtW.trans HE0.out hb1)
  have HA2 := Lib.hid (HA1.out.ext hb1)
  have HB1 := Lib.hid (HB0.out.ext hb1)
  clear hb1 HA1 HB0 HE0
  go_wp2_with fail
  refine (small_any A n0 c0 l _ (HR.out.same HE1.out)).mono ?_
  rintro e w2 ⟨v, rfl, hlot, hb⟩
  have HE2 := Lib.hid (ExtW.trans HE1.out hb)
  have HA3 := Lib.hid (HA2.out.ext hb)
  have HB2 := Lib.hid (HB1.out.ext hb)
  obtain ⟨s, hs⟩ : ∃ s, s = smallL l := ⟨_, rfl⟩
  have HLV : Hid (Lv s) := Lib.hid (fun y hy => Nat.le_trans (smallL_lv l y (by rw [← hs]; exact hy)) (by decide))
  have hsn := smallL_len l
  rw [← hs] at hlot hsn
  obtain ⟨B, c, rfl, hbs⟩ := hlot.bss
  obtain ⟨n, hn⟩ : ∃ n, n = s.length := ⟨_, rfl⟩
  rw [← hn] at hbs hsn ⊢
  have HBS2 := Lib.hid hbs
  have HN : Hid (s.length = n) := Lib.hid hn.symm
  have hnc := hbs.nc
  clear hb hlot hbs hs hn HE1 HA2 HB1
  go_wp2_with fail
  refine (texts_any B n c s _ HBS2.out (by omega)).mono ?_
  rintro e w3 ⟨v, rfl, hst, hb⟩
  obtain ⟨SA, sc, rfl, hs2⟩ := hst.sts
  rw [HN.out] at hs2 ⊢
  have HS3 := Lib.hid hs2
  have hsc := hs2.2.nc
  have HE3 := Lib.hid (ExtW.trans HE2.out hb)
  have HBS3 := Lib.hid (HBS2.out.same hb)
  have HA4 := Lib.hid (HA3.out.ext hb)
  have HB3 := Lib.hid (HB2.out.ext hb)
  clear hb hst hs2 HE2 HA3 HB2 HBS2
  have HC0 := Lib.hid (cell_new1 w3 (.int .i64 x) 30)
  have HEX : Hid (ExtW w3 (w3.alloc (.cells #[.int .i64 x] 30))) := Lib.hid ((Below.refl _ _).alloc (Nat.le_refl _) _)
  go_upto_region 5 with (fail)
  generalize w3.alloc (.cells #[.int .i64 x] 30) = w5 at HC0 HEX ⊢
  obtain ⟨gt, hgt⟩ : ∃ g, g = w3.heap.size := ⟨_, rfl⟩
  rw [← hgt] at HC0 ⊢
  have HC5 := Lib.hid HC0.out
  have HE5 := Lib.hid (ExtW.trans HE3.out HEX.out)
  have HB5 := Lib.hid (HBS3.out.same HEX.out)
  have HS5 := Lib.hid (HS3.out.same HEX.out)
  have HAR := Lib.hid (HA4.out.ext HEX.out)
  have HBR := Lib.hid (HB3.out.ext HEX.out)
  clear hgt HEX HC0 HE3 HBS3 HS3 HA4 HB3
  apply wp_region_ext _ (by kernel_rfl) (by kernel_rfl)
  (apply wpZ_det; (intro wq hE hG; have kk := (ExtW.of_drew hE).cellAt HC5.out; apply obl_val (by rfl); go_simp; rfl); (intro ak hak; simp only [Act.put, List.setIfInBounds_toArray, List.set_cons_succ, List.set_cons_zero] at hak; subst hak))
  (apply wpZ_det; (intro wq hE hG; first | exact obl_non (by rfl) | (apply obl_val (by rfl); go_simp; rfl)); (intro ak hak; simp only [Act.put, List.setIfInBounds_toArray, List.set_cons_succ, List.set_cons_zero] at hak; subst hak))
  (apply wpZ_det; (intro wq hE hG; apply obl_on (by kernel_rfl); go_simp; simp only [extUpon_enter]; refine (root_any x HX.out (n + 1) B n c s _ (by omega) (HB5.out.same (ExtW.of_drew hE)) HLV.out).mono ?_; rintro e w' ⟨rfl, hb⟩; exact ⟨_, rfl, hb, rfl⟩); (intro ak hak; simp only [Act.put, List.setIfInBounds_toArray, List.set_cons_succ, List.set_cons_zero] at hak; subst hak))
  iterate 2 (apply wpZ_det; (intro wq hE hG; first | exact obl_non (by rfl) | (apply obl_val (by rfl); go_simp; rfl)); (intro ak hak; simp only [Act.put, List.setIfInBounds_toArray, List.set_cons_succ, List.set_cons_zero] at hak; subst hak))
  (apply wpZ_det; (intro wq hE hG; apply obl_on (by kernel_rfl); go_simp; simp only [extUpon_enter]; refine (rroot_any x HX.out (n + 1) SA n sc s _ (by omega) (HS5.out.same (ExtW.of_drew hE)) HLV.out).mono ?_; rintro e w' ⟨rfl, hb⟩; exact ⟨_, rfl, hb, rfl⟩); (intro ak hak; simp only [Act.put, List.setIfInBounds_toArray, List.set_cons_succ, List.set_cons_zero] at hak; subst hak))
  (apply wpZ_det; (intro wq hE hG; exact obl_neD (by rfl) rfl rfl rfl (T.rootD_len _ _) (T.rootD_len _ _) ((show _ = false by simp))); (intro ak hak; simp only [Act.put, List.setIfInBounds_toArray, List.set_cons_succ, List.set_cons_zero] at hak; subst hak))
  iterate 2 (apply wpZ_det; (intro wq hE hG; first | exact obl_non (by rfl) | (apply obl_val (by rfl); go_simp; rfl)); (intro ak hak; simp only [Act.put, List.setIfInBounds_toArray, List.set_cons_succ, List.set_cons_zero] at hak; subst hak))
  (apply wpZ_det; (intro wq hE hG; apply obl_on (by kernel_rfl); go_simp; simp only [extUpon_enter]; refine (proot_any B n c s _ (HB5.out.same (ExtW.of_drew hE)) HLV.out).mono ?_; rintro e w' ⟨rfl, hb⟩; exact ⟨_, rfl, hb, rfl⟩); (intro ak hak; simp only [Act.put, List.setIfInBounds_toArray, List.set_cons_succ, List.set_cons_zero] at hak; subst hak))
  (apply wpZ_det; (intro wq hE hG; first | exact obl_non (by rfl) | (apply obl_val (by rfl); go_simp; rfl)); (intro ak hak; simp only [Act.put, List.setIfInBounds_toArray, List.set_cons_succ, List.set_cons_zero] at hak; subst hak))
  (apply wpZ_det; (intro wq hE hG; apply obl_on (by kernel_rfl); go_simp; simp only [extUpon_enter]; refine (rroot_any 256 (by decide) (n + 1) SA n sc s _ (by omega) (HS5.out.same (ExtW.of_drew hE)) HLV.out).mono ?_; rintro e w' ⟨rfl, hb⟩; exact ⟨_, rfl, hb, rfl⟩); (intro ak hak; simp only [Act.put, List.setIfInBounds_toArray, List.set_cons_succ, List.set_cons_zero] at hak; subst hak))
  (apply wpZ_det; (intro wq hE hG; exact obl_neD (by rfl) rfl rfl rfl (T.rootD_len _ _) (T.rootD_len _ _) ((show _ = false by rw [show bitsN 256 = 256 from rfl]; simp))); (intro ak hak; simp only [Act.put, List.setIfInBounds_toArray, List.set_cons_succ, List.set_cons_zero] at hak; subst hak))
  iterate 2 (apply wpZ_det; (intro wq hE hG; first | exact obl_non (by rfl) | (apply obl_val (by rfl); go_simp; rfl)); (intro ak hak; simp only [Act.put, List.setIfInBounds_toArray, List.set_cons_succ, List.set_cons_zero] at hak; subst hak))
  (apply wpZ_det; (intro wq hE hG; have kk := (ExtW.of_drew hE).cellAt HC5.out; apply obl_val (by rfl); go_simp; rfl); (intro ak hak; simp only [Act.put, List.setIfInBounds_toArray, List.set_cons_succ, List.set_cons_zero] at hak; subst hak))
  (apply wpZ_det; (intro wq hE hG; exact obl_ldg (by rfl) rfl (by rfl) (HAR.out.ext (ExtW.of_drew hE)) Try.underlying24 rfl (sizeD HAL.out)); (intro ak hak; simp only [Act.put, List.setIfInBounds_toArray, List.set_cons_succ, List.set_cons_zero] at hak; subst hak))
  (apply wpZ_det; (intro wq hE hG; exact obl_ldg (by rfl) rfl (by rfl) (HBR.out.ext (ExtW.of_drew hE)) Try.underlying24 rfl (sizeD HBL.out)); (intro ak hak; simp only [Act.put, List.setIfInBounds_toArray, List.set_cons_succ, List.set_cons_zero] at hak; subst hak))
  (apply wpZ_det; (intro wq hE hG; apply obl_on (by kernel_rfl); go_simp; simp only [extUpon_enter]; refine (node_any x _ _ _ HAL.out HBL.out HX.out).mono ?_; rintro e w' ⟨rfl, hb⟩; exact ⟨_, rfl, hb, rfl⟩); (intro ak hak; simp only [Act.put, List.setIfInBounds_toArray, List.set_cons_succ, List.set_cons_zero] at hak; subst hak))
  (apply wpZ_det; (intro wq hE hG; first | exact obl_non (by rfl) | (apply obl_val (by rfl); go_simp; rfl)); (intro ak hak; simp only [Act.put, List.setIfInBounds_toArray, List.set_cons_succ, List.set_cons_zero] at hak; subst hak))
  (apply wpZ_det; (intro wq hE hG; exact obl_ldg (by rfl) rfl (by rfl) (HAR.out.ext (ExtW.of_drew hE)) Try.underlying24 rfl (sizeD HAL.out)); (intro ak hak; simp only [Act.put, List.setIfInBounds_toArray, List.set_cons_succ, List.set_cons_zero] at hak; subst hak))
  (apply wpZ_det; (intro wq hE hG; exact obl_ldg (by rfl) rfl (by rfl) (HBR.out.ext (ExtW.of_drew hE)) Try.underlying24 rfl (sizeD HBL.out)); (intro ak hak; simp only [Act.put, List.setIfInBounds_toArray, List.set_cons_succ, List.set_cons_zero] at hak; subst hak))
  (apply wpZ_det; (intro wq hE hG; apply obl_on (by kernel_rfl); go_simp; simp only [extUpon_enter]; refine (rnode_any x HX.out _ _ _ HAL.out HBL.out).mono ?_; rintro e w' ⟨rfl, hb⟩; exact ⟨_, rfl, hb, rfl⟩); (intro ak hak; simp only [Act.put, List.setIfInBounds_toArray, List.set_cons_succ, List.set_cons_zero] at hak; subst hak))
  (apply wpZ_det; (intro wq hE hG; exact obl_neD (by rfl) rfl rfl rfl (T.nodeD_len _ _ _) (T.nodeD_len _ _ _) ((show _ = false by simp))); (intro ak hak; simp only [Act.put, List.setIfInBounds_toArray, List.set_cons_succ, List.set_cons_zero] at hak; subst hak))
  iterate 2 (apply wpZ_det; (intro wq hE hG; first | exact obl_non (by rfl) | (apply obl_val (by rfl); go_simp; rfl)); (intro ak hak; simp only [Act.put, List.setIfInBounds_toArray, List.set_cons_succ, List.set_cons_zero] at hak; subst hak))
  (apply wpZ_det; (intro wq hE hG; exact obl_ldg (by rfl) rfl (by rfl) (HAR.out.ext (ExtW.of_drew hE)) Try.underlying24 rfl (sizeD HAL.out)); (intro ak hak; simp only [Act.put, List.setIfInBounds_toArray, List.set_cons_succ, List.set_cons_zero] at hak; subst hak))
  (apply wpZ_det; (intro wq hE hG; exact obl_ldg (by rfl) rfl (by rfl) (HBR.out.ext (ExtW.of_drew hE)) Try.underlying24 rfl (sizeD HBL.out)); (intro ak hak; simp only [Act.put, List.setIfInBounds_toArray, List.set_cons_succ, List.set_cons_zero] at hak; subst hak))
  (apply wpZ_det; (intro wq hE hG; apply obl_on (by kernel_rfl); go_simp; simp only [extUpon_enter]; refine (pnode_any _ _ _ HAL.out HBL.out).mono ?_; rintro e w' ⟨rfl, hb⟩; exact ⟨_, rfl, hb, rfl⟩); (intro ak hak; simp only [Act.put, List.setIfInBounds_toArray, List.set_cons_succ, List.set_cons_zero] at hak; subst hak))
  (apply wpZ_det; (intro wq hE hG; exact obl_ldg (by rfl) rfl (by rfl) (HAR.out.ext (ExtW.of_drew hE)) Try.underlying24 rfl (sizeD HAL.out)); (intro ak hak; simp only [Act.put, List.setIfInBounds_toArray, List.set_cons_succ, List.set_cons_zero] at hak; subst hak))
  (apply wpZ_det; (intro wq hE hG; exact obl_ldg (by rfl) rfl (by rfl) (HBR.out.ext (ExtW.of_drew hE)) Try.underlying24 rfl (sizeD HBL.out)); (intro ak hak; simp only [Act.put, List.setIfInBounds_toArray, List.set_cons_succ, List.set_cons_zero] at hak; subst hak))
  (apply wpZ_det; (intro wq hE hG; apply obl_on (by kernel_rfl); go_simp; simp only [extUpon_enter]; refine (rnode_any 256 (by decide) _ _ _ HAL.out HBL.out).mono ?_; rintro e w' ⟨rfl, hb⟩; exact ⟨_, rfl, hb, rfl⟩); (intro ak hak; simp only [Act.put, List.setIfInBounds_toArray, List.set_cons_succ, List.set_cons_zero] at hak; subst hak))
  (apply wpZ_det; (intro wq hE hG; exact obl_neD (by rfl) rfl rfl rfl (T.nodeD_len _ _ _) (T.nodeD_len _ _ _) ((show _ = false by rw [show bitsN 256 = 256 from rfl]; simp))); (intro ak hak; simp only [Act.put, List.setIfInBounds_toArray, List.set_cons_succ, List.set_cons_zero] at hak; subst hak))
  (apply wpZ_det; (intro wq hE hG; first | exact obl_non (by rfl) | (apply obl_val (by rfl); go_simp; rfl)); (intro ak hak; simp only [Act.put, List.setIfInBounds_toArray, List.set_cons_succ, List.set_cons_zero] at hak; subst hak))
  (apply wpZ_nil; intro wq hE hG)
  have HXW0 := Lib.hid (ExtW.of_drew hE)
  clear hE hG
  go_upto_block 0 with (fail)
  go_wp2_with fail
  go_loopw [12] (fun iv wr => ∃ i : Nat, iv = .int .i64 i ∧ i ≤ n ∧ Hid (ExtW w5 wr)) (fun iv _ => n - (intOf iv).toNat)
  case atStart => exact ⟨0, rfl, Nat.zero_le _, HXW0⟩
  case round =>
    obtain ⟨i, rfl, hin, HXW⟩ := hrel
    by_cases hlt : i < n
    · have hii : (i : Int) < (n : Int) := by omega
      obtain ⟨y, hy⟩ : ∃ y, s[i]? = some y := ⟨_, List.getElem?_eq_getElem (by rw [HN.out]; exact hlt)⟩
      cases hBB : B with
      | none => have := HB5.out.nil0 hBB; omega
      | some a =>
      obtain ⟨D, m, dd, hcell, hrd⟩ := HB5.out.row a hBB i y hy
      subst hBB
      obtain ⟨sa, hsa⟩ := HS5.out.addr (by omega)
      subst hsa
      have HCS := Lib.hid (HS5.out.at hy)
      have HCY := Lib.hid hcell
      have HRD := Lib.hid hrd
      have HYL : Hid (y.length ≤ 1000000) := Lib.hid (HLV.out y (List.mem_of_getElem? hy))
      have HM : Hid (m ≤ 100000000000000) := Lib.hid (by
        have h1 := HYL.out
        have h2 := hrd.len
        rw [bvs_len] at h2
        omega)
      clear hcell hrd hy
      go_upto_region 10 with (fail)
      apply wp_region_ext _ (by kernel_rfl) (by kernel_rfl)
      (apply wpZ_det; (intro wq hE hG; have kk := (ExtW.trans HXW.out (ExtW.of_drew hE)).cellAt HC5.out; apply obl_val (by rfl); go_simp; rfl); (intro ak hak; simp only [Act.put, List.setIfInBounds_toArray, List.set_cons_succ, List.set_cons_zero] at hak; subst hak))
      iterate 3 (apply wpZ_det; (intro wq hE hG; first | exact obl_non (by rfl) | (apply obl_val (by rfl); go_simp; rfl)); (intro ak hak; simp only [Act.put, List.setIfInBounds_toArray, List.set_cons_succ, List.set_cons_zero] at hak; subst hak))
      (apply wpZ_det; (intro wq hE hG; have kk := (ExtW.trans HXW.out (ExtW.of_drew hE)).cellAt HCY.out; apply obl_val (by rfl); go_simp; rfl); (intro ak hak; simp only [Act.put, List.setIfInBounds_toArray, List.set_cons_succ, List.set_cons_zero] at hak; subst hak))
      (apply wpZ_det; (intro wq hE hG; apply obl_on (by kernel_rfl); go_simp; simp only [extUpon_enter]; refine (leaf_any x D m dd y _ (HRD.out.below (ExtW.trans HXW.out (ExtW.of_drew hE)) (Nat.le_refl _)) HM.out HX.out).mono ?_; rintro e w' ⟨rfl, hb⟩; exact ⟨_, rfl, hb, rfl⟩); (intro ak hak; simp only [Act.put, List.setIfInBounds_toArray, List.set_cons_succ, List.set_cons_zero] at hak; subst hak))
      iterate 4 (apply wpZ_det; (intro wq hE hG; first | exact obl_non (by rfl) | (apply obl_val (by rfl); go_simp; rfl)); (intro ak hak; simp only [Act.put, List.setIfInBounds_toArray, List.set_cons_succ, List.set_cons_zero] at hak; subst hak))
      (apply wpZ_det; (intro wq hE hG; have kk := (ExtW.trans HXW.out (ExtW.of_drew hE)).cellAt HCS.out; apply obl_val (by rfl); go_simp; rfl); (intro ak hak; simp only [Act.put, List.setIfInBounds_toArray, List.set_cons_succ, List.set_cons_zero] at hak; subst hak))
      (apply wpZ_det; (intro wq hE hG; apply obl_on (by kernel_rfl); go_simp; simp only [extUpon_enter]; refine (rleaf_any x HX.out y _ HYL.out).mono ?_; rintro e w' ⟨rfl, hb⟩; exact ⟨_, rfl, hb, rfl⟩); (intro ak hak; simp only [Act.put, List.setIfInBounds_toArray, List.set_cons_succ, List.set_cons_zero] at hak; subst hak))
      (apply wpZ_det; (intro wq hE hG; exact obl_neD (by rfl) rfl rfl rfl (T.leafD_len _ _) (T.leafD_len _ _) ((show _ = false by simp))); (intro ak hak; simp only [Act.put, List.setIfInBounds_toArray, List.set_cons_succ, List.set_cons_zero] at hak; subst hak))
      iterate 4 (apply wpZ_det; (intro wq hE hG; first | exact obl_non (by rfl) | (apply obl_val (by rfl); go_simp; rfl)); (intro ak hak; simp only [Act.put, List.setIfInBounds_toArray, List.set_cons_succ, List.set_cons_zero] at hak; subst hak))
      (apply wpZ_det; (intro wq hE hG; have kk := (ExtW.trans HXW.out (ExtW.of_drew hE)).cellAt HCY.out; apply obl_val (by rfl); go_simp; rfl); (intro ak hak; simp only [Act.put, List.setIfInBounds_toArray, List.set_cons_succ, List.set_cons_zero] at hak; subst hak))
      (apply wpZ_det; (intro wq hE hG; apply obl_on (by kernel_rfl); go_simp; simp only [extUpon_enter]; refine (pleaf_any D m dd y _ (HRD.out.below (ExtW.trans HXW.out (ExtW.of_drew hE)) (Nat.le_refl _)) HM.out).mono ?_; rintro e w' ⟨rfl, hb⟩; exact ⟨_, rfl, hb, rfl⟩); (intro ak hak; simp only [Act.put, List.setIfInBounds_toArray, List.set_cons_succ, List.set_cons_zero] at hak; subst hak))
      iterate 3 (apply wpZ_det; (intro wq hE hG; first | exact obl_non (by rfl) | (apply obl_val (by rfl); go_simp; rfl)); (intro ak hak; simp only [Act.put, List.setIfInBounds_toArray, List.set_cons_succ, List.set_cons_zero] at hak; subst hak))
      (apply wpZ_det; (intro wq hE hG; have kk := (ExtW.trans HXW.out (ExtW.of_drew hE)).cellAt HCS.out; apply obl_val (by rfl); go_simp; rfl); (intro ak hak; simp only [Act.put, List.setIfInBounds_toArray, List.set_cons_succ, List.set_cons_zero] at hak; subst hak))
      (apply wpZ_det; (intro wq hE hG; apply obl_on (by kernel_rfl); go_simp; simp only [extUpon_enter]; refine (rleaf_any 256 (by decide) y _ HYL.out).mono ?_; rintro e w' ⟨rfl, hb⟩; exact ⟨_, rfl, hb, rfl⟩); (intro ak hak; simp only [Act.put, List.setIfInBounds_toArray, List.set_cons_succ, List.set_cons_zero] at hak; subst hak))
      (apply wpZ_det; (intro wq hE hG; exact obl_neD (by rfl) rfl rfl rfl (T.leafD_len _ _) (T.leafD_len _ _) ((show _ = false by rw [show bitsN 256 = 256 from rfl]; simp))); (intro ak hak; simp only [Act.put, List.setIfInBounds_toArray, List.set_cons_succ, List.set_cons_zero] at hak; subst hak))
      (apply wpZ_det; (intro wq hE hG; first | exact obl_non (by rfl) | (apply obl_val (by rfl); go_simp; rfl)); (intro ak hak; simp only [Act.put, List.setIfInBounds_toArray, List.set_cons_succ, List.set_cons_zero] at hak; subst hak))
      (apply wpZ_nil; intro wq hE hG)
      have HXN := Lib.hid (ExtW.trans HXW.out (ExtW.of_drew hE))
      clear hE hG
      go_wp2_with fail
      go_roundw
      case rel => exact ⟨i + 1, by simp, hlt, HXN⟩
      case measure => simp [intOf]; omega
    · obtain rfl : i = n := by omega
      have hii : ¬ (i : Int) < (i : Int) := by omega
      go_wp2_with fail
      refine (still_any B i c s SA sc _ (HB5.out.same HXW.out) (HS5.out.same HXW.out) (by omega)).mono ?_
      rintro e w8 ⟨rfl, hb⟩
      have HE8 := Lib.hid (ExtW.trans HE5.out (ExtW.trans HXW.out hb))
      clear hb
      go_wp2
      go_ret
      exact ⟨rfl, HE8.out⟩
end Go.Proofs.Ytncdgndeidbgoaa
