/- Walk of TreeSplits. -/
import Derived.Test.YtncdgndeidbgoaaS5
import Derived.Test.YtncdgndeidbgoaaSmall5
namespace Go.Proofs.Ytncdgndeidbgoaa
open Go.RowKit

set_option maxHeartbeats 4000000 in
set_option maxRecDepth 100000 in
theorem treeSplits_walk (x : Int) (A : Option Addr) (n0 c0 : Nat) (l : List (List UInt8)) (w : World) (hx : -9223372036854775808 ≤ x ∧ x ≤ 9223372036854775807) (hr : Bss w A n0 c0 l) (_hc : c0 ≤ 140737488351232) :
    Calls Try.prog 9 #[.int .i64 x, .slice A n0 c0] w fun e w' => e = .returned (.bool true) ∧ Below w.heap.size w w' := by
  have HX := Lib.hid hx
  have HR := Lib.hid hr
  clear hr hx
  go_enter Try.func9, Try.ntmps9
  go_wp2_with fail
  refine (shown_any _).mono ?_
  rintro e w1 ⟨rfl, hb1⟩
  have HE1 := Lib.hid hb1
  clear hb1
  go_wp2_with fail
  refine (small_any A n0 c0 l _ (HR.out.same HE1.out)).mono ?_
  rintro e w2 ⟨v, rfl, hlot, hb⟩
  have HE2 := Lib.hid (ExtW.trans HE1.out hb)
  obtain ⟨s, hs⟩ : ∃ s, s = smallL l := ⟨_, rfl⟩
  have HLV : Hid (Lv s) := Lib.hid (fun y hy => Nat.le_trans (smallL_lv l y (by rw [← hs]; exact hy)) (by decide))
  have hsn := smallL_len l
  rw [← hs] at hlot hsn
  obtain ⟨B, c, rfl, hbs⟩ := hlot.bss
  obtain ⟨n, hn⟩ : ∃ n, n = s.length := ⟨_, rfl⟩
  rw [← hn] at hbs hsn ⊢
  have HB2 := Lib.hid hbs
  have HN : Hid (s.length = n) := Lib.hid hn.symm
  have hnc := hbs.nc
  clear hb hlot hbs hs hn HE1
  have HC0 := Lib.hid (cell_new1 w2 (.int .i64 x) 30)
  have HE3 : Hid (ExtW w2 (w2.alloc (.cells #[.int .i64 x] 30))) := Lib.hid ((Below.refl _ _).alloc (Nat.le_refl _) _)
  go_upto_region 4 with (fail)
  generalize w2.alloc (.cells #[.int .i64 x] 30) = w3 at HC0 HE3 ⊢
  obtain ⟨gt, hgt⟩ : ∃ g, g = w2.heap.size := ⟨_, rfl⟩
  rw [← hgt] at HC0 ⊢
  have HE4 := Lib.hid (ExtW.trans HE2.out HE3.out)
  have HB3 := Lib.hid (HB2.out.same HE3.out)
  clear hgt HE3 HE2 HB2
  by_cases h0 : n = 0
  · have hne0 : ((n : Int) == 0) = true := by rw [beq_iff_eq]; omega
    subst h0
    go_wp2
    go_ret
    exact ⟨rfl, HE4.out⟩
  have hne0 : ((n : Int) == 0) = false := by rw [beq_eq_false_iff_ne]; omega
  by_cases h1 : n = 1
  · subst h1
    obtain ⟨y, hy⟩ : ∃ y, s = [y] := List.length_eq_one_iff.1 HN.out
    have HY := Lib.hid hy
    clear hy
    cases hB : B with
    | none => have := HB3.out.nil0 hB; omega
    | some a =>
    obtain ⟨D, m, dd, hcell, hrd⟩ := HB3.out.row a hB 0 y (by rw [HY.out]; rfl)
    subst hB
    rw [show a.add 0 = a by unfold Addr.add; simp] at hcell
    have HC := Lib.hid hcell
    have HRD := Lib.hid hrd
    have HM : Hid (m ≤ 1000000) := Lib.hid (by
      have h1 := HLV.out y (by rw [HY.out]; exact List.mem_cons_self ..)
      have h2 := hrd.len
      rw [bvs_len] at h2
      omega)
    have HRE : Hid (T.rootD (bitsN x) s = T.leafD (bitsN x) y) := Lib.hid (by rw [HY.out, T.rootD_one])
    clear hcell hrd
    go_upto_region 7 with (fail)
    apply wp_region_ext _ (by kernel_rfl) (by kernel_rfl)
    iterate 2 (apply wpZ_det; (intro wq hE hG; first | exact obl_non (by rfl) | (apply obl_val (by rfl); go_simp; rfl)); (intro ak hak; simp only [Act.put, List.setIfInBounds_toArray, List.set_cons_succ, List.set_cons_zero] at hak; subst hak))
    (apply wpZ_det; (intro wq hE hG; have kk := (ExtW.of_drew hE).cellAt HC0.out; apply obl_val (by rfl); go_simp; rfl); (intro ak hak; simp only [Act.put, List.setIfInBounds_toArray, List.set_cons_succ, List.set_cons_zero] at hak; subst hak))
    (apply wpZ_det; (intro wq hE hG; first | exact obl_non (by rfl) | (apply obl_val (by rfl); go_simp; rfl)); (intro ak hak; simp only [Act.put, List.setIfInBounds_toArray, List.set_cons_succ, List.set_cons_zero] at hak; subst hak))
    (apply wpZ_det; (intro wq hE hG; apply obl_on (by kernel_rfl); go_simp; simp only [extUpon_enter]; refine (root_any x HX.out 2 _ 1 c s _ (by decide) (HB3.out.same (ExtW.of_drew hE)) HLV.out).mono ?_; rintro e w' ⟨rfl, hb⟩; exact ⟨_, rfl, hb, rfl⟩); (intro ak hak; simp only [Act.put, List.setIfInBounds_toArray, List.set_cons_succ, List.set_cons_zero] at hak; subst hak))
    (apply wpZ_det; (intro wq hE hG; have kk := (ExtW.of_drew hE).cellAt HC0.out; apply obl_val (by rfl); go_simp; rfl); (intro ak hak; simp only [Act.put, List.setIfInBounds_toArray, List.set_cons_succ, List.set_cons_zero] at hak; subst hak))
    iterate 2 (apply wpZ_det; (intro wq hE hG; first | exact obl_non (by rfl) | (apply obl_val (by rfl); go_simp; rfl)); (intro ak hak; simp only [Act.put, List.setIfInBounds_toArray, List.set_cons_succ, List.set_cons_zero] at hak; subst hak))
    (apply wpZ_det; (intro wq hE hG; have kk := (ExtW.of_drew hE).cellAt HC.out; apply obl_val (by rfl); go_simp; rfl); (intro ak hak; simp only [Act.put, List.setIfInBounds_toArray, List.set_cons_succ, List.set_cons_zero] at hak; subst hak))
    (apply wpZ_det; (intro wq hE hG; apply obl_on (by kernel_rfl); go_simp; simp only [extUpon_enter]; refine (leaf_any x D m dd y _ (HRD.out.below (ExtW.of_drew hE) (Nat.le_refl _)) (Nat.le_trans HM.out (by decide)) HX.out).mono ?_; rintro e w' ⟨rfl, hb⟩; exact ⟨_, rfl, hb, rfl⟩); (intro ak hak; simp only [Act.put, List.setIfInBounds_toArray, List.set_cons_succ, List.set_cons_zero] at hak; subst hak))
    (apply wpZ_det; (intro wq hE hG; exact obl_eqD (by rfl) rfl rfl rfl (T.rootD_len _ _) (T.leafD_len _ _) ((show _ = true by rw [HRE.out]; simp))); (intro ak hak; simp only [Act.put, List.setIfInBounds_toArray, List.set_cons_succ, List.set_cons_zero] at hak; subst hak))
    iterate 2 (apply wpZ_det; (intro wq hE hG; first | exact obl_non (by rfl) | (apply obl_val (by rfl); go_simp; rfl)); (intro ak hak; simp only [Act.put, List.setIfInBounds_toArray, List.set_cons_succ, List.set_cons_zero] at hak; subst hak))
    (apply wpZ_nil; intro wq hE hG)
    have HE5 := Lib.hid (ExtW.trans HE4.out (ExtW.of_drew hE))
    clear hE hG
    go_wp2
    go_ret
    exact ⟨rfl, HE5.out⟩
  have hne1 : ((n : Int) == 1) = false := by rw [beq_eq_false_iff_ne]; omega
  go_upto_block 0 with (fail)
  go_wp2_with fail
  go_loopw [7] (fun kv wr => ∃ k : Nat, kv = .int .i64 k ∧ 1 ≤ k ∧ k < n ∧ Hid (∃ j, k = 2 ^ j) ∧ Hid (wr = w3)) (fun kv _ => n - (intOf kv).toNat)
  case atStart => exact ⟨1, rfl, Nat.le_refl _, by omega, Lib.hid ⟨0, rfl⟩, Lib.hid rfl⟩
  case round =>
    obtain ⟨k, rfl, hk1, hkn, HJ, HW⟩ := hrel
    obtain rfl := HW.out
    have hki : (k : Int) < (n : Int) := by omega
    obtain ⟨k2, hk2⟩ : ∃ k2, k2 = k * 2 := ⟨_, rfl⟩
    have hm1 : IntKind.i64.wrap (2 * (k : Int)) = (k2 : Int) := by rw [IntWalk.i64_in _ (by omega)]; omega
    have hm2 : IntKind.i64.wrap ((k : Int) * 2) = (k2 : Int) := by rw [IntWalk.i64_in _ (by omega)]; omega
    have HK2 := Lib.hid hk2
    by_cases hlt : k2 < n
    · have hlti : (k2 : Int) < (n : Int) := by omega
      clear hk2
      go_wp2_with fail
      go_roundw
      case rel => exact ⟨k2, by first | rfl | simp [hm2], by have := HK2.out; omega, hlt, Lib.hid (by obtain ⟨j, hj⟩ := HJ.out; exact ⟨j + 1, by rw [HK2.out, hj, Nat.pow_succ]⟩), Lib.hid trivial⟩
      case measure => simp [intOf]; have := HK2.out; omega
    · have hlti : ¬ (k2 : Int) < (n : Int) := by omega
      have hh : k = T.half n := by
        symm
        obtain ⟨j, hj⟩ := HJ.out
        rw [hj]
        exact T.half_eq (by omega) (by rw [← hj]; omega) (by rw [← hj]; omega)
      have HRE := Lib.hid (T.rootD_more (bitsN x) HN.out (by omega) hh)
      have hcl : k ≤ n := by omega
      have hrt := run_takeA B n c k hcl hnc
      have hrd := run_dropA B n c k hcl hnc
      have HBT := Lib.hid (HB3.out.take hcl)
      have HBD := Lib.hid (HB3.out.dropA hcl)
      clear hk2 hh
      go_upto_region 12 with (fail)
      clear hm1 hm2
      apply wp_region_ext _ (by kernel_rfl) (by kernel_rfl)
      iterate 2 (apply wpZ_det; (intro wq hE hG; first | exact obl_non (by rfl) | (apply obl_val (by rfl); go_simp; rfl)); (intro ak hak; simp only [Act.put, List.setIfInBounds_toArray, List.set_cons_succ, List.set_cons_zero] at hak; subst hak))
      (apply wpZ_det; (intro wq hE hG; have kk := (ExtW.of_drew hE).cellAt HC0.out; apply obl_val (by rfl); go_simp; rfl); (intro ak hak; simp only [Act.put, List.setIfInBounds_toArray, List.set_cons_succ, List.set_cons_zero] at hak; subst hak))
      (apply wpZ_det; (intro wq hE hG; first | exact obl_non (by rfl) | (apply obl_val (by rfl); go_simp; rfl)); (intro ak hak; simp only [Act.put, List.setIfInBounds_toArray, List.set_cons_succ, List.set_cons_zero] at hak; subst hak))
      (apply wpZ_det; (intro wq hE hG; apply obl_on (by kernel_rfl); go_simp; simp only [extUpon_enter]; refine (root_any x HX.out (n + 1) _ n c s _ (by omega) (HB3.out.same (ExtW.of_drew hE)) HLV.out).mono ?_; rintro e w' ⟨rfl, hb⟩; exact ⟨_, rfl, hb, rfl⟩); (intro ak hak; simp only [Act.put, List.setIfInBounds_toArray, List.set_cons_succ, List.set_cons_zero] at hak; subst hak))
      (apply wpZ_det; (intro wq hE hG; have kk := (ExtW.of_drew hE).cellAt HC0.out; apply obl_val (by rfl); go_simp; rfl); (intro ak hak; simp only [Act.put, List.setIfInBounds_toArray, List.set_cons_succ, List.set_cons_zero] at hak; subst hak))
      (apply wpZ_det; (intro wq hE hG; have kk := (ExtW.of_drew hE).cellAt HC0.out; apply obl_val (by rfl); go_simp; rfl); (intro ak hak; simp only [Act.put, List.setIfInBounds_toArray, List.set_cons_succ, List.set_cons_zero] at hak; subst hak))
      iterate 3 (apply wpZ_det; (intro wq hE hG; first | exact obl_non (by rfl) | (apply obl_val (by rfl); go_simp; rfl)); (intro ak hak; simp only [Act.put, List.setIfInBounds_toArray, List.set_cons_succ, List.set_cons_zero] at hak; subst hak))
      (apply wpZ_det; (intro wq hE hG; apply obl_on (by kernel_rfl); go_simp; simp only [extUpon_enter]; refine (root_any x HX.out (n + 1) B k c _ _ (by omega) (HBT.out.same (ExtW.of_drew hE)) (HLV.out.take k)).mono ?_; rintro e w' ⟨rfl, hb⟩; exact ⟨_, rfl, hb, rfl⟩); (intro ak hak; simp only [Act.put, List.setIfInBounds_toArray, List.set_cons_succ, List.set_cons_zero] at hak; subst hak))
      (apply wpZ_det; (intro wq hE hG; have kk := (ExtW.of_drew hE).cellAt HC0.out; apply obl_val (by rfl); go_simp; rfl); (intro ak hak; simp only [Act.put, List.setIfInBounds_toArray, List.set_cons_succ, List.set_cons_zero] at hak; subst hak))
      iterate 3 (apply wpZ_det; (intro wq hE hG; first | exact obl_non (by rfl) | (apply obl_val (by rfl); go_simp; rfl)); (intro ak hak; simp only [Act.put, List.setIfInBounds_toArray, List.set_cons_succ, List.set_cons_zero] at hak; subst hak))
      (apply wpZ_det; (intro wq hE hG; apply obl_on (by kernel_rfl); go_simp; simp only [extUpon_enter]; refine (root_any x HX.out (n + 1) _ (n - k) (c - k) _ _ (by omega) (HBD.out.same (ExtW.of_drew hE)) (HLV.out.drop k)).mono ?_; rintro e w' ⟨rfl, hb⟩; exact ⟨_, rfl, hb, rfl⟩); (intro ak hak; simp only [Act.put, List.setIfInBounds_toArray, List.set_cons_succ, List.set_cons_zero] at hak; subst hak))
      (apply wpZ_det; (intro wq hE hG; apply obl_on (by kernel_rfl); go_simp; simp only [extUpon_enter]; refine (node_any x _ _ _ (T.rootD_len _ _) (T.rootD_len _ _) HX.out).mono ?_; rintro e w' ⟨rfl, hb⟩; exact ⟨_, rfl, hb, rfl⟩); (intro ak hak; simp only [Act.put, List.setIfInBounds_toArray, List.set_cons_succ, List.set_cons_zero] at hak; subst hak))
      (apply wpZ_det; (intro wq hE hG; exact obl_eqD (by rfl) rfl rfl rfl (T.rootD_len _ _) (T.nodeD_len _ _ _) ((show _ = true by rw [HRE.out]; simp))); (intro ak hak; simp only [Act.put, List.setIfInBounds_toArray, List.set_cons_succ, List.set_cons_zero] at hak; subst hak))
      iterate 2 (apply wpZ_det; (intro wq hE hG; first | exact obl_non (by rfl) | (apply obl_val (by rfl); go_simp; rfl)); (intro ak hak; simp only [Act.put, List.setIfInBounds_toArray, List.set_cons_succ, List.set_cons_zero] at hak; subst hak))
      (apply wpZ_nil; intro wq hE hG)
      have HE5 := Lib.hid (ExtW.trans HE4.out (ExtW.of_drew hE))
      clear hE hG
      go_wp2
      go_ret
      exact ⟨rfl, HE5.out⟩
end Go.Proofs.Ytncdgndeidbgoaa
