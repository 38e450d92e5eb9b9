/- Walks of swapped and Root. -/
import Derived.Test.YthaoibgcgkmnbaaTd
namespace Go.Proofs.Ythaoibgcgkmnbaa
set_option maxRecDepth 100000
open Go.RowKit

set_option maxHeartbeats 4000000 in
set_option maxRecDepth 100000 in
theorem swapped_any (x : Int) (r l : List UInt8) (w : World) (hr : r.length = 32) (hl : l.length = 32) (hx : -9223372036854775808 ≤ x ∧ x ≤ 9223372036854775807) :
    Calls Try.prog 53 #[.agg #[.int .i64 x], dgV r, dgV l] w fun e w' => e = .returned (dgV (T.nodeD (bitsN x) l r)) ∧ ExtW w w' := by
  have HX := Lib.hid hx
  have HLL := Lib.hid hl
  have HRL := Lib.hid hr
  have HB0 := Lib.hid (cell_new1 w (.int .i64 x) 30)
  have HE0 : Hid (ExtW w (w.alloc (.cells #[.int .i64 x] 30))) := Lib.hid ((Below.refl _ _).alloc (Nat.le_refl _) _)
  have HSL : Hid ((bvs l).toArray.size = 32) := Lib.hid (dg_size hl)
  have HSR : Hid ((bvs r).toArray.size = 32) := Lib.hid (dg_size hr)
  clear hl hr hx
  unfold dgV
  go_enter Try.func53, Try.ntmps53
  go_upto_region 1 with (refine wpList_newD rfl rfl ?_)
  have HA : Hid ((w.alloc (.cells #[.int .i64 x] 30)).heap.size = w.heap.size + 1) := Lib.hid (by simp)
  generalize w.alloc (.cells #[.int .i64 x] 30) = wa at HB0 HE0 HA ⊢
  have HR1 : Hid (Row (wa.alloc (.cells (bvs r).toArray 45)) (w.heap.size + 1) 45 (bvs r)) := Lib.hid (by rw [← HA.out]; exact heap_alloc_last _ _)
  have HE1 : Hid (ExtW wa (wa.alloc (.cells (bvs r).toArray 45))) := Lib.hid ((Below.refl _ _).alloc (Nat.le_refl _) _)
  have HA1 : Hid ((wa.alloc (.cells (bvs r).toArray 45)).heap.size = w.heap.size + 1 + 1) := Lib.hid (by rw [← HA.out]; simp)
  generalize wa.alloc (.cells (bvs r).toArray 45) = wb at HR1 HE1 HA1 ⊢
  have HL2 : Hid (Row (wb.alloc (.cells (bvs l).toArray 45)) (w.heap.size + 1 + 1) 45 (bvs l)) := Lib.hid (by rw [← HA1.out]; exact heap_alloc_last _ _)
  have HE2 : Hid (ExtW wb (wb.alloc (.cells (bvs l).toArray 45))) := Lib.hid ((Below.refl _ _).alloc (Nat.le_refl _) _)
  have HA2 : Hid ((wb.alloc (.cells (bvs l).toArray 45)).heap.size = w.heap.size + 1 + 1 + 1) := Lib.hid (by rw [← HA1.out]; simp)
  generalize wb.alloc (.cells (bvs l).toArray 45) = wc at HL2 HE2 HA2 ⊢
  have HD3 := Lib.hid (zDig_row wc)
  have HE3 : Hid (ExtW wc (wc.alloc (.cells zDig 45))) := Lib.hid ((Below.refl _ _).alloc (Nat.le_refl _) _)
  rw [HA2.out] at HD3 ⊢
  generalize wc.alloc (.cells zDig 45) = wd at HD3 HE3 ⊢
  have HR3 := Lib.hid (HR1.out.ext (ExtW.trans HE2.out HE3.out))
  have HL3 := Lib.hid (HL2.out.ext HE3.out)
  have HB3 := Lib.hid ((ExtW.trans HE1.out (ExtW.trans HE2.out HE3.out)).cellAt HB0.out)
  have HW3 := Lib.hid (ExtW.trans HE0.out (ExtW.trans HE1.out (ExtW.trans HE2.out HE3.out)))
  clear HB0 HE0 HR1 HE1 HL2 HE2 HE3 HA HA1 HA2
  obtain ⟨gb, hgb⟩ : ∃ g, g = w.heap.size := ⟨_, rfl⟩
  obtain ⟨gr, hgr⟩ : ∃ g, g = w.heap.size + 1 := ⟨_, rfl⟩
  obtain ⟨gl, hgl⟩ : ∃ g, g = w.heap.size + 1 + 1 := ⟨_, rfl⟩
  obtain ⟨gd, hgd⟩ : ∃ g, g = w.heap.size + 1 + 1 + 1 := ⟨_, rfl⟩
  have HGS : Hid (w.heap.size ≤ gd) := Lib.hid (by omega)
  rw [← hgb] at HB3
  rw [← hgr] at HR3
  rw [← hgl] at HL3
  rw [← hgd] at HD3
  rw [← hgd, ← hgl, ← hgr, ← hgb]
  clear hgb hgl hgr hgd
  have k7 := HB3.out
  go_wp2_with (refine wpList_ld rfl rfl ?_; first | refine ⟨gl, _, _, _, rfl, HL3.out, Try.underlying45, rfl, by rw [HSL.out]; kernel_rfl, ?_⟩ | refine ⟨gr, _, _, _, rfl, HR3.out, Try.underlying45, rfl, by rw [HSR.out]; kernel_rfl, ?_⟩)
  refine (node_any x l r _ HLL.out HRL.out HX.out).mono ?_
  rintro e we ⟨rfl, hbe⟩
  have HDE := Lib.hid (HD3.out.ext hbe)
  have HEE := Lib.hid (ExtW.trans HW3.out hbe)
  clear hbe
  obtain ⟨d, hd⟩ : ∃ d, d = T.nodeD (bitsN x) l r := ⟨_, rfl⟩
  have HS : Hid ((bvs d).toArray.size = 32) := Lib.hid (dg_size (by rw [hd]; exact T.nodeD_len _ _ _))
  have HDL : Hid (d = T.nodeD (bitsN x) l r) := Lib.hid hd
  rw [← hd]
  clear hd
  unfold dgV
  go_wp2_with (refine wpList_st rfl rfl ?_; refine ⟨gd, _, _, _, rfl, rfl, HDE.out, by rw [HS.out]; kernel_rfl, Eq.trans (show (bvs (List.replicate 32 0)).toArray.size = 32 from rfl) HS.out.symm, dg_one _, ?_⟩)
  (try simp only [Exit.inBlock, Exit.then])
  refine bodyPost_ret (v := dgV d) ?_ rfl ⟨by rw [HDL.out]; rfl, below_setRow HEE.out HGS.out _⟩
  have h := run_loadVar_row (P := Try.prog) (we.setRow gd (bvs d).toArray) gd 45 45 (bvs d).toArray (0, 0) _ (Row.setRow HDE.out (bvs d)) Try.underlying45 rfl (by rw [HS.out]; kernel_rfl)
  simpa [results, Try.f53, Act.put, asAddr, dgV] using h

/-- no leaf is great -/
def Lv (l : List (List UInt8)) : Prop := ∀ y ∈ l, y.length ≤ 1000000
theorem Lv.take {l : List (List UInt8)} (h : Lv l) (k : Nat) : Lv (l.take k) := fun y hy => h y (List.mem_of_mem_take hy)
theorem Lv.drop {l : List (List UInt8)} (h : Lv l) (k : Nat) : Lv (l.drop k) := fun y hy => h y (List.mem_of_mem_drop hy)
theorem T.rootD_nil (B : Nat) : T.rootD B [] = keep (S.sha []) B := by rw [T.rootD]; rfl
theorem T.rootD_one (B : Nat) (y : List UInt8) : T.rootD B [y] = T.leafD B y := by rw [T.rootD]; rfl
theorem T.rootD_more (B : Nat) {l : List (List UInt8)} {n k : Nat} (hn : l.length = n) (h : 2 ≤ n) (hk : k = T.half n) : T.rootD B l = T.nodeD B (T.rootD B (l.take k)) (T.rootD B (l.drop k)) := by
  rw [T.rootD, if_neg (by omega), if_neg (by omega), hn, ← hk]
/-- l[k:], written out -/
def dropA (A : Option Addr) (c k : Nat) : Option Addr := if c = k then A else A.map (·.add k)
theorem run_dropA (A : Option Addr) (n c : Nat) (k : Nat) (h1 : k ≤ n) (_h3 : n ≤ c) (W : World) : (Instr.slice 22 (.slice A n c) (some (.int .i64 (k : Int))) none none).run Try.prog W = .ok (.slice (dropA A c k) (n - k) (c - k)) W := by
  obtain ⟨i1, hi, _, hz1, _⟩ := info_parts infoS
  have hel : (Try.prog).elem 22 = 23 := by simp [Program.elem, Try.underlying22]
  have hu : (Try.prog).underlying 22 = some (.slice ((Try.prog).elem 22)) := by rw [hel]; exact Try.underlying22
  rw [run_slice_l W _ A n c hu .i64 _ (by omega) (by omega), hel]
  simp [sizeOf, typeInfo, hi, hz1, sliced, Result.andThen, dropA]
theorem run_takeA (A : Option Addr) (n c : Nat) (k : Nat) (h1 : k ≤ n) (h3 : n ≤ c) (W : World) : (Instr.slice 22 (.slice A n c) none (some (.int .i64 (k : Int))) none).run Try.prog W = .ok (.slice A k c) W := by
  obtain ⟨i1, hi, _, hz1, _⟩ := info_parts infoS
  exact cutB_h Try.underlying22 hi hz1 A n c .i64 _ k rfl h1 h3 W
theorem Bss.dropA {w : World} {A : Option Addr} {n c : Nat} {l : List (List UInt8)} (h : Bss w A n c l) {k : Nat} (hk : k ≤ n) : Bss w (dropA A c k) (n - k) (c - k) (l.drop k) := h.drop hk

set_option maxHeartbeats 4000000 in
set_option maxRecDepth 100000 in
theorem root_any (x : Int) (hx : -9223372036854775808 ≤ x ∧ x ≤ 9223372036854775807) : ∀ (N : Nat) (A : Option Addr) (n c : Nat) (l : List (List UInt8)) (w : World), n < N → Bss w A n c l → Lv l →
    Calls Try.prog 22 #[.agg #[.int .i64 x], .slice A n c] w fun e w' => e = .returned (dgV (T.rootD (bitsN x) l)) ∧ ExtW w w' := by
  have HX := Lib.hid hx
  clear hx
  intro N
  induction N with
  | zero => intro A n c l w h; omega
  | succ N ih =>
    intro A n c l w hnN hr hlv
    have hn63 : n < 9223372036854775808 := by have h1 := hr.nc; have h2 := hr.cm; unfold maxLen at h2; omega
    have hnc := hr.nc
    have HR := Lib.hid hr
    have HV := Lib.hid hlv
    have HLN := Lib.hid hr.len
    have HB0 := Lib.hid (cell_new1 w (.int .i64 x) 30)
    have HE0 : Hid (ExtW w (w.alloc (.cells #[.int .i64 x] 30))) := Lib.hid ((Below.refl _ _).alloc (Nat.le_refl _) _)
    clear hr hlv
    go_enter Try.func22, Try.ntmps22
    go_upto_region 1 with (refine wpList_newD rfl rfl ?_)
    have HA : Hid ((w.alloc (.cells #[.int .i64 x] 30)).heap.size = w.heap.size + 1) := Lib.hid (by simp)
    generalize w.alloc (.cells #[.int .i64 x] 30) = w1 at HB0 HE0 HA ⊢
    have HD1 := Lib.hid (zDig_row w1)
    have HE1 : Hid (ExtW w1 (w1.alloc (.cells zDig 45))) := Lib.hid ((Below.refl _ _).alloc (Nat.le_refl _) _)
    rw [HA.out] at HD1 ⊢
    generalize w1.alloc (.cells zDig 45) = w2 at HD1 HE1 ⊢
    have HB2 := Lib.hid (HE1.out.cellAt HB0.out)
    have HE2 := Lib.hid (ExtW.trans HE0.out HE1.out)
    have HR2 := Lib.hid (HR.out.same HE2.out)
    obtain ⟨gb, hgb⟩ : ∃ g, g = w.heap.size := ⟨_, rfl⟩
    obtain ⟨gd, hgd⟩ : ∃ g, g = w.heap.size + 1 := ⟨_, rfl⟩
    have HGD : Hid (w.heap.size ≤ gd) := Lib.hid (by omega)
    rw [← hgb] at HB2
    rw [← hgd] at HD1
    rw [← hgd, ← hgb]
    clear hgb hgd HB0 HE0 HE1 HA HR
    by_cases h0 : n = 0
    · subst h0
      have hl0 : l = [] := List.length_eq_zero_iff.1 HLN.out
      have HL0 := Lib.hid hl0
      have k7 := HB2.out
      clear hl0
      go_wp2_with fail
      refine (kept_any none 0 0 [] x _ (Rd.nil _ 1) (by decide) HX.out).mono ?_
      rintro e we ⟨rfl, hbe⟩
      have HDE := Lib.hid (HD1.out.ext hbe)
      have HEE := Lib.hid (ExtW.trans HE2.out hbe)
      clear hbe k7
      obtain ⟨d, hd⟩ : ∃ d, d = keep (S.sha []) (bitsN x) := ⟨_, rfl⟩
      have HS : Hid ((bvs d).toArray.size = 32) := Lib.hid (dg_size (by rw [hd]; exact T.emptyD_len _))
      have HDL : Hid (d = keep (S.sha []) (bitsN x)) := Lib.hid hd
      rw [← hd]
      clear hd
      unfold dgV
      go_wp2_with (refine wpList_st rfl rfl ?_; refine ⟨gd, _, _, _, rfl, rfl, HDE.out, by rw [HS.out]; kernel_rfl, Eq.trans (show (bvs (List.replicate 32 0)).toArray.size = 32 from rfl) HS.out.symm, dg_one _, ?_⟩)
      (try simp only [Exit.inBlock, Exit.then])
      refine bodyPost_ret (v := dgV d) ?_ rfl ⟨by rw [HDL.out]; (rw [HL0.out, T.rootD_nil]), below_setRow HEE.out HGD.out _⟩
      have h := run_loadVar_row (P := Try.prog) (we.setRow gd (bvs d).toArray) gd 45 45 (bvs d).toArray (0, 0) _ (Row.setRow HDE.out (bvs d)) Try.underlying45 rfl (by rw [HS.out]; kernel_rfl)
      simpa [results, Try.f22, Act.put, asAddr, dgV] using h
    by_cases h1 : n = 1
    · subst h1
      obtain ⟨y, hy⟩ : ∃ y, l = [y] := List.length_eq_one_iff.1 HLN.out
      have HY := Lib.hid hy
      clear hy
      cases hA : A with
      | none => have := HR2.out.nil0 hA; omega
      | some a =>
      obtain ⟨D, m, dd, hcell, hrd⟩ := HR2.out.row a hA 0 y (by rw [HY.out]; rfl)
      subst hA
      rw [show a.add 0 = a by unfold Addr.add; simp] at hcell
      have HC := Lib.hid hcell
      have HRD := Lib.hid hrd
      have HM : Hid (m ≤ 1000000) := Lib.hid (by
        have h1 := HV.out y (by rw [HY.out]; exact List.mem_cons_self ..)
        have h2 := hrd.len
        rw [bvs_len] at h2
        omega)
      clear hcell hrd
      go_upto_region 5 with (fail)
      apply wp_region_ext_tail 5 _ (by kernel_rfl) (by kernel_rfl)
      simp only [List.take_succ_cons, List.take_zero, List.drop_succ_cons, List.drop_zero]
      (apply wpZ_det; (intro wq hE hG; have kk := (ExtW.of_drew hE).cellAt HB2.out; apply obl_val (by rfl); go_simp; rfl); (intro ak hak; simp only [Act.put, List.setIfInBounds_toArray, List.set_cons_succ, List.set_cons_zero] at hak; subst hak))
      iterate 2 (apply wpZ_det; (intro wq hE hG; first | exact obl_non (by rfl) | (apply obl_val (by rfl); go_simp; rfl)); (intro ak hak; simp only [Act.put, List.setIfInBounds_toArray, List.set_cons_succ, List.set_cons_zero] at hak; subst hak))
      (apply wpZ_det; (intro wq hE hG; have kk := (ExtW.of_drew hE).cellAt HC.out; apply obl_val (by rfl); go_simp; rfl); (intro ak hak; simp only [Act.put, List.setIfInBounds_toArray, List.set_cons_succ, List.set_cons_zero] at hak; subst hak))
      (apply wpZ_det; (intro wq hE hG; apply obl_on (by kernel_rfl); go_simp; simp only [extUpon_enter]; refine (leaf_any x D m dd y _ (HRD.out.below (ExtW.of_drew hE) (Nat.le_refl _)) (Nat.le_trans HM.out (by decide)) HX.out).mono ?_; rintro e w' ⟨rfl, hb⟩; exact ⟨_, rfl, hb, rfl⟩); (intro ak hak; simp only [Act.put, List.setIfInBounds_toArray, List.set_cons_succ, List.set_cons_zero] at hak; subst hak))
      (apply wpZ_nil; intro wq hE hG)
      have HDE := Lib.hid (HD1.out.ext (ExtW.of_drew hE))
      have HEE := Lib.hid (ExtW.trans HE2.out (ExtW.of_drew hE))
      clear hE hG
      obtain ⟨d, hd⟩ : ∃ d, d = T.leafD (bitsN x) y := ⟨_, rfl⟩
      have HS : Hid ((bvs d).toArray.size = 32) := Lib.hid (dg_size (by rw [hd]; exact T.leafD_len _ _))
      have HDL : Hid (d = T.leafD (bitsN x) y) := Lib.hid hd
      rw [← hd]
      clear hd
      unfold dgV
      go_wp2_with (refine wpList_st rfl rfl ?_; refine ⟨gd, _, _, _, rfl, rfl, HDE.out, by rw [HS.out]; kernel_rfl, Eq.trans (show (bvs (List.replicate 32 0)).toArray.size = 32 from rfl) HS.out.symm, dg_one _, ?_⟩)
      (try simp only [Exit.inBlock, Exit.then])
      refine bodyPost_ret (v := dgV d) ?_ rfl ⟨by rw [HDL.out]; (rw [HY.out, T.rootD_one]), below_setRow HEE.out HGD.out _⟩
      have h := run_loadVar_row (P := Try.prog) (wq.setRow gd (bvs d).toArray) gd 45 45 (bvs d).toArray (0, 0) _ (Row.setRow HDE.out (bvs d)) Try.underlying45 rfl (by rw [HS.out]; kernel_rfl)
      simpa [results, Try.f22, Act.put, asAddr, dgV] using h
    have h2 : 2 ≤ n := by omega
    obtain ⟨k, hk⟩ : ∃ k, k = T.half n := ⟨_, rfl⟩
    have hhl := T.half_lt h2
    rw [← hk] at hhl
    have HK := Lib.hid hk
    clear hk
    go_wp2_with fail
    refine (half_any n _ ⟨by omega, hn63⟩).mono ?_
    rintro e we ⟨rfl, rfl⟩
    rw [← HK.out]
    have hcl : k ≤ n := by omega
    have hrt := run_takeA A n c k hcl hnc
    have hrd := run_dropA A n c k hcl hnc
    have HM := Lib.hid (T.rootD_more (bitsN x) HLN.out h2 HK.out)
    have HBT := Lib.hid (HR2.out.take hcl)
    have HBD := Lib.hid (HR2.out.dropA hcl)
    go_upto_region 7 with (fail)
    apply wp_region_ext_tail 12 _ (by kernel_rfl) (by kernel_rfl)
    simp only [List.take_succ_cons, List.take_zero, List.drop_succ_cons, List.drop_zero]
    (apply wpZ_det; (intro wq hE hG; have kk := (ExtW.of_drew hE).cellAt HB2.out; apply obl_val (by rfl); go_simp; rfl); (intro ak hak; simp only [Act.put, List.setIfInBounds_toArray, List.set_cons_succ, List.set_cons_zero] at hak; subst hak))
    (apply wpZ_det; (intro wq hE hG; have kk := (ExtW.of_drew hE).cellAt HB2.out; apply obl_val (by rfl); go_simp; rfl); (intro ak hak; simp only [Act.put, List.setIfInBounds_toArray, List.set_cons_succ, List.set_cons_zero] at hak; subst hak))
    iterate 3 (apply wpZ_det; (intro wq hE hG; first | exact obl_non (by rfl) | (apply obl_val (by rfl); go_simp; rfl)); (intro ak hak; simp only [Act.put, List.setIfInBounds_toArray, List.set_cons_succ, List.set_cons_zero] at hak; subst hak))
    (apply wpZ_det; (intro wq hE hG; apply obl_on (by kernel_rfl); go_simp; simp only [extUpon_enter]; refine (ih A k c _ _ (by omega) (HBT.out.same (ExtW.of_drew hE)) (HV.out.take k)).mono ?_; rintro e w' ⟨rfl, hb⟩; exact ⟨_, rfl, hb, rfl⟩); (intro ak hak; simp only [Act.put, List.setIfInBounds_toArray, List.set_cons_succ, List.set_cons_zero] at hak; subst hak))
    (apply wpZ_det; (intro wq hE hG; have kk := (ExtW.of_drew hE).cellAt HB2.out; apply obl_val (by rfl); go_simp; rfl); (intro ak hak; simp only [Act.put, List.setIfInBounds_toArray, List.set_cons_succ, List.set_cons_zero] at hak; subst hak))
    iterate 3 (apply wpZ_det; (intro wq hE hG; first | exact obl_non (by rfl) | (apply obl_val (by rfl); go_simp; rfl)); (intro ak hak; simp only [Act.put, List.setIfInBounds_toArray, List.set_cons_succ, List.set_cons_zero] at hak; subst hak))
    (apply wpZ_det; (intro wq hE hG; apply obl_on (by kernel_rfl); go_simp; simp only [extUpon_enter]; refine (ih _ (n - k) (c - k) _ _ (by omega) (HBD.out.same (ExtW.of_drew hE)) (HV.out.drop k)).mono ?_; rintro e w' ⟨rfl, hb⟩; exact ⟨_, rfl, hb, rfl⟩); (intro ak hak; simp only [Act.put, List.setIfInBounds_toArray, List.set_cons_succ, List.set_cons_zero] at hak; subst hak))
    (apply wpZ_det; (intro wq hE hG; apply obl_on (by kernel_rfl); go_simp; simp only [extUpon_enter]; refine (node_any x _ _ _ (T.rootD_len _ _) (T.rootD_len _ _) HX.out).mono ?_; rintro e w' ⟨rfl, hb⟩; exact ⟨_, rfl, hb, rfl⟩); (intro ak hak; simp only [Act.put, List.setIfInBounds_toArray, List.set_cons_succ, List.set_cons_zero] at hak; subst hak))
    (apply wpZ_nil; intro wq hE hG)
    have HDE := Lib.hid (HD1.out.ext (ExtW.of_drew hE))
    have HEE := Lib.hid (ExtW.trans HE2.out (ExtW.of_drew hE))
    clear hE hG
    obtain ⟨d, hd⟩ : ∃ d, d = T.nodeD (bitsN x) (T.rootD (bitsN x) (l.take k)) (T.rootD (bitsN x) (l.drop k)) := ⟨_, rfl⟩
    have HS : Hid ((bvs d).toArray.size = 32) := Lib.hid (dg_size (by rw [hd]; exact T.nodeD_len _ _ _))
    have HDL : Hid (d = T.nodeD (bitsN x) (T.rootD (bitsN x) (l.take k)) (T.rootD (bitsN x) (l.drop k))) := Lib.hid hd
    rw [← hd]
    clear hd
    unfold dgV
    go_wp2_with (refine wpList_st rfl rfl ?_; refine ⟨gd, _, _, _, rfl, rfl, HDE.out, by rw [HS.out]; kernel_rfl, Eq.trans (show (bvs (List.replicate 32 0)).toArray.size = 32 from rfl) HS.out.symm, dg_one _, ?_⟩)
    (try simp only [Exit.inBlock, Exit.then])
    refine bodyPost_ret (v := dgV d) ?_ rfl ⟨by rw [HDL.out]; rw [HM.out], below_setRow HEE.out HGD.out _⟩
    have h := run_loadVar_row (P := Try.prog) (wq.setRow gd (bvs d).toArray) gd 45 45 (bvs d).toArray (0, 0) _ (Row.setRow HDE.out (bvs d)) Try.underlying45 rfl (by rw [HS.out]; kernel_rfl)
    simpa [results, Try.f22, Act.put, asAddr, dgV] using h
end Go.Proofs.Ythaoibgcgkmnbaa
