/- Walk of ClashSound. -/
import Derived.Test.YthaoibgcgkmnbaaCListsW
import Derived.Test.YthaoibgcgkmnbaaRB
import Derived.Test.YthaoibgcgkmnbaaBg
namespace Go.Proofs.Ythaoibgcgkmnbaa
set_option maxRecDepth 100000
open Go.RowKit

set_option maxHeartbeats 20000000 in
set_option maxRecDepth 100000 in
theorem clashSound_walk (x : Int) (A : Option Addr) (n0 c0 : Nat) (xl : List (List UInt8)) (fr : Int) (LA : Option Addr) (ln lc : Nat) (leaf : List UInt8) (PA : Option Addr) (pn pc : Nat) (pl : List (List UInt8)) (w : World) (hx : -9223372036854775808 ≤ x ∧ x ≤ 9223372036854775807) (hr : Bss w A n0 c0 xl) (_hc : c0 ≤ 140737488351232)
    (_hf : -9223372036854775808 ≤ fr ∧ fr ≤ 9223372036854775807) (hl : Rd w LA ln lc 1 (bvs leaf)) (hlc : lc ≤ 140737488351232) (hp : Dls w PA pn pc pl) :
    Calls Try.prog 7 #[.int .i64 x, .slice A n0 c0, .int .i64 fr, .slice LA ln lc, .slice PA pn pc] w fun e w' => e = .returned (.bool true) ∧ Below w.heap.size w w' := by
  have HX := Lib.hid hx
  have HR := Lib.hid hr
  have HL := Lib.hid hl
  have HP := Lib.hid hp
  have HLB : Hid (ln ≤ 140737488351232) := Lib.hid (Nat.le_trans hl.nc hlc)
  have HLE : Hid (leaf.length ≤ 140737488351232) := Lib.hid (by have h := hl.len; rw [bvs_len] at h; have h2 := hl.nc; omega)
  have hbld := bldT
  clear hr _hc hx _hf hp hl hlc
  go_enter Try.func7, Try.ntmps7
  go_wp2_with fail
  refine (shown6_any _).mono ?_
  rintro e w1 ⟨rfl, hb1⟩
  have HE1 := Lib.hid hb1
  clear hb1
  go_wp2_with fail
  refine (small_any A n0 c0 xl _ (HR.out.same HE1.out)).mono ?_
  rintro e w2 ⟨v, rfl, hlot, hb⟩
  have HE2 := Lib.hid (ExtW.trans HE1.out hb)
  obtain ⟨s, hs⟩ : ∃ s, s = smallL xl := ⟨_, rfl⟩
  have HLV : Hid (∀ y ∈ s, y.length ≤ 100) := Lib.hid (fun y hy => smallL_lv xl y (by rw [← hs]; exact hy))
  have hsn := smallL_len xl
  rw [← hs] at hlot hsn
  obtain ⟨A1, c1, rfl, hbs⟩ := hlot.bss
  obtain ⟨n, hn⟩ : ∃ n, n = s.length := ⟨_, rfl⟩
  rw [← hn] at hbs hsn ⊢
  have HBS := Lib.hid hbs
  have HN : Hid (s.length = n) := Lib.hid hn.symm
  clear hs hlot hn hbs hb HR
  have HLVS : Hid (Lv s) := Lib.hid (fun y hy => Nat.le_trans (HLV.out y hy) (by decide))
  go_upto_region 4 with (fail)
  have HT4 := Lib.hid (cell_new1 w2 (.int .i64 x) 30)
  have HE4 : Hid (ExtW w2 (w2.alloc (.cells #[.int .i64 x] 30))) := Lib.hid ((Below.refl _ _).alloc (Nat.le_refl _) _)
  generalize w2.alloc (.cells #[.int .i64 x] 30) = w4 at HT4 HE4 ⊢
  obtain ⟨gt, hgt⟩ : ∃ g, g = w2.heap.size := ⟨_, rfl⟩
  rw [← hgt] at HT4 ⊢
  have HBS4 := Lib.hid (HBS.out.same HE4.out)
  have HW4 := Lib.hid (ExtW.trans HE2.out HE4.out)
  have HP4 := Lib.hid (HP.out.same HW4.out)
  have HL4 := Lib.hid (HL.out.below HW4.out (Nat.le_refl _))
  clear hgt HE4 HE1 HE2 hbld HBS HP HL
  have k1 := HT4.out
  go_wp2_with fail
  refine (cof_anyB x HX.out A1 n c1 s fr LA ln lc leaf PA pn pc pl w4 HBS4.out HLVS.out (by omega) HL4.out HLB.out HP4.out).mono ?_
  intro e w5 h
  have HT5 := Lib.hid (h.1.cellAt HT4.out)
  have HBS5 := Lib.hid (HBS4.out.same h.1)
  have HP5 := Lib.hid (HP4.out.same h.1)
  have HL5 := Lib.hid (HL4.out.below h.1 (Nat.le_refl _))
  have HW5 := Lib.hid (ExtW.trans HW4.out h.1)
  obtain ⟨ra, rl, rc, rb, rm, rd, ok, rfl⟩ := h.two
  have HO := Lib.hid h
  clear h k1 HT4 HBS4 HW4 HP4 HL4
  go_upto_region 5 with (fail)
  by_cases hck : T.checkD (bitsN x) (T.rootD (bitsN x) s) s.length fr leaf pl = true
  rotate_left
  · have hck' : T.checkD (bitsN x) (T.rootD (bitsN x) s) s.length fr leaf pl = false := by simpa using hck
    have HOO := Lib.hid (T.ofD_no hck')
    rw [HN.out] at hck'
    have HCK := Lib.hid hck'
    clear hck hck'
    have HON := HO.out
    rw [HOO.out] at HON
    obtain ⟨_, h3⟩ := HON
    simp only at h3
    injection h3 with h3
    injection h3 with h3
    simp at h3
    obtain ⟨⟨rfl, rfl, rfl⟩, ⟨rfl, rfl, rfl⟩, rfl⟩ := h3
    apply wp_region_ext _ (by kernel_rfl) (by kernel_rfl)
    iterate 2 (apply wpZ_det; (intro wq hE hG; have kk := (ExtW.of_drew hE).cellAt HT5.out; apply obl_val (by rfl); go_simp <;> rfl); (intro ak hak; simp only [Act.put, List.setIfInBounds_toArray, List.set_cons_succ, List.set_cons_zero] at hak; subst hak))
    (apply wpZ_det; (intro wq hE hG; first | exact obl_non (by rfl) | (apply obl_val (by rfl); go_simp <;> rfl)); (intro ak hak; simp only [Act.put, List.setIfInBounds_toArray, List.set_cons_succ, List.set_cons_zero] at hak; subst hak))
    (apply wpZ_det; (intro wq hE hG; apply obl_on (by kernel_rfl); go_simp; simp only [extUpon_enter]; refine (root_any x HX.out (n + 1) _ n c1 _ _ (by omega) (HBS5.out.same (ExtW.of_drew hE)) HLVS.out).mono ?_; rintro e w' ⟨rfl, hb⟩; exact ⟨_, rfl, hb, rfl⟩); (intro ak hak; simp only [Act.put, List.setIfInBounds_toArray, List.set_cons_succ, List.set_cons_zero] at hak; subst hak))
    iterate 5 (apply wpZ_det; (intro wq hE hG; first | exact obl_non (by rfl) | (apply obl_val (by rfl); go_simp <;> rfl)); (intro ak hak; simp only [Act.put, List.setIfInBounds_toArray, List.set_cons_succ, List.set_cons_zero] at hak; subst hak))
    (apply wpZ_det (c := .bool false); (intro wq hE hG; apply obl_on (by kernel_rfl); go_simp; simp only [extUpon_enter]; refine (mcheck_anyB x HX.out _ (T.rootD_len _ _) (n : Int) fr (by omega) LA ln lc leaf PA pn pc pl _ (HL5.out.below (ExtW.of_drew hE) (Nat.le_refl _)) HLB.out (HP5.out.same (ExtW.of_drew hE))).mono ?_; rintro e w' ⟨rfl, hb⟩; exact ⟨_, rfl, hb, by rw [HCK.out]⟩); (intro ak hak; simp only [Act.put, List.setIfInBounds_toArray, List.set_cons_succ, List.set_cons_zero] at hak; subst hak))
    (apply wpZ_det; (intro wq hE hG; first | exact obl_non (by rfl) | (apply obl_val (by rfl); go_simp <;> rfl)); (intro ak hak; simp only [Act.put, List.setIfInBounds_toArray, List.set_cons_succ, List.set_cons_zero] at hak; subst hak))
    (apply wpZ_nil; intro wq hE hG)
    have HEQ := Lib.hid (ExtW.trans HW5.out (ExtW.of_drew hE))
    clear hE hG
    go_wp2
    go_ret
    exact ⟨rfl, HEQ.out⟩
  have HCT := Lib.hid hck
  obtain ⟨j, hj, hjn, _, _⟩ := T.checkD_in hck
  rw [HN.out] at hck hjn
  have HCK := Lib.hid hck
  have HFJ := Lib.hid hj
  clear hck hj
  apply wp_region_ext _ (by kernel_rfl) (by kernel_rfl)
  iterate 2 (apply wpZ_det; (intro wq hE hG; have kk := (ExtW.of_drew hE).cellAt HT5.out; apply obl_val (by rfl); go_simp <;> rfl); (intro ak hak; simp only [Act.put, List.setIfInBounds_toArray, List.set_cons_succ, List.set_cons_zero] at hak; subst hak))
  (apply wpZ_det; (intro wq hE hG; first | exact obl_non (by rfl) | (apply obl_val (by rfl); go_simp <;> rfl)); (intro ak hak; simp only [Act.put, List.setIfInBounds_toArray, List.set_cons_succ, List.set_cons_zero] at hak; subst hak))
  (apply wpZ_det; (intro wq hE hG; apply obl_on (by kernel_rfl); go_simp; simp only [extUpon_enter]; refine (root_any x HX.out (n + 1) _ n c1 _ _ (by omega) (HBS5.out.same (ExtW.of_drew hE)) HLVS.out).mono ?_; rintro e w' ⟨rfl, hb⟩; exact ⟨_, rfl, hb, rfl⟩); (intro ak hak; simp only [Act.put, List.setIfInBounds_toArray, List.set_cons_succ, List.set_cons_zero] at hak; subst hak))
  iterate 5 (apply wpZ_det; (intro wq hE hG; first | exact obl_non (by rfl) | (apply obl_val (by rfl); go_simp <;> rfl)); (intro ak hak; simp only [Act.put, List.setIfInBounds_toArray, List.set_cons_succ, List.set_cons_zero] at hak; subst hak))
  (apply wpZ_det (c := .bool true); (intro wq hE hG; apply obl_on (by kernel_rfl); go_simp; simp only [extUpon_enter]; refine (mcheck_anyB x HX.out _ (T.rootD_len _ _) (n : Int) fr (by omega) LA ln lc leaf PA pn pc pl _ (HL5.out.below (ExtW.of_drew hE) (Nat.le_refl _)) HLB.out (HP5.out.same (ExtW.of_drew hE))).mono ?_; rintro e w' ⟨rfl, hb⟩; exact ⟨_, rfl, hb, by rw [HCK.out]⟩); (intro ak hak; simp only [Act.put, List.setIfInBounds_toArray, List.set_cons_succ, List.set_cons_zero] at hak; subst hak))
  (apply wpZ_det; (intro wq hE hG; first | exact obl_non (by rfl) | (apply obl_val (by rfl); go_simp <;> rfl)); (intro ak hak; simp only [Act.put, List.setIfInBounds_toArray, List.set_cons_succ, List.set_cons_zero] at hak; subst hak))
  (apply wpZ_nil; intro wq hE hG)
  have HE6 := Lib.hid (ExtW.of_drew hE)
  clear hE hG
  obtain rfl := HFJ.out
  have k1 := HE6.out.cellAt HT5.out
  go_wp2_with fail
  refine (mpath_ok x HX.out A1 n c1 s j wq (by omega) hjn (HBS5.out.same HE6.out) HLVS.out).mono ?_
  rintro e w7 ⟨v, rfl, hown, hb⟩
  obtain ⟨bs, hbs⟩ : ∃ b, b = T.pathD (bitsN x) s j := ⟨_, rfl⟩
  have HB := Lib.hid hbs
  rw [← hbs] at hown
  obtain ⟨QA, qc, rfl, hdl⟩ := hown.dls (by rw [hbs]; exact T.pathD_len32 _ _ _)
  have HDL := Lib.hid hdl
  have HE7 := Lib.hid (ExtW.trans HE6.out hb)
  obtain ⟨bn, hbn⟩ : ∃ k, k = bs.length := ⟨_, rfl⟩
  rw [← hbn] at HDL ⊢
  clear hbn hbs hown hdl hb k1
  go_wp2_with fail
  refine (same_any QA bn qc bs PA pn pc pl w7 HDL.out (HP5.out.same HE7.out)).mono ?_
  rintro e w8 ⟨rfl, hb⟩
  have HW8 := Lib.hid (ExtW.trans HE7.out hb)
  clear hb HDL HE6 HE7
  obtain ⟨a, ha⟩ : ∃ a, s[j]? = some a := ⟨_, List.getElem?_eq_getElem (by rw [HN.out]; exact hjn)⟩
  have HSA := Lib.hid ha
  have hq1 : ¬ (j : Int) < 0 := by omega
  have hq2 : ¬ (n : Int) ≤ (j : Int) := by omega
  have hq3 : (j : Int) < (n : Int) := by omega
  have hq0 : (0 : Int) ≤ (j : Int) := Int.natCast_nonneg _
  have HBS8 := Lib.hid (HBS5.out.same HW8.out)
  cases hA : A1 with
  | none => have h3 := HBS8.out.nil0 hA; have h4 := HBS8.out.nc; omega
  | some pa =>
  obtain ⟨D, q, dd, hcell, hrd⟩ := HBS8.out.row pa hA j a ha
  subst hA
  have HC := Lib.hid hcell
  have HR1 := Lib.hid hrd
  have HR2 := Lib.hid (HL5.out.below HW8.out (Nat.le_refl _))
  clear ha hcell hrd
  by_cases hsm : bs = pl
  · have HDS : Hid (decide (bs = pl) = true) := Lib.hid (by simp [hsm])
    have HBP := Lib.hid hsm
    rw [HDS.out]
    clear hsm
    go_upto_region 11 with (fail)
    obtain ⟨al, hal⟩ : ∃ al : Bool, al = decide (leaf = a) := ⟨_, rfl⟩
    have HAL := Lib.hid hal
    clear hal
    apply wp_region_ext _ (by kernel_rfl) (by kernel_rfl)
    iterate 3 (apply wpZ_det; (intro wq hE hG; first | exact obl_non (by rfl) | (apply obl_val (by rfl); go_simp <;> rfl)); (intro ak hak; simp only [Act.put, List.setIfInBounds_toArray, List.set_cons_succ, List.set_cons_zero] at hak; subst hak))
    (apply wpZ_det; (intro wq hE hG; have kk := conv_str (HR2.out.below (ExtW.of_drew hE) (Nat.le_refl _)); apply obl_val (by rfl); go_simp <;> rfl); (intro ak hak; simp only [Act.put, List.setIfInBounds_toArray, List.set_cons_succ, List.set_cons_zero] at hak; subst hak))
    iterate 3 (apply wpZ_det; (intro wq hE hG; first | exact obl_non (by rfl) | (apply obl_val (by rfl); go_simp <;> rfl)); (intro ak hak; simp only [Act.put, List.setIfInBounds_toArray, List.set_cons_succ, List.set_cons_zero] at hak; subst hak))
    (apply wpZ_det; (intro wq hE hG; have kk := (ExtW.of_drew hE).cellAt HC.out; apply obl_val (by rfl); go_simp <;> rfl); (intro ak hak; simp only [Act.put, List.setIfInBounds_toArray, List.set_cons_succ, List.set_cons_zero] at hak; subst hak))
    (apply wpZ_det; (intro wq hE hG; have kk := conv_str (HR1.out.below (ExtW.of_drew hE) (Nat.le_refl _)); apply obl_val (by rfl); go_simp <;> rfl); (intro ak hak; simp only [Act.put, List.setIfInBounds_toArray, List.set_cons_succ, List.set_cons_zero] at hak; subst hak))
    (apply wpZ_det (c := .bool al); (intro wq hE hG; exact obl_same (by rfl) (by go_simp; rfl) (by rw [HAL.out, list_beq])); (intro ak hak; simp only [Act.put, List.setIfInBounds_toArray, List.set_cons_succ, List.set_cons_zero] at hak; subst hak))
    (apply wpZ_det; (intro wq hE hG; first | exact obl_non (by rfl) | (apply obl_val (by rfl); go_simp <;> rfl)); (intro ak hak; simp only [Act.put, List.setIfInBounds_toArray, List.set_cons_succ, List.set_cons_zero] at hak; subst hak))
    (apply wpZ_nil; intro wz hE hG)
    have HW9 := Lib.hid (ExtW.trans HW8.out (ExtW.of_drew hE))
    clear hE hG hq1 hq2 hq3
    by_cases hla : leaf = a
    · have hal : al = true := by rw [HAL.out]; simp [hla]
      subst hal
      have HOO : Hid (T.ofD (bitsN x) s (j : Int) leaf pl = none) := Lib.hid (by rw [← HBP.out, HB.out]; exact T.ofD_real (bitsN x) (by rw [hla]; exact HSA.out))
      clear hla
      have HON := HO.out
      rw [HOO.out] at HON
      obtain ⟨_, h3⟩ := HON
      simp only at h3
      injection h3 with h3
      injection h3 with h3
      simp at h3
      obtain ⟨⟨rfl, rfl, rfl⟩, ⟨rfl, rfl, rfl⟩, rfl⟩ := h3
      have HEZ := Lib.hid (ExtW.trans HW5.out HW9.out)
      go_wp2
      go_ret
      exact ⟨rfl, HEZ.out⟩
    · have hal : al = false := by rw [HAL.out]; simp [hla]
      subst hal
      have hsm := T.ofD_some HCT.out HP5.out.all (fun h => hla (Option.some.inj (h.1.symm.trans HSA.out)))
      clear hla
      obtain ⟨u, v, huv, hne2, hcl⟩ := hsm
      have hsz := T.ofD_small (M := 140737488351233) (by decide) (Nat.succ_le_succ HLE.out) (fun y hy => Nat.le_trans (Nat.succ_le_succ (HLV.out y hy)) (by decide)) HP5.out.all huv
      have HON := HO.out
      rw [huv] at HON
      obtain ⟨_, ra', rl', rc', rb', rm', rd', h3, hru, hrv⟩ := HON
      injection h3 with h3
      injection h3 with h3
      simp at h3
      obtain ⟨⟨rfl, rfl, rfl⟩, ⟨rfl, rfl, rfl⟩, rfl⟩ := h3
      have HRU2 := Lib.hid (hru.below HW9.out (Nat.le_refl _))
      have HRV2 := Lib.hid (hrv.below HW9.out (Nat.le_refl _))
      have HLU : Hid (rl ≤ 150000000000000) := Lib.hid (by have h := hru.len; rw [bvs_len] at h; omega)
      have HLW : Hid (rm ≤ 150000000000000) := Lib.hid (by have h := hrv.len; rw [bvs_len] at h; omega)
      have HNE2 := Lib.hid hne2
      have HCL := Lib.hid hcl
      clear huv hne2 hcl hsz hru hrv
      have s1 := conv_str HRU2.out
      have s2 := conv_str HRV2.out
      obtain ⟨sx, hsx⟩ : ∃ s, s = (⟨u.toArray⟩ : ByteArray) := ⟨_, rfl⟩
      obtain ⟨sy, hsy⟩ : ∃ s, s = (⟨v.toArray⟩ : ByteArray) := ⟨_, rfl⟩
      have hs2 : (sx.toList == sy.toList) = false := by
        rw [beq_eq_false_iff_ne, hsx, hsy, ByteArray.toList_eq, ByteArray.toList_eq]
        simpa using HNE2.out
      have hss : ¬ sx = sy := fun e => HNE2.out (ba_inj (by rw [← hsx, ← hsy, e]))
      rw [← hsx] at s1
      rw [← hsy] at s2
      clear hsx hsy
      have k1 := HW9.out.cellAt HT5.out
      go_wp2_with fail
      refine (cot_any x HX.out ra rl rc u rb rm rd v wz HRU2.out HLU.out HRV2.out HLW.out).mono ?_
      rintro e w9 ⟨rfl, hb⟩
      rw [HCL.out]
      have HEZ := Lib.hid (ExtW.trans HW5.out (ExtW.trans HW9.out hb))
      clear hb s1 s2 hs2 hss k1
      go_wp2
      go_ret
      exact ⟨rfl, HEZ.out⟩
  · have HDS : Hid (decide (bs = pl) = false) := Lib.hid (by simp [hsm])
    have HBP := Lib.hid hsm
    rw [HDS.out]
    clear hsm
    go_upto_region 11 with (fail)
    apply wp_region_ext _ (by kernel_rfl) (by kernel_rfl)
    iterate 11 (apply wpZ_det; (intro wq hE hG; first | exact obl_non (by rfl) | (apply obl_val (by rfl); go_simp <;> rfl)); (intro ak hak; simp only [Act.put, List.setIfInBounds_toArray, List.set_cons_succ, List.set_cons_zero] at hak; subst hak))
    (apply wpZ_nil; intro wz hE hG)
    have HW9 := Lib.hid (ExtW.trans HW8.out (ExtW.of_drew hE))
    clear hE hG hq1 hq2 hq3
    have hsm := T.ofD_some HCT.out HP5.out.all (fun h => HBP.out (by rw [HB.out]; exact h.2.symm))
    obtain ⟨u, v, huv, hne2, hcl⟩ := hsm
    have hsz := T.ofD_small (M := 140737488351233) (by decide) (Nat.succ_le_succ HLE.out) (fun y hy => Nat.le_trans (Nat.succ_le_succ (HLV.out y hy)) (by decide)) HP5.out.all huv
    have HON := HO.out
    rw [huv] at HON
    obtain ⟨_, ra', rl', rc', rb', rm', rd', h3, hru, hrv⟩ := HON
    injection h3 with h3
    injection h3 with h3
    simp at h3
    obtain ⟨⟨rfl, rfl, rfl⟩, ⟨rfl, rfl, rfl⟩, rfl⟩ := h3
    have HRU2 := Lib.hid (hru.below HW9.out (Nat.le_refl _))
    have HRV2 := Lib.hid (hrv.below HW9.out (Nat.le_refl _))
    have HLU : Hid (rl ≤ 150000000000000) := Lib.hid (by have h := hru.len; rw [bvs_len] at h; omega)
    have HLW : Hid (rm ≤ 150000000000000) := Lib.hid (by have h := hrv.len; rw [bvs_len] at h; omega)
    have HNE2 := Lib.hid hne2
    have HCL := Lib.hid hcl
    clear huv hne2 hcl hsz hru hrv
    have s1 := conv_str HRU2.out
    have s2 := conv_str HRV2.out
    obtain ⟨sx, hsx⟩ : ∃ s, s = (⟨u.toArray⟩ : ByteArray) := ⟨_, rfl⟩
    obtain ⟨sy, hsy⟩ : ∃ s, s = (⟨v.toArray⟩ : ByteArray) := ⟨_, rfl⟩
    have hs2 : (sx.toList == sy.toList) = false := by
      rw [beq_eq_false_iff_ne, hsx, hsy, ByteArray.toList_eq, ByteArray.toList_eq]
      simpa using HNE2.out
    have hss : ¬ sx = sy := fun e => HNE2.out (ba_inj (by rw [← hsx, ← hsy, e]))
    rw [← hsx] at s1
    rw [← hsy] at s2
    clear hsx hsy
    have k1 := HW9.out.cellAt HT5.out
    go_wp2_with fail
    refine (cot_any x HX.out ra rl rc u rb rm rd v wz HRU2.out HLU.out HRV2.out HLW.out).mono ?_
    rintro e w9 ⟨rfl, hb⟩
    rw [HCL.out]
    have HEZ := Lib.hid (ExtW.trans HW5.out (ExtW.trans HW9.out hb))
    clear hb s1 s2 hs2 hss k1
    go_wp2
    go_ret
    exact ⟨rfl, HEZ.out⟩
end Go.Proofs.Ythaoibgcgkmnbaa
