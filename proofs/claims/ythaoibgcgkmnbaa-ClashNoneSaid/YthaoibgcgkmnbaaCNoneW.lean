/- Walk of ClashNone. -/
import Derived.Test.YthaoibgcgkmnbaaCWholeW
import Derived.Test.YthaoibgcgkmnbaaBit
namespace Go.Proofs.Ythaoibgcgkmnbaa
set_option maxRecDepth 100000
open Go.RowKit

theorem smallL_idem (l : List (List UInt8)) : smallL (smallL l) = smallL l := by
  unfold smallL cutL
  rw [← List.map_take, List.take_take, List.map_map]
  congr 1
  funext y
  simp [List.take_take]
def nil3 : Value := .tuple #[.slice none 0 0, .slice none 0 0, .bool false]
theorem cof_none (x : Int) (hx : -9223372036854775808 ≤ x ∧ x ≤ 9223372036854775807) (A : Option Addr) (n c : Nat) (real : List (List UInt8)) (i : Int) (LA : Option Addr) (ln lc : Nat) (leaf : List UInt8) (PA : Option Addr) (pn pc : Nat) (path : List (List UInt8)) (w : World)
    (hr : Bss w A n c real) (hlv : Lv real) (hn : n ≤ 1000000) (hl : Rd w LA ln lc 1 (bvs leaf)) (hln : ln ≤ 1000000) (hp : Dls w PA pn pc path) (ho : T.ofD (bitsN x) real i leaf path = none) :
    Calls Try.prog 13 #[.agg #[.int .i64 x], .slice A n c, .int .i64 i, .slice LA ln lc, .slice PA pn pc] w fun e w' => e = .returned nil3 ∧ ExtW w w' :=
  (cof_any x hx A n c real i LA ln lc leaf PA pn pc path w hr hlv hn hl hln hp).mono fun e w' h => by
    rw [ho] at h
    exact ⟨h.2, h.1⟩
theorem cofr_none (x : Int) (hx : -9223372036854775808 ≤ x ∧ x ≤ 9223372036854775807) (A : Option Addr) (n c : Nat) (real : List (List UInt8)) (a : Int) (ha : -9223372036854775808 ≤ a ∧ a ≤ 9223372036854775807) (LA : Option Addr) (ln lc : Nat) (part : List (List UInt8)) (PA : Option Addr) (pn pc : Nat) (path : List (List UInt8)) (w : World)
    (hr : Bss w A n c real) (hlv : Lv real) (hn : n ≤ 1000000) (hl : Bss w LA ln lc part) (hll : Lv part) (hln : ln ≤ 1000000) (hp : Dls w PA pn pc path) (ho : T.ofRD (bitsN x) real a part path = none) :
    Calls Try.prog 17 #[.agg #[.int .i64 x], .slice A n c, .int .i64 a, .slice LA ln lc, .slice PA pn pc] w fun e w' => e = .returned nil3 ∧ ExtW w w' :=
  (cofr_any x hx A n c real a ha LA ln lc part PA pn pc path w hr hlv hn hl hll hln hp).mono fun e w' h => by
    rw [ho] at h
    exact ⟨h.2, h.1⟩
theorem cofl_none (x : Int) (hx : -9223372036854775808 ≤ x ∧ x ≤ 9223372036854775807) (A : Option Addr) (n c : Nat) (real : List (List UInt8)) (LA : Option Addr) (ln lc : Nat) (other : List (List UInt8)) (w : World)
    (hr : Bss w A n c real) (hlv : Lv real) (hn : n ≤ 1000000) (hl : Bss w LA ln lc other) (hll : Lv other) (hln : ln ≤ 1000000) (ho : T.ofLD (bitsN x) real other = none) :
    Calls Try.prog 19 #[.agg #[.int .i64 x], .slice A n c, .slice LA ln lc] w fun e w' => e = .returned nil3 ∧ ExtW w w' :=
  (cofl_any x hx A n c real LA ln lc other w hr hlv hn hl hll hln).mono fun e w' h => by
    rw [ho] at h
    exact ⟨h.2, h.1⟩

set_option maxHeartbeats 20000000 in
set_option maxRecDepth 100000 in
theorem clashNone_walk (x : Int) (A : Option Addr) (n0 c0 : Nat) (xl : List (List UInt8)) (fr tt : Int) (w : World) (hx : -9223372036854775808 ≤ x ∧ x ≤ 9223372036854775807) (hr : Bss w A n0 c0 xl) (_hc : c0 ≤ 140737488351232)
    (_hf : -9223372036854775808 ≤ fr ∧ fr ≤ 9223372036854775807) (_ht : -9223372036854775808 ≤ tt ∧ tt ≤ 9223372036854775807) :
    Calls Try.prog 9 #[.int .i64 x, .slice A n0 c0, .int .i64 fr, .int .i64 tt] w fun e w' => e = .returned (.bool true) ∧ Below w.heap.size w w' := by
  have HX := Lib.hid hx
  have HR := Lib.hid hr
  have hbld := bldT
  clear hr _hc hx _hf _ht
  go_enter Try.func9, Try.ntmps9
  go_wp2_with fail
  refine (shown6_any _).mono ?_
  rintro e w1 ⟨rfl, hb1⟩
  have HE1 := Lib.hid hb1
  clear hb1
  go_wp2_with fail
  refine (small_any A n0 c0 xl _ (HR.out.same HE1.out)).mono ?_
  rintro e w2 ⟨v, rfl, hlot, hb⟩
  have HE2 := Lib.hid (ExtW.trans HE1.out hb)
  obtain ⟨s, hs⟩ : ∃ s, s = smallL xl := ⟨_, rfl⟩
  have HLV : Hid (∀ y ∈ s, y.length ≤ 100) := Lib.hid (fun y hy => smallL_lv xl y (by rw [← hs]; exact hy))
  have HSS : Hid (smallL s = s) := Lib.hid (by rw [hs, smallL_idem])
  have hsn := smallL_len xl
  rw [← hs] at hlot hsn
  obtain ⟨A1, c1, rfl, hbs⟩ := hlot.bss
  obtain ⟨n, hn⟩ : ∃ n, n = s.length := ⟨_, rfl⟩
  rw [← hn] at hbs hsn ⊢
  have HBS := Lib.hid hbs
  have HN : Hid (s.length = n) := Lib.hid hn.symm
  have hnc := hbs.nc
  clear hs hlot hn hbs hb HR
  have HLVS : Hid (Lv s) := Lib.hid (fun y hy => Nat.le_trans (HLV.out y hy) (by decide))
  go_upto_region 5 with (fail)
  have HT4 := Lib.hid (cell_new1 w2 (.int .i64 x) 30)
  have HE4 : Hid (ExtW w2 (w2.alloc (.cells #[.int .i64 x] 30))) := Lib.hid ((Below.refl _ _).alloc (Nat.le_refl _) _)
  generalize w2.alloc (.cells #[.int .i64 x] 30) = w4 at HT4 HE4 ⊢
  obtain ⟨gt, hgt⟩ : ∃ g, g = w2.heap.size := ⟨_, rfl⟩
  rw [← hgt] at HT4 ⊢
  have HBS4 := Lib.hid (HBS.out.same HE4.out)
  have HW4 := Lib.hid (ExtW.trans HE2.out HE4.out)
  clear hgt HE4 HE1 HE2 hbld HBS
  apply wp_region_ext _ (by kernel_rfl) (by kernel_rfl)
  (apply wpZ_det; (intro wq hE hG; have kk := (ExtW.of_drew hE).cellAt HT4.out; apply obl_val (by rfl); go_simp <;> rfl); (intro ak hak; simp only [Act.put, List.setIfInBounds_toArray, List.set_cons_succ, List.set_cons_zero] at hak; subst hak))
  iterate 2 (apply wpZ_det; (intro wq hE hG; first | exact obl_non (by rfl) | (apply obl_val (by rfl); go_simp <;> rfl)); (intro ak hak; simp only [Act.put, List.setIfInBounds_toArray, List.set_cons_succ, List.set_cons_zero] at hak; subst hak))
  apply wpZ_nd (fun v w' => ∃ A c, v = .slice A n c ∧ Bss w' A n c s) (fun v w1 w2 h hb => by obtain ⟨A, c, h1, h2⟩ := h; exact ⟨A, c, h1, h2.same hb⟩)
  · intro wq hE hG
    apply obl_on (by kernel_rfl)
    go_simp
    simp only [extUpon_enter]
    refine (small_any A1 n c1 s _ (HBS4.out.same (ExtW.of_drew hE))).mono ?_
    rintro e w' ⟨v, rfl, hlot, hb⟩
    rw [HSS.out] at hlot
    obtain ⟨A2, c2, e2, hb2⟩ := hlot.bss
    rw [HN.out] at e2 hb2
    exact ⟨v, rfl, hb, A2, c2, e2, hb2⟩
  (intro us ak hak; simp only [Act.put, List.setIfInBounds_toArray, List.set_cons_succ, List.set_cons_zero] at hak; subst hak)
  apply wpZ_det (c := nil3)
  · intro wq hE hG
    obtain ⟨A2, c2, rfl, hb2⟩ : ∃ A c, us = .slice A n c ∧ Bss wq A n c s := hG _ (List.mem_cons_self ..) (by kernel_rfl)
    apply obl_on (by kernel_rfl)
    go_simp
    simp only [extUpon_enter]
    refine (cofl_none x HX.out A1 n c1 s A2 n c2 s _ (HBS4.out.same (ExtW.of_drew hE)) HLVS.out (by omega) hb2 HLVS.out (by omega) (T.ofLD_same _ _)).mono ?_
    rintro e w' ⟨rfl, hb⟩
    exact ⟨_, rfl, hb, rfl⟩
  (intro ak hak; simp only [Act.put, List.setIfInBounds_toArray, List.set_cons_succ, List.set_cons_zero] at hak; subst hak)
  unfold nil3
  iterate 7 (apply wpZ_det; (intro wq hE hG; first | exact obl_non (by rfl) | (apply obl_val (by rfl); go_simp <;> rfl)); (intro ak hak; simp only [Act.put, List.setIfInBounds_toArray, List.set_cons_succ, List.set_cons_zero] at hak; subst hak))
  (apply wpZ_nil; intro wq hE hG)
  have HBS5 := Lib.hid (HBS4.out.same (ExtW.of_drew hE))
  have HT5 := Lib.hid ((ExtW.of_drew hE).cellAt HT4.out)
  have HW5 := Lib.hid (ExtW.trans HW4.out (ExtW.of_drew hE))
  clear hE hG HBS4 HT4 HW4
  by_cases hn0 : n = 0
  · have hz : ((n : Int) == 0) = true := by rw [beq_iff_eq]; omega
    clear hn0
    go_wp2
    go_ret
    exact ⟨rfl, HW5.out⟩
  have hz : ((n : Int) == 0) = false := by rw [beq_eq_false_iff_ne]; omega
  go_upto_block 0 with (fail)
  clear hz
  go_wp2_with fail
  go_loopw [15] (fun iv wr => ∃ (i : Nat), iv = .int .i64 i ∧ i ≤ n ∧ Hid (ExtW wq wr)) (fun iv _ => n - (intOf iv).toNat)
  case atStart => exact ⟨0, rfl, Nat.zero_le _, Lib.hid (ExtW.refl _)⟩
  case round =>
    obtain ⟨i, rfl, hin, HE⟩ := hrel
    by_cases hlt : i < n
    · have hli : (i : Int) < (n : Int) := Int.ofNat_lt.mpr hlt
      have hi0 : (0 : Int) ≤ (i : Int) := Int.natCast_nonneg _
      have HBS6 := Lib.hid (HBS5.out.same HE.out)
      have HT6 := Lib.hid (HE.out.cellAt HT5.out)
      have k1 := HT6.out
      go_wp2_with fail
      refine (mpath_ok x HX.out A1 n c1 s i wr (by omega) hlt HBS6.out HLVS.out).mono ?_
      rintro e w7 ⟨v, rfl, hown, hb⟩
      obtain ⟨a, ha⟩ : ∃ a, s[i]? = some a := ⟨_, List.getElem?_eq_getElem (by rw [HN.out]; exact hlt)⟩
      obtain ⟨QA, qc, rfl, hdl⟩ := hown.dls (T.pathD_len32 _ _ _)
      obtain ⟨pn, hpn⟩ : ∃ k, k = (T.pathD (bitsN x) s i).length := ⟨_, rfl⟩
      rw [← hpn] at hdl ⊢
      have HDL := Lib.hid hdl
      have HOO := Lib.hid (T.ofD_real (bitsN x) ha)
      have HBS7 := Lib.hid (HBS6.out.same hb)
      have HT7 := Lib.hid (hb.cellAt HT6.out)
      have HE7 := Lib.hid (ExtW.trans HE.out hb)
      cases hA : A1 with
      | none => have h3 := HBS7.out.nil0 hA; have h4 := HBS7.out.nc; omega
      | some pa =>
      obtain ⟨D, q, dd, hcell, hrd⟩ := HBS7.out.row pa hA i a ha
      subst hA
      have HC := Lib.hid hcell
      have HRD := Lib.hid hrd
      have HM : Hid (q ≤ 1000000) := Lib.hid (by
        have h1 := HLVS.out a (List.mem_of_getElem? ha)
        have h2 := hrd.len
        rw [bvs_len] at h2
        omega)
      clear hpn hown hdl hb ha hcell hrd k1 HBS6 HT6
      go_upto_region 12 with (fail)
      apply wp_region_ext _ (by kernel_rfl) (by kernel_rfl)
      (apply wpZ_det; (intro wq hE hG; have kk := (ExtW.of_drew hE).cellAt HT7.out; apply obl_val (by rfl); go_simp <;> rfl); (intro ak hak; simp only [Act.put, List.setIfInBounds_toArray, List.set_cons_succ, List.set_cons_zero] at hak; subst hak))
      iterate 5 (apply wpZ_det; (intro wq hE hG; first | exact obl_non (by rfl) | (apply obl_val (by rfl); go_simp <;> rfl)); (intro ak hak; simp only [Act.put, List.setIfInBounds_toArray, List.set_cons_succ, List.set_cons_zero] at hak; subst hak))
      (apply wpZ_det; (intro wq hE hG; have kk := (ExtW.of_drew hE).cellAt HC.out; apply obl_val (by rfl); go_simp <;> rfl); (intro ak hak; simp only [Act.put, List.setIfInBounds_toArray, List.set_cons_succ, List.set_cons_zero] at hak; subst hak))
      (apply wpZ_det; (intro wq hE hG; first | exact obl_non (by rfl) | (apply obl_val (by rfl); go_simp <;> rfl)); (intro ak hak; simp only [Act.put, List.setIfInBounds_toArray, List.set_cons_succ, List.set_cons_zero] at hak; subst hak))
      (apply wpZ_det; (intro wq hE hG; apply obl_on (by kernel_rfl); go_simp; simp only [extUpon_enter]; refine (cof_none x HX.out (some pa) n c1 s (i : Int) D q dd a QA pn qc _ _ (HBS7.out.same (ExtW.of_drew hE)) HLVS.out (by omega) (HRD.out.below (ExtW.of_drew hE) (Nat.le_refl _)) HM.out (HDL.out.same (ExtW.of_drew hE)) HOO.out).mono ?_; rintro e w' ⟨rfl, hb⟩; exact ⟨_, rfl, hb, rfl⟩); (intro ak hak; simp only [Act.put, List.setIfInBounds_toArray, List.set_cons_succ, List.set_cons_zero] at hak; subst hak))
      unfold nil3
      iterate 7 (apply wpZ_det; (intro wq hE hG; first | exact obl_non (by rfl) | (apply obl_val (by rfl); go_simp <;> rfl)); (intro ak hak; simp only [Act.put, List.setIfInBounds_toArray, List.set_cons_succ, List.set_cons_zero] at hak; subst hak))
      (apply wpZ_nil; intro wq hE hG)
      have HEQ := Lib.hid (ExtW.trans HE7.out (ExtW.of_drew hE))
      clear hE hG
      go_wp2_with fail
      go_roundw
      case rel => exact ⟨i + 1, by simp, hlt, HEQ⟩
      case measure => simp [intOf]; omega
    · have hli : ¬ (i : Int) < (n : Int) := fun h => hlt (Int.ofNat_lt.mp h)
      obtain ⟨f1, hf1, hf1b⟩ := low16 fr
      obtain ⟨f2, hf2, hf2b⟩ := low16 tt
      obtain ⟨a, ha⟩ : ∃ a, a = f1 % n := ⟨_, rfl⟩
      have han : a < n := by rw [ha]; exact Nat.mod_lt _ (by omega)
      have hm1 : (f1 : Int).tmod (n : Int) = (a : Int) := by rw [Int.tmod_eq_emod_of_nonneg (by omega), ha]; rfl
      obtain ⟨b, hb⟩ : ∃ b, b = f2 % (n - a) := ⟨_, rfl⟩
      have hbn : b < n - a := by rw [hb]; exact Nat.mod_lt _ (by omega)
      have hm2 : (f2 : Int).tmod ((n - a : Nat) : Int) = (b : Int) := by rw [Int.tmod_eq_emod_of_nonneg (by omega), hb]; rfl
      obtain ⟨k, hk⟩ : ∃ k, k = a + 1 + b := ⟨_, rfl⟩
      have hak : a < k := by omega
      have hkn : k ≤ n := by omega
      have hw1 : IntKind.i64.wrap ((a : Int) + 1) = ((a + 1 : Nat) : Int) := by rw [IntWalk.i64_in _ (by omega)]; rfl
      have hw2 : IntKind.i64.wrap ((n : Int) - (a : Int)) = ((n - a : Nat) : Int) := by rw [IntWalk.i64_in _ (by omega)]; omega
      have hw3 : IntKind.i64.wrap (((a + 1 : Nat) : Int) + (b : Int)) = (k : Int) := by rw [IntWalk.i64_in _ (by omega)]; omega
      have hz1 : ((n : Int) == 0) = false := by rw [beq_eq_false_iff_ne]; omega
      have hz2 : (((n - a : Nat) : Int) == 0) = false := by rw [beq_eq_false_iff_ne]; omega
      have k1 := HE.out.cellAt HT5.out
      have HKK : Hid ((a : Int) + 1 + (b : Int) = (k : Int)) := Lib.hid (by omega)
      clear ha hb hk hn0 hlt hin
      go_upto_region 17 with (fail)
      rw [HKK.out]
      clear hf1 hf2 hm1 hm2 hw1 hw2 hw3 hz1 hz2 hli HKK
      have haki : (a : Int) < (k : Int) := Int.ofNat_lt.mpr hak
      have hkni : (k : Int) ≤ (n : Int) := Int.ofNat_le.mpr hkn
      go_wp2_with fail
      refine (mrange_ok x HX.out A1 n c1 s (a : Int) (k : Int) wr (by omega) (Int.natCast_nonneg _) haki hkni (HBS5.out.same HE.out) HLVS.out).mono ?_
      rintro e w7 ⟨v, rfl, hown, hb⟩
      obtain ⟨bs, hbs⟩ : ∃ b, b = T.besideD (bitsN x) s (a : Int) (k : Int) := ⟨_, rfl⟩
      have HB := Lib.hid hbs
      rw [← hbs] at hown
      obtain ⟨QA, qc, rfl, hdl⟩ := hown.dls (by rw [hbs]; exact T.besideD_len32 _ _ _ _)
      obtain ⟨pn, hpn⟩ : ∃ k, k = bs.length := ⟨_, rfl⟩
      rw [← hpn] at hdl ⊢
      have HDL := Lib.hid hdl
      have HE7 := Lib.hid (ExtW.trans HE.out hb)
      have HBS7 := Lib.hid (HBS5.out.same HE7.out)
      have HT7 := Lib.hid (HE7.out.cellAt HT5.out)
      have HPT := Lib.hid (HBS7.out.cutA (i := a) (k := k) (by omega) hkn)
      have HPM : Hid (((s.take k).drop a).length = k - a) := Lib.hid (by rw [List.length_drop, List.length_take, HN.out]; omega)
      have HLVP : Hid (Lv ((s.take k).drop a)) := Lib.hid ((HLVS.out.take k).drop a)
      have HOO : Hid (T.ofRD (bitsN x) s (a : Int) ((s.take k).drop a) bs = none) := Lib.hid (by
        have h1 := part_iff (s := s) (t := (s.take k).drop a) (aN := a) (m := k - a) HPM.out (by rw [HN.out]; omega)
        have h2 := T.ofRD_real (bitsN x) (real := s) (part := (s.take k).drop a) (m := k - a) (a := (a : Int)) HPM.out (by omega) (Int.natCast_nonneg _) (by rw [HN.out]; omega) (h1.1 (by rw [List.drop_take]))
        rw [show (a : Int) + ((k - a : Nat) : Int) = (k : Int) by omega, ← HB.out] at h2
        exact h2)
      have hcut := run_cutA A1 n c1 a k (by omega) hkn hnc
      clear hpn hown hdl hb hbs k1
      go_upto_region 18 with (fail)
      apply wp_region_ext _ (by kernel_rfl) (by kernel_rfl)
      (apply wpZ_det; (intro wq hE hG; have kk := (ExtW.of_drew hE).cellAt HT7.out; apply obl_val (by rfl); go_simp <;> rfl); (intro ak hak; simp only [Act.put, List.setIfInBounds_toArray, List.set_cons_succ, List.set_cons_zero] at hak; subst hak))
      iterate 7 (apply wpZ_det; (intro wq hE hG; first | exact obl_non (by rfl) | (apply obl_val (by rfl); go_simp <;> rfl)); (intro ak hak; simp only [Act.put, List.setIfInBounds_toArray, List.set_cons_succ, List.set_cons_zero] at hak; subst hak))
      (apply wpZ_det; (intro wq hE hG; apply obl_on (by kernel_rfl); go_simp; simp only [extUpon_enter]; refine (cofr_none x HX.out A1 n c1 s (a : Int) (by omega) (cutA A1 c1 a) (k - a) (c1 - a) ((s.take k).drop a) QA pn qc bs _ (HBS7.out.same (ExtW.of_drew hE)) HLVS.out (by omega) (HPT.out.same (ExtW.of_drew hE)) HLVP.out (by omega) (HDL.out.same (ExtW.of_drew hE)) HOO.out).mono ?_; rintro e w' ⟨rfl, hb⟩; exact ⟨_, rfl, hb, rfl⟩); (intro ak hak; simp only [Act.put, List.setIfInBounds_toArray, List.set_cons_succ, List.set_cons_zero] at hak; subst hak))
      unfold nil3
      iterate 7 (apply wpZ_det; (intro wq hE hG; first | exact obl_non (by rfl) | (apply obl_val (by rfl); go_simp <;> rfl)); (intro ak hak; simp only [Act.put, List.setIfInBounds_toArray, List.set_cons_succ, List.set_cons_zero] at hak; subst hak))
      (apply wpZ_nil; intro wq hE hG)
      have HEZ := Lib.hid (ExtW.trans HW5.out (ExtW.trans HE7.out (ExtW.of_drew hE)))
      clear hE hG
      go_wp2
      go_ret
      exact ⟨rfl, HEZ.out⟩
end Go.Proofs.Ythaoibgcgkmnbaa
