/- Walk of ClashLists. -/
import Derived.Test.YthaoibgcgkmnbaaS6
import Derived.Test.YthaoibgcgkmnbaaSmall6
import Derived.Test.YthaoibgcgkmnbaaCt
import Derived.Test.YthaoibgcgkmnbaaBldt
namespace Go.Proofs.Ythaoibgcgkmnbaa
set_option maxRecDepth 100000
open Go.RowKit

theorem take_eq_succ {l m : List (List UInt8)} {i : Nat} {a b : List UInt8} (h : l.take i = m.take i) (ha : l[i]? = some a) (hb : m[i]? = some b) : (l.take (i + 1) = m.take (i + 1)) ↔ a = b := by
  rw [List.take_add_one, List.take_add_one, h, ha, hb]
  simp
theorem take_full {l m : List (List UInt8)} {i : Nat} (hl : l.length ≤ i) (hm : m.length ≤ i) (h : l.take i = m.take i) : l = m := by
  rwa [List.take_of_length_le hl, List.take_of_length_le hm] at h

set_option maxHeartbeats 20000000 in
set_option maxRecDepth 100000 in
theorem clashLists_walk (x : Int) (A : Option Addr) (n0 c0 : Nat) (xl : List (List UInt8)) (B : Option Addr) (m0 d0 : Nat) (yl : List (List UInt8)) (w : World) (hx : -9223372036854775808 ≤ x ∧ x ≤ 9223372036854775807) (hr : Bss w A n0 c0 xl) (_hc : c0 ≤ 140737488351232) (hs : Bss w B m0 d0 yl) (_hd : d0 ≤ 140737488351232) :
    Calls Try.prog 5 #[.int .i64 x, .slice A n0 c0, .slice B m0 d0] w fun e w' => e = .returned (.bool true) ∧ Below w.heap.size w w' := by
  have HX := Lib.hid hx
  have HR := Lib.hid hr
  have HS := Lib.hid hs
  have hbld := bldT
  clear hr hs _hc _hd hx
  go_enter Try.func5, Try.ntmps5
  go_wp2_with fail
  refine (shown6_any _).mono ?_
  rintro e w1 ⟨rfl, hb1⟩
  have HE1 := Lib.hid hb1
  clear hb1
  go_wp2_with fail
  refine (small_any A n0 c0 xl _ (HR.out.same HE1.out)).mono ?_
  rintro e w2 ⟨v, rfl, hlot, hb⟩
  have HE2 := Lib.hid (ExtW.trans HE1.out hb)
  obtain ⟨s, hs⟩ : ∃ s, s = smallL xl := ⟨_, rfl⟩
  have HLV : Hid (∀ y ∈ s, y.length ≤ 100) := Lib.hid (fun y hy => smallL_lv xl y (by rw [← hs]; exact hy))
  have hsn := smallL_len xl
  rw [← hs] at hlot hsn
  obtain ⟨A1, c1, rfl, hbs⟩ := hlot.bss
  obtain ⟨n, hn⟩ : ∃ n, n = s.length := ⟨_, rfl⟩
  rw [← hn] at hbs hsn ⊢
  have HBS := Lib.hid hbs
  have HN : Hid (s.length = n) := Lib.hid hn.symm
  clear hs hlot hn hbs hb
  go_wp2_with fail
  refine (small_any B m0 d0 yl _ (HS.out.same HE2.out)).mono ?_
  rintro e w3 ⟨v, rfl, hlot, hb⟩
  have HE3 := Lib.hid (ExtW.trans HE2.out hb)
  have HBS3 := Lib.hid (HBS.out.same hb)
  obtain ⟨t, ht⟩ : ∃ t, t = smallL yl := ⟨_, rfl⟩
  have HTV : Hid (∀ y ∈ t, y.length ≤ 100) := Lib.hid (fun y hy => smallL_lv yl y (by rw [← ht]; exact hy))
  have htn := smallL_len yl
  rw [← ht] at hlot htn
  obtain ⟨B1, d1, rfl, hbt⟩ := hlot.bss
  obtain ⟨m, hm⟩ : ∃ m, m = t.length := ⟨_, rfl⟩
  rw [← hm] at hbt htn ⊢
  have HBT3 := Lib.hid hbt
  have HM : Hid (t.length = m) := Lib.hid hm.symm
  clear ht hlot hm hbt hb HBS HR HS
  have HLVS : Hid (Lv s) := Lib.hid (fun y hy => Nat.le_trans (HLV.out y hy) (by decide))
  have HLVT : Hid (Lv t) := Lib.hid (fun y hy => Nat.le_trans (HTV.out y hy) (by decide))
  go_upto_region 5 with (fail)
  have HT4 := Lib.hid (cell_new1 w3 (.int .i64 x) 30)
  have HE4 : Hid (ExtW w3 (w3.alloc (.cells #[.int .i64 x] 30))) := Lib.hid ((Below.refl _ _).alloc (Nat.le_refl _) _)
  generalize w3.alloc (.cells #[.int .i64 x] 30) = w4 at HT4 HE4 ⊢
  obtain ⟨gt, hgt⟩ : ∃ g, g = w3.heap.size := ⟨_, rfl⟩
  rw [← hgt] at HT4 ⊢
  have HBS4 := Lib.hid (HBS3.out.same HE4.out)
  have HBT4 := Lib.hid (HBT3.out.same HE4.out)
  have HW4 := Lib.hid (ExtW.trans HE3.out HE4.out)
  clear hgt HBS3 HBT3 HE3 HE4 HE1 HE2 hbld
  have k1 := HT4.out
  go_wp2_with fail
  refine (cofl_any x HX.out A1 n c1 s B1 m d1 t w4 HBS4.out HLVS.out (by omega) HBT4.out HLVT.out (by omega)).mono ?_
  intro e w5 h
  have HT5 := Lib.hid (h.1.cellAt HT4.out)
  have HBS5 := Lib.hid (HBS4.out.same h.1)
  have HBT5 := Lib.hid (HBT4.out.same h.1)
  have HW5 := Lib.hid (ExtW.trans HW4.out h.1)
  obtain ⟨ra, rl, rc, rb, rm, rd, ok, rfl⟩ := h.two
  have HO := Lib.hid h
  clear h k1 HT4 HBS4 HBT4 HW4
  -- the loop
  go_upto_block 0 with (fail)
  go_wp2_with fail
  go_loopw [12, 13] (fun av iv wr => ∃ (i : Nat) (al : Bool), iv = .int .i64 i ∧ av = .bool al ∧ i ≤ n ∧ Hid (al = decide (n = m ∧ s.take i = t.take i)) ∧ Hid (i = 0 ∨ n = m) ∧ Hid (ExtW w5 wr)) (fun _ iv _ => n - (intOf iv).toNat)
  case atStart => exact ⟨0, (n : Int) == (m : Int), rfl, rfl, Nat.zero_le _, Lib.hid (by
    by_cases h : n = m
    · subst h; simp
    · have h2 : ((n : Int) == (m : Int)) = false := by rw [beq_eq_false_iff_ne]; omega
      rw [h2]; simp [h]), Lib.hid (.inl rfl), Lib.hid (ExtW.refl _)⟩
  case round =>
    obtain ⟨i, al, rfl, rfl, hin, HAL, HNM, HE⟩ := hrel
    by_cases hlt : i < n
    · have hli : (i : Int) < (n : Int) := Int.ofNat_lt.mpr hlt
      cases al with
      | true =>
        have hal : n = m ∧ s.take i = t.take i := of_decide_eq_true HAL.out.symm
        obtain ⟨hnm, htk⟩ := hal
        have hli2 : (i : Int) < (m : Int) := Int.ofNat_lt.mpr (hnm ▸ hlt)
        have hi0 : (0 : Int) ≤ (i : Int) := Int.natCast_nonneg _
        obtain ⟨a, ha⟩ : ∃ a, s[i]? = some a := ⟨_, List.getElem?_eq_getElem (by rw [HN.out]; exact hlt)⟩
        obtain ⟨b, hb⟩ : ∃ b, t[i]? = some b := ⟨_, List.getElem?_eq_getElem (by rw [HM.out, ← hnm]; exact hlt)⟩
        cases hA : A1 with
        | none => have h3 := HBS5.out.nil0 hA; have h4 := HBS5.out.nc; omega
        | some pa =>
        cases hB : B1 with
        | none => have h3 := HBT5.out.nil0 hB; have h4 := HBT5.out.nc; omega
        | some pb =>
        obtain ⟨D, q, dd, hcell, hrd⟩ := HBS5.out.row pa hA i a ha
        obtain ⟨F, r, ff, hcell2, hrd2⟩ := HBT5.out.row pb hB i b hb
        subst hA hB
        have HC1 := Lib.hid (HE.out.cellAt hcell)
        have HC2 := Lib.hid (HE.out.cellAt hcell2)
        have HR1 := Lib.hid (hrd.below HE.out (Nat.le_refl _))
        have HR2 := Lib.hid (hrd2.below HE.out (Nat.le_refl _))
        have HTK : Hid ((s.take (i + 1) = t.take (i + 1)) ↔ a = b) := Lib.hid (take_eq_succ htk ha hb)
        have HNN : Hid (n = m) := Lib.hid hnm
        clear hcell hcell2 hrd hrd2 ha hb htk hnm
        go_upto_region 10 with (fail)
        have HQ : Hid (∃ al' : Bool, al' = decide (a = b)) := Lib.hid ⟨_, rfl⟩
        obtain ⟨al', hal'⟩ := HQ.out
        have HALN := Lib.hid hal'
        clear hal' HQ
        apply wp_region_ext_tail 11 _ (by kernel_rfl) (by kernel_rfl)
        simp only [List.take_succ_cons, List.take_zero, List.drop_succ_cons, List.drop_zero]
        iterate 3 (apply wpZ_det; (intro wq hE hG; first | exact obl_non (by rfl) | (apply obl_val (by rfl); go_simp <;> rfl)); (intro ak hak; simp only [Act.put, List.setIfInBounds_toArray, List.set_cons_succ, List.set_cons_zero] at hak; subst hak))
        (apply wpZ_det; (intro wq hE hG; have kk := (ExtW.of_drew hE).cellAt HC1.out; apply obl_val (by rfl); go_simp <;> rfl); (intro ak hak; simp only [Act.put, List.setIfInBounds_toArray, List.set_cons_succ, List.set_cons_zero] at hak; subst hak))
        (apply wpZ_det; (intro wq hE hG; have kk := conv_str (HR1.out.below (ExtW.of_drew hE) (Nat.le_refl _)); apply obl_val (by rfl); go_simp <;> rfl); (intro ak hak; simp only [Act.put, List.setIfInBounds_toArray, List.set_cons_succ, List.set_cons_zero] at hak; subst hak))
        iterate 3 (apply wpZ_det; (intro wq hE hG; first | exact obl_non (by rfl) | (apply obl_val (by rfl); go_simp <;> rfl)); (intro ak hak; simp only [Act.put, List.setIfInBounds_toArray, List.set_cons_succ, List.set_cons_zero] at hak; subst hak))
        (apply wpZ_det; (intro wq hE hG; have kk := (ExtW.of_drew hE).cellAt HC2.out; apply obl_val (by rfl); go_simp <;> rfl); (intro ak hak; simp only [Act.put, List.setIfInBounds_toArray, List.set_cons_succ, List.set_cons_zero] at hak; subst hak))
        (apply wpZ_det; (intro wq hE hG; have kk := conv_str (HR2.out.below (ExtW.of_drew hE) (Nat.le_refl _)); apply obl_val (by rfl); go_simp <;> rfl); (intro ak hak; simp only [Act.put, List.setIfInBounds_toArray, List.set_cons_succ, List.set_cons_zero] at hak; subst hak))
        (apply wpZ_det (c := .bool al'); (intro wq hE hG; exact obl_same (by rfl) (by go_simp; rfl) (by rw [HALN.out, list_beq])); (intro ak hak; simp only [Act.put, List.setIfInBounds_toArray, List.set_cons_succ, List.set_cons_zero] at hak; subst hak))
        (apply wpZ_nil; intro wq hE hG)
        have HEQ := Lib.hid (ExtW.trans HE.out (ExtW.of_drew hE))
        clear hE hG
        go_wp2_with fail
        go_roundw
        case rel => exact ⟨i + 1, al', by simp, rfl, hlt, Lib.hid (by
          rw [HALN.out]
          by_cases hab : a = b
          · rw [decide_eq_true hab, decide_eq_true ⟨HNN.out, HTK.out.2 hab⟩]
          · rw [decide_eq_false hab, decide_eq_false fun h => hab (HTK.out.1 h.2)]), Lib.hid (.inr HNN.out), HEQ⟩
        case measure => simp [intOf]; omega
      | false =>
        have HF : Hid (s ≠ t) := Lib.hid (by
          rintro rfl
          exact of_decide_eq_false HAL.out.symm ⟨by rw [← HN.out, ← HM.out], rfl⟩)
        clear HAL HNM
        by_cases hnm : n = m
        · have hne : ((n : Int) != (m : Int)) = false := by rw [bne_eq_false_iff_eq]; omega
          obtain ⟨ds, hds⟩ : ∃ d, d = T.rootD (bitsN x) s := ⟨_, rfl⟩
          obtain ⟨dt, hdt⟩ : ∃ d, d = T.rootD (bitsN x) t := ⟨_, rfl⟩
          have HDS := Lib.hid hds
          have HDT := Lib.hid hdt
          have HLS : Hid (ds.length = 32) := Lib.hid (by rw [hds]; exact T.rootD_len _ _)
          have HLT : Hid (dt.length = 32) := Lib.hid (by rw [hdt]; exact T.rootD_len _ _)
          by_cases hroot : ds = dt
          · have hsm := T.ofLD_some (B := bitsN x) (real := s) (other := t) (by rw [HN.out, HM.out]; exact hnm) (by rw [← hds, ← hdt]; exact hroot) HF.out
            obtain ⟨u, v, huv, hne2, hcl⟩ := hsm
            have hsz := T.ofLD_small (M := 101) (by decide) (fun y hy => Nat.succ_le_succ (HTV.out y hy)) (fun y hy => Nat.succ_le_succ (HLV.out y hy)) huv
            have HON := HO.out
            rw [huv] at HON
            obtain ⟨_, ra', rl', rc', rb', rm', rd', h3, hru, hrv⟩ := HON
            injection h3 with h3
            injection h3 with h3
            simp at h3
            obtain ⟨⟨rfl, rfl, rfl⟩, ⟨rfl, rfl, rfl⟩, rfl⟩ := h3
            have HRU := Lib.hid (hru.below HE.out (Nat.le_refl _))
            have HRV := Lib.hid (hrv.below HE.out (Nat.le_refl _))
            have HLU : Hid (rl ≤ 101) := Lib.hid (by have h := hru.len; rw [bvs_len] at h; omega)
            have HLW : Hid (rm ≤ 101) := Lib.hid (by have h := hrv.len; rw [bvs_len] at h; omega)
            have HNE2 := Lib.hid hne2
            have HCL := Lib.hid hcl
            have HRT : Hid ((!decide (ds = dt)) = false) := Lib.hid (by simp [hroot])
            clear huv hne2 hcl hsz hru hrv hds hdt hroot hnm
            go_upto_region 11 with (fail)
            apply wp_region_ext _ (by kernel_rfl) (by kernel_rfl)
            iterate 9 (apply wpZ_det; (intro wq hE hG; first | exact obl_non (by rfl) | (apply obl_val (by rfl); go_simp <;> rfl)); (intro ak hak; simp only [Act.put, List.setIfInBounds_toArray, List.set_cons_succ, List.set_cons_zero] at hak; subst hak))
            (apply wpZ_det; (intro wq hE hG; have kk := (ExtW.of_drew hE).cellAt (HE.out.cellAt HT5.out); apply obl_val (by rfl); go_simp <;> rfl); (intro ak hak; simp only [Act.put, List.setIfInBounds_toArray, List.set_cons_succ, List.set_cons_zero] at hak; subst hak))
            (apply wpZ_det; (intro wq hE hG; first | exact obl_non (by rfl) | (apply obl_val (by rfl); go_simp <;> rfl)); (intro ak hak; simp only [Act.put, List.setIfInBounds_toArray, List.set_cons_succ, List.set_cons_zero] at hak; subst hak))
            (apply wpZ_det (c := dgV ds); (intro wq hE hG; apply obl_on (by kernel_rfl); go_simp; simp only [extUpon_enter]; refine (root_any x HX.out (n + 1) _ n c1 _ _ (by omega) ((HBS5.out.same HE.out).same (ExtW.of_drew hE)) HLVS.out).mono ?_; rintro e w' ⟨rfl, hb⟩; exact ⟨_, rfl, hb, by rw [HDS.out]⟩); (intro ak hak; simp only [Act.put, List.setIfInBounds_toArray, List.set_cons_succ, List.set_cons_zero] at hak; subst hak))
            (apply wpZ_det; (intro wq hE hG; have kk := (ExtW.of_drew hE).cellAt (HE.out.cellAt HT5.out); apply obl_val (by rfl); go_simp <;> rfl); (intro ak hak; simp only [Act.put, List.setIfInBounds_toArray, List.set_cons_succ, List.set_cons_zero] at hak; subst hak))
            (apply wpZ_det; (intro wq hE hG; first | exact obl_non (by rfl) | (apply obl_val (by rfl); go_simp <;> rfl)); (intro ak hak; simp only [Act.put, List.setIfInBounds_toArray, List.set_cons_succ, List.set_cons_zero] at hak; subst hak))
            (apply wpZ_det (c := dgV dt); (intro wq hE hG; apply obl_on (by kernel_rfl); go_simp; simp only [extUpon_enter]; refine (root_any x HX.out (m + 1) _ m d1 _ _ (by omega) ((HBT5.out.same HE.out).same (ExtW.of_drew hE)) HLVT.out).mono ?_; rintro e w' ⟨rfl, hb⟩; exact ⟨_, rfl, hb, by rw [HDT.out]⟩); (intro ak hak; simp only [Act.put, List.setIfInBounds_toArray, List.set_cons_succ, List.set_cons_zero] at hak; subst hak))
            (apply wpZ_det; (intro wq hE hG; exact obl_neD (by rfl) rfl rfl rfl (HLS.out) (HLT.out) (HRT.out)); (intro ak hak; simp only [Act.put, List.setIfInBounds_toArray, List.set_cons_succ, List.set_cons_zero] at hak; subst hak))
            (apply wpZ_det; (intro wq hE hG; first | exact obl_non (by rfl) | (apply obl_val (by rfl); go_simp <;> rfl)); (intro ak hak; simp only [Act.put, List.setIfInBounds_toArray, List.set_cons_succ, List.set_cons_zero] at hak; subst hak))
            (apply wpZ_nil; intro wq hE hG)
            have HEQ := Lib.hid (ExtW.trans HE.out (ExtW.of_drew hE))
            have HRU2 := Lib.hid (HRU.out.below (ExtW.of_drew hE) (Nat.le_refl _))
            have HRV2 := Lib.hid (HRV.out.below (ExtW.of_drew hE) (Nat.le_refl _))
            clear hE hG hne HRT HRU HRV
            have s1 := conv_str HRU2.out
            have s2 := conv_str HRV2.out
            obtain ⟨sx, hsx⟩ : ∃ s, s = (⟨u.toArray⟩ : ByteArray) := ⟨_, rfl⟩
            obtain ⟨sy, hsy⟩ : ∃ s, s = (⟨v.toArray⟩ : ByteArray) := ⟨_, rfl⟩
            have hs2 : (sx.toList == sy.toList) = false := by
              rw [beq_eq_false_iff_ne, hsx, hsy, ByteArray.toList_eq, ByteArray.toList_eq]
              simpa using HNE2.out
            have hss : ¬ sx = sy := fun e => HNE2.out (ba_inj (by rw [← hsx, ← hsy, e]))
            rw [← hsx] at s1
            rw [← hsy] at s2
            clear hsx hsy
            have k1 := HEQ.out.cellAt HT5.out
            go_wp2_with fail
            refine (cot_any x HX.out ra rl rc u rb rm rd v wq HRU2.out (Nat.le_trans HLU.out (by decide)) HRV2.out (Nat.le_trans HLW.out (by decide))).mono ?_
            rintro e w7 ⟨rfl, hb⟩
            rw [HCL.out]
            have HEZ := Lib.hid (ExtW.trans HW5.out (ExtW.trans HEQ.out hb))
            clear hb s1 s2 hs2 hss k1
            go_wp2
            go_ret
            exact ⟨rfl, HEZ.out⟩
          · have HOO : Hid (T.ofLD (bitsN x) s t = none) := Lib.hid (T.ofLD_root (by rw [← hds, ← hdt]; exact hroot))
            have HRT : Hid ((!decide (ds = dt)) = true) := Lib.hid (by simp [hroot])
            clear hds hdt hroot hnm
            have HON := HO.out
            rw [HOO.out] at HON
            obtain ⟨_, h3⟩ := HON
            simp only at h3
            injection h3 with h3
            injection h3 with h3
            simp at h3
            obtain ⟨⟨rfl, rfl, rfl⟩, ⟨rfl, rfl, rfl⟩, rfl⟩ := h3
            go_upto_region 11 with (fail)
            apply wp_region_ext _ (by kernel_rfl) (by kernel_rfl)
            iterate 9 (apply wpZ_det; (intro wq hE hG; first | exact obl_non (by rfl) | (apply obl_val (by rfl); go_simp <;> rfl)); (intro ak hak; simp only [Act.put, List.setIfInBounds_toArray, List.set_cons_succ, List.set_cons_zero] at hak; subst hak))
            (apply wpZ_det; (intro wq hE hG; have kk := (ExtW.of_drew hE).cellAt (HE.out.cellAt HT5.out); apply obl_val (by rfl); go_simp <;> rfl); (intro ak hak; simp only [Act.put, List.setIfInBounds_toArray, List.set_cons_succ, List.set_cons_zero] at hak; subst hak))
            (apply wpZ_det; (intro wq hE hG; first | exact obl_non (by rfl) | (apply obl_val (by rfl); go_simp <;> rfl)); (intro ak hak; simp only [Act.put, List.setIfInBounds_toArray, List.set_cons_succ, List.set_cons_zero] at hak; subst hak))
            (apply wpZ_det (c := dgV ds); (intro wq hE hG; apply obl_on (by kernel_rfl); go_simp; simp only [extUpon_enter]; refine (root_any x HX.out (n + 1) _ n c1 _ _ (by omega) ((HBS5.out.same HE.out).same (ExtW.of_drew hE)) HLVS.out).mono ?_; rintro e w' ⟨rfl, hb⟩; exact ⟨_, rfl, hb, by rw [HDS.out]⟩); (intro ak hak; simp only [Act.put, List.setIfInBounds_toArray, List.set_cons_succ, List.set_cons_zero] at hak; subst hak))
            (apply wpZ_det; (intro wq hE hG; have kk := (ExtW.of_drew hE).cellAt (HE.out.cellAt HT5.out); apply obl_val (by rfl); go_simp <;> rfl); (intro ak hak; simp only [Act.put, List.setIfInBounds_toArray, List.set_cons_succ, List.set_cons_zero] at hak; subst hak))
            (apply wpZ_det; (intro wq hE hG; first | exact obl_non (by rfl) | (apply obl_val (by rfl); go_simp <;> rfl)); (intro ak hak; simp only [Act.put, List.setIfInBounds_toArray, List.set_cons_succ, List.set_cons_zero] at hak; subst hak))
            (apply wpZ_det (c := dgV dt); (intro wq hE hG; apply obl_on (by kernel_rfl); go_simp; simp only [extUpon_enter]; refine (root_any x HX.out (m + 1) _ m d1 _ _ (by omega) ((HBT5.out.same HE.out).same (ExtW.of_drew hE)) HLVT.out).mono ?_; rintro e w' ⟨rfl, hb⟩; exact ⟨_, rfl, hb, by rw [HDT.out]⟩); (intro ak hak; simp only [Act.put, List.setIfInBounds_toArray, List.set_cons_succ, List.set_cons_zero] at hak; subst hak))
            (apply wpZ_det; (intro wq hE hG; exact obl_neD (by rfl) rfl rfl rfl (HLS.out) (HLT.out) (HRT.out)); (intro ak hak; simp only [Act.put, List.setIfInBounds_toArray, List.set_cons_succ, List.set_cons_zero] at hak; subst hak))
            (apply wpZ_det; (intro wq hE hG; first | exact obl_non (by rfl) | (apply obl_val (by rfl); go_simp <;> rfl)); (intro ak hak; simp only [Act.put, List.setIfInBounds_toArray, List.set_cons_succ, List.set_cons_zero] at hak; subst hak))
            (apply wpZ_nil; intro wq hE hG)
            have HEQ := Lib.hid (ExtW.trans HW5.out (ExtW.trans HE.out (ExtW.of_drew hE)))
            clear hE hG
            go_wp2
            go_ret
            exact ⟨rfl, HEQ.out⟩
        · have HOO : Hid (T.ofLD (bitsN x) s t = none) := Lib.hid (T.ofLD_len (by rw [HN.out, HM.out]; exact hnm))
          have hne : ((n : Int) != (m : Int)) = true := by rw [bne_iff_ne]; omega
          clear hnm
          have HON := HO.out
          rw [HOO.out] at HON
          obtain ⟨_, h3⟩ := HON
          simp only at h3
          injection h3 with h3
          injection h3 with h3
          simp at h3
          obtain ⟨⟨rfl, rfl, rfl⟩, ⟨rfl, rfl, rfl⟩, rfl⟩ := h3
          go_upto_region 11 with (fail)
          apply wp_region_ext _ (by kernel_rfl) (by kernel_rfl)
          iterate 17 (apply wpZ_det; (intro wq hE hG; first | exact obl_non (by rfl) | (apply obl_val (by rfl); go_simp <;> rfl)); (intro ak hak; simp only [Act.put, List.setIfInBounds_toArray, List.set_cons_succ, List.set_cons_zero] at hak; subst hak))
          (apply wpZ_nil; intro wq hE hG)
          have HEQ := Lib.hid (ExtW.trans HW5.out (ExtW.trans HE.out (ExtW.of_drew hE)))
          clear hE hG
          go_wp2
          go_ret
          exact ⟨rfl, HEQ.out⟩
    · have hli : ¬ (i : Int) < (n : Int) := fun h => hlt (Int.ofNat_lt.mp h)
      cases al with
      | true =>
        have hal : n = m ∧ s.take i = t.take i := of_decide_eq_true HAL.out.symm
        have HT : Hid (s = t) := Lib.hid (take_full (by rw [HN.out]; exact Nat.le_of_not_lt hlt) (by rw [HM.out, ← hal.1]; exact Nat.le_of_not_lt hlt) hal.2)
        clear HAL HNM hal
        have HOO : Hid (T.ofLD (bitsN x) s t = none) := Lib.hid (by rw [← HT.out]; exact T.ofLD_same _ _)
        have HON := HO.out
        rw [HOO.out] at HON
        obtain ⟨_, h3⟩ := HON
        simp only at h3
        injection h3 with h3
        injection h3 with h3
        simp at h3
        obtain ⟨⟨rfl, rfl, rfl⟩, ⟨rfl, rfl, rfl⟩, rfl⟩ := h3
        go_upto_region 11 with (fail)
        apply wp_region_ext _ (by kernel_rfl) (by kernel_rfl)
        iterate 17 (apply wpZ_det; (intro wq hE hG; first | exact obl_non (by rfl) | (apply obl_val (by rfl); go_simp <;> rfl)); (intro ak hak; simp only [Act.put, List.setIfInBounds_toArray, List.set_cons_succ, List.set_cons_zero] at hak; subst hak))
        (apply wpZ_nil; intro wq hE hG)
        have HEQ := Lib.hid (ExtW.trans HW5.out (ExtW.trans HE.out (ExtW.of_drew hE)))
        clear hE hG
        go_wp2
        go_ret
        exact ⟨rfl, HEQ.out⟩
      | false =>
        have HF : Hid (s ≠ t) := Lib.hid (by
          rintro rfl
          exact of_decide_eq_false HAL.out.symm ⟨by rw [← HN.out, ← HM.out], rfl⟩)
        clear HAL HNM
        by_cases hnm : n = m
        · have hne : ((n : Int) != (m : Int)) = false := by rw [bne_eq_false_iff_eq]; omega
          obtain ⟨ds, hds⟩ : ∃ d, d = T.rootD (bitsN x) s := ⟨_, rfl⟩
          obtain ⟨dt, hdt⟩ : ∃ d, d = T.rootD (bitsN x) t := ⟨_, rfl⟩
          have HDS := Lib.hid hds
          have HDT := Lib.hid hdt
          have HLS : Hid (ds.length = 32) := Lib.hid (by rw [hds]; exact T.rootD_len _ _)
          have HLT : Hid (dt.length = 32) := Lib.hid (by rw [hdt]; exact T.rootD_len _ _)
          by_cases hroot : ds = dt
          · have hsm := T.ofLD_some (B := bitsN x) (real := s) (other := t) (by rw [HN.out, HM.out]; exact hnm) (by rw [← hds, ← hdt]; exact hroot) HF.out
            obtain ⟨u, v, huv, hne2, hcl⟩ := hsm
            have hsz := T.ofLD_small (M := 101) (by decide) (fun y hy => Nat.succ_le_succ (HTV.out y hy)) (fun y hy => Nat.succ_le_succ (HLV.out y hy)) huv
            have HON := HO.out
            rw [huv] at HON
            obtain ⟨_, ra', rl', rc', rb', rm', rd', h3, hru, hrv⟩ := HON
            injection h3 with h3
            injection h3 with h3
            simp at h3
            obtain ⟨⟨rfl, rfl, rfl⟩, ⟨rfl, rfl, rfl⟩, rfl⟩ := h3
            have HRU := Lib.hid (hru.below HE.out (Nat.le_refl _))
            have HRV := Lib.hid (hrv.below HE.out (Nat.le_refl _))
            have HLU : Hid (rl ≤ 101) := Lib.hid (by have h := hru.len; rw [bvs_len] at h; omega)
            have HLW : Hid (rm ≤ 101) := Lib.hid (by have h := hrv.len; rw [bvs_len] at h; omega)
            have HNE2 := Lib.hid hne2
            have HCL := Lib.hid hcl
            have HRT : Hid ((!decide (ds = dt)) = false) := Lib.hid (by simp [hroot])
            clear huv hne2 hcl hsz hru hrv hds hdt hroot hnm
            go_upto_region 11 with (fail)
            apply wp_region_ext _ (by kernel_rfl) (by kernel_rfl)
            iterate 9 (apply wpZ_det; (intro wq hE hG; first | exact obl_non (by rfl) | (apply obl_val (by rfl); go_simp <;> rfl)); (intro ak hak; simp only [Act.put, List.setIfInBounds_toArray, List.set_cons_succ, List.set_cons_zero] at hak; subst hak))
            (apply wpZ_det; (intro wq hE hG; have kk := (ExtW.of_drew hE).cellAt (HE.out.cellAt HT5.out); apply obl_val (by rfl); go_simp <;> rfl); (intro ak hak; simp only [Act.put, List.setIfInBounds_toArray, List.set_cons_succ, List.set_cons_zero] at hak; subst hak))
            (apply wpZ_det; (intro wq hE hG; first | exact obl_non (by rfl) | (apply obl_val (by rfl); go_simp <;> rfl)); (intro ak hak; simp only [Act.put, List.setIfInBounds_toArray, List.set_cons_succ, List.set_cons_zero] at hak; subst hak))
            (apply wpZ_det (c := dgV ds); (intro wq hE hG; apply obl_on (by kernel_rfl); go_simp; simp only [extUpon_enter]; refine (root_any x HX.out (n + 1) _ n c1 _ _ (by omega) ((HBS5.out.same HE.out).same (ExtW.of_drew hE)) HLVS.out).mono ?_; rintro e w' ⟨rfl, hb⟩; exact ⟨_, rfl, hb, by rw [HDS.out]⟩); (intro ak hak; simp only [Act.put, List.setIfInBounds_toArray, List.set_cons_succ, List.set_cons_zero] at hak; subst hak))
            (apply wpZ_det; (intro wq hE hG; have kk := (ExtW.of_drew hE).cellAt (HE.out.cellAt HT5.out); apply obl_val (by rfl); go_simp <;> rfl); (intro ak hak; simp only [Act.put, List.setIfInBounds_toArray, List.set_cons_succ, List.set_cons_zero] at hak; subst hak))
            (apply wpZ_det; (intro wq hE hG; first | exact obl_non (by rfl) | (apply obl_val (by rfl); go_simp <;> rfl)); (intro ak hak; simp only [Act.put, List.setIfInBounds_toArray, List.set_cons_succ, List.set_cons_zero] at hak; subst hak))
            (apply wpZ_det (c := dgV dt); (intro wq hE hG; apply obl_on (by kernel_rfl); go_simp; simp only [extUpon_enter]; refine (root_any x HX.out (m + 1) _ m d1 _ _ (by omega) ((HBT5.out.same HE.out).same (ExtW.of_drew hE)) HLVT.out).mono ?_; rintro e w' ⟨rfl, hb⟩; exact ⟨_, rfl, hb, by rw [HDT.out]⟩); (intro ak hak; simp only [Act.put, List.setIfInBounds_toArray, List.set_cons_succ, List.set_cons_zero] at hak; subst hak))
            (apply wpZ_det; (intro wq hE hG; exact obl_neD (by rfl) rfl rfl rfl (HLS.out) (HLT.out) (HRT.out)); (intro ak hak; simp only [Act.put, List.setIfInBounds_toArray, List.set_cons_succ, List.set_cons_zero] at hak; subst hak))
            (apply wpZ_det; (intro wq hE hG; first | exact obl_non (by rfl) | (apply obl_val (by rfl); go_simp <;> rfl)); (intro ak hak; simp only [Act.put, List.setIfInBounds_toArray, List.set_cons_succ, List.set_cons_zero] at hak; subst hak))
            (apply wpZ_nil; intro wq hE hG)
            have HEQ := Lib.hid (ExtW.trans HE.out (ExtW.of_drew hE))
            have HRU2 := Lib.hid (HRU.out.below (ExtW.of_drew hE) (Nat.le_refl _))
            have HRV2 := Lib.hid (HRV.out.below (ExtW.of_drew hE) (Nat.le_refl _))
            clear hE hG hne HRT HRU HRV
            have s1 := conv_str HRU2.out
            have s2 := conv_str HRV2.out
            obtain ⟨sx, hsx⟩ : ∃ s, s = (⟨u.toArray⟩ : ByteArray) := ⟨_, rfl⟩
            obtain ⟨sy, hsy⟩ : ∃ s, s = (⟨v.toArray⟩ : ByteArray) := ⟨_, rfl⟩
            have hs2 : (sx.toList == sy.toList) = false := by
              rw [beq_eq_false_iff_ne, hsx, hsy, ByteArray.toList_eq, ByteArray.toList_eq]
              simpa using HNE2.out
            have hss : ¬ sx = sy := fun e => HNE2.out (ba_inj (by rw [← hsx, ← hsy, e]))
            rw [← hsx] at s1
            rw [← hsy] at s2
            clear hsx hsy
            have k1 := HEQ.out.cellAt HT5.out
            go_wp2_with fail
            refine (cot_any x HX.out ra rl rc u rb rm rd v wq HRU2.out (Nat.le_trans HLU.out (by decide)) HRV2.out (Nat.le_trans HLW.out (by decide))).mono ?_
            rintro e w7 ⟨rfl, hb⟩
            rw [HCL.out]
            have HEZ := Lib.hid (ExtW.trans HW5.out (ExtW.trans HEQ.out hb))
            clear hb s1 s2 hs2 hss k1
            go_wp2
            go_ret
            exact ⟨rfl, HEZ.out⟩
          · have HOO : Hid (T.ofLD (bitsN x) s t = none) := Lib.hid (T.ofLD_root (by rw [← hds, ← hdt]; exact hroot))
            have HRT : Hid ((!decide (ds = dt)) = true) := Lib.hid (by simp [hroot])
            clear hds hdt hroot hnm
            have HON := HO.out
            rw [HOO.out] at HON
            obtain ⟨_, h3⟩ := HON
            simp only at h3
            injection h3 with h3
            injection h3 with h3
            simp at h3
            obtain ⟨⟨rfl, rfl, rfl⟩, ⟨rfl, rfl, rfl⟩, rfl⟩ := h3
            go_upto_region 11 with (fail)
            apply wp_region_ext _ (by kernel_rfl) (by kernel_rfl)
            iterate 9 (apply wpZ_det; (intro wq hE hG; first | exact obl_non (by rfl) | (apply obl_val (by rfl); go_simp <;> rfl)); (intro ak hak; simp only [Act.put, List.setIfInBounds_toArray, List.set_cons_succ, List.set_cons_zero] at hak; subst hak))
            (apply wpZ_det; (intro wq hE hG; have kk := (ExtW.of_drew hE).cellAt (HE.out.cellAt HT5.out); apply obl_val (by rfl); go_simp <;> rfl); (intro ak hak; simp only [Act.put, List.setIfInBounds_toArray, List.set_cons_succ, List.set_cons_zero] at hak; subst hak))
            (apply wpZ_det; (intro wq hE hG; first | exact obl_non (by rfl) | (apply obl_val (by rfl); go_simp <;> rfl)); (intro ak hak; simp only [Act.put, List.setIfInBounds_toArray, List.set_cons_succ, List.set_cons_zero] at hak; subst hak))
            (apply wpZ_det (c := dgV ds); (intro wq hE hG; apply obl_on (by kernel_rfl); go_simp; simp only [extUpon_enter]; refine (root_any x HX.out (n + 1) _ n c1 _ _ (by omega) ((HBS5.out.same HE.out).same (ExtW.of_drew hE)) HLVS.out).mono ?_; rintro e w' ⟨rfl, hb⟩; exact ⟨_, rfl, hb, by rw [HDS.out]⟩); (intro ak hak; simp only [Act.put, List.setIfInBounds_toArray, List.set_cons_succ, List.set_cons_zero] at hak; subst hak))
            (apply wpZ_det; (intro wq hE hG; have kk := (ExtW.of_drew hE).cellAt (HE.out.cellAt HT5.out); apply obl_val (by rfl); go_simp <;> rfl); (intro ak hak; simp only [Act.put, List.setIfInBounds_toArray, List.set_cons_succ, List.set_cons_zero] at hak; subst hak))
            (apply wpZ_det; (intro wq hE hG; first | exact obl_non (by rfl) | (apply obl_val (by rfl); go_simp <;> rfl)); (intro ak hak; simp only [Act.put, List.setIfInBounds_toArray, List.set_cons_succ, List.set_cons_zero] at hak; subst hak))
            (apply wpZ_det (c := dgV dt); (intro wq hE hG; apply obl_on (by kernel_rfl); go_simp; simp only [extUpon_enter]; refine (root_any x HX.out (m + 1) _ m d1 _ _ (by omega) ((HBT5.out.same HE.out).same (ExtW.of_drew hE)) HLVT.out).mono ?_; rintro e w' ⟨rfl, hb⟩; exact ⟨_, rfl, hb, by rw [HDT.out]⟩); (intro ak hak; simp only [Act.put, List.setIfInBounds_toArray, List.set_cons_succ, List.set_cons_zero] at hak; subst hak))
            (apply wpZ_det; (intro wq hE hG; exact obl_neD (by rfl) rfl rfl rfl (HLS.out) (HLT.out) (HRT.out)); (intro ak hak; simp only [Act.put, List.setIfInBounds_toArray, List.set_cons_succ, List.set_cons_zero] at hak; subst hak))
            (apply wpZ_det; (intro wq hE hG; first | exact obl_non (by rfl) | (apply obl_val (by rfl); go_simp <;> rfl)); (intro ak hak; simp only [Act.put, List.setIfInBounds_toArray, List.set_cons_succ, List.set_cons_zero] at hak; subst hak))
            (apply wpZ_nil; intro wq hE hG)
            have HEQ := Lib.hid (ExtW.trans HW5.out (ExtW.trans HE.out (ExtW.of_drew hE)))
            clear hE hG
            go_wp2
            go_ret
            exact ⟨rfl, HEQ.out⟩
        · have HOO : Hid (T.ofLD (bitsN x) s t = none) := Lib.hid (T.ofLD_len (by rw [HN.out, HM.out]; exact hnm))
          have hne : ((n : Int) != (m : Int)) = true := by rw [bne_iff_ne]; omega
          clear hnm
          have HON := HO.out
          rw [HOO.out] at HON
          obtain ⟨_, h3⟩ := HON
          simp only at h3
          injection h3 with h3
          injection h3 with h3
          simp at h3
          obtain ⟨⟨rfl, rfl, rfl⟩, ⟨rfl, rfl, rfl⟩, rfl⟩ := h3
          go_upto_region 11 with (fail)
          apply wp_region_ext _ (by kernel_rfl) (by kernel_rfl)
          iterate 17 (apply wpZ_det; (intro wq hE hG; first | exact obl_non (by rfl) | (apply obl_val (by rfl); go_simp <;> rfl)); (intro ak hak; simp only [Act.put, List.setIfInBounds_toArray, List.set_cons_succ, List.set_cons_zero] at hak; subst hak))
          (apply wpZ_nil; intro wq hE hG)
          have HEQ := Lib.hid (ExtW.trans HW5.out (ExtW.trans HE.out (ExtW.of_drew hE)))
          clear hE hG
          go_wp2
          go_ret
          exact ⟨rfl, HEQ.out⟩
end Go.Proofs.Ythaoibgcgkmnbaa
