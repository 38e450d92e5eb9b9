/- The walk of walk, the function that compares the nodes. The walks of OfRange, OfLists and OfTexts. The walk of OfTexts. -/
import Derived.Test.YthaoibgcgkmnbaaCD
import Derived.Test.YthaoibgcgkmnbaaTe
namespace Go.Proofs.Ythaoibgcgkmnbaa
set_option maxRecDepth 100000
set_option maxRecDepth 100000
open Go.RowKit

theorem run_nil0 (W : World) : (Go.binOp .eql 23 (.slice none 0 0) (.slice none 0 0)).run Try.prog W = .ok (.bool true) W := by kernel_rfl
theorem run_nil1 (A : Addr) (n c : Nat) (W : World) : (Go.binOp .eql 23 (.slice (some A) n c) (.slice none 0 0)).run Try.prog W = .ok (.bool false) W := by kernel_rfl
def walkV (gt gw : Nat) : Value := .func (.func 48) #[] #[.pointer (some ⟨gt, 0, none⟩), .pointer (some ⟨gw, 0, none⟩)]

set_option maxHeartbeats 20000000 in
set_option maxRecDepth 100000 in
theorem walk_any (x : Int) (hx : -9223372036854775808 ≤ x ∧ x ≤ 9223372036854775807) (wc : World) (gt gw : Nat) (hgt : wc.cell? ⟨gt, 0, none⟩ = some (.int .i64 x)) (hgw : wc.cell? ⟨gw, 0, none⟩ = some (walkV gt gw)) :
    ∀ (N : Nat) (nt : NT) (v : Value) (A : Option Addr) (n c : Nat) (l : List (List UInt8)) (w : World), n < N → 1 ≤ n → n ≤ 1000000 → NdAt w nt v → Sh nt n → Bss w A n c l → Lv l → ExtW wc w →
    Calls Try.prog 48 #[v, .slice A n c, .pointer (some ⟨gt, 0, none⟩), .pointer (some ⟨gw, 0, none⟩)] w (DiffPost (T.diff1 (pairsOf (bitsN x) nt l)) w) := by
  have HX := Lib.hid hx
  have HGT := Lib.hid hgt
  have HGW := Lib.hid hgw
  have hnil0 := run_nil0
  have hnil1 := run_nil1
  clear hx hgt hgw
  intro N
  induction N with
  | zero => intro nt v A n c l w h; omega
  | succ N ih =>
    intro nt v A n c l w hnN hn1 hn2 hnd hsh hr hlv hwc
    have hnc := hr.nc
    have HR := Lib.hid hr
    have HV := Lib.hid hlv
    have HLL := Lib.hid hr.len
    have HWC := Lib.hid hwc
    clear hr hlv hwc
    cases nt with
    | out d =>
      obtain ⟨hd, g, rfl, hrow⟩ := hnd
      have k1 := hrow.cell (j := 32) (ndC_at hd _ _ _).1
      clear hsh hrow hd
      go_enter Try.func48, Try.ntmps48
      go_wp2
      go_end0
      exact ⟨ExtW.refl _, rfl⟩
    | leaf d t =>
      obtain ⟨hd, g, TA, tn, tc, rfl, hrow, hrt⟩ := hnd
      have k1 := hrow.cell (j := 32) (ndC_at hd _ _ _).1
      have hs1 : n = 1 := hsh
      subst hs1
      obtain ⟨y, hy⟩ : ∃ y, l = [y] := List.length_eq_one_iff.1 HLL.out
      subst hy
      cases hA : A with
      | none => have := HR.out.nil0 hA; omega
      | some b =>
      subst hA
      obtain ⟨D, q, dd, hcell, hrd⟩ := HR.out.row b rfl 0 y rfl
      rw [show b.add 0 = b by unfold Addr.add; simp] at hcell
      have HM : Hid (q ≤ 1000000) := Lib.hid (by
        have h1 := HV.out y (List.mem_cons_self ..)
        have h2 := hrd.len
        rw [bvs_len] at h2
        omega)
      have HC := Lib.hid hcell
      have HRD := Lib.hid hrd
      have HK := Lib.hid k1
      have HRT := Lib.hid hrt
      clear hsh hrow hd hcell hrd hrt
      go_enter Try.func48, Try.ntmps48
      go_upto_region 2 with (fail)
      clear k1
      apply wp_region_ext_tail 8 _ (by kernel_rfl) (by kernel_rfl)
      simp only [List.take_succ_cons, List.take_zero, List.drop_succ_cons, List.drop_zero]
      iterate 3 (apply wpZ_det; (intro wq hE hG; first | exact obl_non (by rfl) | (apply obl_val (by rfl); go_simp <;> rfl)); (intro ak hak; simp only [Act.put, List.setIfInBounds_toArray, List.set_cons_succ, List.set_cons_zero] at hak; subst hak))
      (apply wpZ_det; (intro wq hE hG; have kk := (ExtW.of_drew hE).cellAt HK.out; apply obl_val (by rfl); go_simp <;> rfl); (intro ak hak; simp only [Act.put, List.setIfInBounds_toArray, List.set_cons_succ, List.set_cons_zero] at hak; subst hak))
      iterate 2 (apply wpZ_det; (intro wq hE hG; first | exact obl_non (by rfl) | (apply obl_val (by rfl); go_simp <;> rfl)); (intro ak hak; simp only [Act.put, List.setIfInBounds_toArray, List.set_cons_succ, List.set_cons_zero] at hak; subst hak))
      (apply wpZ_det; (intro wq hE hG; have kk := (ExtW.of_drew hE).cellAt HC.out; apply obl_val (by rfl); go_simp <;> rfl); (intro ak hak; simp only [Act.put, List.setIfInBounds_toArray, List.set_cons_succ, List.set_cons_zero] at hak; subst hak))
      apply wpZ_nd (BytesF (1 + q) (T.ltx y)) (BytesF.mono _ _)
      · intro wq hE hG
        apply obl_on (by kernel_rfl)
        go_simp
        simp only [extUpon_enter]
        refine (leafText_any D q dd y _ (HRD.out.below (ExtW.of_drew hE) (Nat.le_refl _)) (Nat.le_trans HM.out (by decide))).mono ?_
        rintro e w' ⟨v, rfl, ho, hb⟩
        exact ⟨v, rfl, hb, ho⟩
      (intro u ak hak; simp only [Act.put, List.setIfInBounds_toArray, List.set_cons_succ, List.set_cons_zero] at hak; subst hak)
      (apply wpZ_nil; intro wq hE hG)
      obtain ⟨A1, c1, rfl, h1⟩ : BytesF (1 + q) (T.ltx y) u wq := hG _ (List.mem_cons_self ..)
      have H1 := Lib.hid h1
      have HE := Lib.hid (ExtW.of_drew hE)
      have HRQ := Lib.hid (HRT.out.below HE.out (Nat.le_refl _))
      clear hE hG h1
      go_wp2_with fail
      refine (compare_any (some TA) tn tc t A1 _ c1 _ wq HRQ.out H1.out).mono ?_
      intro e w1 h
      have HD := Lib.hid (h.up HE.out)
      rcases h.two with ⟨_, rfl⟩ | ⟨p, ch, _, rfl⟩
      · clear h
        go_wp2
        go_end0
        exact HD.out
      · exact ⟨rfl, HD.out⟩
    | node d t L R =>
      obtain ⟨hd, g, TA, tn, tc, vl, vr, rfl, hrow, hrt, hL, hRR⟩ := hnd
      obtain ⟨h2, hshL, hshR⟩ := hsh
      have k1 := hrow.cell (j := 32) (ndC_at hd _ _ _).1
      have HK := Lib.hid k1
      have HKL := Lib.hid (hrow.cell (j := 33) (ndC_at hd _ _ _).2.1)
      have HKR := Lib.hid (hrow.cell (j := 34) (ndC_at hd _ _ _).2.2)
      have HRT := Lib.hid hrt
      have HNL := Lib.hid hL
      have HNR := Lib.hid hRR
      obtain ⟨k, hk⟩ : ∃ k, k = T.half n := ⟨_, rfl⟩
      have hhl := T.half_lt h2
      rw [← hk] at hhl
      have HSL : Hid (Sh L k) := Lib.hid (by rw [hk]; exact hshL)
      have HSR : Hid (Sh R (n - k)) := Lib.hid (by rw [hk]; exact hshR)
      have HKK := Lib.hid hk
      have HTX := Lib.hid (T.texD_more (bitsN x) HLL.out h2 hk)
      have HPO : Hid (pairsOf (bitsN x) (.node d t L R) l = (t, T.texD (bitsN x) l) :: (pairsOf (bitsN x) L (l.take k) ++ pairsOf (bitsN x) R (l.drop k))) := Lib.hid (by rw [pairsOf, HLL.out, ← hk])
      obtain ⟨da, hda⟩ : ∃ d, d = T.rootD (bitsN x) (l.take k) := ⟨_, rfl⟩
      obtain ⟨db, hdb⟩ : ∃ d, d = T.rootD (bitsN x) (l.drop k) := ⟨_, rfl⟩
      have HDA := Lib.hid hda
      have HDB := Lib.hid hdb
      have HLA : Hid (da.length = 32) := Lib.hid (by rw [hda]; exact T.rootD_len _ _)
      have HLB : Hid (db.length = 32) := Lib.hid (by rw [hdb]; exact T.rootD_len _ _)
      rw [← hda, ← hdb] at HTX
      have hcl : k ≤ n := by omega
      have hne1 : ((n : Int) == 1) = false := by rw [beq_eq_false_iff_ne]; omega
      clear hrow hrt hL hRR hshL hshR hk hda hdb hd
      go_enter Try.func48, Try.ntmps48
      go_wp2_with fail
      refine (chalf_any n _ ⟨by omega, by omega⟩).mono ?_
      rintro e we ⟨rfl, rfl⟩
      rw [← HKK.out]
      clear k1 hne1
      go_upto_region 4 with (fail)
      have hrt := run_takeA A n c k hcl hnc
      have hrd := run_dropA A n c k hcl hnc
      have HBT := Lib.hid (HR.out.take hcl)
      have HBD := Lib.hid (HR.out.dropA hcl)
      apply wp_region_ext_tail 15 _ (by kernel_rfl) (by kernel_rfl)
      simp only [List.take_succ_cons, List.take_zero, List.drop_succ_cons, List.drop_zero]
      iterate 3 (apply wpZ_det; (intro wq hE hG; first | exact obl_non (by rfl) | (apply obl_val (by rfl); go_simp <;> rfl)); (intro ak hak; simp only [Act.put, List.setIfInBounds_toArray, List.set_cons_succ, List.set_cons_zero] at hak; subst hak))
      (apply wpZ_det; (intro wq hE hG; have kk := (ExtW.of_drew hE).cellAt HK.out; apply obl_val (by rfl); go_simp <;> rfl); (intro ak hak; simp only [Act.put, List.setIfInBounds_toArray, List.set_cons_succ, List.set_cons_zero] at hak; subst hak))
      (apply wpZ_det; (intro wq hE hG; have kk := (ExtW.of_drew hE).cellAt (HWC.out.cellAt HGT.out); apply obl_val (by rfl); go_simp <;> rfl); (intro ak hak; simp only [Act.put, List.setIfInBounds_toArray, List.set_cons_succ, List.set_cons_zero] at hak; subst hak))
      iterate 3 (apply wpZ_det; (intro wq hE hG; first | exact obl_non (by rfl) | (apply obl_val (by rfl); go_simp <;> rfl)); (intro ak hak; simp only [Act.put, List.setIfInBounds_toArray, List.set_cons_succ, List.set_cons_zero] at hak; subst hak))
      (apply wpZ_det (c := dgV da); (intro wq hE hG; apply obl_on (by kernel_rfl); go_simp; simp only [extUpon_enter]; refine (root_any x HX.out (n + 1) _ k c _ _ (by omega) (HBT.out.same (ExtW.of_drew hE)) (HV.out.take k)).mono ?_; rintro e w' ⟨rfl, hb⟩; exact ⟨_, rfl, hb, by rw [HDA.out]⟩); (intro ak hak; simp only [Act.put, List.setIfInBounds_toArray, List.set_cons_succ, List.set_cons_zero] at hak; subst hak))
      (apply wpZ_det; (intro wq hE hG; have kk := (ExtW.of_drew hE).cellAt (HWC.out.cellAt HGT.out); apply obl_val (by rfl); go_simp <;> rfl); (intro ak hak; simp only [Act.put, List.setIfInBounds_toArray, List.set_cons_succ, List.set_cons_zero] at hak; subst hak))
      iterate 3 (apply wpZ_det; (intro wq hE hG; first | exact obl_non (by rfl) | (apply obl_val (by rfl); go_simp <;> rfl)); (intro ak hak; simp only [Act.put, List.setIfInBounds_toArray, List.set_cons_succ, List.set_cons_zero] at hak; subst hak))
      (apply wpZ_det (c := dgV db); (intro wq hE hG; apply obl_on (by kernel_rfl); go_simp; simp only [extUpon_enter]; refine (root_any x HX.out (n + 1) _ (n - k) (c - k) _ _ (by omega) (HBD.out.same (ExtW.of_drew hE)) (HV.out.drop k)).mono ?_; rintro e w' ⟨rfl, hb⟩; exact ⟨_, rfl, hb, by rw [HDB.out]⟩); (intro ak hak; simp only [Act.put, List.setIfInBounds_toArray, List.set_cons_succ, List.set_cons_zero] at hak; subst hak))
      apply wpZ_nd (BytesF 65 (T.ntx da db)) (BytesF.mono _ _)
      · intro wq hE hG
        apply obl_on (by kernel_rfl)
        go_simp
        simp only [extUpon_enter]
        refine (nodeText_any da db _ HLA.out HLB.out).mono ?_
        rintro e w' ⟨v, rfl, ho, hb⟩
        exact ⟨v, rfl, hb, ho⟩
      (intro u ak hak; simp only [Act.put, List.setIfInBounds_toArray, List.set_cons_succ, List.set_cons_zero] at hak; subst hak)
      (apply wpZ_nil; intro wq hE hG)
      obtain ⟨A1, c1, rfl, h1⟩ : BytesF 65 (T.ntx da db) u wq := hG _ (List.mem_cons_self ..)
      have H1 := Lib.hid h1
      have HE := Lib.hid (ExtW.of_drew hE)
      have HRQ := Lib.hid (HRT.out.below HE.out (Nat.le_refl _))
      clear hE hG h1
      go_wp2_with fail
      refine (compare_any (some TA) tn tc t A1 _ c1 _ wq HRQ.out H1.out).mono ?_
      intro e w1 h
      have HE1 := Lib.hid (ExtW.trans HE.out h.1)
      rcases h.two with ⟨h1, rfl⟩ | ⟨p, ch, h1, rfl⟩
      rotate_left
      · refine ⟨rfl, ?_⟩
        have h3 := h.up HE.out
        rw [h1] at h3
        rw [HPO.out, HTX.out, T.diff1_two h1]
        exact h3
      have HD0 : Hid (T.diff1 (pairsOf (bitsN x) (.node d t L R) l) = T.diff1 (pairsOf (bitsN x) L (l.take k) ++ pairsOf (bitsN x) R (l.drop k))) := Lib.hid (by rw [HPO.out, HTX.out, T.diff1_one h1])
      clear h h1 HE HRQ H1
      go_upto_region 5 with (fail)
      apply wp_region_ext_tail 8 _ (by kernel_rfl) (by kernel_rfl)
      simp only [List.take_succ_cons, List.take_zero, List.drop_succ_cons, List.drop_zero]
      (apply wpZ_det; (intro wq hE hG; have kk := (ExtW.trans HE1.out (ExtW.of_drew hE)).cellAt (HWC.out.cellAt HGW.out); unfold walkV at kk; apply obl_val (by rfl); go_simp <;> rfl); (intro ak hak; simp only [Act.put, List.setIfInBounds_toArray, List.set_cons_succ, List.set_cons_zero] at hak; subst hak))
      iterate 3 (apply wpZ_det; (intro wq hE hG; first | exact obl_non (by rfl) | (apply obl_val (by rfl); go_simp <;> rfl)); (intro ak hak; simp only [Act.put, List.setIfInBounds_toArray, List.set_cons_succ, List.set_cons_zero] at hak; subst hak))
      (apply wpZ_det; (intro wq hE hG; have kk := (ExtW.trans HE1.out (ExtW.of_drew hE)).cellAt HKL.out; apply obl_val (by rfl); go_simp <;> rfl); (intro ak hak; simp only [Act.put, List.setIfInBounds_toArray, List.set_cons_succ, List.set_cons_zero] at hak; subst hak))
      iterate 3 (apply wpZ_det; (intro wq hE hG; first | exact obl_non (by rfl) | (apply obl_val (by rfl); go_simp <;> rfl)); (intro ak hak; simp only [Act.put, List.setIfInBounds_toArray, List.set_cons_succ, List.set_cons_zero] at hak; subst hak))
      (apply wpZ_nil; intro wq hE hG)
      have HE2 := Lib.hid (ExtW.trans HE1.out (ExtW.of_drew hE))
      clear hE hG
      go_wp2_with fail
      refine (ih L vl A k c (l.take k) wq (by omega) (by omega) (by omega) (NdAt.ext HE2.out _ _ HNL.out) HSL.out (HBT.out.same HE2.out) (HV.out.take k) (ExtW.trans HWC.out HE2.out)).mono ?_
      intro e w2 h
      have HE3 := Lib.hid (ExtW.trans HE2.out h.1)
      rcases h.two with ⟨h1, rfl⟩ | ⟨p, ch, h1, rfl⟩
      rotate_left
      · refine ⟨rfl, ?_⟩
        have h3 := h.up HE2.out
        rw [HD0.out, T.diff1_append]
        rw [h1] at h3 ⊢
        exact h3
      have HN1 := Lib.hid h1
      clear h h1 HE2 HE1
      go_upto_region 6 with (fail)
      apply wp_region_ext_tail 8 _ (by kernel_rfl) (by kernel_rfl)
      simp only [List.take_succ_cons, List.take_zero, List.drop_succ_cons, List.drop_zero]
      (apply wpZ_det; (intro wq hE hG; have kk := (ExtW.trans HE3.out (ExtW.of_drew hE)).cellAt (HWC.out.cellAt HGW.out); unfold walkV at kk; apply obl_val (by rfl); go_simp <;> rfl); (intro ak hak; simp only [Act.put, List.setIfInBounds_toArray, List.set_cons_succ, List.set_cons_zero] at hak; subst hak))
      iterate 3 (apply wpZ_det; (intro wq hE hG; first | exact obl_non (by rfl) | (apply obl_val (by rfl); go_simp <;> rfl)); (intro ak hak; simp only [Act.put, List.setIfInBounds_toArray, List.set_cons_succ, List.set_cons_zero] at hak; subst hak))
      (apply wpZ_det; (intro wq hE hG; have kk := (ExtW.trans HE3.out (ExtW.of_drew hE)).cellAt HKR.out; apply obl_val (by rfl); go_simp <;> rfl); (intro ak hak; simp only [Act.put, List.setIfInBounds_toArray, List.set_cons_succ, List.set_cons_zero] at hak; subst hak))
      iterate 3 (apply wpZ_det; (intro wq hE hG; first | exact obl_non (by rfl) | (apply obl_val (by rfl); go_simp <;> rfl)); (intro ak hak; simp only [Act.put, List.setIfInBounds_toArray, List.set_cons_succ, List.set_cons_zero] at hak; subst hak))
      (apply wpZ_nil; intro wq hE hG)
      have HE4 := Lib.hid (ExtW.trans HE3.out (ExtW.of_drew hE))
      clear hE hG
      go_wp2_with fail
      refine (ih R vr (dropA A c k) (n - k) (c - k) (l.drop k) wq (by omega) (by omega) (by omega) (NdAt.ext HE4.out _ _ HNR.out) HSR.out (HBD.out.same HE4.out) (HV.out.drop k) (ExtW.trans HWC.out HE4.out)).mono ?_
      intro e w3 h
      have HD := Lib.hid (h.up HE4.out)
      rcases h.two with ⟨h1, rfl⟩ | ⟨p, ch, h1, rfl⟩
      · clear h h1
        go_wp2
        go_end0
        rw [HD0.out, T.diff1_append, HN1.out]
        exact HD.out
      · refine ⟨rfl, ?_⟩
        rw [HD0.out, T.diff1_append, HN1.out]
        exact HD.out
end Go.Proofs.Ythaoibgcgkmnbaa

namespace Go.Proofs.Ythaoibgcgkmnbaa
set_option maxRecDepth 100000
open Go.RowKit

set_option maxHeartbeats 4000000 in
set_option maxRecDepth 100000 in
theorem top_any (x : Int) (hx : -9223372036854775808 ≤ x ∧ x ≤ 9223372036854775807) (wc : World) (gt gw gn gr : Nat) (nt : NT) (v : Value) (A : Option Addr) (n c : Nat) (l : List (List UInt8)) (w : World) (hgt : wc.cell? ⟨gt, 0, none⟩ = some (.int .i64 x)) (hgw : wc.cell? ⟨gw, 0, none⟩ = some (walkV gt gw))
    (hgn : wc.cell? ⟨gn, 0, none⟩ = some v) (hgr : wc.cell? ⟨gr, 0, none⟩ = some (.slice A n c)) (hn1 : 1 ≤ n) (hn2 : n ≤ 1000000) (hnd : NdAt wc nt v) (hsh : Sh nt n) (hr : Bss wc A n c l) (hlv : Lv l) (hwc : ExtW wc w) :
    Calls Try.prog 49 #[.pointer (some ⟨gw, 0, none⟩), .pointer (some ⟨gn, 0, none⟩), .pointer (some ⟨gr, 0, none⟩)] w (DiffPost (T.diff1 (pairsOf (bitsN x) nt l)) w) := by
  have HG := Lib.hid (walk_any x hx wc gt gw hgt hgw (n + 1) nt v A n c l w (by omega) hn1 hn2 (NdAt.ext hwc _ _ hnd) hsh (hr.same hwc) hlv hwc)
  have k1 := hwc.cellAt hgw
  unfold walkV at k1
  obtain ⟨g, _, _, _, rfl, _⟩ := hnd.row
  have k2 := hwc.cellAt hgn
  have k3 := hwc.cellAt hgr
  clear hgt hgw hgn hgr hnd hsh hr hlv hwc hx
  go_enter Try.func49, Try.ntmps49
  go_wp2_with fail
  refine HG.out.mono ?_
  intro e w1 h
  have HD := Lib.hid h
  rcases h.two with ⟨_, rfl⟩ | ⟨p, ch, _, rfl⟩
  · clear h
    go_wp2
    go_end0
    exact HD.out
  · exact ⟨rfl, HD.out⟩

set_option maxHeartbeats 20000000 in
set_option maxRecDepth 100000 in
theorem cofr_any (x : Int) (hx : -9223372036854775808 ≤ x ∧ x ≤ 9223372036854775807) (A : Option Addr) (n c : Nat) (real : List (List UInt8)) (a : Int) (ha : -9223372036854775808 ≤ a ∧ a ≤ 9223372036854775807) (LA : Option Addr) (ln lc : Nat) (part : List (List UInt8)) (PA : Option Addr) (pn pc : Nat) (path : List (List UInt8)) (w : World)
    (hr : Bss w A n c real) (hlv : Lv real) (hn : n ≤ 1000000) (hl : Bss w LA ln lc part) (hll : Lv part) (hln : ln ≤ 1000000) (hp : Dls w PA pn pc path) :
    Calls Try.prog 17 #[.agg #[.int .i64 x], .slice A n c, .int .i64 a, .slice LA ln lc, .slice PA pn pc] w (OfPost (T.ofRD (bitsN x) real a part path) w) := by
  have hmf : ∀ (fn : Fn) (first cap : Array Value) (w : World), (Instr.makeFunc fn first cap).run Try.prog w = .ok (.func fn first cap) w := fun _ _ _ _ => rfl
  have HX := Lib.hid hx
  have HR := Lib.hid hr
  have HV := Lib.hid hlv
  have HN := Lib.hid hn
  have HL := Lib.hid hl
  have HLV := Lib.hid hll
  have HLN := Lib.hid hln
  have HP := Lib.hid hp
  have HRL := Lib.hid hr.len
  have HLL := Lib.hid hl.len
  have HAA := Lib.hid ha
  have HB0 := Lib.hid (cell_new1 w (.int .i64 x) 30)
  have HE0 : Hid (ExtW w (w.alloc (.cells #[.int .i64 x] 30))) := Lib.hid ((Below.refl _ _).alloc (Nat.le_refl _) _)
  clear hx hr hlv hn hl hll hln hp ha
  go_enter Try.func17, Try.ntmps17
  go_upto_region 1 with (fail)
  have HA : Hid ((w.alloc (.cells #[.int .i64 x] 30)).heap.size = w.heap.size + 1) := Lib.hid (by simp)
  generalize w.alloc (.cells #[.int .i64 x] 30) = w1 at HB0 HE0 HA ⊢
  have HG1 : Hid (Row (w1.alloc (.cells #[.slice A n c] 22)) (w.heap.size + 1) 22 [.slice A n c]) := Lib.hid (by rw [← HA.out]; exact heap_alloc_last _ _)
  have HE1 : Hid (ExtW w1 (w1.alloc (.cells #[.slice A n c] 22))) := Lib.hid ((Below.refl _ _).alloc (Nat.le_refl _) _)
  have HA1 : Hid ((w1.alloc (.cells #[.slice A n c] 22)).heap.size = w.heap.size + 1 + 1) := Lib.hid (by simp [HA.out])
  generalize w1.alloc (.cells #[.slice A n c] 22) = w2 at HG1 HE1 HA1 ⊢
  have HG2 : Hid (Row (w2.alloc (.cells #[.slice LA ln lc] 22)) (w.heap.size + 1 + 1) 22 [.slice LA ln lc]) := Lib.hid (by rw [← HA1.out]; exact heap_alloc_last _ _)
  have HE2 : Hid (ExtW w2 (w2.alloc (.cells #[.slice LA ln lc] 22))) := Lib.hid ((Below.refl _ _).alloc (Nat.le_refl _) _)
  have HA2 : Hid ((w2.alloc (.cells #[.slice LA ln lc] 22)).heap.size = w.heap.size + 1 + 1 + 1) := Lib.hid (by simp [HA1.out])
  generalize w2.alloc (.cells #[.slice LA ln lc] 22) = w3 at HG2 HE2 HA2 ⊢
  have HG3 : Hid (Row (w3.alloc (.cells #[.slice PA pn pc] 24)) (w.heap.size + 1 + 1 + 1) 24 [.slice PA pn pc]) := Lib.hid (by rw [← HA2.out]; exact heap_alloc_last _ _)
  have HE3 : Hid (ExtW w3 (w3.alloc (.cells #[.slice PA pn pc] 24))) := Lib.hid ((Below.refl _ _).alloc (Nat.le_refl _) _)
  generalize w3.alloc (.cells #[.slice PA pn pc] 24) = w4 at HG3 HE3 ⊢
  have HB4 := Lib.hid (HE3.out.cellAt (HE2.out.cellAt (HE1.out.cellAt HB0.out)))
  have HR4 := Lib.hid (((HG1.out.ext HE2.out).ext HE3.out).cell (j := 0) rfl)
  have HQ4 := Lib.hid ((HG2.out.ext HE3.out).cell (j := 0) rfl)
  have HEE := Lib.hid (ExtW.trans HE0.out (ExtW.trans HE1.out (ExtW.trans HE2.out HE3.out)))
  obtain ⟨gt, hgt⟩ : ∃ g, g = w.heap.size := ⟨_, rfl⟩
  obtain ⟨gr, hgr⟩ : ∃ g, g = w.heap.size + 1 := ⟨_, rfl⟩
  obtain ⟨gq, hgq⟩ : ∃ g, g = w.heap.size + 1 + 1 := ⟨_, rfl⟩
  obtain ⟨gp, hgp⟩ : ∃ g, g = w.heap.size + 1 + 1 + 1 := ⟨_, rfl⟩
  rw [← hgt] at HB4
  rw [← hgr] at HR4
  rw [← hgq] at HQ4
  rw [← hgp] at HG3
  rw [← hgp, ← hgq, ← hgr, ← hgt]
  have HGS : Hid (w.heap.size ≤ gt ∧ gt < gr ∧ gr < gq ∧ gq < gp ∧ gp < w4.heap.size) := Lib.hid ⟨by omega, by omega, by omega, by omega, HG3.out.lt⟩
  clear hgt hgr hgq hgp HB0 HE0 HA HG1 HE1 HA1 HG2 HE2 HA2 HE3
  by_cases hck : T.checkRD (bitsN x) (T.rootD (bitsN x) real) real.length a part path = true
  · have HO := Lib.hid (T.ofRD_yes hck)
    have HIS := Lib.hid (T.checkRD_is HLL.out hck)
    rw [HRL.out] at hck
    have HCK := Lib.hid hck
    clear hck
    apply wp_region_ext _ (by kernel_rfl) (by kernel_rfl)
    iterate 2 (apply wpZ_det; (intro wq hE hG; have kk := (ExtW.of_drew hE).cellAt HB4.out; apply obl_val (by rfl); go_simp <;> rfl); (intro ak hak; simp only [Act.put, List.setIfInBounds_toArray, List.set_cons_succ, List.set_cons_zero] at hak; subst hak))
    (apply wpZ_det; (intro wq hE hG; have kk := (ExtW.of_drew hE).cellAt HR4.out; apply obl_val (by rfl); go_simp <;> rfl); (intro ak hak; simp only [Act.put, List.setIfInBounds_toArray, List.set_cons_succ, List.set_cons_zero] at hak; subst hak))
    (apply wpZ_det; (intro wq hE hG; apply obl_on (by kernel_rfl); go_simp; simp only [extUpon_enter]; refine (root_any x HX.out (n + 1) _ n c _ _ (by omega) (HR.out.same (ExtW.trans HEE.out (ExtW.of_drew hE))) HV.out).mono ?_; rintro e w' ⟨rfl, hb⟩; exact ⟨_, rfl, hb, rfl⟩); (intro ak hak; simp only [Act.put, List.setIfInBounds_toArray, List.set_cons_succ, List.set_cons_zero] at hak; subst hak))
    (apply wpZ_det; (intro wq hE hG; have kk := (ExtW.of_drew hE).cellAt HR4.out; apply obl_val (by rfl); go_simp <;> rfl); (intro ak hak; simp only [Act.put, List.setIfInBounds_toArray, List.set_cons_succ, List.set_cons_zero] at hak; subst hak))
    iterate 2 (apply wpZ_det; (intro wq hE hG; first | exact obl_non (by rfl) | (apply obl_val (by rfl); go_simp <;> rfl)); (intro ak hak; simp only [Act.put, List.setIfInBounds_toArray, List.set_cons_succ, List.set_cons_zero] at hak; subst hak))
    (apply wpZ_det; (intro wq hE hG; have kk := (ExtW.of_drew hE).cellAt HQ4.out; apply obl_val (by rfl); go_simp <;> rfl); (intro ak hak; simp only [Act.put, List.setIfInBounds_toArray, List.set_cons_succ, List.set_cons_zero] at hak; subst hak))
    (apply wpZ_det; (intro wq hE hG; have kk := (ExtW.of_drew hE).cellAt (HG3.out.cell (j := 0) rfl); apply obl_val (by rfl); go_simp <;> rfl); (intro ak hak; simp only [Act.put, List.setIfInBounds_toArray, List.set_cons_succ, List.set_cons_zero] at hak; subst hak))
    (apply wpZ_det (c := .bool true); (intro wq hE hG; apply obl_on (by kernel_rfl); go_simp; simp only [extUpon_enter]; refine (mcr_any x HX.out _ (T.rootD_len _ _) (n : Int) a (by have := HN.out; omega) LA ln lc part PA pn pc path _ (HL.out.same (ExtW.trans HEE.out (ExtW.of_drew hE))) HLV.out HLN.out (HP.out.same (ExtW.trans HEE.out (ExtW.of_drew hE)))).mono ?_; rintro e w' ⟨rfl, hb⟩; exact ⟨_, rfl, hb, by rw [HCK.out]⟩); (intro ak hak; simp only [Act.put, List.setIfInBounds_toArray, List.set_cons_succ, List.set_cons_zero] at hak; subst hak))
    (apply wpZ_det; (intro wq hE hG; first | exact obl_non (by rfl) | (apply obl_val (by rfl); go_simp <;> rfl)); (intro ak hak; simp only [Act.put, List.setIfInBounds_toArray, List.set_cons_succ, List.set_cons_zero] at hak; subst hak))
    (apply wpZ_nil; intro wq hE hG)
    have HEQ := Lib.hid (ExtW.trans HEE.out (ExtW.of_drew hE))
    have HB5 := Lib.hid ((ExtW.of_drew hE).cellAt HB4.out)
    have HR5 := Lib.hid ((ExtW.of_drew hE).cellAt HR4.out)
    have HQ5 := Lib.hid ((ExtW.of_drew hE).cellAt HQ4.out)
    have HG5 := Lib.hid (HG3.out.ext (ExtW.of_drew hE))
    have HZ5 : Hid (w4.heap.size ≤ wq.heap.size) := Lib.hid (ExtW.of_drew hE).size
    clear hE hG HB4 HR4 HQ4 HG3 HEE
    go_upto_region 5 with (fail)
    have HUC : Hid ((wq.alloc (.cells #[growV gq gp gt wq.heap.size] 74)).cell? ⟨wq.heap.size, 0, none⟩ = some (growV gq gp gt wq.heap.size)) := Lib.hid (cell_new1 _ _ _)
    have HE6 : Hid (ExtW wq (wq.alloc (.cells #[growV gq gp gt wq.heap.size] 74))) := Lib.hid ((Below.refl _ _).alloc (Nat.le_refl _) _)
    unfold growV at HUC HE6
    generalize wq.alloc (.cells #[.func (.func 47) #[] #[.pointer (some ⟨gq, 0, none⟩), .pointer (some ⟨gp, 0, none⟩), .pointer (some ⟨gt, 0, none⟩), .pointer (some ⟨wq.heap.size, 0, none⟩)]] 74) = wc at HUC HE6 ⊢
    obtain ⟨gg, hgg⟩ : ∃ g, g = wq.heap.size := ⟨_, rfl⟩
    rw [← hgg] at HUC ⊢
    have HGG : Hid (gp < gg) := Lib.hid (by have h1 := HGS.out; have h2 := HZ5.out; omega)
    clear hgg
    have HB6 := Lib.hid (HE6.out.cellAt HB5.out)
    have HR6 := Lib.hid (HE6.out.cellAt HR5.out)
    have HQ6 := Lib.hid (HE6.out.cellAt HQ5.out)
    have HG6 := Lib.hid (HG5.out.ext HE6.out)
    have HEC := Lib.hid (ExtW.trans HEQ.out HE6.out)
    clear HB5 HR5 HQ5 HG5 HE6 HEQ HZ5
    have hreal : 1 ≤ n ∧ n ≤ 1000000 := by
      have h1 := HIS.out
      have h2 := HN.out
      have h3 := HRL.out
      omega
    have k1 := HUC.out
    have k2 := HR6.out
    go_wp2_with fail
    refine (grown_any x HX.out w wc gt gq gp gg LA ln lc part HEC.out (by have := HGS.out; omega) (by have h1 := HGS.out; have h2 := HGG.out; omega) HB6.out HQ6.out HUC.out HL.out HLV.out HLN.out (n + 1) real n a path wc (by omega) HRL.out hreal.1 hreal.2 (by have h1 := HIS.out; omega) (by have h1 := HIS.out; have h2 := HLN.out; have h3 := HRL.out; omega)
      (by have h1 := HIS.out.2.2.2.1; rw [HRL.out] at h1; exact Nat.le_of_eq h1.symm) (Kp.refl _ _) ⟨PA, pn, pc, HG6.out, HP.out⟩).mono ?_
    unfold GrPost
    rintro e w5 ⟨v, nt, rfl, hnd, hsh, hd, hpr, hpa, hk⟩
    obtain ⟨g, s1, l1, r1, rfl, hrow⟩ := hnd.row
    have HND := Lib.hid hnd
    have HSH : Hid (Sh nt n) := Lib.hid (by rw [HRL.out] at hsh; exact hsh)
    have HPR := Lib.hid hpr
    have HB7 := Lib.hid (hk.cellAt HB6.out (by have := HGS.out; show ¬ gt = gp; omega))
    have HR7 := Lib.hid (hk.cellAt HR6.out (by have := HGS.out; show ¬ gr = gp; omega))
    have HE7 : Hid (ExtW w w5) := Lib.hid (Below.trans HEC.out (hk.below (B := w.heap.size) (by rintro j rfl; have := HGS.out; omega) HEC.out.size))
    clear hnd hsh hd hpr hpa hk hrow k1 k2 HB6 HR6 HQ6 HG6 HEC HUC
    go_upto_region 6 with (fail)
    have HN8 : Hid ((w5.alloc (.cells #[.pointer (some ⟨g, 0, none⟩)] 75)).cell? ⟨w5.heap.size, 0, none⟩ = some (.pointer (some ⟨g, 0, none⟩))) := Lib.hid (cell_new1 _ _ _)
    have HE8 : Hid (ExtW w5 (w5.alloc (.cells #[.pointer (some ⟨g, 0, none⟩)] 75))) := Lib.hid ((Below.refl _ _).alloc (Nat.le_refl _) _)
    have HZ8 : Hid ((w5.alloc (.cells #[.pointer (some ⟨g, 0, none⟩)] 75)).heap.size = w5.heap.size + 1) := Lib.hid (by simp)
    generalize w5.alloc (.cells #[.pointer (some ⟨g, 0, none⟩)] 75) = w8 at HN8 HE8 HZ8 ⊢
    obtain ⟨gn, hgn⟩ : ∃ g, g = w5.heap.size := ⟨_, rfl⟩
    rw [← hgn] at HN8 ⊢
    clear hgn
    go_upto_region 8 with (fail)
    have HW9 : Hid ((w8.alloc (.cells #[walkV gt w8.heap.size] 78)).cell? ⟨w8.heap.size, 0, none⟩ = some (walkV gt w8.heap.size)) := Lib.hid (cell_new1 _ _ _)
    have HE9 : Hid (ExtW w8 (w8.alloc (.cells #[walkV gt w8.heap.size] 78))) := Lib.hid ((Below.refl _ _).alloc (Nat.le_refl _) _)
    unfold walkV at HW9 HE9
    generalize w8.alloc (.cells #[.func (.func 48) #[] #[.pointer (some ⟨gt, 0, none⟩), .pointer (some ⟨w8.heap.size, 0, none⟩)]] 78) = w9 at HW9 HE9 ⊢
    obtain ⟨gw, hgw⟩ : ∃ g, g = w8.heap.size := ⟨_, rfl⟩
    rw [← hgw] at HW9 ⊢
    clear hgw
    have HEB := Lib.hid (ExtW.trans HE8.out HE9.out)
    have HEW := Lib.hid (ExtW.trans HE7.out HEB.out)
    go_wp2_with fail
    refine (seek_any 49 #[.pointer (some ⟨gw, 0, none⟩), .pointer (some ⟨gn, 0, none⟩), .pointer (some ⟨gr, 0, none⟩)] (T.diff1 (pairsOf (bitsN x) nt real)) w9 (fun _ => by kernel_rfl) (fun W hW =>
      top_any x HX.out w9 gt gw gn gr nt (.pointer (some ⟨g, 0, none⟩)) A n c real W (HEB.out.cellAt HB7.out) HW9.out (HE9.out.cellAt HN8.out) (HEB.out.cellAt HR7.out) hreal.1 hreal.2 (NdAt.ext HEB.out _ _ HND.out) HSH.out (HR.out.same HEW.out) HV.out hW)).mono ?_
    intro e w10 h
    have HH := Lib.hid (h.up HEW.out)
    obtain ⟨A1, n1, c1, B1, m1, d1, b1, rfl⟩ := h.two
    clear h
    go_wp2
    go_ret3
    rw [HO.out, ← HPR.out]
    exact HH.out
  · have hck' : T.checkRD (bitsN x) (T.rootD (bitsN x) real) real.length a part path = false := by simpa using hck
    have HO := Lib.hid (T.ofRD_no hck')
    rw [HRL.out] at hck'
    have HCK := Lib.hid hck'
    clear hck hck'
    apply wp_region_ext _ (by kernel_rfl) (by kernel_rfl)
    iterate 2 (apply wpZ_det; (intro wq hE hG; have kk := (ExtW.of_drew hE).cellAt HB4.out; apply obl_val (by rfl); go_simp <;> rfl); (intro ak hak; simp only [Act.put, List.setIfInBounds_toArray, List.set_cons_succ, List.set_cons_zero] at hak; subst hak))
    (apply wpZ_det; (intro wq hE hG; have kk := (ExtW.of_drew hE).cellAt HR4.out; apply obl_val (by rfl); go_simp <;> rfl); (intro ak hak; simp only [Act.put, List.setIfInBounds_toArray, List.set_cons_succ, List.set_cons_zero] at hak; subst hak))
    (apply wpZ_det; (intro wq hE hG; apply obl_on (by kernel_rfl); go_simp; simp only [extUpon_enter]; refine (root_any x HX.out (n + 1) _ n c _ _ (by omega) (HR.out.same (ExtW.trans HEE.out (ExtW.of_drew hE))) HV.out).mono ?_; rintro e w' ⟨rfl, hb⟩; exact ⟨_, rfl, hb, rfl⟩); (intro ak hak; simp only [Act.put, List.setIfInBounds_toArray, List.set_cons_succ, List.set_cons_zero] at hak; subst hak))
    (apply wpZ_det; (intro wq hE hG; have kk := (ExtW.of_drew hE).cellAt HR4.out; apply obl_val (by rfl); go_simp <;> rfl); (intro ak hak; simp only [Act.put, List.setIfInBounds_toArray, List.set_cons_succ, List.set_cons_zero] at hak; subst hak))
    iterate 2 (apply wpZ_det; (intro wq hE hG; first | exact obl_non (by rfl) | (apply obl_val (by rfl); go_simp <;> rfl)); (intro ak hak; simp only [Act.put, List.setIfInBounds_toArray, List.set_cons_succ, List.set_cons_zero] at hak; subst hak))
    (apply wpZ_det; (intro wq hE hG; have kk := (ExtW.of_drew hE).cellAt HQ4.out; apply obl_val (by rfl); go_simp <;> rfl); (intro ak hak; simp only [Act.put, List.setIfInBounds_toArray, List.set_cons_succ, List.set_cons_zero] at hak; subst hak))
    (apply wpZ_det; (intro wq hE hG; have kk := (ExtW.of_drew hE).cellAt (HG3.out.cell (j := 0) rfl); apply obl_val (by rfl); go_simp <;> rfl); (intro ak hak; simp only [Act.put, List.setIfInBounds_toArray, List.set_cons_succ, List.set_cons_zero] at hak; subst hak))
    (apply wpZ_det (c := .bool false); (intro wq hE hG; apply obl_on (by kernel_rfl); go_simp; simp only [extUpon_enter]; refine (mcr_any x HX.out _ (T.rootD_len _ _) (n : Int) a (by have := HN.out; omega) LA ln lc part PA pn pc path _ (HL.out.same (ExtW.trans HEE.out (ExtW.of_drew hE))) HLV.out HLN.out (HP.out.same (ExtW.trans HEE.out (ExtW.of_drew hE)))).mono ?_; rintro e w' ⟨rfl, hb⟩; exact ⟨_, rfl, hb, by rw [HCK.out]⟩); (intro ak hak; simp only [Act.put, List.setIfInBounds_toArray, List.set_cons_succ, List.set_cons_zero] at hak; subst hak))
    (apply wpZ_det; (intro wq hE hG; first | exact obl_non (by rfl) | (apply obl_val (by rfl); go_simp <;> rfl)); (intro ak hak; simp only [Act.put, List.setIfInBounds_toArray, List.set_cons_succ, List.set_cons_zero] at hak; subst hak))
    (apply wpZ_nil; intro wq hE hG)
    have HEQ := Lib.hid (ExtW.trans HEE.out (ExtW.of_drew hE))
    clear hE hG
    go_wp2
    go_ret3
    exact ⟨HEQ.out, by rw [HO.out]; rfl⟩

set_option maxHeartbeats 20000000 in
set_option maxRecDepth 100000 in
theorem cofl_any (x : Int) (hx : -9223372036854775808 ≤ x ∧ x ≤ 9223372036854775807) (A : Option Addr) (n c : Nat) (real : List (List UInt8)) (LA : Option Addr) (ln lc : Nat) (other : List (List UInt8)) (w : World)
    (hr : Bss w A n c real) (hlv : Lv real) (hn : n ≤ 1000000) (hl : Bss w LA ln lc other) (hll : Lv other) (hln : ln ≤ 1000000) :
    Calls Try.prog 19 #[.agg #[.int .i64 x], .slice A n c, .slice LA ln lc] w (OfPost (T.ofLD (bitsN x) real other) w) := by
  have HX := Lib.hid hx
  have HR := Lib.hid hr
  have HV := Lib.hid hlv
  have HN := Lib.hid hn
  have HL := Lib.hid hl
  have HLV := Lib.hid hll
  have HLN := Lib.hid hln
  have HRL := Lib.hid hr.len
  have HLL := Lib.hid hl.len
  have HB0 := Lib.hid (cell_new1 w (.int .i64 x) 30)
  have HE0 : Hid (ExtW w (w.alloc (.cells #[.int .i64 x] 30))) := Lib.hid ((Below.refl _ _).alloc (Nat.le_refl _) _)
  clear hx hr hlv hn hl hll hln
  go_enter Try.func19, Try.ntmps19
  go_upto_region 1 with (fail)
  generalize w.alloc (.cells #[.int .i64 x] 30) = w1 at HB0 HE0 ⊢
  by_cases h1 : n = ln
  · subst h1
    have hne : ((n : Int) != (n : Int)) = false := by simp
    by_cases h2 : n = 0
    · have HO : Hid (T.ofLD (bitsN x) real other = none) := Lib.hid (T.ofLD_nil (by rw [HRL.out]; exact h2))
      subst h2
      go_wp2
      go_ret3
      exact ⟨HE0.out, by rw [HO.out]; rfl⟩
    · have HO : Hid (T.ofLD (bitsN x) real other = T.ofRD (bitsN x) real 0 other []) := Lib.hid (by unfold T.ofLD; rw [if_neg (by rw [HRL.out, HLL.out]; omega)])
      have hz : ((n : Int) == 0) = false := by rw [beq_eq_false_iff_ne]; omega
      have k1 := HB0.out
      go_wp2_with fail
      refine (cofr_any x HX.out A n c real 0 (by decide) LA n lc other none 0 0 [] w1 (HR.out.same HE0.out) HV.out HN.out (HL.out.same HE0.out) HLV.out HLN.out (Dls.nil _)).mono ?_
      intro e w2 h
      have HH := Lib.hid (h.up HE0.out)
      obtain ⟨A1, n1, c1, B1, m1, d1, b1, rfl⟩ := h.two
      clear h
      go_wp2
      go_ret3
      rw [HO.out]
      exact HH.out
  · have HO : Hid (T.ofLD (bitsN x) real other = none) := Lib.hid (T.ofLD_len (by rw [HRL.out, HLL.out]; exact h1))
    have hne : ((n : Int) != (ln : Int)) = true := by rw [bne_iff_ne]; omega
    go_wp2
    go_ret3
    exact ⟨HE0.out, by rw [HO.out]; rfl⟩
end Go.Proofs.Ythaoibgcgkmnbaa

namespace Go.Proofs.Ythaoibgcgkmnbaa
set_option maxRecDepth 100000
open Go.RowKit

set_option maxHeartbeats 20000000 in
set_option maxRecDepth 100000 in
theorem cot_any (x : Int) (hx : -9223372036854775808 ≤ x ∧ x ≤ 9223372036854775807) (A : Option Addr) (n c : Nat) (xs : List UInt8) (B : Option Addr) (m d : Nat) (ys : List UInt8) (w : World) (hr : Rd w A n c 1 (bvs xs)) (hn : n ≤ 150000000000000) (hl : Rd w B m d 1 (bvs ys)) (hm : m ≤ 150000000000000) :
    Calls Try.prog 15 #[.agg #[.int .i64 x], .slice A n c, .slice B m d] w fun e w' => e = .returned (.bool (T.clashB (bitsN x) xs ys)) ∧ ExtW w w' := by
  have HX := Lib.hid hx
  have HR := Lib.hid hr
  have HN := Lib.hid hn
  have HL := Lib.hid hl
  have HM := Lib.hid hm
  have HB0 := Lib.hid (cell_new1 w (.int .i64 x) 30)
  have HE0 : Hid (ExtW w (w.alloc (.cells #[.int .i64 x] 30))) := Lib.hid ((Below.refl _ _).alloc (Nat.le_refl _) _)
  clear hx hr hn hl hm
  go_enter Try.func15, Try.ntmps15
  go_upto_region 1 with (fail)
  generalize w.alloc (.cells #[.int .i64 x] 30) = w1 at HB0 HE0 ⊢
  obtain ⟨g, hg⟩ : ∃ g, g = w.heap.size := ⟨_, rfl⟩
  rw [← hg] at HB0 ⊢
  clear hg
  have HR1 := Lib.hid (HR.out.below HE0.out (Nat.le_refl _))
  have HL1 := Lib.hid (HL.out.below HE0.out (Nat.le_refl _))
  by_cases h : xs = ys
  · have HD : Hid (decide (xs = ys) = true) := Lib.hid (by simp [h])
    have HO : Hid (T.clashB (bitsN x) xs ys = false) := Lib.hid (by unfold T.clashB; simp [h])
    clear h
    apply wp_region_ext _ (by kernel_rfl) (by kernel_rfl)
    iterate 2 (apply wpZ_det; (intro wq hE hG; first | exact obl_non (by rfl) | (apply obl_val (by rfl); go_simp <;> rfl)); (intro ak hak; simp only [Act.put, List.setIfInBounds_toArray, List.set_cons_succ, List.set_cons_zero] at hak; subst hak))
    (apply wpZ_det (c := .bool true); (intro wq hE hG; apply obl_on (by kernel_rfl); go_simp; simp only [extUpon_enter]; refine (equal_any A n c xs B m d ys _ (HR1.out.below (ExtW.of_drew hE) (Nat.le_refl _)) (HL1.out.below (ExtW.of_drew hE) (Nat.le_refl _))).mono ?_; rintro e w' ⟨rfl, hb⟩; exact ⟨_, rfl, hb, by rw [HD.out]⟩); (intro ak hak; simp only [Act.put, List.setIfInBounds_toArray, List.set_cons_succ, List.set_cons_zero] at hak; subst hak))
    iterate 13 (apply wpZ_det; (intro wq hE hG; first | exact obl_non (by rfl) | (apply obl_val (by rfl); go_simp <;> rfl)); (intro ak hak; simp only [Act.put, List.setIfInBounds_toArray, List.set_cons_succ, List.set_cons_zero] at hak; subst hak))
    (apply wpZ_nil; intro wq hE hG)
    have HE := Lib.hid (ExtW.trans HE0.out (ExtW.of_drew hE))
    clear hE hG
    go_wp2
    go_ret
    exact ⟨by rw [HO.out]; rfl, HE.out⟩
  · have HD : Hid (decide (xs = ys) = false) := Lib.hid (by simp [h])
    obtain ⟨bb, hbb⟩ : ∃ b, decide (keep (S.sha xs) (bitsN x) = keep (S.sha ys) (bitsN x)) = b := ⟨_, rfl⟩
    have HBB := Lib.hid hbb
    have HO : Hid (T.clashB (bitsN x) xs ys = bb) := Lib.hid (by unfold T.clashB T.sumD; rw [hbb]; simp [h])
    clear h hbb
    apply wp_region_ext _ (by kernel_rfl) (by kernel_rfl)
    iterate 2 (apply wpZ_det; (intro wq hE hG; first | exact obl_non (by rfl) | (apply obl_val (by rfl); go_simp <;> rfl)); (intro ak hak; simp only [Act.put, List.setIfInBounds_toArray, List.set_cons_succ, List.set_cons_zero] at hak; subst hak))
    (apply wpZ_det (c := .bool false); (intro wq hE hG; apply obl_on (by kernel_rfl); go_simp; simp only [extUpon_enter]; refine (equal_any A n c xs B m d ys _ (HR1.out.below (ExtW.of_drew hE) (Nat.le_refl _)) (HL1.out.below (ExtW.of_drew hE) (Nat.le_refl _))).mono ?_; rintro e w' ⟨rfl, hb⟩; exact ⟨_, rfl, hb, by rw [HD.out]⟩); (intro ak hak; simp only [Act.put, List.setIfInBounds_toArray, List.set_cons_succ, List.set_cons_zero] at hak; subst hak))
    iterate 4 (apply wpZ_det; (intro wq hE hG; first | exact obl_non (by rfl) | (apply obl_val (by rfl); go_simp <;> rfl)); (intro ak hak; simp only [Act.put, List.setIfInBounds_toArray, List.set_cons_succ, List.set_cons_zero] at hak; subst hak))
    (apply wpZ_det; (intro wq hE hG; have kk := (ExtW.of_drew hE).cellAt HB0.out; apply obl_val (by rfl); go_simp <;> rfl); (intro ak hak; simp only [Act.put, List.setIfInBounds_toArray, List.set_cons_succ, List.set_cons_zero] at hak; subst hak))
    (apply wpZ_det; (intro wq hE hG; apply obl_on (by kernel_rfl); go_simp; simp only [extUpon_enter]; refine (kept_any A n c xs x _ (HR1.out.below (ExtW.of_drew hE) (Nat.le_refl _)) (Nat.le_trans HN.out (by decide)) HX.out).mono ?_; rintro e w' ⟨rfl, hb⟩; exact ⟨_, rfl, hb, rfl⟩); (intro ak hak; simp only [Act.put, List.setIfInBounds_toArray, List.set_cons_succ, List.set_cons_zero] at hak; subst hak))
    iterate 2 (apply wpZ_det; (intro wq hE hG; first | exact obl_non (by rfl) | (apply obl_val (by rfl); go_simp <;> rfl)); (intro ak hak; simp only [Act.put, List.setIfInBounds_toArray, List.set_cons_succ, List.set_cons_zero] at hak; subst hak))
    (apply wpZ_det; (intro wq hE hG; have kk := (ExtW.of_drew hE).cellAt HB0.out; apply obl_val (by rfl); go_simp <;> rfl); (intro ak hak; simp only [Act.put, List.setIfInBounds_toArray, List.set_cons_succ, List.set_cons_zero] at hak; subst hak))
    (apply wpZ_det; (intro wq hE hG; apply obl_on (by kernel_rfl); go_simp; simp only [extUpon_enter]; refine (kept_any B m d ys x _ (HL1.out.below (ExtW.of_drew hE) (Nat.le_refl _)) (Nat.le_trans HM.out (by decide)) HX.out).mono ?_; rintro e w' ⟨rfl, hb⟩; exact ⟨_, rfl, hb, rfl⟩); (intro ak hak; simp only [Act.put, List.setIfInBounds_toArray, List.set_cons_succ, List.set_cons_zero] at hak; subst hak))
    (apply wpZ_det; (intro wq hE hG; exact obl_eqD (by rfl) rfl rfl rfl (by rw [keep_len, S.sha_len]) (by rw [keep_len, S.sha_len]) (HBB.out)); (intro ak hak; simp only [Act.put, List.setIfInBounds_toArray, List.set_cons_succ, List.set_cons_zero] at hak; subst hak))
    iterate 2 (apply wpZ_det; (intro wq hE hG; first | exact obl_non (by rfl) | (apply obl_val (by rfl); go_simp <;> rfl)); (intro ak hak; simp only [Act.put, List.setIfInBounds_toArray, List.set_cons_succ, List.set_cons_zero] at hak; subst hak))
    (apply wpZ_nil; intro wq hE hG)
    have HE := Lib.hid (ExtW.trans HE0.out (ExtW.of_drew hE))
    clear hE hG
    go_wp2
    go_ret
    exact ⟨by rw [HO.out]; rfl, HE.out⟩
end Go.Proofs.Ythaoibgcgkmnbaa
