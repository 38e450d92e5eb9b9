/- Walks of the document's OfRange and OfLists. -/
import Derived.Test.YthaoibgcgkmnbaaD3
import Derived.Test.YthaoibgcgkmnbaaD4
namespace Go.Proofs.Ythaoibgcgkmnbaa
set_option maxRecDepth 100000
open Go.RowKit

theorem diff1_drop {ps : List (List UInt8 × List UInt8)} {j : Nat} {p : List UInt8 × List UInt8} (h : ps[j]? = some p) : T.diff1 (ps.drop j) = if p.1 = p.2 then T.diff1 (ps.drop (j + 1)) else some p := by
  have h1 : ps.drop j = p :: ps.drop (j + 1) := by
    have h2 := (List.getElem?_eq_some_iff.1 h)
    obtain ⟨h3, h4⟩ := h2
    rw [List.drop_eq_getElem_cons h3, h4]
  rw [h1]
  obtain ⟨a, b⟩ := p
  rw [T.diff1_cons]

set_option maxHeartbeats 20000000 in
set_option maxRecDepth 100000 in
theorem rofr_any (x : Int) (hx : -9223372036854775808 ≤ x ∧ x ≤ 9223372036854775807) (A : Option Addr) (n c : Nat) (real : List (List UInt8)) (a : Int) (LA : Option Addr) (m lc : Nat) (part : List (List UInt8)) (PA : Option Addr) (pn pc : Nat) (path : List (List UInt8)) (w : World)
    (hr : Sts w A n c real) (hlv : Lv real) (hn : n ≤ 400000) (hl : Sts w LA m lc part) (hlvp : Lv part) (hm : m ≤ 1000000) (hp : Dls w PA pn pc path) :
    Calls Try.prog 18 #[.int .i64 x, .slice A n c, .int .i64 a, .slice LA m lc, .slice PA pn pc] w fun e w' => e = .returned (ofV (T.ofRD (bitsN x) real a part path)) ∧ ExtW w w' := by
  have HX := Lib.hid hx
  have HR := Lib.hid hr
  have HV := Lib.hid hlv
  have HL := Lib.hid hl
  have HVP := Lib.hid hlvp
  have HP := Lib.hid hp
  have HLN := Lib.hid hr.1
  have HML := Lib.hid hl.1
  have HPN := Lib.hid hp.len
  clear hx hr hlv hp hl hlvp
  go_enter Try.func18, Try.ntmps18
  go_wp2_with fail
  refine (rroot_any x HX.out (n + 1) A n c real _ (by omega) HR.out HV.out).mono ?_
  rintro e w3 ⟨rfl, hb⟩
  obtain ⟨d, hd⟩ : ∃ d, d = T.rootD (bitsN x) real := ⟨_, rfl⟩
  have HDL : Hid (d.length = 32) := Lib.hid (by rw [hd]; exact T.rootD_len _ _)
  have HD := Lib.hid hd
  have HE3 := Lib.hid hb
  rw [← hd]
  clear hd hb
  go_upto_region 2 with (first
    | (refine wpList_newD rfl rfl ?_)
    | (refine wpList_newst rfl rfl rfl HDL.out (d0 := List.replicate 32 0) rfl rfl rfl (zDig_row _) ?_))
  have HA4 := Lib.hid (stD_row w3 d)
  have HE4 := Lib.hid (ExtW.trans HE3.out (stD_ext w3 d))
  generalize (w3.alloc (.cells zDig 45)).setRow w3.heap.size (bvs d).toArray = w4 at HA4 HE4 ⊢
  obtain ⟨ga, hga⟩ : ∃ g, g = w3.heap.size := ⟨_, rfl⟩
  rw [← hga] at HA4 ⊢
  clear hga HE3
  have HSA : Hid ((bvs d).toArray.size = 32) := Lib.hid (dg_size HDL.out)
  go_wp2_with (refine wpList_ld rfl rfl ?_; refine ⟨ga, _, _, _, rfl, HA4.out, Try.underlying45, rfl, by rw [HSA.out]; kernel_rfl, ?_⟩)
  refine (rcr_any x HX.out d HDL.out (n : Int) a (by omega) LA m lc part PA pn pc path _ (HL.out.same HE4.out) HVP.out hm (HP.out.same HE4.out)).mono ?_
  rintro e w5 ⟨rfl, hb⟩
  have HE5 := Lib.hid (ExtW.trans HE4.out hb)
  clear hb HA4 HE4
  cases hck : T.checkRD (bitsN x) d (n : Int) a part path with
  | false =>
    have HNO : Hid (T.ofRD (bitsN x) real a part path = none) := Lib.hid (T.ofRD_no (by rw [← HD.out, HLN.out]; exact hck))
    clear hck
    go_wp2
    go_ret3
    exact ⟨by rw [HNO.out]; rfl, HE5.out⟩
  | true =>
  obtain ⟨hm0, ha0, han, hpl, _⟩ := T.checkRD_is HML.out hck
  have HYES : Hid (T.ofRD (bitsN x) real a part path = T.diff1 (T.spotsD (bitsN x) part real a path).1) := Lib.hid (T.ofRD_yes (by rw [← HD.out, HLN.out]; exact hck))
  have HPL := Lib.hid hpl
  clear hck hpl
  go_wp2_with fail
  refine (rspots_any x HX.out part HVP.out m HML.out hm (n + 1) A n c real a LA lc PA pn pc path w5 (by omega) (by omega) hn (by omega) (by omega) (HR.out.same HE5.out) HV.out (HL.out.same HE5.out) (HP.out.same HE5.out) (by rw [← HPL.out, HPN.out]; exact Nat.le_refl _)).mono ?_
  unfold SpotsPost
  rintro e w6 ⟨v, rfl, ho, hb⟩
  have HE6 := Lib.hid (ExtW.trans HE5.out hb)
  obtain ⟨ps, hps⟩ : ∃ q, q = (T.spotsD (bitsN x) part real a path).1 := ⟨_, rfl⟩
  obtain ⟨od, hod⟩ : ∃ q, q = (T.spotsD (bitsN x) part real a path).2.1 := ⟨_, rfl⟩
  have HODL : Hid (od.length = 32) := Lib.hid (by rw [hod]; exact (T.spotsD_len (bitsN x) part real a HP.out.all).1)
  have HPS := Lib.hid hps
  have HTL : Hid (ps.length ≤ 800000) := Lib.hid (by
    have h := T.spots_le (bitsN x) part (n + 1) real a path (by rw [HLN.out]; omega) (by rw [HLN.out]; omega)
    rw [← hps, HLN.out] at h
    omega)
  rw [← hps] at ho HYES
  rw [← hod]
  obtain ⟨vA, vc, rfl, hrd, hgg⟩ := ho.rd2
  have HGG := Lib.hid hgg
  obtain ⟨tn, htn⟩ : ∃ q, q = ps.length := ⟨_, rfl⟩
  have HTN := Lib.hid htn
  have htb : tn ≤ 800000 := by rw [htn]; exact HTL.out
  rw [← htn] at hrd ⊢
  have HS6 := Lib.hid hrd
  clear hod htn hps ho hb hrd hgg HE5 HTL
  go_upto_region 6 with (first
    | (refine wpList_newD rfl rfl ?_)
    | (refine wpList_newst rfl rfl rfl HODL.out (d0 := List.replicate 32 0) rfl rfl rfl (zDig_row _) ?_))
  have HE7 := Lib.hid (ExtW.trans HE6.out (stD_ext w6 od))
  have HS7 := Lib.hid (HS6.out.below (stD_ext w6 od) (Nat.le_refl _))
  generalize (w6.alloc (.cells zDig 45)).setRow w6.heap.size (bvs od).toArray = w7 at HE7 HS7 ⊢
  clear HE6 HS6
  go_upto_block 0 with (fail)
  go_wp2_with fail
  go_loopw [18] (fun i wr => ∃ j : Nat, i = .int .i64 (j : Int) ∧ j ≤ tn ∧ Hid (T.diff1 ps = T.diff1 (ps.drop j)) ∧ Hid (ExtW w7 wr)) (fun i _ => tn - (intOf i).toNat)
  case atStart => exact ⟨0, rfl, Nat.zero_le _, Lib.hid (by rw [List.drop_zero]), Lib.hid (ExtW.refl _)⟩
  case round =>
    obtain ⟨j, rfl, hjn, HDF, HE⟩ := hrel
    by_cases hlt : j < tn
    · have hli : (j : Int) < (tn : Int) := by omega
      obtain ⟨p, hp⟩ : ∃ p, ps[j]? = some p := ⟨_, List.getElem?_eq_getElem (by rw [← HTN.out]; exact hlt)⟩
      have HDD := Lib.hid (diff1_drop hp)
      obtain ⟨hc1, hc2⟩ := spC_get hp
      cases hA : vA with
      | none => have h3 := HS7.out.nil0 hA; have h4 := HS7.out.nc; omega
      | some pa =>
      have HC1 := Lib.hid (HS7.out.cell pa hA _ _ hc1)
      have HC2 : Hid (w7.cell? ⟨(pa.add (j * 2)).block, (pa.add (j * 2)).off + 1, none⟩ = some (strV p.2)) := Lib.hid (by
        obtain ⟨g, rfl⟩ := HGG.out pa hA
        have h := HS7.out.cell _ hA _ _ hc2
        rw [Addr.add_mid] at h
        rw [Addr.add_mid]
        simpa [Nat.add_assoc] using h)
      subst hA
      obtain ⟨p1, p2⟩ := p
      simp only at HC1 HC2 HDD
      clear hp hc1 hc2
      go_upto_region 9 with (fail)
      by_cases hpp : p1 = p2
      · subst hpp
        have HDN : Hid (T.diff1 ps = T.diff1 (ps.drop (j + 1))) := Lib.hid (by rw [HDF.out, HDD.out, if_pos rfl])
        apply wp_region_ext _ (by kernel_rfl) (by kernel_rfl)
        iterate 4 (apply wpZ_det; (intro wq hE hG; first | exact obl_non (by rfl) | (apply obl_val (by rfl); go_simp <;> rfl)); (intro ak hak; simp only [Act.put, List.setIfInBounds_toArray, List.set_cons_succ, List.set_cons_zero] at hak; subst hak))
        (apply wpZ_det; (intro wq hE hG; have kk := (ExtW.trans HE.out (ExtW.of_drew hE)).cellAt HC1.out; apply obl_val (by rfl); go_simp <;> rfl); (intro ak hak; simp only [Act.put, List.setIfInBounds_toArray, List.set_cons_succ, List.set_cons_zero] at hak; subst hak))
        iterate 4 (apply wpZ_det; (intro wq hE hG; first | exact obl_non (by rfl) | (apply obl_val (by rfl); go_simp <;> rfl)); (intro ak hak; simp only [Act.put, List.setIfInBounds_toArray, List.set_cons_succ, List.set_cons_zero] at hak; subst hak))
        (apply wpZ_det; (intro wq hE hG; have kk := (ExtW.trans HE.out (ExtW.of_drew hE)).cellAt HC2.out; apply obl_val (by rfl); go_simp <;> rfl); (intro ak hak; simp only [Act.put, List.setIfInBounds_toArray, List.set_cons_succ, List.set_cons_zero] at hak; subst hak))
        (apply wpZ_det (c := .bool false); (intro wq hE hG; apply obl_val (by rfl); unfold strV; go_simp <;> rfl); (intro ak hak; simp only [Act.put, List.setIfInBounds_toArray, List.set_cons_succ, List.set_cons_zero] at hak; subst hak))
        (apply wpZ_nil; intro wq hE hG)
        have HX2 := Lib.hid (ExtW.trans HE.out (ExtW.of_drew hE))
        clear hE hG
        go_wp2_with fail
        go_roundw
        case rel => exact ⟨j + 1, by simp, hlt, HDN, HX2⟩
        case measure => simp [intOf]; omega
      · have HSO : Hid (T.ofRD (bitsN x) real a part path = some (p1, p2)) := Lib.hid (by rw [HYES.out, HDF.out, HDD.out, if_neg hpp])
        have HNQ := Lib.hid hpp
        have HSS : Hid (ofV (some (p1, p2)) = .tuple #[strV p1, strV p2, .bool true]) := Lib.hid rfl
        clear hpp
        apply wp_region_ext _ (by kernel_rfl) (by kernel_rfl)
        iterate 4 (apply wpZ_det; (intro wq hE hG; first | exact obl_non (by rfl) | (apply obl_val (by rfl); go_simp <;> rfl)); (intro ak hak; simp only [Act.put, List.setIfInBounds_toArray, List.set_cons_succ, List.set_cons_zero] at hak; subst hak))
        (apply wpZ_det; (intro wq hE hG; have kk := (ExtW.trans HE.out (ExtW.of_drew hE)).cellAt HC1.out; apply obl_val (by rfl); go_simp <;> rfl); (intro ak hak; simp only [Act.put, List.setIfInBounds_toArray, List.set_cons_succ, List.set_cons_zero] at hak; subst hak))
        iterate 4 (apply wpZ_det; (intro wq hE hG; first | exact obl_non (by rfl) | (apply obl_val (by rfl); go_simp <;> rfl)); (intro ak hak; simp only [Act.put, List.setIfInBounds_toArray, List.set_cons_succ, List.set_cons_zero] at hak; subst hak))
        (apply wpZ_det; (intro wq hE hG; have kk := (ExtW.trans HE.out (ExtW.of_drew hE)).cellAt HC2.out; apply obl_val (by rfl); go_simp <;> rfl); (intro ak hak; simp only [Act.put, List.setIfInBounds_toArray, List.set_cons_succ, List.set_cons_zero] at hak; subst hak))
        (apply wpZ_det (c := .bool true); (intro wq hE hG; apply obl_val (by rfl); unfold strV; go_simp <;> first | rfl | exact HNQ.out); (intro ak hak; simp only [Act.put, List.setIfInBounds_toArray, List.set_cons_succ, List.set_cons_zero] at hak; subst hak))
        (apply wpZ_nil; intro wq hE hG)
        have HX2 := Lib.hid (ExtW.trans HE.out (ExtW.of_drew hE))
        clear hE hG
        go_upto_region 10 with (fail)
        apply wp_region_ext_tail 11 _ (by kernel_rfl) (by kernel_rfl)
        simp only [List.take_succ_cons, List.take_zero, List.drop_succ_cons, List.drop_zero]
        iterate 4 (apply wpZ_det; (intro wq hE hG; first | exact obl_non (by rfl) | (apply obl_val (by rfl); go_simp <;> rfl)); (intro ak hak; simp only [Act.put, List.setIfInBounds_toArray, List.set_cons_succ, List.set_cons_zero] at hak; subst hak))
        (apply wpZ_det; (intro wq hE hG; have kk := (ExtW.trans HX2.out (ExtW.of_drew hE)).cellAt HC1.out; apply obl_val (by rfl); go_simp <;> rfl); (intro ak hak; simp only [Act.put, List.setIfInBounds_toArray, List.set_cons_succ, List.set_cons_zero] at hak; subst hak))
        iterate 4 (apply wpZ_det; (intro wq hE hG; first | exact obl_non (by rfl) | (apply obl_val (by rfl); go_simp <;> rfl)); (intro ak hak; simp only [Act.put, List.setIfInBounds_toArray, List.set_cons_succ, List.set_cons_zero] at hak; subst hak))
        (apply wpZ_det; (intro wq hE hG; have kk := (ExtW.trans HX2.out (ExtW.of_drew hE)).cellAt HC2.out; apply obl_val (by rfl); go_simp <;> rfl); (intro ak hak; simp only [Act.put, List.setIfInBounds_toArray, List.set_cons_succ, List.set_cons_zero] at hak; subst hak))
        (apply wpZ_det; (intro wq hE hG; first | exact obl_non (by rfl) | (apply obl_val (by rfl); go_simp <;> rfl)); (intro ak hak; simp only [Act.put, List.setIfInBounds_toArray, List.set_cons_succ, List.set_cons_zero] at hak; subst hak))
        (apply wpZ_nil; intro wr hE hG)
        have HX3 := Lib.hid (ExtW.trans HX2.out (ExtW.of_drew hE))
        clear hE hG
        go_wp2
        go_ret3
        exact ⟨by rw [HSO.out, HSS.out]; rfl, ExtW.trans HE7.out HX3.out⟩
    · obtain rfl : j = tn := by omega
      have hli : ¬ (j : Int) < (j : Int) := by omega
      have HSO : Hid (T.ofRD (bitsN x) real a part path = none) := Lib.hid (by rw [HYES.out, HDF.out, HTN.out, List.drop_length]; rfl)
      go_wp2
      go_ret3
      exact ⟨by rw [HSO.out]; rfl, ExtW.trans HE7.out HE.out⟩

set_option maxHeartbeats 20000000 in
set_option maxRecDepth 100000 in
theorem rofl_any (x : Int) (hx : -9223372036854775808 ≤ x ∧ x ≤ 9223372036854775807) (A : Option Addr) (n c : Nat) (real : List (List UInt8)) (LA : Option Addr) (m lc : Nat) (other : List (List UInt8)) (w : World)
    (hr : Sts w A n c real) (hlv : Lv real) (hn : n ≤ 400000) (hl : Sts w LA m lc other) (hlvp : Lv other) (hm : m ≤ 1000000) :
    Calls Try.prog 20 #[.int .i64 x, .slice A n c, .slice LA m lc] w fun e w' => e = .returned (ofV (T.ofLD (bitsN x) real other)) ∧ ExtW w w' := by
  have HX := Lib.hid hx
  have HR := Lib.hid hr
  have HV := Lib.hid hlv
  have HL := Lib.hid hl
  have HVP := Lib.hid hlvp
  have HLN := Lib.hid hr.1
  have HML := Lib.hid hl.1
  clear hx hr hlv hl hlvp
  by_cases hnm : n = m
  · subst hnm
    have hne : ((n : Int) != (n : Int)) = false := by simp
    by_cases h0 : n = 0
    · subst h0
      have HNO : Hid (T.ofLD (bitsN x) real other = none) := Lib.hid (T.ofLD_nil HLN.out)
      go_enter Try.func20, Try.ntmps20
      go_wp2
      go_ret3
      exact ⟨by rw [HNO.out]; rfl, ExtW.refl _⟩
    · have hne0 : ((n : Int) == 0) = false := by rw [beq_eq_false_iff_ne]; omega
      have HYES : Hid (T.ofLD (bitsN x) real other = T.ofRD (bitsN x) real 0 other []) := Lib.hid (by unfold T.ofLD; rw [if_neg (by rw [HLN.out, HML.out]; omega)])
      have HPN : Hid (Dls w none 0 0 []) := Lib.hid ⟨rfl, (fun d hd => by cases hd), Rd.nil w 32⟩
      clear h0
      go_enter Try.func20, Try.ntmps20
      go_wp2_with fail
      refine (rofr_any x HX.out A n c real 0 LA n lc other none 0 0 [] w HR.out HV.out hn HL.out HVP.out hm HPN.out).mono ?_
      rintro e w2 ⟨rfl, hb⟩
      have HB := Lib.hid hb
      obtain ⟨o, ho⟩ : ∃ o, o = T.ofRD (bitsN x) real 0 other [] := ⟨_, rfl⟩
      rw [← ho] at HYES ⊢
      clear ho hb
      cases o with
      | none =>
        unfold ofV
        go_wp2
        go_ret3
        exact ⟨by rw [HYES.out]; rfl, HB.out⟩
      | some p =>
        obtain ⟨p1, p2⟩ := p
        unfold ofV
        go_wp2
        go_ret3
        exact ⟨by rw [HYES.out]; rfl, HB.out⟩
  · have HNO : Hid (T.ofLD (bitsN x) real other = none) := Lib.hid (T.ofLD_len (by rw [HLN.out, HML.out]; exact hnm))
    have hne : ((n : Int) != (m : Int)) = true := by rw [bne_iff_ne]; omega
    have hne2 : ((n : Int) == (m : Int)) = false := by rw [beq_eq_false_iff_ne]; omega
    clear hnm
    go_enter Try.func20, Try.ntmps20
    go_wp2
    go_ret3
    exact ⟨by rw [HNO.out]; rfl, ExtW.refl _⟩
end Go.Proofs.Ythaoibgcgkmnbaa
