/- Walks of the document's Over, CheckRange. -/
import Derived.Test.YtncdgndeidbgoaaR4
namespace Go.Proofs.Ytncdgndeidbgoaa
open Go.RowKit

namespace T
theorem popsD_le_open {B : Nat} {part : List (List UInt8)} {m cn : Nat} (hm : part.length = m) {root : List UInt8} {a : Int} {ds : List (List UInt8)} (hin : ¬ (m = 0 ∨ a < 0 ∨ (cn : Int) < m ∨ (cn : Int) - m < a)) {d : List UInt8} {u : Nat} {ok : Bool}
    (hok : ok = decide (popsD cn a m ≤ ds.length)) (hu : ok = true → u = popsD cn a m ∧ d = (openD B part cn a ds false).1) : checkRD B root cn a part ds = (ok && decide (u = ds.length) && decide (d = root)) := by
  rw [checkRD_in hm hin rfl]
  by_cases h : popsD cn a m ≤ ds.length
  · have hk : ok = true := by rw [hok]; simp [h]
    obtain ⟨h1, h2⟩ := hu hk
    rw [openD_ge B part hm (cn + 1) cn a ds false (by omega) h, hk, h1, h2]
    have h3 : decide (ds.drop (popsD cn a m) = []) = decide (popsD cn a m = ds.length) := by
      apply decide_eq_decide.2
      rw [List.drop_eq_nil_iff]
      omega
    simp only [h3, Bool.not_false, Bool.true_and]
  · have hk : ok = false := by rw [hok]; simp [h]
    rw [openD_lt B part hm (cn + 1) cn a ds false (by omega) (by omega), hk]
    rfl
end T

/-- what a call of Over does -/
def OverPost (B : Nat) (part : List (List UInt8)) (m cn : Nat) (a : Int) (ds : List (List UInt8)) (w : World) (e : Ending) (w' : World) : Prop :=
  ∃ (d : List UInt8) (u : Nat) (ok : Bool), e = .returned (.tuple #[dgV d, .int .i64 (u : Int), .bool ok]) ∧ d.length = 32 ∧ u ≤ ds.length ∧ ok = decide (T.popsD cn a m ≤ ds.length) ∧ (ok = true → u = T.popsD cn a m ∧ d = (T.openD B part cn a ds false).1) ∧ ExtW w w'

set_option maxHeartbeats 8000000 in
set_option maxRecDepth 100000 in
theorem rover_any (x : Int) (hx : -9223372036854775808 ≤ x ∧ x ≤ 9223372036854775807) (part : List (List UInt8)) (hlv : Lv part) (n : Nat) (hlen : part.length = n) (hn : n ≤ 1000000) :
    ∀ (N : Nat) (cn : Nat) (a : Int) (A : Option Addr) (c : Nat) (PA : Option Addr) (pn pc : Nat) (ds : List (List UInt8)) (w : World), cn < N → 1 ≤ cn → -9223372036854775807 ≤ a - cn → a + n ≤ 9223372036854775807 → cn < 9223372036854775808 → Sts w A n c part → Dls w PA pn pc ds →
    Calls Try.prog 53 #[.int .i64 x, .int .i64 (cn : Int), .int .i64 a, .slice A n c, .slice PA pn pc] w (OverPost (bitsN x) part n cn a ds w) := by
  have HX := Lib.hid hx
  have HV := Lib.hid hlv
  have HPL := Lib.hid hlen
  clear hx hlv hlen
  intro N
  induction N with
  | zero => intro cn a A c PA pn pc ds w h; omega
  | succ N ih =>
    intro cn a A c PA pn pc ds w hcN hc1 ha1 ha2 hc2 hs hp
    have hnc := hp.rd.nc
    have hcm := hp.rd.cm
    unfold maxLen at hcm
    have HS0 := Lib.hid hs
    have HP := Lib.hid hp
    have HDN := Lib.hid hp.len
    clear hs hp
    go_enter Try.func53, Try.ntmps53
    go_upto_region 1 with (refine wpList_newD rfl rfl ?_)
    have HD1 := Lib.hid (zDig_row w)
    have HE1 : Hid (ExtW w (w.alloc (.cells zDig 24))) := Lib.hid ((Below.refl _ _).alloc (Nat.le_refl _) _)
    obtain ⟨gd, hgd⟩ : ∃ g, g = w.heap.size := ⟨_, rfl⟩
    have HGD : Hid (w.heap.size ≤ gd) := Lib.hid (by omega)
    rw [← hgd] at HD1
    rw [← hgd]
    clear hgd
    generalize w.alloc (.cells zDig 24) = w1 at HD1 HE1 ⊢
    have HP1 := Lib.hid (HP.out.same HE1.out)
    have HS1 := Lib.hid (HS0.out.same HE1.out)
    have hsum : IntKind.i64.wrap (a + (n : Int)) = a + (n : Int) := IntWalk.i64_in _ (by omega)
    by_cases hout : a + (n : Int) ≤ 0 ∨ (cn : Int) ≤ a
    · have HPP := Lib.hid (T.popsD_out (n := cn) (a := a) (m := n) hout)
      have HOUT := Lib.hid hout
      have hcase : (a + (n : Int) ≤ 0) ∨ (¬ a + (n : Int) ≤ 0 ∧ (cn : Int) ≤ a ∧ ¬ a < (cn : Int)) := by omega
      clear hout
      by_cases hm : pn = 0
      · subst hm
        rcases hcase with h1 | ⟨h1, h2, h3⟩
        all_goals
          go_wp2_with (first
            | (refine wpList_bldG rfl (by rfl) ?_; refine ⟨.agg (bvs (List.replicate 32 0)).toArray, by kernel_rfl, ?_⟩)
            | (refine wpList_st rfl rfl ?_; refine ⟨gd, _, _, _, rfl, rfl, HD1.out, by kernel_rfl, rfl, dg_one _, ?_⟩))
          (try simp only [Exit.inBlock, Exit.then])
          have hld := run_loadVar_row (P := Try.prog) (w1.setRow gd (bvs (List.replicate 32 0)).toArray) gd 24 24 (bvs (List.replicate 32 0)).toArray (0, 0) _ (Row.setRow HD1.out (bvs (List.replicate 32 0))) Try.underlying24 rfl (by kernel_rfl)
          refine bodyPost_ret (results_ctt rfl _ _ _ rfl hld) rfl ?_
          exact ⟨List.replicate 32 0, 0, false, rfl, rfl, Nat.zero_le _, by rw [HPP.out, HDN.out]; rfl, (fun h => by cases h), below_setRow HE1.out HGD.out _⟩
      · obtain ⟨y, rest, hyr⟩ : ∃ y r, ds = y :: r := by
          cases hd : ds with
          | nil => exact absurd (by have := HDN.out; rw [hd] at this; exact this.symm) hm
          | cons y r => exact ⟨y, r, rfl⟩
        have HYL : Hid (y.length = 32) := Lib.hid (HP.out.all y (by rw [hyr]; exact List.mem_cons_self ..))
        have HYS : Hid ((bvs y).toArray.size = 32) := Lib.hid (dg_size HYL.out)
        have HYR := Lib.hid hyr
        have HPO := Lib.hid (T.openD_take (B := bitsN x) (part := part) (n := cn) (a := a) (d := y) (r := rest) (bad := false) HPL.out HOUT.out)
        have hm0 : 0 < pn := by omega
        have hne0 : ((pn : Int) == 0) = false := by rw [beq_eq_false_iff_ne]; omega
        obtain ⟨pa, hpa⟩ := HP.out.addr hm0
        subst hpa
        have hld := HP1.out.load (k := 0) (d := y) (by rw [hyr]; rfl)
        rw [show pa.add (0 * 32) = pa by simp [Addr.add]] at hld
        clear hyr
        rcases hcase with h1 | ⟨h1, h2, h3⟩
        all_goals
          go_wp2_with (first
            | (refine wpList_ldA rfl (by rfl) rfl hld ?_; unfold dgV)
            | (refine wpList_st rfl rfl ?_; refine ⟨gd, _, _, _, rfl, rfl, HD1.out, by rw [HYS.out]; kernel_rfl, Eq.trans (show (bvs (List.replicate 32 0)).toArray.size = 32 from rfl) HYS.out.symm, dg_one _, ?_⟩))
          (try simp only [Exit.inBlock, Exit.then])
          have hlr := run_loadVar_row (P := Try.prog) (w1.setRow gd (bvs y).toArray) gd 24 24 (bvs y).toArray (0, 0) _ (Row.setRow HD1.out (bvs y)) Try.underlying24 rfl (by rw [HYS.out]; kernel_rfl)
          refine bodyPost_ret (results_ctt rfl _ _ _ rfl hlr) rfl ?_
          exact ⟨y, 1, true, rfl, HYL.out, by rw [HDN.out]; exact hm0, by rw [HPP.out, HDN.out]; exact (decide_eq_true hm0).symm, fun _ => ⟨HPP.out.symm, by rw [HYR.out, HPO.out]⟩, below_setRow HE1.out HGD.out _⟩
    have HOUT := Lib.hid hout
    have hn1 : ¬ a + (n : Int) ≤ 0 := by omega
    have hn2 : ¬ (cn : Int) ≤ a := by omega
    have hn3 : a < (cn : Int) := by omega
    by_cases h1 : cn = 1
    · have HPO := Lib.hid (T.openD_leaf (B := bitsN x) (part := part) (n := cn) (a := a) (ds := ds) (bad := false) HPL.out hout (by omega))
      have HPP := Lib.hid (T.popsD_one (n := cn) (a := a) (m := n) hout (by omega))
      subst h1
      obtain ⟨j, hj⟩ : ∃ j : Nat, -a = (j : Int) := ⟨(-a).toNat, by omega⟩
      have hjn : j < n := by omega
      have hjni : (j : Int) < (n : Int) := by omega
      have hneg : IntKind.i64.wrap (-a) = (j : Int) := by rw [IntWalk.i64_in _ (by omega)]; exact hj
      obtain ⟨y, hy⟩ : ∃ y, part[j]? = some y := ⟨_, List.getElem?_eq_getElem (by rw [HPL.out]; exact hjn)⟩
      have HGT : Hid (part.getD (-a).toNat [] = y) := Lib.hid (by rw [hj, Int.toNat_natCast, List.getD_eq_getElem?_getD, hy]; rfl)
      obtain ⟨sa, hsa⟩ := HS1.out.addr (by omega)
      subst hsa
      have hc0 := HS1.out.at hy
      have HYL : Hid (y.length ≤ 1000000) := Lib.hid (HV.out y (List.mem_of_getElem? hy))
      clear hy hj hout
      go_wp2_with fail
      refine (rleaf_any x HX.out y _ HYL.out).mono ?_
      rintro e we ⟨rfl, hbe⟩
      have HDE := Lib.hid (HD1.out.ext hbe)
      have HEE := Lib.hid (ExtW.trans HE1.out hbe)
      clear hbe hc0
      obtain ⟨d, hd⟩ : ∃ d, d = T.leafD (bitsN x) y := ⟨_, rfl⟩
      have HS : Hid ((bvs d).toArray.size = 32) := Lib.hid (dg_size (by rw [hd]; exact T.leafD_len _ _))
      have HDL : Hid (d = T.leafD (bitsN x) y) := Lib.hid hd
      rw [← hd]
      clear hd
      unfold dgV
      go_wp2_with (refine wpList_st rfl rfl ?_; refine ⟨gd, _, _, _, rfl, rfl, HDE.out, by rw [HS.out]; kernel_rfl, Eq.trans (show (bvs (List.replicate 32 0)).toArray.size = 32 from rfl) HS.out.symm, dg_one _, ?_⟩)
      (try simp only [Exit.inBlock, Exit.then])
      have hld := run_loadVar_row (P := Try.prog) (we.setRow gd (bvs d).toArray) gd 24 24 (bvs d).toArray (0, 0) _ (Row.setRow HDE.out (bvs d)) Try.underlying24 rfl (by rw [HS.out]; kernel_rfl)
      refine bodyPost_ret (results_ctt rfl _ _ _ rfl hld) rfl ?_
      exact ⟨d, 0, true, rfl, by rw [HDL.out]; exact T.leafD_len _ _, Nat.zero_le _, by rw [HPP.out]; exact (decide_eq_true (Nat.zero_le _)).symm, fun _ => ⟨HPP.out.symm, by rw [HPO.out, HGT.out, HDL.out]⟩, below_setRow HEE.out HGD.out _⟩
    have h2 : 2 ≤ cn := by omega
    have hne1 : ((cn : Int) == 1) = false := by rw [beq_eq_false_iff_ne]; omega
    obtain ⟨k, hk⟩ : ∃ k, k = T.half cn := ⟨_, rfl⟩
    have hhl := T.half_lt h2
    rw [← hk] at hhl
    have HPO := Lib.hid (T.openD_more (B := bitsN x) (part := part) (n := cn) (a := a) (ds := ds) (bad := false) HPL.out hout (by omega) hk)
    have HPP := Lib.hid (T.popsD_more (n := cn) (a := a) (m := n) hout (by omega) hk)
    have HK := Lib.hid hk
    clear hk hout
    go_wp2_with fail
    refine (rhalf_any cn _ ⟨by omega, by omega⟩).mono ?_
    rintro e we ⟨rfl, rfl⟩
    rw [← HK.out]
    go_wp2_with fail
    refine (ih k a A c PA pn pc ds we (by omega) (by omega) (by omega) (by omega) (by omega) HS1.out HP1.out).mono ?_
    rintro e w3 ⟨d1, u1, ok1, rfl, hdl, hul, hok, hcl, hb⟩
    have HDL1 := Lib.hid hdl
    have HOK1 := Lib.hid hok
    have HCL1 := Lib.hid hcl
    have HE3 := Lib.hid (ExtW.trans HE1.out hb)
    have HD3 := Lib.hid (HD1.out.ext hb)
    have HP3 := Lib.hid (HP1.out.same hb)
    have HS3 := Lib.hid (HS1.out.same hb)
    rw [HDN.out] at hul
    clear hdl hok hcl hb HD1 HE1 HP1 HS1
    go_upto_region 9 with (first
      | (refine wpList_newD rfl rfl ?_)
      | (refine wpList_newst rfl rfl rfl HDL1.out (d0 := List.replicate 32 0) rfl rfl rfl (zDig_row _) ?_))
    have HA4 := Lib.hid (stD_row w3 d1)
    have HE4 := Lib.hid (ExtW.trans HE3.out (stD_ext w3 d1))
    have HD4 := Lib.hid (HD3.out.ext (stD_ext w3 d1))
    have HP4 := Lib.hid (HP3.out.same (stD_ext w3 d1))
    have HS4 := Lib.hid (HS3.out.same (stD_ext w3 d1))
    generalize (w3.alloc (.cells zDig 24)).setRow w3.heap.size (bvs d1).toArray = w4 at HA4 HE4 HD4 HP4 HS4 ⊢
    obtain ⟨ga, hga⟩ : ∃ g, g = w3.heap.size := ⟨_, rfl⟩
    rw [← hga] at HA4 ⊢
    clear hga HE3 HD3 HP3 HS3
    cases ok1 with
    | false =>
      have HNO : Hid (false = decide (T.popsD cn a n ≤ ds.length)) := Lib.hid (by
        have h := of_decide_eq_false HOK1.out.symm
        rw [HPP.out]
        exact (decide_eq_false (by omega)).symm)
      clear HOK1
      go_wp2_with (first
        | (refine wpList_bldG rfl (by rfl) ?_; refine ⟨.agg (bvs (List.replicate 32 0)).toArray, by kernel_rfl, ?_⟩)
        | (refine wpList_st rfl rfl ?_; refine ⟨gd, _, _, _, rfl, rfl, HD4.out, by kernel_rfl, rfl, dg_one _, ?_⟩))
      (try simp only [Exit.inBlock, Exit.then])
      have hld := run_loadVar_row (P := Try.prog) (w4.setRow gd (bvs (List.replicate 32 0)).toArray) gd 24 24 (bvs (List.replicate 32 0)).toArray (0, 0) _ (Row.setRow HD4.out (bvs (List.replicate 32 0))) Try.underlying24 rfl (by kernel_rfl)
      refine bodyPost_ret (results_ctt rfl _ _ _ rfl hld) rfl ?_
      exact ⟨List.replicate 32 0, 0, false, rfl, rfl, Nat.zero_le _, HNO.out, (fun h => by cases h), below_setRow HE4.out HGD.out _⟩
    | true =>
      obtain ⟨hu1, hd1⟩ := HCL1.out rfl
      have hpk := of_decide_eq_true HOK1.out.symm
      have HU1 := Lib.hid hu1
      have HD1' := Lib.hid hd1
      have HPK := Lib.hid hpk
      have HOG := Lib.hid (T.openD_ge (bitsN x) part HPL.out (k + 1) k a ds false (by omega) hpk)
      clear hu1 hd1 hpk HCL1 HOK1
      have hs1 : IntKind.i64.wrap ((cn : Int) - (k : Int)) = ((cn - k : Nat) : Int) := by rw [IntWalk.i64_in _ (by omega)]; omega
      have hs2 : IntKind.i64.wrap (a - (k : Int)) = a - (k : Int) := IntWalk.i64_in _ (by omega)
      have hdr := run_dropD PA pn pc u1 hul hnc
      go_wp2_with fail
      refine (ih (cn - k) (a - (k : Int)) A c (dropD PA pc u1) (pn - u1) (pc - u1) (ds.drop u1) w4 (by omega) (by omega) (by omega) (by omega) (by omega) HS4.out (HP4.out.dropD hul)).mono ?_
      rintro e w5 ⟨d2, u2, ok2, rfl, hdl, hul2, hok, hcl, hb⟩
      have HDL2 := Lib.hid hdl
      have HOK2 := Lib.hid hok
      have HCL2 := Lib.hid hcl
      have HE5 := Lib.hid (ExtW.trans HE4.out hb)
      have HD5 := Lib.hid (HD4.out.ext hb)
      have HA5 := Lib.hid (HA4.out.ext hb)
      rw [List.length_drop, HDN.out] at hul2
      clear hdl hok hcl hb hs1 hs2 HD4 HE4 HA4
      go_upto_region 12 with (first
        | (refine wpList_newD rfl rfl ?_)
        | (refine wpList_newst rfl rfl rfl HDL2.out (d0 := List.replicate 32 0) rfl rfl rfl (zDig_row _) ?_))
      have HB6 := Lib.hid (stD_row w5 d2)
      have HE6 := Lib.hid (ExtW.trans HE5.out (stD_ext w5 d2))
      have HD6 := Lib.hid (HD5.out.ext (stD_ext w5 d2))
      have HA6 := Lib.hid (HA5.out.ext (stD_ext w5 d2))
      generalize (w5.alloc (.cells zDig 24)).setRow w5.heap.size (bvs d2).toArray = w6 at HB6 HE6 HD6 HA6 ⊢
      obtain ⟨gb, hgb⟩ : ∃ g, g = w5.heap.size := ⟨_, rfl⟩
      rw [← hgb] at HB6 ⊢
      clear hgb HE5 HD5 HA5
      have HSA : Hid ((bvs d1).toArray.size = 32) := Lib.hid (dg_size HDL1.out)
      have HSB : Hid ((bvs d2).toArray.size = 32) := Lib.hid (dg_size HDL2.out)
      go_wp2_with (refine wpList_ld rfl rfl ?_; first | refine ⟨ga, _, _, _, rfl, HA6.out, Try.underlying24, rfl, by rw [HSA.out]; kernel_rfl, ?_⟩ | refine ⟨gb, _, _, _, rfl, HB6.out, Try.underlying24, rfl, by rw [HSB.out]; kernel_rfl, ?_⟩)
      refine (rnode_any x HX.out d1 d2 _ HDL1.out HDL2.out).mono ?_
      rintro e w7 ⟨rfl, hb⟩
      have HDE := Lib.hid (HD6.out.ext hb)
      have HEE := Lib.hid (ExtW.trans HE6.out hb)
      have hs3 : IntKind.i64.wrap ((u1 : Int) + (u2 : Int)) = ((u1 + u2 : Nat) : Int) := by rw [IntWalk.i64_in _ (by omega)]; omega
      have HLE : Hid (u1 + u2 ≤ ds.length) := Lib.hid (by rw [HDN.out]; omega)
      have HOKS : Hid (ok2 = decide (T.popsD cn a n ≤ ds.length)) := Lib.hid (by
        rw [HOK2.out, HPP.out, List.length_drop, HU1.out]
        have := HPK.out
        exact decide_eq_decide.2 (by omega))
      have HYES : Hid (ok2 = true → u1 + u2 = T.popsD cn a n ∧ T.nodeD (bitsN x) d1 d2 = (T.openD (bitsN x) part cn a ds false).1) := Lib.hid (fun h => by
        obtain ⟨e1, e2⟩ := HCL2.out h
        rw [HPP.out, HPO.out, HOG.out, ← HU1.out, e1, e2, HD1'.out]
        exact ⟨rfl, rfl⟩)
      clear hb HD6 HE6 HA6 HB6
      obtain ⟨d, hd⟩ : ∃ d, d = T.nodeD (bitsN x) d1 d2 := ⟨_, rfl⟩
      have HS : Hid ((bvs d).toArray.size = 32) := Lib.hid (dg_size (by rw [hd]; exact T.nodeD_len _ _ _))
      have HDL : Hid (d = T.nodeD (bitsN x) d1 d2) := Lib.hid hd
      rw [← hd]
      clear hd
      unfold dgV
      go_wp2_with (refine wpList_st rfl rfl ?_; refine ⟨gd, _, _, _, rfl, rfl, HDE.out, by rw [HS.out]; kernel_rfl, Eq.trans (show (bvs (List.replicate 32 0)).toArray.size = 32 from rfl) HS.out.symm, dg_one _, ?_⟩)
      (try simp only [Exit.inBlock, Exit.then])
      have hld := run_loadVar_row (P := Try.prog) (w7.setRow gd (bvs d).toArray) gd 24 24 (bvs d).toArray (0, 0) _ (Row.setRow HDE.out (bvs d)) Try.underlying24 rfl (by rw [HS.out]; kernel_rfl)
      refine bodyPost_ret (results_ctt rfl _ _ _ rfl hld) rfl ?_
      exact ⟨d, u1 + u2, ok2, by first | rfl | simp [hs3], by rw [HDL.out]; exact T.nodeD_len _ _ _, HLE.out, HOKS.out, by rw [HDL.out]; exact HYES.out, below_setRow HEE.out HGD.out _⟩

set_option maxHeartbeats 4000000 in
set_option maxRecDepth 100000 in
theorem rcr_no (x : Int) (root : List UInt8) (cn a : Int) (hcn : cn ≤ 9223372036854775807) (A : Option Addr) (n c : Nat) (vp : Value) (w : World) (h : n = 0 ∨ a < 0 ∨ cn < n ∨ cn - n < a) :
    Calls Try.prog 38 #[.int .i64 x, dgV root, .int .i64 cn, .int .i64 a, .slice A n c, vp] w fun e w' => e = .returned (.bool false) ∧ ExtW w w' := by
  have HE0 : Hid (ExtW w (w.alloc (.cells (bvs root).toArray 24))) := Lib.hid ((Below.refl _ _).alloc (Nat.le_refl _) _)
  unfold dgV
  by_cases h0 : n = 0
  · subst h0
    clear h
    go_enter Try.func38, Try.ntmps38
    go_wp2
    go_ret
    exact ⟨rfl, HE0.out⟩
  have hne0 : ((n : Int) == 0) = false := by rw [beq_eq_false_iff_ne]; omega
  have hc : a < 0 ∨ (¬ a < 0 ∧ cn < n ∧ ¬ (n : Int) ≤ cn) ∨ (¬ a < 0 ∧ ¬ cn < n ∧ cn - n < a ∧ ¬ a ≤ cn - n) := by omega
  clear h h0
  rcases hc with h1 | ⟨h1, h2, h3⟩ | ⟨h1, h2, h3, h4⟩
  · go_enter Try.func38, Try.ntmps38
    go_wp2
    go_ret
    exact ⟨rfl, HE0.out⟩
  · go_enter Try.func38, Try.ntmps38
    go_wp2
    go_ret
    exact ⟨rfl, HE0.out⟩
  · have hs : IntKind.i64.wrap (cn - (n : Int)) = cn - (n : Int) := IntWalk.i64_in _ (by omega)
    go_enter Try.func38, Try.ntmps38
    go_wp2
    go_ret
    exact ⟨rfl, HE0.out⟩

set_option maxHeartbeats 4000000 in
set_option maxRecDepth 100000 in
theorem rcr_in (x : Int) (hx : -9223372036854775808 ≤ x ∧ x ≤ 9223372036854775807) (root : List UInt8) (hroot : root.length = 32) (cn : Nat) (a : Int) (hcn : cn < 9223372036854775808)
    (A : Option Addr) (n c : Nat) (part : List (List UInt8)) (PA : Option Addr) (pn pc : Nat) (path : List (List UInt8)) (w : World) (hpart : Sts w A n c part) (hlv : Lv part) (hn : n ≤ 1000000) (hp : Dls w PA pn pc path)
    (hin : ¬ (n = 0 ∨ a < 0 ∨ (cn : Int) < n ∨ (cn : Int) - n < a)) :
    Calls Try.prog 38 #[.int .i64 x, dgV root, .int .i64 (cn : Int), .int .i64 a, .slice A n c, .slice PA pn pc] w fun e w' => e = .returned (.bool (T.checkRD (bitsN x) root cn a part path)) ∧ ExtW w w' := by
  have HX := Lib.hid hx
  have HRL := Lib.hid hroot
  have HP := Lib.hid hp
  have HB := Lib.hid hpart
  have HV := Lib.hid hlv
  have HPN := Lib.hid hp.len
  have HLN := Lib.hid hpart.1
  have HIN := Lib.hid hin
  have hne0 : ((n : Int) == 0) = false := by rw [beq_eq_false_iff_ne]; omega
  have h1 : ¬ a < 0 := by omega
  have h2 : decide (cn < n) = false := by rw [decide_eq_false_iff_not]; omega
  have h3 : ¬ (cn : Int) - n < a := by omega
  have h4 : a ≤ (cn : Int) - n := by omega
  have h5 : (n : Int) ≤ cn := by omega
  have hs : IntKind.i64.wrap ((cn : Int) - (n : Int)) = (cn : Int) - (n : Int) := IntWalk.i64_in _ (by omega)
  have hc1 : 1 ≤ cn := by omega
  have HR1 : Hid (Row (w.alloc (.cells (bvs root).toArray 24)) w.heap.size 24 (bvs root)) := Lib.hid (heap_alloc_last _ _)
  have HE1 : Hid (ExtW w (w.alloc (.cells (bvs root).toArray 24))) := Lib.hid ((Below.refl _ _).alloc (Nat.le_refl _) _)
  clear hx hroot hp hpart hlv hin
  unfold dgV
  go_enter Try.func38, Try.ntmps38
  go_upto_region 1 with (fail)
  generalize w.alloc (.cells (bvs root).toArray 24) = w1 at HR1 HE1 ⊢
  obtain ⟨gr, hgr⟩ : ∃ g, g = w.heap.size := ⟨_, rfl⟩
  rw [← hgr] at HR1 ⊢
  clear hgr
  go_wp2_with fail
  refine (rover_any x HX.out part HV.out n HLN.out hn (cn + 1) cn a A c PA pn pc path _ (by omega) hc1 (by omega) (by omega) hcn (HB.out.same HE1.out) (HP.out.same HE1.out)).mono ?_
  rintro e w2 ⟨d1, u1, ok, rfl, hdl, hul, hok, hcl, hb⟩
  have HDL := Lib.hid hdl
  have HRES := Lib.hid (T.popsD_le_open HLN.out (root := root) HIN.out hok hcl)
  have HR2 := Lib.hid (HR1.out.ext hb)
  have HE2 := Lib.hid (ExtW.trans HE1.out hb)
  rw [HPN.out] at hul
  clear hdl hok hcl hb HR1 HE1
  go_upto_region 4 with (first
    | (refine wpList_newD rfl rfl ?_)
    | (refine wpList_newst rfl rfl rfl HDL.out (d0 := List.replicate 32 0) rfl rfl rfl (zDig_row _) ?_))
  have HA3 := Lib.hid (stD_row w2 d1)
  have HE3 := Lib.hid (ExtW.trans HE2.out (stD_ext w2 d1))
  have HR3 := Lib.hid (HR2.out.ext (stD_ext w2 d1))
  generalize (w2.alloc (.cells zDig 24)).setRow w2.heap.size (bvs d1).toArray = w3 at HA3 HE3 HR3 ⊢
  obtain ⟨ga, hga⟩ : ∃ g, g = w2.heap.size := ⟨_, rfl⟩
  rw [← hga] at HA3 ⊢
  clear hga
  cases ok with
  | false =>
    go_wp2
    go_ret
    exact ⟨by rw [HRES.out]; rfl, HE3.out⟩
  | true =>
    by_cases hu : u1 = pn
    · have HU : Hid (decide (u1 = path.length) = true) := Lib.hid (by rw [HPN.out]; exact decide_eq_true hu)
      have heq := eq_dg d1 root HDL.out HRL.out
      subst hu
      go_wp2_with (refine wpList_ldG rfl (by rfl) ?_; first | refine ⟨ga, 0, _, _, rfl, HA3.out.range, Try.underlying24, rfl, sizeD HDL.out, ?_⟩ | refine ⟨gr, 0, _, _, rfl, HR3.out.range, Try.underlying24, rfl, sizeD HRL.out, ?_⟩)
      go_ret
      exact ⟨by rw [HRES.out, HU.out]; rfl, HE3.out⟩
    · have HU : Hid (decide (u1 = path.length) = false) := Lib.hid (by rw [HPN.out]; exact decide_eq_false hu)
      have hui : ((u1 : Int) == (pn : Int)) = false := by rw [beq_eq_false_iff_ne]; omega
      clear hu
      go_wp2
      go_ret
      exact ⟨by rw [HRES.out, HU.out]; rfl, HE3.out⟩

/-- any answer of the document's CheckRange -/
theorem rcr_any (x : Int) (hx : -9223372036854775808 ≤ x ∧ x ≤ 9223372036854775807) (root : List UInt8) (hroot : root.length = 32) (cn a : Int) (hcn : cn ≤ 9223372036854775807)
    (A : Option Addr) (n c : Nat) (part : List (List UInt8)) (PA : Option Addr) (pn pc : Nat) (path : List (List UInt8)) (w : World) (hpart : Sts w A n c part) (hlv : Lv part) (hn : n ≤ 1000000) (hp : Dls w PA pn pc path) :
    Calls Try.prog 38 #[.int .i64 x, dgV root, .int .i64 cn, .int .i64 a, .slice A n c, .slice PA pn pc] w fun e w' => e = .returned (.bool (T.checkRD (bitsN x) root cn a part path)) ∧ ExtW w w' := by
  by_cases h : n = 0 ∨ a < 0 ∨ cn < n ∨ cn - n < a
  · rw [T.checkRD_no hpart.1 h]
    exact rcr_no x root cn a hcn A n c _ w h
  · obtain ⟨k, rfl⟩ : ∃ k : Nat, cn = (k : Int) := ⟨cn.toNat, by omega⟩
    exact rcr_in x hx root hroot k a (by omega) A n c part PA pn pc path w hpart hlv hn hp h
end Go.Proofs.Ytncdgndeidbgoaa
