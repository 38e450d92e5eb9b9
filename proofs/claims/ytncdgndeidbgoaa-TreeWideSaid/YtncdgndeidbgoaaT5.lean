/- Walks of Path and of the package's Leaf, Node, Root, Path. -/
import Derived.Test.YtncdgndeidbgoaaT4
namespace Go.Proofs.Ytncdgndeidbgoaa
open Go.RowKit

set_option maxHeartbeats 4000000 in
set_option maxRecDepth 100000 in
theorem mpath_ok (x : Int) (hx : -9223372036854775808 ≤ x ∧ x ≤ 9223372036854775807) (A : Option Addr) (n c : Nat) (l : List (List UInt8)) (i : Nat) (w : World) (hnb : n ≤ 1000000) (hin : i < n) (hr : Bss w A n c l) (hlv : Lv l) :
    Calls Try.prog 26 #[.agg #[.int .i64 x], .slice A n c, .int .i64 (i : Int)] w fun e w' => ∃ v, e = .returned (.tuple #[v, .int .i64 0]) ∧ OwnDs w.heap.size (T.pathD (bitsN x) l i) v w' ∧ ExtW w w' := by
  have HX := Lib.hid hx
  have HR := Lib.hid hr
  have HV := Lib.hid hlv
  have HB0 := Lib.hid (cell_new1 w (.int .i64 x) 30)
  have HE0 : Hid (ExtW w (w.alloc (.cells #[.int .i64 x] 30))) := Lib.hid ((Below.refl _ _).alloc (Nat.le_refl _) _)
  clear hr hlv hx
  have h1 : (0 : Int) ≤ (i : Int) := by omega
  have h2 : (i : Int) < (n : Int) := by omega
  go_enter Try.func26, Try.ntmps26
  go_upto_region 1 with (fail)
  generalize w.alloc (.cells #[.int .i64 x] 30) = w1 at HB0 HE0 ⊢
  have k7 := HB0.out
  go_wp2_with fail
  refine (path_any x HX.out (n + 1) A n c l i _ (by omega) hnb hin (HR.out.same HE0.out) HV.out).mono ?_
  rintro e w' ⟨v, rfl, ho, hb⟩
  have HO := Lib.hid ho
  have HE := Lib.hid (ExtW.trans HE0.out hb)
  clear ho hb k7
  go_wp2
  go_ret2
  exact ⟨_, rfl, HO.out.le HE0.out.size, HE.out⟩

set_option maxHeartbeats 4000000 in
set_option maxRecDepth 100000 in
theorem mpath_no (x : Int) (A : Option Addr) (n c : Nat) (i : Int) (w : World) (hin : i < 0 ∨ (n : Int) ≤ i) :
    Calls Try.prog 26 #[.agg #[.int .i64 x], .slice A n c, .int .i64 i] w fun e w' => e = .returned (.tuple #[.slice none 0 0, .int .i64 1]) ∧ ExtW w w' := by
  have HE0 : Hid (ExtW w (w.alloc (.cells #[.int .i64 x] 30))) := Lib.hid ((Below.refl _ _).alloc (Nat.le_refl _) _)
  by_cases h : i < 0
  · clear hin
    go_enter Try.func26, Try.ntmps26
    go_wp2
    go_ret2
    exact ⟨rfl, HE0.out⟩
  · have h2 : (n : Int) ≤ i := by omega
    have h3 : ¬ i < (n : Int) := by omega
    clear hin
    go_enter Try.func26, Try.ntmps26
    go_wp2
    go_ret2
    exact ⟨rfl, HE0.out⟩

set_option maxHeartbeats 4000000 in
set_option maxRecDepth 100000 in
theorem proot_any (A : Option Addr) (n c : Nat) (l : List (List UInt8)) (w : World) (hr : Bss w A n c l) (hlv : Lv l) :
    Calls Try.prog 18 #[.slice A n c] w fun e w' => e = .returned (dgV (T.rootD 256 l)) ∧ ExtW w w' := by
  have HR := Lib.hid hr
  have HV := Lib.hid hlv
  clear hr hlv
  go_enter Try.func18, Try.ntmps18
  go_upto_region 1 with (refine wpList_newD rfl rfl ?_)
  have HD1 := Lib.hid (zDig_row w)
  have HE1 : Hid (ExtW w (w.alloc (.cells zDig 24))) := Lib.hid ((Below.refl _ _).alloc (Nat.le_refl _) _)
  obtain ⟨gd, hgd⟩ : ∃ g, g = w.heap.size := ⟨_, rfl⟩
  have HGD : Hid (w.heap.size ≤ gd) := Lib.hid (by omega)
  rw [← hgd] at HD1
  rw [← hgd]
  clear hgd
  generalize w.alloc (.cells zDig 24) = w1 at HD1 HE1 ⊢
  go_wp2_with fail
  refine (whole_any _).mono ?_
  rintro e w2 ⟨rfl, hb⟩
  have HD2 := Lib.hid (HD1.out.ext hb)
  have HE2 := Lib.hid (ExtW.trans HE1.out hb)
  clear hb
  go_wp2_with fail
  refine (root_any 256 (by decide) (n + 1) A n c l _ (by omega) (HR.out.same HE2.out) HV.out).mono ?_
  rintro e w3 ⟨rfl, hb⟩
  have HD3 := Lib.hid (HD2.out.ext hb)
  have HE3 := Lib.hid (ExtW.trans HE2.out hb)
  clear hb
  obtain ⟨d, hd⟩ : ∃ d, d = T.rootD (bitsN 256) l := ⟨_, rfl⟩
  have HS : Hid ((bvs d).toArray.size = 32) := Lib.hid (dg_size (by rw [hd]; exact T.rootD_len _ _))
  have HDL : Hid (d = T.rootD (bitsN 256) l) := Lib.hid hd
  rw [← hd]
  clear hd
  unfold dgV
  go_wp2_with (refine wpList_st rfl rfl ?_; refine ⟨gd, _, _, _, rfl, rfl, HD3.out, by rw [HS.out]; kernel_rfl, Eq.trans (show (bvs (List.replicate 32 0)).toArray.size = 32 from rfl) HS.out.symm, dg_one _, ?_⟩)
  (try simp only [Exit.inBlock, Exit.then])
  refine bodyPost_ret (v := dgV d) ?_ rfl ⟨by rw [HDL.out]; rfl, below_setRow HE3.out HGD.out _⟩
  have h := run_loadVar_row (P := Try.prog) (w3.setRow gd (bvs d).toArray) gd 24 24 (bvs d).toArray (0, 0) _ (Row.setRow HD3.out (bvs d)) Try.underlying24 rfl (by rw [HS.out]; kernel_rfl)
  simpa [results, Try.f18, Act.put, asAddr, dgV] using h

set_option maxHeartbeats 4000000 in
set_option maxRecDepth 100000 in
theorem pleaf_any (A : Option Addr) (n c : Nat) (xs : List UInt8) (w : World) (hr : Rd w A n c 1 (bvs xs)) (hn : n ≤ 100000000000000) :
    Calls Try.prog 24 #[.slice A n c] w fun e w' => e = .returned (dgV (T.leafD 256 xs)) ∧ ExtW w w' := by
  have HR := Lib.hid hr
  clear hr
  go_enter Try.func24, Try.ntmps24
  go_upto_region 1 with (refine wpList_newD rfl rfl ?_)
  have HD1 := Lib.hid (zDig_row w)
  have HE1 : Hid (ExtW w (w.alloc (.cells zDig 24))) := Lib.hid ((Below.refl _ _).alloc (Nat.le_refl _) _)
  obtain ⟨gd, hgd⟩ : ∃ g, g = w.heap.size := ⟨_, rfl⟩
  have HGD : Hid (w.heap.size ≤ gd) := Lib.hid (by omega)
  rw [← hgd] at HD1
  rw [← hgd]
  clear hgd
  generalize w.alloc (.cells zDig 24) = w1 at HD1 HE1 ⊢
  go_wp2_with fail
  refine (whole_any _).mono ?_
  rintro e w2 ⟨rfl, hb⟩
  have HD2 := Lib.hid (HD1.out.ext hb)
  have HE2 := Lib.hid (ExtW.trans HE1.out hb)
  clear hb
  go_wp2_with fail
  refine (leaf_any 256 A n c xs _ (HR.out.below HE2.out (Nat.le_refl _)) hn (by decide)).mono ?_
  rintro e w3 ⟨rfl, hb⟩
  have HD3 := Lib.hid (HD2.out.ext hb)
  have HE3 := Lib.hid (ExtW.trans HE2.out hb)
  clear hb
  obtain ⟨d, hd⟩ : ∃ d, d = T.leafD (bitsN 256) xs := ⟨_, rfl⟩
  have HS : Hid ((bvs d).toArray.size = 32) := Lib.hid (dg_size (by rw [hd]; exact T.leafD_len _ _))
  have HDL : Hid (d = T.leafD (bitsN 256) xs) := Lib.hid hd
  rw [← hd]
  clear hd
  unfold dgV
  go_wp2_with (refine wpList_st rfl rfl ?_; refine ⟨gd, _, _, _, rfl, rfl, HD3.out, by rw [HS.out]; kernel_rfl, Eq.trans (show (bvs (List.replicate 32 0)).toArray.size = 32 from rfl) HS.out.symm, dg_one _, ?_⟩)
  (try simp only [Exit.inBlock, Exit.then])
  refine bodyPost_ret (v := dgV d) ?_ rfl ⟨by rw [HDL.out]; rfl, below_setRow HE3.out HGD.out _⟩
  have h := run_loadVar_row (P := Try.prog) (w3.setRow gd (bvs d).toArray) gd 24 24 (bvs d).toArray (0, 0) _ (Row.setRow HD3.out (bvs d)) Try.underlying24 rfl (by rw [HS.out]; kernel_rfl)
  simpa [results, Try.f24, Act.put, asAddr, dgV] using h

set_option maxHeartbeats 4000000 in
set_option maxRecDepth 100000 in
theorem pnode_any (l r : List UInt8) (w : World) (hl : l.length = 32) (hr : r.length = 32) :
    Calls Try.prog 21 #[dgV l, dgV r] w fun e w' => e = .returned (dgV (T.nodeD 256 l r)) ∧ ExtW w w' := by
  have HLL := Lib.hid hl
  have HRL := Lib.hid hr
  have HSL : Hid ((bvs l).toArray.size = 32) := Lib.hid (dg_size hl)
  have HSR : Hid ((bvs r).toArray.size = 32) := Lib.hid (dg_size hr)
  clear hl hr
  unfold dgV
  go_enter Try.func21, Try.ntmps21
  go_upto_region 1 with (refine wpList_newD rfl rfl ?_)
  have HL1 : Hid (Row (w.alloc (.cells (bvs l).toArray 24)) w.heap.size 24 (bvs l)) := Lib.hid (heap_alloc_last _ _)
  have HE1 : Hid (ExtW w (w.alloc (.cells (bvs l).toArray 24))) := Lib.hid ((Below.refl _ _).alloc (Nat.le_refl _) _)
  have HA1 : Hid ((w.alloc (.cells (bvs l).toArray 24)).heap.size = w.heap.size + 1) := Lib.hid (by simp)
  generalize w.alloc (.cells (bvs l).toArray 24) = wb at HL1 HE1 HA1 ⊢
  have HR2 : Hid (Row (wb.alloc (.cells (bvs r).toArray 24)) (w.heap.size + 1) 24 (bvs r)) := Lib.hid (by rw [← HA1.out]; exact heap_alloc_last _ _)
  have HE2 : Hid (ExtW wb (wb.alloc (.cells (bvs r).toArray 24))) := Lib.hid ((Below.refl _ _).alloc (Nat.le_refl _) _)
  have HA2 : Hid ((wb.alloc (.cells (bvs r).toArray 24)).heap.size = w.heap.size + 1 + 1) := Lib.hid (by rw [← HA1.out]; simp)
  generalize wb.alloc (.cells (bvs r).toArray 24) = wc at HR2 HE2 HA2 ⊢
  have HD3 := Lib.hid (zDig_row wc)
  have HE3 : Hid (ExtW wc (wc.alloc (.cells zDig 24))) := Lib.hid ((Below.refl _ _).alloc (Nat.le_refl _) _)
  rw [HA2.out] at HD3 ⊢
  generalize wc.alloc (.cells zDig 24) = wd at HD3 HE3 ⊢
  have HR3 := Lib.hid (HR2.out.ext HE3.out)
  have HL3 := Lib.hid (HL1.out.ext (ExtW.trans HE2.out HE3.out))
  have HW3 := Lib.hid (ExtW.trans HE1.out (ExtW.trans HE2.out HE3.out))
  clear HL1 HE1 HR2 HE2 HE3 HA1 HA2
  obtain ⟨gl, hgl⟩ : ∃ g, g = w.heap.size := ⟨_, rfl⟩
  obtain ⟨gr, hgr⟩ : ∃ g, g = w.heap.size + 1 := ⟨_, rfl⟩
  obtain ⟨gd, hgd⟩ : ∃ g, g = w.heap.size + 1 + 1 := ⟨_, rfl⟩
  have HGS : Hid (w.heap.size ≤ gd) := Lib.hid (by omega)
  rw [← hgl] at HL3
  rw [← hgr] at HR3
  rw [← hgd] at HD3
  rw [← hgd, ← hgr, ← hgl]
  clear hgl hgr hgd
  go_wp2_with fail
  refine (whole_any _).mono ?_
  rintro e w2 ⟨rfl, hb⟩
  have HD4 := Lib.hid (HD3.out.ext hb)
  have HL4 := Lib.hid (HL3.out.ext hb)
  have HR4 := Lib.hid (HR3.out.ext hb)
  have HW4 := Lib.hid (ExtW.trans HW3.out hb)
  clear hb
  go_wp2_with (refine wpList_ld rfl rfl ?_; first | refine ⟨gl, _, _, _, rfl, HL4.out, Try.underlying24, rfl, by rw [HSL.out]; kernel_rfl, ?_⟩ | refine ⟨gr, _, _, _, rfl, HR4.out, Try.underlying24, rfl, by rw [HSR.out]; kernel_rfl, ?_⟩)
  refine (node_any 256 l r _ HLL.out HRL.out (by decide)).mono ?_
  rintro e we ⟨rfl, hbe⟩
  have HDE := Lib.hid (HD4.out.ext hbe)
  have HEE := Lib.hid (ExtW.trans HW4.out hbe)
  clear hbe
  obtain ⟨d, hd⟩ : ∃ d, d = T.nodeD (bitsN 256) l r := ⟨_, rfl⟩
  have HS : Hid ((bvs d).toArray.size = 32) := Lib.hid (dg_size (by rw [hd]; exact T.nodeD_len _ _ _))
  have HDL : Hid (d = T.nodeD (bitsN 256) l r) := Lib.hid hd
  rw [← hd]
  clear hd
  unfold dgV
  go_wp2_with (refine wpList_st rfl rfl ?_; refine ⟨gd, _, _, _, rfl, rfl, HDE.out, by rw [HS.out]; kernel_rfl, Eq.trans (show (bvs (List.replicate 32 0)).toArray.size = 32 from rfl) HS.out.symm, dg_one _, ?_⟩)
  (try simp only [Exit.inBlock, Exit.then])
  refine bodyPost_ret (v := dgV d) ?_ rfl ⟨by rw [HDL.out]; rfl, below_setRow HEE.out HGS.out _⟩
  have h := run_loadVar_row (P := Try.prog) (we.setRow gd (bvs d).toArray) gd 24 24 (bvs d).toArray (0, 0) _ (Row.setRow HDE.out (bvs d)) Try.underlying24 rfl (by rw [HS.out]; kernel_rfl)
  simpa [results, Try.f21, Act.put, asAddr, dgV] using h

set_option maxHeartbeats 4000000 in
set_option maxRecDepth 100000 in
theorem ppath_ok (A : Option Addr) (n c : Nat) (l : List (List UInt8)) (i : Nat) (w : World) (hnb : n ≤ 1000000) (hin : i < n) (hr : Bss w A n c l) (hlv : Lv l) :
    Calls Try.prog 31 #[.slice A n c, .int .i64 (i : Int)] w fun e w' => ∃ v, e = .returned (.tuple #[v, .int .i64 0]) ∧ OwnDs w.heap.size (T.pathD 256 l i) v w' ∧ ExtW w w' := by
  have HR := Lib.hid hr
  have HV := Lib.hid hlv
  clear hr hlv
  go_enter Try.func31, Try.ntmps31
  go_wp2_with fail
  refine (whole_any _).mono ?_
  rintro e w2 ⟨rfl, hb⟩
  have HE2 := Lib.hid hb
  clear hb
  go_wp2_with fail
  refine (mpath_ok 256 (by decide) A n c l i _ hnb hin (HR.out.same HE2.out) HV.out).mono ?_
  rintro e w3 ⟨v, rfl, ho, hb⟩
  have HO := Lib.hid ho
  have HE3 := Lib.hid (ExtW.trans HE2.out hb)
  clear ho hb
  go_wp2
  go_ret2
  exact ⟨_, rfl, HO.out.le HE2.out.size, HE3.out⟩

set_option maxHeartbeats 4000000 in
set_option maxRecDepth 100000 in
theorem ppath_no (A : Option Addr) (n c : Nat) (i : Int) (w : World) (hin : i < 0 ∨ (n : Int) ≤ i) :
    Calls Try.prog 31 #[.slice A n c, .int .i64 i] w fun e w' => e = .returned (.tuple #[.slice none 0 0, .int .i64 1]) ∧ ExtW w w' := by
  have HI := Lib.hid hin
  clear hin
  go_enter Try.func31, Try.ntmps31
  go_wp2_with fail
  refine (whole_any _).mono ?_
  rintro e w2 ⟨rfl, hb⟩
  have HE2 := Lib.hid hb
  clear hb
  go_wp2_with fail
  refine (mpath_no 256 A n c i _ HI.out).mono ?_
  rintro e w3 ⟨rfl, hb⟩
  have HE3 := Lib.hid (ExtW.trans HE2.out hb)
  clear hb
  go_wp2
  go_ret2
  exact ⟨rfl, HE3.out⟩
end Go.Proofs.Ytncdgndeidbgoaa
