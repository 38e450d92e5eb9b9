/- Walks of the document's Leaf, Node, Half, Root. -/
import Derived.Test.YtncdgndeidbgoaaLot
import Derived.Test.YtncdgndeidbgoaaRefKept5
namespace Go.Proofs.Ytncdgndeidbgoaa
open Go.RowKit

/-- bytes as a text -/
def strV (xs : List UInt8) : Value := .string ⟨xs.toArray⟩
/-- a slice of texts that reads as l -/
def Sts (w : World) (A : Option Addr) (n c : Nat) (l : List (List UInt8)) : Prop := l.length = n ∧ Rd w A n c 1 (l.map strV)
theorem Sts.same {w w' : World} {A : Option Addr} {n c : Nat} {l : List (List UInt8)} (h : Sts w A n c l) (hb : ExtW w w') : Sts w' A n c l := ⟨h.1, h.2.below hb (Nat.le_refl _)⟩
theorem Sts.at {w : World} {a : Addr} {n c : Nat} {l : List (List UInt8)} (h : Sts w (some a) n c l) {i : Nat} {y : List UInt8} (hy : l[i]? = some y) : w.cell? (a.add i) = some (strV y) := h.2.cell a rfl i _ (by rw [List.getElem?_map, hy]; rfl)
theorem Sts.take {w : World} {A : Option Addr} {n c : Nat} {l : List (List UInt8)} (h : Sts w A n c l) {k : Nat} (hk : k ≤ n) : Sts w A k c (l.take k) := by
  refine ⟨by rw [List.length_take, h.1]; omega, ?_⟩
  have := h.2.take k hk
  rwa [Nat.mul_one, ← List.map_take] at this
theorem Sts.dropA {w : World} {A : Option Addr} {n c : Nat} {l : List (List UInt8)} (h : Sts w A n c l) {k : Nat} (hk : k ≤ n) : Sts w (dropA A c k) (n - k) (c - k) (l.drop k) := by
  refine ⟨by rw [List.length_drop, h.1], ?_⟩
  have := h.2.sub (lo := k) (hi := n) (mx := c) hk (Nat.le_refl _) h.2.nc (Nat.le_refl _)
  rw [Nat.mul_one, Nat.mul_one, ← List.map_drop, List.take_of_length_le (by rw [List.length_map, List.length_drop, h.1]; exact Nat.le_refl _)] at this
  exact this
theorem Sts.addr {w : World} {A : Option Addr} {n c : Nat} {l : List (List UInt8)} (h : Sts w A n c l) (h0 : 0 < n) : ∃ a, A = some a := by
  cases hA : A with
  | none => have := h.2.nil0 hA; have := h.2.nc; omega
  | some a => exact ⟨a, rfl⟩
theorem infoStr : (Try.prog.info? 9).map (fun i => (i.zero, i.size, i.bytes)) = some (some (.string ByteArray.empty), 1, 16) := by kernel_rfl
theorem run_dropT (A : Option Addr) (n c : Nat) (k : Nat) (h1 : k ≤ n) (h3 : n ≤ c) (W : World) : (Instr.slice 27 (.slice A n c) (some (.int .i64 (k : Int))) none none).run Try.prog W = .ok (.slice (dropA A c k) (n - k) (c - k)) W := by
  obtain ⟨i1, hi, _, hz1, _⟩ := info_parts infoStr
  have hel : (Try.prog).elem 27 = 9 := by simp [Program.elem, Try.underlying27]
  have hu : (Try.prog).underlying 27 = some (.slice ((Try.prog).elem 27)) := by rw [hel]; exact Try.underlying27
  rw [run_slice_l W _ A n c hu .i64 _ (by omega) (by omega), hel]
  simp [sizeOf, typeInfo, hi, hz1, sliced, Result.andThen, dropA]
theorem run_takeT (A : Option Addr) (n c : Nat) (k : Nat) (h1 : k ≤ n) (h3 : n ≤ c) (W : World) : (Instr.slice 27 (.slice A n c) none (some (.int .i64 (k : Int))) none).run Try.prog W = .ok (.slice A k c) W := by
  obtain ⟨i1, hi, _, hz1, _⟩ := info_parts infoStr
  exact cutB_h Try.underlying27 hi hz1 A n c .i64 _ k rfl h1 h3 W

set_option maxHeartbeats 4000000 in
set_option maxRecDepth 100000 in
theorem rleafText_any (xs : List UInt8) (w : World) (hn : xs.length ≤ 1000000) :
    Calls Try.prog 46 #[strV xs] w fun e w' => e = .returned (strV (0 :: xs)) ∧ w' = w := by
  have hz : (⟨xs.toArray⟩ : ByteArray).size ≤ 1000000 := by rw [str_size]; exact hn
  have hcat : ((⟨#[0]⟩ : ByteArray) ++ ⟨xs.toArray⟩) = ⟨(0 :: xs).toArray⟩ := ba_ext (by rw [app_list]; simp)
  unfold strV
  obtain ⟨s, hs⟩ : ∃ s, s = (⟨xs.toArray⟩ : ByteArray) := ⟨_, rfl⟩
  rw [← hs] at hz hcat ⊢
  clear hs
  have HC := Lib.hid hcat
  clear hcat
  go_enter Try.func46, Try.ntmps46
  go_wp2
  go_ret
  exact ⟨by rw [← HC.out]; rfl, rfl⟩

set_option maxHeartbeats 4000000 in
set_option maxRecDepth 100000 in
theorem rleaf_any (x : Int) (hx : -9223372036854775808 ≤ x ∧ x ≤ 9223372036854775807) (xs : List UInt8) (w : World) (hn : xs.length ≤ 1000000) :
    Calls Try.prog 23 #[.int .i64 x, strV xs] w fun e w' => e = .returned (dgV (T.leafD (bitsN x) xs)) ∧ ExtW w w' := by
  have HX := Lib.hid hx
  clear hx
  go_enter Try.func23, Try.ntmps23
  go_upto_region 1 with (refine wpList_newD rfl rfl ?_)
  have HD1 := Lib.hid (zDig_row w)
  have HE1 : Hid (ExtW w (w.alloc (.cells zDig 24))) := Lib.hid ((Below.refl _ _).alloc (Nat.le_refl _) _)
  obtain ⟨gd, hgd⟩ : ∃ g, g = w.heap.size := ⟨_, rfl⟩
  have HGD : Hid (w.heap.size ≤ gd) := Lib.hid (by omega)
  rw [← hgd] at HD1
  rw [← hgd]
  clear hgd
  generalize w.alloc (.cells zDig 24) = w1 at HD1 HE1 ⊢
  go_wp2_with fail
  refine (rleafText_any xs _ hn).mono ?_
  rintro e w2 ⟨rfl, rfl⟩
  unfold strV
  go_wp2_with fail
  refine (refKept_any _ x _ (by rw [str_size]; simp; omega) HX.out).mono ?_
  rintro e w3 ⟨rfl, hb⟩
  rw [str_bytes]
  have HD3 := Lib.hid (HD1.out.ext hb)
  have HE3 := Lib.hid (ExtW.trans HE1.out hb)
  clear hb
  obtain ⟨d, hd⟩ : ∃ d, d = keep (S.sha (0 :: xs)) (bitsN x) := ⟨_, rfl⟩
  have HS : Hid ((bvs d).toArray.size = 32) := Lib.hid (dg_size (by rw [hd]; exact T.leafD_len _ _))
  have HDL : Hid (d = keep (S.sha (0 :: xs)) (bitsN x)) := Lib.hid hd
  rw [← hd]
  clear hd
  unfold dgV
  go_wp2_with (refine wpList_st rfl rfl ?_; refine ⟨gd, _, _, _, rfl, rfl, HD3.out, by rw [HS.out]; kernel_rfl, Eq.trans (show (bvs (List.replicate 32 0)).toArray.size = 32 from rfl) HS.out.symm, dg_one _, ?_⟩)
  (try simp only [Exit.inBlock, Exit.then])
  refine bodyPost_ret (v := dgV d) ?_ rfl ⟨by rw [HDL.out]; rfl, below_setRow HE3.out HGD.out _⟩
  have h := run_loadVar_row (P := Try.prog) (w3.setRow gd (bvs d).toArray) gd 24 24 (bvs d).toArray (0, 0) _ (Row.setRow HD3.out (bvs d)) Try.underlying24 rfl (by rw [HS.out]; kernel_rfl)
  simpa [results, Try.f23, Act.put, asAddr, dgV] using h

set_option maxHeartbeats 4000000 in
set_option maxRecDepth 100000 in
theorem rnodeText_any (l r : List UInt8) (w : World) (hl : l.length = 32) (hr : r.length = 32) :
    Calls Try.prog 45 #[dgV l, dgV r] w fun e w' => e = .returned (strV (1 :: (l ++ r))) ∧ ExtW w w' := by
  have hcat : ((⟨#[1]⟩ : ByteArray) ++ ⟨l.toArray⟩) ++ ⟨r.toArray⟩ = ⟨(1 :: (l ++ r)).toArray⟩ := ba_ext (by rw [app_list, app_list]; simp)
  have HC := Lib.hid hcat
  have HLL := Lib.hid hl
  have HRL := Lib.hid hr
  have hzl : (⟨l.toArray⟩ : ByteArray).size ≤ 32 := by rw [str_size]; omega
  have hzr : (⟨r.toArray⟩ : ByteArray).size ≤ 32 := by rw [str_size]; omega
  clear hcat hl hr
  unfold dgV
  go_enter Try.func45, Try.ntmps45
  go_upto_region 1 with (fail)
  have HL1 : Hid (Row (w.alloc (.cells (bvs l).toArray 24)) w.heap.size 24 (bvs l)) := Lib.hid (heap_alloc_last _ _)
  have HE1 : Hid (ExtW w (w.alloc (.cells (bvs l).toArray 24))) := Lib.hid ((Below.refl _ _).alloc (Nat.le_refl _) _)
  have HA1 : Hid ((w.alloc (.cells (bvs l).toArray 24)).heap.size = w.heap.size + 1) := Lib.hid (by simp)
  generalize w.alloc (.cells (bvs l).toArray 24) = wb at HL1 HE1 HA1 ⊢
  have HR2 : Hid (Row (wb.alloc (.cells (bvs r).toArray 24)) (w.heap.size + 1) 24 (bvs r)) := Lib.hid (by rw [← HA1.out]; exact heap_alloc_last _ _)
  have HE2 : Hid (ExtW wb (wb.alloc (.cells (bvs r).toArray 24))) := Lib.hid ((Below.refl _ _).alloc (Nat.le_refl _) _)
  generalize wb.alloc (.cells (bvs r).toArray 24) = wc at HR2 HE2 ⊢
  have HL3 := Lib.hid (HL1.out.ext HE2.out)
  have HW3 := Lib.hid (ExtW.trans HE1.out HE2.out)
  obtain ⟨gl, hgl⟩ : ∃ g, g = w.heap.size := ⟨_, rfl⟩
  obtain ⟨gr, hgr⟩ : ∃ g, g = w.heap.size + 1 := ⟨_, rfl⟩
  rw [← hgl] at HL3
  rw [← hgr] at HR2
  rw [← hgr, ← hgl]
  clear hgl hgr HL1 HE1 HE2 HA1
  apply wp_region_ext _ (by kernel_rfl) (by kernel_rfl)
  (apply wpZ_det; (intro wq hE hG; first | exact obl_non (by rfl) | (apply obl_val (by rfl); go_simp; rfl)); (intro ak hak; simp only [Act.put, List.setIfInBounds_toArray, List.set_cons_succ, List.set_cons_zero] at hak; subst hak))
  (apply wpZ_det (c := .string ⟨l.toArray⟩); (intro wq hE hG; have kk := conv_str ((HL3.out.ext (ExtW.of_drew hE)).rd32 HLL.out); apply obl_val (by rfl); go_simp); (intro ak hak; simp only [Act.put, List.setIfInBounds_toArray, List.set_cons_succ, List.set_cons_zero] at hak; subst hak))
  (apply wpZ_det (c := .string (⟨#[1]⟩ ++ ⟨l.toArray⟩)); (intro wq hE hG; apply obl_val (by rfl); go_simp; first | done | (have h1 := HLL.out; have h2 := HRL.out; omega) | (have h1 := HLL.out; have h2 := HRL.out; simp; omega)); (intro ak hak; simp only [Act.put, List.setIfInBounds_toArray, List.set_cons_succ, List.set_cons_zero] at hak; subst hak))
  (apply wpZ_det; (intro wq hE hG; first | exact obl_non (by rfl) | (apply obl_val (by rfl); go_simp; rfl)); (intro ak hak; simp only [Act.put, List.setIfInBounds_toArray, List.set_cons_succ, List.set_cons_zero] at hak; subst hak))
  (apply wpZ_det (c := .string ⟨r.toArray⟩); (intro wq hE hG; have kk := conv_str ((HR2.out.ext (ExtW.of_drew hE)).rd32 HRL.out); apply obl_val (by rfl); go_simp); (intro ak hak; simp only [Act.put, List.setIfInBounds_toArray, List.set_cons_succ, List.set_cons_zero] at hak; subst hak))
  have hz1 : ((⟨#[1]⟩ : ByteArray) ++ ⟨l.toArray⟩).size ≤ 33 := by
    rw [← size_list, app_list]
    simp
    rw [HLL.out]
    exact Nat.le_refl _
  (apply wpZ_det (c := .string ((⟨#[1]⟩ ++ ⟨l.toArray⟩) ++ ⟨r.toArray⟩)); (intro wq hE hG; apply obl_val (by rfl); go_simp; first | done | (have h1 := HLL.out; have h2 := HRL.out; omega) | (have h1 := HLL.out; have h2 := HRL.out; simp; omega)); (intro ak hak; simp only [Act.put, List.setIfInBounds_toArray, List.set_cons_succ, List.set_cons_zero] at hak; subst hak))
  (apply wpZ_det; (intro wq hE hG; first | exact obl_non (by rfl) | (apply obl_val (by rfl); go_simp; rfl)); (intro ak hak; simp only [Act.put, List.setIfInBounds_toArray, List.set_cons_succ, List.set_cons_zero] at hak; subst hak))
  (apply wpZ_nil; intro wq hE hG)
  have HE := Lib.hid (ExtW.trans HW3.out (ExtW.of_drew hE))
  clear hE hG
  go_wp2
  go_ret
  exact ⟨by rw [HC.out]; rfl, HE.out⟩

set_option maxHeartbeats 4000000 in
set_option maxRecDepth 100000 in
theorem rnode_any (x : Int) (hx : -9223372036854775808 ≤ x ∧ x ≤ 9223372036854775807) (l r : List UInt8) (w : World) (hl : l.length = 32) (hr : r.length = 32) :
    Calls Try.prog 20 #[.int .i64 x, dgV l, dgV r] w fun e w' => e = .returned (dgV (T.nodeD (bitsN x) l r)) ∧ ExtW w w' := by
  have HX := Lib.hid hx
  have HLL := Lib.hid hl
  have HRL := Lib.hid hr
  have HSL : Hid ((bvs l).toArray.size = 32) := Lib.hid (dg_size hl)
  have HSR : Hid ((bvs r).toArray.size = 32) := Lib.hid (dg_size hr)
  have HZZ : Hid ((1 :: (l ++ r)).length ≤ 1000000000) := Lib.hid (by simp; omega)
  clear hl hr hx
  unfold dgV
  go_enter Try.func20, Try.ntmps20
  go_upto_region 1 with (refine wpList_newD rfl rfl ?_)
  have HL1 : Hid (Row (w.alloc (.cells (bvs l).toArray 24)) w.heap.size 24 (bvs l)) := Lib.hid (heap_alloc_last _ _)
  have HE1 : Hid (ExtW w (w.alloc (.cells (bvs l).toArray 24))) := Lib.hid ((Below.refl _ _).alloc (Nat.le_refl _) _)
  have HA1 : Hid ((w.alloc (.cells (bvs l).toArray 24)).heap.size = w.heap.size + 1) := Lib.hid (by simp)
  generalize w.alloc (.cells (bvs l).toArray 24) = wb at HL1 HE1 HA1 ⊢
  have HR2 : Hid (Row (wb.alloc (.cells (bvs r).toArray 24)) (w.heap.size + 1) 24 (bvs r)) := Lib.hid (by rw [← HA1.out]; exact heap_alloc_last _ _)
  have HE2 : Hid (ExtW wb (wb.alloc (.cells (bvs r).toArray 24))) := Lib.hid ((Below.refl _ _).alloc (Nat.le_refl _) _)
  have HA2 : Hid ((wb.alloc (.cells (bvs r).toArray 24)).heap.size = w.heap.size + 1 + 1) := Lib.hid (by rw [← HA1.out]; simp)
  generalize wb.alloc (.cells (bvs r).toArray 24) = wc at HR2 HE2 HA2 ⊢
  have HD3 := Lib.hid (zDig_row wc)
  have HE3 : Hid (ExtW wc (wc.alloc (.cells zDig 24))) := Lib.hid ((Below.refl _ _).alloc (Nat.le_refl _) _)
  rw [HA2.out] at HD3 ⊢
  generalize wc.alloc (.cells zDig 24) = wd at HD3 HE3 ⊢
  have HR3 := Lib.hid (HR2.out.ext HE3.out)
  have HL3 := Lib.hid (HL1.out.ext (ExtW.trans HE2.out HE3.out))
  have HW3 := Lib.hid (ExtW.trans HE1.out (ExtW.trans HE2.out HE3.out))
  clear HL1 HE1 HR2 HE2 HE3 HA1 HA2
  obtain ⟨gl, hgl⟩ : ∃ g, g = w.heap.size := ⟨_, rfl⟩
  obtain ⟨gr, hgr⟩ : ∃ g, g = w.heap.size + 1 := ⟨_, rfl⟩
  obtain ⟨gd, hgd⟩ : ∃ g, g = w.heap.size + 1 + 1 := ⟨_, rfl⟩
  have HGS : Hid (w.heap.size ≤ gd) := Lib.hid (by omega)
  rw [← hgl] at HL3
  rw [← hgr] at HR3
  rw [← hgd] at HD3
  rw [← hgd, ← hgr, ← hgl]
  clear hgl hgr hgd
  go_wp2_with (refine wpList_ld rfl rfl ?_; first | refine ⟨gl, _, _, _, rfl, HL3.out, Try.underlying24, rfl, by rw [HSL.out]; kernel_rfl, ?_⟩ | refine ⟨gr, _, _, _, rfl, HR3.out, Try.underlying24, rfl, by rw [HSR.out]; kernel_rfl, ?_⟩)
  refine (rnodeText_any l r _ HLL.out HRL.out).mono ?_
  rintro e we ⟨rfl, hbe⟩
  have HD4 := Lib.hid (HD3.out.ext hbe)
  have HE4 := Lib.hid (ExtW.trans HW3.out hbe)
  clear hbe
  unfold strV
  go_wp2_with fail
  refine (refKept_any _ x _ (by rw [str_size]; exact HZZ.out) HX.out).mono ?_
  rintro e w5 ⟨rfl, hb⟩
  rw [str_bytes]
  have HDE := Lib.hid (HD4.out.ext hb)
  have HEE := Lib.hid (ExtW.trans HE4.out hb)
  clear hb
  obtain ⟨d, hd⟩ : ∃ d, d = keep (S.sha (1 :: (l ++ r))) (bitsN x) := ⟨_, rfl⟩
  have HS : Hid ((bvs d).toArray.size = 32) := Lib.hid (dg_size (by rw [hd]; exact T.nodeD_len _ _ _))
  have HDL : Hid (d = keep (S.sha (1 :: (l ++ r))) (bitsN x)) := Lib.hid hd
  rw [← hd]
  clear hd
  unfold dgV
  go_wp2_with (refine wpList_st rfl rfl ?_; refine ⟨gd, _, _, _, rfl, rfl, HDE.out, by rw [HS.out]; kernel_rfl, Eq.trans (show (bvs (List.replicate 32 0)).toArray.size = 32 from rfl) HS.out.symm, dg_one _, ?_⟩)
  (try simp only [Exit.inBlock, Exit.then])
  refine bodyPost_ret (v := dgV d) ?_ rfl ⟨by rw [HDL.out]; rfl, below_setRow HEE.out HGS.out _⟩
  have h := run_loadVar_row (P := Try.prog) (w5.setRow gd (bvs d).toArray) gd 24 24 (bvs d).toArray (0, 0) _ (Row.setRow HDE.out (bvs d)) Try.underlying24 rfl (by rw [HS.out]; kernel_rfl)
  simpa [results, Try.f20, Act.put, asAddr, dgV] using h

set_option maxHeartbeats 4000000 in
set_option maxRecDepth 100000 in
theorem rhalf_any (n : Nat) (w : World) (hn : 1 ≤ n ∧ n < 9223372036854775808) : Calls Try.prog 43 #[.int .i64 (n : Int)] w fun e w' => e = .returned (.int .i64 (T.half n : Nat)) ∧ w' = w := by
  obtain ⟨hn1, hn2⟩ := hn
  go_enter Try.func43, Try.ntmps43
  go_wp2_with fail
  go_loopw [3] (fun k wr => ∃ m : Nat, k = .int .i64 m ∧ 1 ≤ m ∧ m ≤ n ∧ Hid (∃ j, m = 2 ^ j) ∧ Hid (m = 1 ∨ m < n) ∧ Hid (wr = w)) (fun k _ => n - (intOf k).toNat)
  case atStart => exact ⟨1, rfl, Nat.le_refl _, hn1, Lib.hid ⟨0, rfl⟩, Lib.hid (.inl rfl), rfl⟩
  case round =>
    obtain ⟨m, rfl, hm1, hmn, HJ, HM, HW⟩ := hrel
    obtain rfl := HW.out
    by_cases hlt : m < n - m
    · have hli : (m : Int) < (n : Int) - (m : Int) := by omega
      obtain ⟨m2, hm2⟩ : ∃ k, k = m * 2 := ⟨_, rfl⟩
      have hm2i : IntKind.i64.wrap ((m : Int) * 2) = (m2 : Int) := by rw [IntWalk.i64_in _ (by omega)]; omega
      have hm2b : m2 < n := by omega
      have HM2 := Lib.hid hm2
      clear hm2
      go_wp2_with fail
      go_roundw
      case rel => exact ⟨m2, by first | rfl | simp [hm2i], by have := HM2.out; omega, by omega, Lib.hid (by obtain ⟨j, hj⟩ := HJ.out; exact ⟨j + 1, by rw [HM2.out, hj, Nat.pow_succ]⟩), Lib.hid (.inr hm2b), Lib.hid trivial⟩
      case measure => simp [intOf]; have := HM2.out; omega
    · have hli : ¬ (m : Int) < (n : Int) - (m : Int) := by omega
      have hh : m = T.half n := by
        symm
        by_cases h2 : 2 ≤ n
        · obtain ⟨j, hj⟩ := HJ.out
          rw [hj]
          exact T.half_eq h2 (by rw [← hj]; rcases HM.out with h | h <;> omega) (by rw [← hj]; omega)
        · rw [T.half_one (by omega)]; omega
      have HH := Lib.hid hh
      clear hh
      go_wp2
      go_ret
      exact ⟨by rw [← HH.out]; rfl, rfl⟩

set_option maxHeartbeats 4000000 in
set_option maxRecDepth 100000 in
theorem rroot_any (x : Int) (hx : -9223372036854775808 ≤ x ∧ x ≤ 9223372036854775807) : ∀ (N : Nat) (A : Option Addr) (n c : Nat) (l : List (List UInt8)) (w : World), n < N → Sts w A n c l → Lv l →
    Calls Try.prog 17 #[.int .i64 x, .slice A n c] w fun e w' => e = .returned (dgV (T.rootD (bitsN x) l)) ∧ ExtW w w' := by
  have HX := Lib.hid hx
  clear hx
  intro N
  induction N with
  | zero => intro A n c l w h; omega
  | succ N ih =>
    intro A n c l w hnN hr hlv
    have hn63 : n < 9223372036854775808 := by have h1 := hr.2.nc; have h2 := hr.2.cm; unfold maxLen at h2; omega
    have hnc := hr.2.nc
    have HR := Lib.hid hr
    have HV := Lib.hid hlv
    have HLN := Lib.hid hr.1
    clear hr hlv
    go_enter Try.func17, Try.ntmps17
    go_upto_region 1 with (refine wpList_newD rfl rfl ?_)
    have HD1 := Lib.hid (zDig_row w)
    have HE1 : Hid (ExtW w (w.alloc (.cells zDig 24))) := Lib.hid ((Below.refl _ _).alloc (Nat.le_refl _) _)
    obtain ⟨gd, hgd⟩ : ∃ g, g = w.heap.size := ⟨_, rfl⟩
    have HGD : Hid (w.heap.size ≤ gd) := Lib.hid (by omega)
    rw [← hgd] at HD1
    rw [← hgd]
    clear hgd
    generalize w.alloc (.cells zDig 24) = w1 at HD1 HE1 ⊢
    have HR2 := Lib.hid (HR.out.same HE1.out)
    by_cases h0 : n = 0
    · subst h0
      have hl0 : l = [] := List.length_eq_zero_iff.1 HLN.out
      have HL0 := Lib.hid hl0
      clear hl0
      go_wp2_with fail
      refine (refKept_any _ x _ (by decide) HX.out).mono ?_
      rintro e we ⟨rfl, hbe⟩
      have HDE := Lib.hid (HD1.out.ext hbe)
      have HEE := Lib.hid (ExtW.trans HE1.out hbe)
      clear hbe
      rw [show ({ data := #[] } : ByteArray).data.toList = [] from rfl]
      obtain ⟨d, hd⟩ : ∃ d, d = keep (S.sha []) (bitsN x) := ⟨_, rfl⟩
      have HS : Hid ((bvs d).toArray.size = 32) := Lib.hid (dg_size (by rw [hd]; exact T.emptyD_len _))
      have HDL : Hid (d = keep (S.sha []) (bitsN x)) := Lib.hid hd
      rw [← hd]
      clear hd
      unfold dgV
      go_wp2_with (refine wpList_st rfl rfl ?_; refine ⟨gd, _, _, _, rfl, rfl, HDE.out, by rw [HS.out]; kernel_rfl, Eq.trans (show (bvs (List.replicate 32 0)).toArray.size = 32 from rfl) HS.out.symm, dg_one _, ?_⟩)
      (try simp only [Exit.inBlock, Exit.then])
      refine bodyPost_ret (v := dgV d) ?_ rfl ⟨by rw [HDL.out]; (rw [HL0.out, T.rootD_nil]), below_setRow HEE.out HGD.out _⟩
      have h := run_loadVar_row (P := Try.prog) (we.setRow gd (bvs d).toArray) gd 24 24 (bvs d).toArray (0, 0) _ (Row.setRow HDE.out (bvs d)) Try.underlying24 rfl (by rw [HS.out]; kernel_rfl)
      simpa [results, Try.f17, Act.put, asAddr, dgV] using h
    have hne0 : ((n : Int) == 0) = false := by rw [beq_eq_false_iff_ne]; omega
    by_cases h1 : n = 1
    · subst h1
      obtain ⟨y, hy⟩ : ∃ y, l = [y] := List.length_eq_one_iff.1 HLN.out
      have HY := Lib.hid hy
      obtain ⟨a, ha⟩ := HR2.out.addr (by decide)
      subst ha
      have hc0 := HR2.out.at (i := 0) (y := y) (by rw [hy]; rfl)
      rw [show a.add 0 = a by unfold Addr.add; simp] at hc0
      have HYL : Hid (y.length ≤ 1000000) := Lib.hid (HV.out y (by rw [hy]; exact List.mem_cons_self ..))
      clear hy
      go_wp2_with fail
      refine (rleaf_any x HX.out y _ HYL.out).mono ?_
      rintro e we ⟨rfl, hbe⟩
      have HDE := Lib.hid (HD1.out.ext hbe)
      have HEE := Lib.hid (ExtW.trans HE1.out hbe)
      clear hbe hc0
      obtain ⟨d, hd⟩ : ∃ d, d = T.leafD (bitsN x) y := ⟨_, rfl⟩
      have HS : Hid ((bvs d).toArray.size = 32) := Lib.hid (dg_size (by rw [hd]; exact T.leafD_len _ _))
      have HDL : Hid (d = T.leafD (bitsN x) y) := Lib.hid hd
      rw [← hd]
      clear hd
      unfold dgV
      go_wp2_with (refine wpList_st rfl rfl ?_; refine ⟨gd, _, _, _, rfl, rfl, HDE.out, by rw [HS.out]; kernel_rfl, Eq.trans (show (bvs (List.replicate 32 0)).toArray.size = 32 from rfl) HS.out.symm, dg_one _, ?_⟩)
      (try simp only [Exit.inBlock, Exit.then])
      refine bodyPost_ret (v := dgV d) ?_ rfl ⟨by rw [HDL.out]; (rw [HY.out, T.rootD_one]), below_setRow HEE.out HGD.out _⟩
      have h := run_loadVar_row (P := Try.prog) (we.setRow gd (bvs d).toArray) gd 24 24 (bvs d).toArray (0, 0) _ (Row.setRow HDE.out (bvs d)) Try.underlying24 rfl (by rw [HS.out]; kernel_rfl)
      simpa [results, Try.f17, Act.put, asAddr, dgV] using h
    have h2 : 2 ≤ n := by omega
    obtain ⟨k, hk⟩ : ∃ k, k = T.half n := ⟨_, rfl⟩
    have hhl := T.half_lt h2
    rw [← hk] at hhl
    have HK := Lib.hid hk
    clear hk
    go_wp2_with fail
    refine (rhalf_any n _ ⟨by omega, hn63⟩).mono ?_
    rintro e we ⟨rfl, rfl⟩
    rw [← HK.out]
    have hcl : k ≤ n := by omega
    have hrt := run_takeT A n c k hcl hnc
    have hrd := run_dropT A n c k hcl hnc
    have HM := Lib.hid (T.rootD_more (bitsN x) HLN.out h2 HK.out)
    have HBT := Lib.hid (HR2.out.take hcl)
    have HBD := Lib.hid (HR2.out.dropA hcl)
    obtain ⟨a, ha⟩ : ∃ d, d = T.rootD (bitsN x) (l.take k) := ⟨_, rfl⟩
    have hal : a.length = 32 := by rw [ha]; exact T.rootD_len _ _
    obtain ⟨b, hb⟩ : ∃ d, d = T.rootD (bitsN x) (l.drop k) := ⟨_, rfl⟩
    have hbl : b.length = 32 := by rw [hb]; exact T.rootD_len _ _
    have HAL := Lib.hid hal
    have HBL := Lib.hid hbl
    have HA := Lib.hid ha
    have HB := Lib.hid hb
    clear ha hb hal hbl
    rw [← HA.out, ← HB.out] at HM
    go_wp2_with fail
    refine (ih A k c _ _ (by omega) HBT.out (HV.out.take k)).mono ?_
    rintro e w3 ⟨rfl, hb⟩
    have HE3 := Lib.hid hb
    rw [← HA.out]
    clear hb
    go_upto_region 7 with (first
      | (refine wpList_newD rfl rfl ?_)
      | (refine wpList_newst rfl rfl rfl HAL.out (d0 := List.replicate 32 0) rfl rfl rfl (zDig_row _) ?_))
    have HAR := Lib.hid (stD_row w3 a)
    have HE4 := Lib.hid (ExtW.trans HE3.out (stD_ext w3 a))
    generalize (w3.alloc (.cells zDig 24)).setRow w3.heap.size (bvs a).toArray = w4 at HAR HE4 ⊢
    obtain ⟨ga, hga⟩ : ∃ g, g = w3.heap.size := ⟨_, rfl⟩
    rw [← hga] at HAR ⊢
    clear hga HE3
    go_wp2_with fail
    refine (ih _ (n - k) (c - k) _ _ (by omega) (HBD.out.same HE4.out) (HV.out.drop k)).mono ?_
    rintro e w5 ⟨rfl, hb⟩
    have HE5 := Lib.hid (ExtW.trans HE4.out hb)
    have HAR5 := Lib.hid (HAR.out.ext hb)
    rw [← HB.out]
    clear hb HAR HE4
    go_upto_region 8 with (first
      | (refine wpList_newD rfl rfl ?_)
      | (refine wpList_newst rfl rfl rfl HBL.out (d0 := List.replicate 32 0) rfl rfl rfl (zDig_row _) ?_))
    have HBR := Lib.hid (stD_row w5 b)
    have HE6 := Lib.hid (ExtW.trans HE5.out (stD_ext w5 b))
    have HAR6 := Lib.hid (HAR5.out.ext (stD_ext w5 b))
    generalize (w5.alloc (.cells zDig 24)).setRow w5.heap.size (bvs b).toArray = w6 at HBR HE6 HAR6 ⊢
    obtain ⟨gb, hgb⟩ : ∃ g, g = w5.heap.size := ⟨_, rfl⟩
    rw [← hgb] at HBR ⊢
    clear hgb HE5 HAR5
    have HSA : Hid ((bvs a).toArray.size = 32) := Lib.hid (dg_size HAL.out)
    have HSB : Hid ((bvs b).toArray.size = 32) := Lib.hid (dg_size HBL.out)
    go_wp2_with (refine wpList_ld rfl rfl ?_; first | refine ⟨ga, _, _, _, rfl, HAR6.out, Try.underlying24, rfl, by rw [HSA.out]; kernel_rfl, ?_⟩ | refine ⟨gb, _, _, _, rfl, HBR.out, Try.underlying24, rfl, by rw [HSB.out]; kernel_rfl, ?_⟩)
    refine (rnode_any x HX.out a b _ HAL.out HBL.out).mono ?_
    rintro e w7 ⟨rfl, hb⟩
    have HDE := Lib.hid (HD1.out.ext (ExtW.trans HE6.out hb))
    have HEE := Lib.hid (ExtW.trans HE1.out (ExtW.trans HE6.out hb))
    clear hb
    obtain ⟨d, hd⟩ : ∃ d, d = T.nodeD (bitsN x) a b := ⟨_, rfl⟩
    have HS : Hid ((bvs d).toArray.size = 32) := Lib.hid (dg_size (by rw [hd]; exact T.nodeD_len _ _ _))
    have HDL : Hid (d = T.nodeD (bitsN x) a b) := Lib.hid hd
    rw [← hd]
    clear hd
    unfold dgV
    go_wp2_with (refine wpList_st rfl rfl ?_; refine ⟨gd, _, _, _, rfl, rfl, HDE.out, by rw [HS.out]; kernel_rfl, Eq.trans (show (bvs (List.replicate 32 0)).toArray.size = 32 from rfl) HS.out.symm, dg_one _, ?_⟩)
    (try simp only [Exit.inBlock, Exit.then])
    refine bodyPost_ret (v := dgV d) ?_ rfl ⟨by rw [HDL.out]; (rw [HM.out]), below_setRow HEE.out HGD.out _⟩
    have h := run_loadVar_row (P := Try.prog) (w7.setRow gd (bvs d).toArray) gd 24 24 (bvs d).toArray (0, 0) _ (Row.setRow HDE.out (bvs d)) Try.underlying24 rfl (by rw [HS.out]; kernel_rfl)
    simpa [results, Try.f17, Act.put, asAddr, dgV] using h
end Go.Proofs.Ytncdgndeidbgoaa
