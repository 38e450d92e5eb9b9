/- Walks of the document's Leaf, Node, Half, Root. Walks of Texts, Same, still, and of the document's Path, beside, Range. Walks of the document's Path, beside, Range. Walks of the document's Above, Check. Walks of the document's Over, CheckRange. -/
import Derived.Test.YthaoibgcgkmnbaaLot
import Derived.Test.YthaoibgcgkmnbaaRA
import Derived.Test.YthaoibgcgkmnbaaTq
namespace Go.Proofs.Ythaoibgcgkmnbaa
set_option maxRecDepth 100000
set_option maxRecDepth 100000
open Go.RowKit

/-- bytes as a text -/
def strV (xs : List UInt8) : Value := .string ⟨xs.toArray⟩
/-- a slice of texts that reads as l -/
def Sts (w : World) (A : Option Addr) (n c : Nat) (l : List (List UInt8)) : Prop := l.length = n ∧ Rd w A n c 1 (l.map strV)
theorem Sts.same {w w' : World} {A : Option Addr} {n c : Nat} {l : List (List UInt8)} (h : Sts w A n c l) (hb : ExtW w w') : Sts w' A n c l := ⟨h.1, h.2.below hb (Nat.le_refl _)⟩
theorem Sts.at {w : World} {a : Addr} {n c : Nat} {l : List (List UInt8)} (h : Sts w (some a) n c l) {i : Nat} {y : List UInt8} (hy : l[i]? = some y) : w.cell? (a.add i) = some (strV y) := h.2.cell a rfl i _ (by rw [List.getElem?_map, hy]; rfl)
theorem Sts.take {w : World} {A : Option Addr} {n c : Nat} {l : List (List UInt8)} (h : Sts w A n c l) {k : Nat} (hk : k ≤ n) : Sts w A k c (l.take k) := by
  refine ⟨by rw [List.length_take, h.1]; omega, ?_⟩
  have := h.2.take k hk
  rwa [Nat.mul_one, ← List.map_take] at this
theorem Sts.dropA {w : World} {A : Option Addr} {n c : Nat} {l : List (List UInt8)} (h : Sts w A n c l) {k : Nat} (hk : k ≤ n) : Sts w (dropA A c k) (n - k) (c - k) (l.drop k) := by
  refine ⟨by rw [List.length_drop, h.1], ?_⟩
  have := h.2.sub (lo := k) (hi := n) (mx := c) hk (Nat.le_refl _) h.2.nc (Nat.le_refl _)
  rw [Nat.mul_one, Nat.mul_one, ← List.map_drop, List.take_of_length_le (by rw [List.length_map, List.length_drop, h.1]; exact Nat.le_refl _)] at this
  exact this
theorem Sts.addr {w : World} {A : Option Addr} {n c : Nat} {l : List (List UInt8)} (h : Sts w A n c l) (h0 : 0 < n) : ∃ a, A = some a := by
  cases hA : A with
  | none => have := h.2.nil0 hA; have := h.2.nc; omega
  | some a => exact ⟨a, rfl⟩
theorem infoStr : (Try.prog.info? 9).map (fun i => (i.zero, i.size, i.bytes)) = some (some (.string ByteArray.empty), 1, 16) := by kernel_rfl
theorem run_dropT (A : Option Addr) (n c : Nat) (k : Nat) (h1 : k ≤ n) (_h3 : n ≤ c) (W : World) : (Instr.slice 27 (.slice A n c) (some (.int .i64 (k : Int))) none none).run Try.prog W = .ok (.slice (dropA A c k) (n - k) (c - k)) W := by
  obtain ⟨i1, hi, _, hz1, _⟩ := info_parts infoStr
  have hel : (Try.prog).elem 27 = 9 := by simp [Program.elem, Try.underlying27]
  have hu : (Try.prog).underlying 27 = some (.slice ((Try.prog).elem 27)) := by rw [hel]; exact Try.underlying27
  rw [run_slice_l W _ A n c hu .i64 _ (by omega) (by omega), hel]
  simp [sizeOf, typeInfo, hi, hz1, sliced, Result.andThen, dropA]
theorem run_takeT (A : Option Addr) (n c : Nat) (k : Nat) (h1 : k ≤ n) (h3 : n ≤ c) (W : World) : (Instr.slice 27 (.slice A n c) none (some (.int .i64 (k : Int))) none).run Try.prog W = .ok (.slice A k c) W := by
  obtain ⟨i1, hi, _, hz1, _⟩ := info_parts infoStr
  exact cutB_h Try.underlying27 hi hz1 A n c .i64 _ k rfl h1 h3 W

set_option maxHeartbeats 4000000 in
set_option maxRecDepth 100000 in
theorem rleafText_any (xs : List UInt8) (w : World) (hn : xs.length ≤ 1000000) :
    Calls Try.prog 61 #[strV xs] w fun e w' => e = .returned (strV (0 :: xs)) ∧ w' = w := by
  have hz : (⟨xs.toArray⟩ : ByteArray).size ≤ 1000000 := by rw [str_size]; exact hn
  have hcat : ((⟨#[0]⟩ : ByteArray) ++ ⟨xs.toArray⟩) = ⟨(0 :: xs).toArray⟩ := ba_ext (by rw [app_list]; simp)
  unfold strV
  obtain ⟨s, hs⟩ : ∃ s, s = (⟨xs.toArray⟩ : ByteArray) := ⟨_, rfl⟩
  rw [← hs] at hz hcat ⊢
  clear hs
  have HC := Lib.hid hcat
  clear hcat
  go_enter Try.func61, Try.ntmps61
  go_wp2
  go_ret
  exact ⟨by rw [← HC.out]; rfl, rfl⟩

set_option maxHeartbeats 4000000 in
set_option maxRecDepth 100000 in
theorem rleaf_any (x : Int) (hx : -9223372036854775808 ≤ x ∧ x ≤ 9223372036854775807) (xs : List UInt8) (w : World) (hn : xs.length ≤ 1000000) :
    Calls Try.prog 58 #[.int .i64 x, strV xs] w fun e w' => e = .returned (dgV (T.leafD (bitsN x) xs)) ∧ ExtW w w' := by
  have HX := Lib.hid hx
  clear hx
  go_enter Try.func58, Try.ntmps58
  go_upto_region 1 with (refine wpList_newD rfl rfl ?_)
  have HD1 := Lib.hid (zDig_row w)
  have HE1 : Hid (ExtW w (w.alloc (.cells zDig 45))) := Lib.hid ((Below.refl _ _).alloc (Nat.le_refl _) _)
  obtain ⟨gd, hgd⟩ : ∃ g, g = w.heap.size := ⟨_, rfl⟩
  have HGD : Hid (w.heap.size ≤ gd) := Lib.hid (by omega)
  rw [← hgd] at HD1
  rw [← hgd]
  clear hgd
  generalize w.alloc (.cells zDig 45) = w1 at HD1 HE1 ⊢
  go_wp2_with fail
  refine (rleafText_any xs _ hn).mono ?_
  rintro e w2 ⟨rfl, rfl⟩
  unfold strV
  go_wp2_with fail
  refine (refKept_any _ x _ (by rw [str_size]; simp; omega) HX.out).mono ?_
  rintro e w3 ⟨rfl, hb⟩
  rw [str_bytes]
  have HD3 := Lib.hid (HD1.out.ext hb)
  have HE3 := Lib.hid (ExtW.trans HE1.out hb)
  clear hb
  obtain ⟨d, hd⟩ : ∃ d, d = keep (S.sha (0 :: xs)) (bitsN x) := ⟨_, rfl⟩
  have HS : Hid ((bvs d).toArray.size = 32) := Lib.hid (dg_size (by rw [hd]; exact T.leafD_len _ _))
  have HDL : Hid (d = keep (S.sha (0 :: xs)) (bitsN x)) := Lib.hid hd
  rw [← hd]
  clear hd
  unfold dgV
  go_wp2_with (refine wpList_st rfl rfl ?_; refine ⟨gd, _, _, _, rfl, rfl, HD3.out, by rw [HS.out]; kernel_rfl, Eq.trans (show (bvs (List.replicate 32 0)).toArray.size = 32 from rfl) HS.out.symm, dg_one _, ?_⟩)
  (try simp only [Exit.inBlock, Exit.then])
  refine bodyPost_ret (v := dgV d) ?_ rfl ⟨by rw [HDL.out]; rfl, below_setRow HE3.out HGD.out _⟩
  have h := run_loadVar_row (P := Try.prog) (w3.setRow gd (bvs d).toArray) gd 45 45 (bvs d).toArray (0, 0) _ (Row.setRow HD3.out (bvs d)) Try.underlying45 rfl (by rw [HS.out]; kernel_rfl)
  simpa [results, Try.f58, Act.put, asAddr, dgV] using h

set_option maxHeartbeats 4000000 in
set_option maxRecDepth 100000 in
theorem rnodeText_any (l r : List UInt8) (w : World) (hl : l.length = 32) (hr : r.length = 32) :
    Calls Try.prog 62 #[dgV l, dgV r] w fun e w' => e = .returned (strV (1 :: (l ++ r))) ∧ ExtW w w' := by
  have hcat : ((⟨#[1]⟩ : ByteArray) ++ ⟨l.toArray⟩) ++ ⟨r.toArray⟩ = ⟨(1 :: (l ++ r)).toArray⟩ := ba_ext (by rw [app_list, app_list]; simp)
  have HC := Lib.hid hcat
  have HLL := Lib.hid hl
  have HRL := Lib.hid hr
  have hzl : (⟨l.toArray⟩ : ByteArray).size ≤ 32 := by rw [str_size]; omega
  have hzr : (⟨r.toArray⟩ : ByteArray).size ≤ 32 := by rw [str_size]; omega
  clear hcat hl hr
  unfold dgV
  go_enter Try.func62, Try.ntmps62
  go_upto_region 1 with (fail)
  have HL1 : Hid (Row (w.alloc (.cells (bvs l).toArray 45)) w.heap.size 45 (bvs l)) := Lib.hid (heap_alloc_last _ _)
  have HE1 : Hid (ExtW w (w.alloc (.cells (bvs l).toArray 45))) := Lib.hid ((Below.refl _ _).alloc (Nat.le_refl _) _)
  have HA1 : Hid ((w.alloc (.cells (bvs l).toArray 45)).heap.size = w.heap.size + 1) := Lib.hid (by simp)
  generalize w.alloc (.cells (bvs l).toArray 45) = wb at HL1 HE1 HA1 ⊢
  have HR2 : Hid (Row (wb.alloc (.cells (bvs r).toArray 45)) (w.heap.size + 1) 45 (bvs r)) := Lib.hid (by rw [← HA1.out]; exact heap_alloc_last _ _)
  have HE2 : Hid (ExtW wb (wb.alloc (.cells (bvs r).toArray 45))) := Lib.hid ((Below.refl _ _).alloc (Nat.le_refl _) _)
  generalize wb.alloc (.cells (bvs r).toArray 45) = wc at HR2 HE2 ⊢
  have HL3 := Lib.hid (HL1.out.ext HE2.out)
  have HW3 := Lib.hid (ExtW.trans HE1.out HE2.out)
  obtain ⟨gl, hgl⟩ : ∃ g, g = w.heap.size := ⟨_, rfl⟩
  obtain ⟨gr, hgr⟩ : ∃ g, g = w.heap.size + 1 := ⟨_, rfl⟩
  rw [← hgl] at HL3
  rw [← hgr] at HR2
  rw [← hgr, ← hgl]
  clear hgl hgr HL1 HE1 HE2 HA1
  apply wp_region_ext _ (by kernel_rfl) (by kernel_rfl)
  (apply wpZ_det; (intro wq hE hG; first | exact obl_non (by rfl) | (apply obl_val (by rfl); go_simp <;> rfl)); (intro ak hak; simp only [Act.put, List.setIfInBounds_toArray, List.set_cons_succ, List.set_cons_zero] at hak; subst hak))
  (apply wpZ_det (c := .string ⟨l.toArray⟩); (intro wq hE hG; have kk := conv_str ((HL3.out.ext (ExtW.of_drew hE)).rd32 HLL.out); apply obl_val (by rfl); go_simp); (intro ak hak; simp only [Act.put, List.setIfInBounds_toArray, List.set_cons_succ, List.set_cons_zero] at hak; subst hak))
  (apply wpZ_det (c := .string (⟨#[1]⟩ ++ ⟨l.toArray⟩)); (intro wq hE hG; apply obl_val (by rfl); go_simp; first | done | (have h1 := HLL.out; have h2 := HRL.out; omega) | (have h1 := HLL.out; have h2 := HRL.out; simp; omega)); (intro ak hak; simp only [Act.put, List.setIfInBounds_toArray, List.set_cons_succ, List.set_cons_zero] at hak; subst hak))
  (apply wpZ_det; (intro wq hE hG; first | exact obl_non (by rfl) | (apply obl_val (by rfl); go_simp <;> rfl)); (intro ak hak; simp only [Act.put, List.setIfInBounds_toArray, List.set_cons_succ, List.set_cons_zero] at hak; subst hak))
  (apply wpZ_det (c := .string ⟨r.toArray⟩); (intro wq hE hG; have kk := conv_str ((HR2.out.ext (ExtW.of_drew hE)).rd32 HRL.out); apply obl_val (by rfl); go_simp); (intro ak hak; simp only [Act.put, List.setIfInBounds_toArray, List.set_cons_succ, List.set_cons_zero] at hak; subst hak))
  have hz1 : ((⟨#[1]⟩ : ByteArray) ++ ⟨l.toArray⟩).size ≤ 33 := by
    rw [← size_list, app_list]
    simp
    rw [HLL.out]
    exact Nat.le_refl _
  (apply wpZ_det (c := .string ((⟨#[1]⟩ ++ ⟨l.toArray⟩) ++ ⟨r.toArray⟩)); (intro wq hE hG; apply obl_val (by rfl); go_simp; first | done | (have h1 := HLL.out; have h2 := HRL.out; omega) | (have h1 := HLL.out; have h2 := HRL.out; simp; omega)); (intro ak hak; simp only [Act.put, List.setIfInBounds_toArray, List.set_cons_succ, List.set_cons_zero] at hak; subst hak))
  (apply wpZ_det; (intro wq hE hG; first | exact obl_non (by rfl) | (apply obl_val (by rfl); go_simp <;> rfl)); (intro ak hak; simp only [Act.put, List.setIfInBounds_toArray, List.set_cons_succ, List.set_cons_zero] at hak; subst hak))
  (apply wpZ_nil; intro wq hE hG)
  have HE := Lib.hid (ExtW.trans HW3.out (ExtW.of_drew hE))
  clear hE hG
  go_wp2
  go_ret
  exact ⟨by rw [HC.out]; rfl, HE.out⟩

set_option maxHeartbeats 4000000 in
set_option maxRecDepth 100000 in
theorem rnode_any (x : Int) (hx : -9223372036854775808 ≤ x ∧ x ≤ 9223372036854775807) (l r : List UInt8) (w : World) (hl : l.length = 32) (hr : r.length = 32) :
    Calls Try.prog 59 #[.int .i64 x, dgV l, dgV r] w fun e w' => e = .returned (dgV (T.nodeD (bitsN x) l r)) ∧ ExtW w w' := by
  have HX := Lib.hid hx
  have HLL := Lib.hid hl
  have HRL := Lib.hid hr
  have HSL : Hid ((bvs l).toArray.size = 32) := Lib.hid (dg_size hl)
  have HSR : Hid ((bvs r).toArray.size = 32) := Lib.hid (dg_size hr)
  have HZZ : Hid ((1 :: (l ++ r)).length ≤ 1000000000) := Lib.hid (by simp; omega)
  clear hl hr hx
  unfold dgV
  go_enter Try.func59, Try.ntmps59
  go_upto_region 1 with (refine wpList_newD rfl rfl ?_)
  have HL1 : Hid (Row (w.alloc (.cells (bvs l).toArray 45)) w.heap.size 45 (bvs l)) := Lib.hid (heap_alloc_last _ _)
  have HE1 : Hid (ExtW w (w.alloc (.cells (bvs l).toArray 45))) := Lib.hid ((Below.refl _ _).alloc (Nat.le_refl _) _)
  have HA1 : Hid ((w.alloc (.cells (bvs l).toArray 45)).heap.size = w.heap.size + 1) := Lib.hid (by simp)
  generalize w.alloc (.cells (bvs l).toArray 45) = wb at HL1 HE1 HA1 ⊢
  have HR2 : Hid (Row (wb.alloc (.cells (bvs r).toArray 45)) (w.heap.size + 1) 45 (bvs r)) := Lib.hid (by rw [← HA1.out]; exact heap_alloc_last _ _)
  have HE2 : Hid (ExtW wb (wb.alloc (.cells (bvs r).toArray 45))) := Lib.hid ((Below.refl _ _).alloc (Nat.le_refl _) _)
  have HA2 : Hid ((wb.alloc (.cells (bvs r).toArray 45)).heap.size = w.heap.size + 1 + 1) := Lib.hid (by rw [← HA1.out]; simp)
  generalize wb.alloc (.cells (bvs r).toArray 45) = wc at HR2 HE2 HA2 ⊢
  have HD3 := Lib.hid (zDig_row wc)
  have HE3 : Hid (ExtW wc (wc.alloc (.cells zDig 45))) := Lib.hid ((Below.refl _ _).alloc (Nat.le_refl _) _)
  rw [HA2.out] at HD3 ⊢
  generalize wc.alloc (.cells zDig 45) = wd at HD3 HE3 ⊢
  have HR3 := Lib.hid (HR2.out.ext HE3.out)
  have HL3 := Lib.hid (HL1.out.ext (ExtW.trans HE2.out HE3.out))
  have HW3 := Lib.hid (ExtW.trans HE1.out (ExtW.trans HE2.out HE3.out))
  clear HL1 HE1 HR2 HE2 HE3 HA1 HA2
  obtain ⟨gl, hgl⟩ : ∃ g, g = w.heap.size := ⟨_, rfl⟩
  obtain ⟨gr, hgr⟩ : ∃ g, g = w.heap.size + 1 := ⟨_, rfl⟩
  obtain ⟨gd, hgd⟩ : ∃ g, g = w.heap.size + 1 + 1 := ⟨_, rfl⟩
  have HGS : Hid (w.heap.size ≤ gd) := Lib.hid (by omega)
  rw [← hgl] at HL3
  rw [← hgr] at HR3
  rw [← hgd] at HD3
  rw [← hgd, ← hgr, ← hgl]
  clear hgl hgr hgd
  go_wp2_with (refine wpList_ld rfl rfl ?_; first | refine ⟨gl, _, _, _, rfl, HL3.out, Try.underlying45, rfl, by rw [HSL.out]; kernel_rfl, ?_⟩ | refine ⟨gr, _, _, _, rfl, HR3.out, Try.underlying45, rfl, by rw [HSR.out]; kernel_rfl, ?_⟩)
  refine (rnodeText_any l r _ HLL.out HRL.out).mono ?_
  rintro e we ⟨rfl, hbe⟩
  have HD4 := Lib.hid (HD3.out.ext hbe)
  have HE4 := Lib.hid (ExtW.trans HW3.out hbe)
  clear hbe
  unfold strV
  go_wp2_with fail
  refine (refKept_any _ x _ (by rw [str_size]; exact HZZ.out) HX.out).mono ?_
  rintro e w5 ⟨rfl, hb⟩
  rw [str_bytes]
  have HDE := Lib.hid (HD4.out.ext hb)
  have HEE := Lib.hid (ExtW.trans HE4.out hb)
  clear hb
  obtain ⟨d, hd⟩ : ∃ d, d = keep (S.sha (1 :: (l ++ r))) (bitsN x) := ⟨_, rfl⟩
  have HS : Hid ((bvs d).toArray.size = 32) := Lib.hid (dg_size (by rw [hd]; exact T.nodeD_len _ _ _))
  have HDL : Hid (d = keep (S.sha (1 :: (l ++ r))) (bitsN x)) := Lib.hid hd
  rw [← hd]
  clear hd
  unfold dgV
  go_wp2_with (refine wpList_st rfl rfl ?_; refine ⟨gd, _, _, _, rfl, rfl, HDE.out, by rw [HS.out]; kernel_rfl, Eq.trans (show (bvs (List.replicate 32 0)).toArray.size = 32 from rfl) HS.out.symm, dg_one _, ?_⟩)
  (try simp only [Exit.inBlock, Exit.then])
  refine bodyPost_ret (v := dgV d) ?_ rfl ⟨by rw [HDL.out]; rfl, below_setRow HEE.out HGS.out _⟩
  have h := run_loadVar_row (P := Try.prog) (w5.setRow gd (bvs d).toArray) gd 45 45 (bvs d).toArray (0, 0) _ (Row.setRow HDE.out (bvs d)) Try.underlying45 rfl (by rw [HS.out]; kernel_rfl)
  simpa [results, Try.f59, Act.put, asAddr, dgV] using h

set_option maxHeartbeats 4000000 in
set_option maxRecDepth 100000 in
theorem rhalf_any (n : Nat) (w : World) (hn : 1 ≤ n ∧ n < 9223372036854775808) : Calls Try.prog 43 #[.int .i64 (n : Int)] w fun e w' => e = .returned (.int .i64 (T.half n : Nat)) ∧ w' = w := by
  obtain ⟨hn1, hn2⟩ := hn
  go_enter Try.func43, Try.ntmps43
  go_wp2_with fail
  go_loopw [3] (fun k wr => ∃ m : Nat, k = .int .i64 m ∧ 1 ≤ m ∧ m ≤ n ∧ Hid (∃ j, m = 2 ^ j) ∧ Hid (m = 1 ∨ m < n) ∧ Hid (wr = w)) (fun k _ => n - (intOf k).toNat)
  case atStart => exact ⟨1, rfl, Nat.le_refl _, hn1, Lib.hid ⟨0, rfl⟩, Lib.hid (.inl rfl), rfl⟩
  case round =>
    obtain ⟨m, rfl, hm1, hmn, HJ, HM, HW⟩ := hrel
    obtain rfl := HW.out
    by_cases hlt : m < n - m
    · have hli : (m : Int) < (n : Int) - (m : Int) := by omega
      obtain ⟨m2, hm2⟩ : ∃ k, k = m * 2 := ⟨_, rfl⟩
      have hm2i : IntKind.i64.wrap ((m : Int) * 2) = (m2 : Int) := by rw [IntWalk.i64_in _ (by omega)]; omega
      have hm2b : m2 < n := by omega
      have HM2 := Lib.hid hm2
      clear hm2
      go_wp2_with fail
      go_roundw
      case rel => exact ⟨m2, by first | rfl | simp [hm2i], by have := HM2.out; omega, by omega, Lib.hid (by obtain ⟨j, hj⟩ := HJ.out; exact ⟨j + 1, by rw [HM2.out, hj, Nat.pow_succ]⟩), Lib.hid (.inr hm2b), Lib.hid trivial⟩
      case measure => simp [intOf]; have := HM2.out; omega
    · have hli : ¬ (m : Int) < (n : Int) - (m : Int) := by omega
      have hh : m = T.half n := by
        symm
        by_cases h2 : 2 ≤ n
        · obtain ⟨j, hj⟩ := HJ.out
          rw [hj]
          exact T.half_eq h2 (by rw [← hj]; rcases HM.out with h | h <;> omega) (by rw [← hj]; omega)
        · rw [T.half_one (by omega)]; omega
      have HH := Lib.hid hh
      clear hh
      go_wp2
      go_ret
      exact ⟨by rw [← HH.out]; rfl, rfl⟩

set_option maxHeartbeats 4000000 in
set_option maxRecDepth 100000 in
theorem rroot_any (x : Int) (hx : -9223372036854775808 ≤ x ∧ x ≤ 9223372036854775807) : ∀ (N : Nat) (A : Option Addr) (n c : Nat) (l : List (List UInt8)) (w : World), n < N → Sts w A n c l → Lv l →
    Calls Try.prog 39 #[.int .i64 x, .slice A n c] w fun e w' => e = .returned (dgV (T.rootD (bitsN x) l)) ∧ ExtW w w' := by
  have HX := Lib.hid hx
  clear hx
  intro N
  induction N with
  | zero => intro A n c l w h; omega
  | succ N ih =>
    intro A n c l w hnN hr hlv
    have hn63 : n < 9223372036854775808 := by have h1 := hr.2.nc; have h2 := hr.2.cm; unfold maxLen at h2; omega
    have hnc := hr.2.nc
    have HR := Lib.hid hr
    have HV := Lib.hid hlv
    have HLN := Lib.hid hr.1
    clear hr hlv
    go_enter Try.func39, Try.ntmps39
    go_upto_region 1 with (refine wpList_newD rfl rfl ?_)
    have HD1 := Lib.hid (zDig_row w)
    have HE1 : Hid (ExtW w (w.alloc (.cells zDig 45))) := Lib.hid ((Below.refl _ _).alloc (Nat.le_refl _) _)
    obtain ⟨gd, hgd⟩ : ∃ g, g = w.heap.size := ⟨_, rfl⟩
    have HGD : Hid (w.heap.size ≤ gd) := Lib.hid (by omega)
    rw [← hgd] at HD1
    rw [← hgd]
    clear hgd
    generalize w.alloc (.cells zDig 45) = w1 at HD1 HE1 ⊢
    have HR2 := Lib.hid (HR.out.same HE1.out)
    by_cases h0 : n = 0
    · subst h0
      have hl0 : l = [] := List.length_eq_zero_iff.1 HLN.out
      have HL0 := Lib.hid hl0
      clear hl0
      go_wp2_with fail
      refine (refKept_any _ x _ (by decide) HX.out).mono ?_
      rintro e we ⟨rfl, hbe⟩
      have HDE := Lib.hid (HD1.out.ext hbe)
      have HEE := Lib.hid (ExtW.trans HE1.out hbe)
      clear hbe
      rw [show ({ data := #[] } : ByteArray).data.toList = [] from rfl]
      obtain ⟨d, hd⟩ : ∃ d, d = keep (S.sha []) (bitsN x) := ⟨_, rfl⟩
      have HS : Hid ((bvs d).toArray.size = 32) := Lib.hid (dg_size (by rw [hd]; exact T.emptyD_len _))
      have HDL : Hid (d = keep (S.sha []) (bitsN x)) := Lib.hid hd
      rw [← hd]
      clear hd
      unfold dgV
      go_wp2_with (refine wpList_st rfl rfl ?_; refine ⟨gd, _, _, _, rfl, rfl, HDE.out, by rw [HS.out]; kernel_rfl, Eq.trans (show (bvs (List.replicate 32 0)).toArray.size = 32 from rfl) HS.out.symm, dg_one _, ?_⟩)
      (try simp only [Exit.inBlock, Exit.then])
      refine bodyPost_ret (v := dgV d) ?_ rfl ⟨by rw [HDL.out]; (rw [HL0.out, T.rootD_nil]), below_setRow HEE.out HGD.out _⟩
      have h := run_loadVar_row (P := Try.prog) (we.setRow gd (bvs d).toArray) gd 45 45 (bvs d).toArray (0, 0) _ (Row.setRow HDE.out (bvs d)) Try.underlying45 rfl (by rw [HS.out]; kernel_rfl)
      simpa [results, Try.f39, Act.put, asAddr, dgV] using h
    have hne0 : ((n : Int) == 0) = false := by rw [beq_eq_false_iff_ne]; omega
    by_cases h1 : n = 1
    · subst h1
      obtain ⟨y, hy⟩ : ∃ y, l = [y] := List.length_eq_one_iff.1 HLN.out
      have HY := Lib.hid hy
      obtain ⟨a, ha⟩ := HR2.out.addr (by decide)
      subst ha
      have hc0 := HR2.out.at (i := 0) (y := y) (by rw [hy]; rfl)
      rw [show a.add 0 = a by unfold Addr.add; simp] at hc0
      have HYL : Hid (y.length ≤ 1000000) := Lib.hid (HV.out y (by rw [hy]; exact List.mem_cons_self ..))
      clear hy
      go_wp2_with fail
      refine (rleaf_any x HX.out y _ HYL.out).mono ?_
      rintro e we ⟨rfl, hbe⟩
      have HDE := Lib.hid (HD1.out.ext hbe)
      have HEE := Lib.hid (ExtW.trans HE1.out hbe)
      clear hbe hc0
      obtain ⟨d, hd⟩ : ∃ d, d = T.leafD (bitsN x) y := ⟨_, rfl⟩
      have HS : Hid ((bvs d).toArray.size = 32) := Lib.hid (dg_size (by rw [hd]; exact T.leafD_len _ _))
      have HDL : Hid (d = T.leafD (bitsN x) y) := Lib.hid hd
      rw [← hd]
      clear hd
      unfold dgV
      go_wp2_with (refine wpList_st rfl rfl ?_; refine ⟨gd, _, _, _, rfl, rfl, HDE.out, by rw [HS.out]; kernel_rfl, Eq.trans (show (bvs (List.replicate 32 0)).toArray.size = 32 from rfl) HS.out.symm, dg_one _, ?_⟩)
      (try simp only [Exit.inBlock, Exit.then])
      refine bodyPost_ret (v := dgV d) ?_ rfl ⟨by rw [HDL.out]; (rw [HY.out, T.rootD_one]), below_setRow HEE.out HGD.out _⟩
      have h := run_loadVar_row (P := Try.prog) (we.setRow gd (bvs d).toArray) gd 45 45 (bvs d).toArray (0, 0) _ (Row.setRow HDE.out (bvs d)) Try.underlying45 rfl (by rw [HS.out]; kernel_rfl)
      simpa [results, Try.f39, Act.put, asAddr, dgV] using h
    have h2 : 2 ≤ n := by omega
    obtain ⟨k, hk⟩ : ∃ k, k = T.half n := ⟨_, rfl⟩
    have hhl := T.half_lt h2
    rw [← hk] at hhl
    have HK := Lib.hid hk
    clear hk
    go_wp2_with fail
    refine (rhalf_any n _ ⟨by omega, hn63⟩).mono ?_
    rintro e we ⟨rfl, rfl⟩
    rw [← HK.out]
    have hcl : k ≤ n := by omega
    have hrt := run_takeT A n c k hcl hnc
    have hrd := run_dropT A n c k hcl hnc
    have HM := Lib.hid (T.rootD_more (bitsN x) HLN.out h2 HK.out)
    have HBT := Lib.hid (HR2.out.take hcl)
    have HBD := Lib.hid (HR2.out.dropA hcl)
    obtain ⟨a, ha⟩ : ∃ d, d = T.rootD (bitsN x) (l.take k) := ⟨_, rfl⟩
    have hal : a.length = 32 := by rw [ha]; exact T.rootD_len _ _
    obtain ⟨b, hb⟩ : ∃ d, d = T.rootD (bitsN x) (l.drop k) := ⟨_, rfl⟩
    have hbl : b.length = 32 := by rw [hb]; exact T.rootD_len _ _
    have HAL := Lib.hid hal
    have HBL := Lib.hid hbl
    have HA := Lib.hid ha
    have HB := Lib.hid hb
    clear ha hb hal hbl
    rw [← HA.out, ← HB.out] at HM
    go_wp2_with fail
    refine (ih A k c _ _ (by omega) HBT.out (HV.out.take k)).mono ?_
    rintro e w3 ⟨rfl, hb⟩
    have HE3 := Lib.hid hb
    rw [← HA.out]
    clear hb
    go_upto_region 7 with (first
      | (refine wpList_newD rfl rfl ?_)
      | (refine wpList_newst rfl rfl rfl HAL.out (d0 := List.replicate 32 0) rfl rfl rfl (zDig_row _) ?_))
    have HAR := Lib.hid (stD_row w3 a)
    have HE4 := Lib.hid (ExtW.trans HE3.out (stD_ext w3 a))
    generalize (w3.alloc (.cells zDig 45)).setRow w3.heap.size (bvs a).toArray = w4 at HAR HE4 ⊢
    obtain ⟨ga, hga⟩ : ∃ g, g = w3.heap.size := ⟨_, rfl⟩
    rw [← hga] at HAR ⊢
    clear hga HE3
    go_wp2_with fail
    refine (ih _ (n - k) (c - k) _ _ (by omega) (HBD.out.same HE4.out) (HV.out.drop k)).mono ?_
    rintro e w5 ⟨rfl, hb⟩
    have HE5 := Lib.hid (ExtW.trans HE4.out hb)
    have HAR5 := Lib.hid (HAR.out.ext hb)
    rw [← HB.out]
    clear hb HAR HE4
    go_upto_region 8 with (first
      | (refine wpList_newD rfl rfl ?_)
      | (refine wpList_newst rfl rfl rfl HBL.out (d0 := List.replicate 32 0) rfl rfl rfl (zDig_row _) ?_))
    have HBR := Lib.hid (stD_row w5 b)
    have HE6 := Lib.hid (ExtW.trans HE5.out (stD_ext w5 b))
    have HAR6 := Lib.hid (HAR5.out.ext (stD_ext w5 b))
    generalize (w5.alloc (.cells zDig 45)).setRow w5.heap.size (bvs b).toArray = w6 at HBR HE6 HAR6 ⊢
    obtain ⟨gb, hgb⟩ : ∃ g, g = w5.heap.size := ⟨_, rfl⟩
    rw [← hgb] at HBR ⊢
    clear hgb HE5 HAR5
    have HSA : Hid ((bvs a).toArray.size = 32) := Lib.hid (dg_size HAL.out)
    have HSB : Hid ((bvs b).toArray.size = 32) := Lib.hid (dg_size HBL.out)
    go_wp2_with (refine wpList_ld rfl rfl ?_; first | refine ⟨ga, _, _, _, rfl, HAR6.out, Try.underlying45, rfl, by rw [HSA.out]; kernel_rfl, ?_⟩ | refine ⟨gb, _, _, _, rfl, HBR.out, Try.underlying45, rfl, by rw [HSB.out]; kernel_rfl, ?_⟩)
    refine (rnode_any x HX.out a b _ HAL.out HBL.out).mono ?_
    rintro e w7 ⟨rfl, hb⟩
    have HDE := Lib.hid (HD1.out.ext (ExtW.trans HE6.out hb))
    have HEE := Lib.hid (ExtW.trans HE1.out (ExtW.trans HE6.out hb))
    clear hb
    obtain ⟨d, hd⟩ : ∃ d, d = T.nodeD (bitsN x) a b := ⟨_, rfl⟩
    have HS : Hid ((bvs d).toArray.size = 32) := Lib.hid (dg_size (by rw [hd]; exact T.nodeD_len _ _ _))
    have HDL : Hid (d = T.nodeD (bitsN x) a b) := Lib.hid hd
    rw [← hd]
    clear hd
    unfold dgV
    go_wp2_with (refine wpList_st rfl rfl ?_; refine ⟨gd, _, _, _, rfl, rfl, HDE.out, by rw [HS.out]; kernel_rfl, Eq.trans (show (bvs (List.replicate 32 0)).toArray.size = 32 from rfl) HS.out.symm, dg_one _, ?_⟩)
    (try simp only [Exit.inBlock, Exit.then])
    refine bodyPost_ret (v := dgV d) ?_ rfl ⟨by rw [HDL.out]; (rw [HM.out]), below_setRow HEE.out HGD.out _⟩
    have h := run_loadVar_row (P := Try.prog) (w7.setRow gd (bvs d).toArray) gd 45 45 (bvs d).toArray (0, 0) _ (Row.setRow HDE.out (bvs d)) Try.underlying45 rfl (by rw [HS.out]; kernel_rfl)
    simpa [results, Try.f39, Act.put, asAddr, dgV] using h
end Go.Proofs.Ythaoibgcgkmnbaa

namespace Go.Proofs.Ythaoibgcgkmnbaa
set_option maxRecDepth 100000
open Go.RowKit

theorem str_one (l : List (List UInt8)) : ∀ u ∈ l.map strV, u.oneCell' = true := by
  intro u hu
  obtain ⟨b, _, rfl⟩ := List.mem_map.1 hu
  rfl
/-- texts in memory of the call's own -/
def OwnSts (base : Nat) (l : List (List UInt8)) (v : Value) (w : World) : Prop := w.ownsRow base 9 1 v l.length (l.map strV)
theorem OwnSts.mono (base : Nat) (l : List (List UInt8)) : ∀ v w w', OwnSts base l v w → ExtW w w' → OwnSts base l v w' := fun _ _ _ h hb => own_extG h hb
theorem OwnSts.empty (w : World) (base : Nat) (hb : base ≤ w.heap.size) : OwnSts base [] (.slice (some ⟨w.heap.size, 0, none⟩) 0 0) (w.alloc (.cells #[] 9)) :=
  ⟨rfl, .inr ⟨w.heap.size, 0, #[], rfl, hb, heap_alloc_new w _, Nat.le_refl _, by simp [maxLen], rfl, rfl⟩⟩
theorem OwnSts.sts {base : Nat} {l : List (List UInt8)} {v : Value} {w : World} (h : OwnSts base l v w) : ∃ A c, v = .slice A l.length c ∧ Sts w A l.length c l := by
  obtain ⟨A, c, hv, hr, _⟩ := Rd.of_own h
  exact ⟨A, c, hv, rfl, hr⟩
theorem OwnSts.le {base base' : Nat} {l : List (List UInt8)} {v : Value} {w : World} (h : OwnSts base l v w) (hb : base' ≤ base) : OwnSts base' l v w := own_mono h hb
theorem wpList_append_st {ops : Array Oper} {rest : List Oper} {o : Oper} {a : Act} {w : World} {Q : Exit → Act → World → Prop} (hgd : o.guard = none) (s x : Operand)
    (ho : o.op = .call { callee := .builtin .append, args := #[s, x], argTypes := #[27, 27] }) {base : Nat} {l : List (List UInt8)} {v : Value} {z : List UInt8} {g : Nat}
    (hs : a.eval s = v) (hx : a.eval x = .slice (some ⟨g, 0, none⟩) 1 1) (h0 : OwnSts base l v w) (hg : w.cell? ⟨g, 0, none⟩ = some (strV z)) (hl : l.length ≤ 1000000) (hb : base ≤ w.heap.size)
    (h : ∀ v' w', OwnSts base (l ++ [z]) v' w' → Below base w w' → wpList Try.prog ops Q rest (a.put o.dst v') w') : wpList Try.prog ops Q (o :: rest) a w := by
  obtain ⟨i0, hi, hz0, hz1, hz2⟩ := info_parts infoStr
  refine wpList_append_own_at w hgd s x _ ho base _ i0 _ 1 16 Try.underlying27 hi hz0 hz1 hz2 rfl (by omega) v l.length (l.map strV) hs h0 ⟨g, 0, none⟩ 1 1 [strV z] hx rfl
    (fun j u hj => by
      cases j with
      | zero => simp at hj; subst hj; rw [Addr.add_mid]; exact hg
      | succ j => simp at hj) (str_one [z]) (by simp [maxLen]; omega) (by omega) hb ?_
  intro v' w' h1 h2 _ _
  refine h v' w' ?_ ((Below.refl _ _).grown h2 hb fun k hk => (World.ownsRow.lt h0 k hk).1)
  unfold OwnSts
  rw [List.length_append, List.map_append]
  exact h1

set_option maxHeartbeats 4000000 in
set_option maxRecDepth 100000 in
theorem texts_any (A : Option Addr) (n c : Nat) (l : List (List UInt8)) (w : World) (hr : Bss w A n c l) (hn : n ≤ 1000000) :
    Calls Try.prog 12 #[.slice A n c] w fun e w' => ∃ v, e = .returned v ∧ OwnSts w.heap.size l v w' ∧ ExtW w w' := by
  have HR := Lib.hid hr
  have HLN := Lib.hid hr.len
  have hnc := hr.nc
  clear hr
  go_enter Try.func12, Try.ntmps12
  go_upto_region 2 with (fail)
  have HL0 : Hid (OwnSts w.heap.size [] (.slice (some ⟨w.heap.size, 0, none⟩) 0 0) (w.alloc (.cells #[] 9))) := Lib.hid (OwnSts.empty w _ (Nat.le_refl _))
  have HE0 : Hid (ExtW w (w.alloc (.cells #[] 9))) := Lib.hid ((Below.refl _ _).alloc (Nat.le_refl _) _)
  generalize w.alloc (.cells #[] 9) = w1 at HL0 HE0 ⊢
  go_upto_block 0 with (fail)
  go_wp2_with fail
  go_loopw [3, 4] (fun v i wr => ∃ j : Nat, i = .int .i64 j ∧ j ≤ n ∧ Hid (OwnSts w.heap.size (l.take j) v wr) ∧ Hid (ExtW w wr)) (fun _ i _ => n - (intOf i).toNat)
  case atStart => exact ⟨0, rfl, Nat.zero_le _, HL0, HE0⟩
  case round =>
    obtain ⟨j, rfl, hjn, HL, HE⟩ := hrel
    by_cases hlt : j < n
    · have hli : (j : Int) < (n : Int) := by omega
      obtain ⟨y, hy⟩ : ∃ y, l[j]? = some y := ⟨_, List.getElem?_eq_getElem (by rw [HLN.out]; exact hlt)⟩
      cases hA : A with
      | none => have := HR.out.nil0 hA; omega
      | some a =>
        obtain ⟨D, m, dd, hcell, hrd⟩ := HR.out.row a hA j y hy
        subst hA
        have HZ : Hid (l.take (j + 1) = l.take j ++ [y]) := Lib.hid (by rw [List.take_add_one, hy]; rfl)
        have k7 := HE.out.cellAt hcell
        have kc := conv_str (hrd.below HE.out (Nat.le_refl _))
        have HTL : Hid ((l.take j).length ≤ 1000000) := Lib.hid (by rw [List.length_take, HLN.out]; omega)
        have HCY := Lib.hid (cell_new1 wr (strV y) 9)
        have HXY : Hid (ExtW wr (wr.alloc (.cells #[strV y] 9))) := Lib.hid ((Below.refl _ _).alloc (Nat.le_refl _) _)
        have HS : Hid (strV y = .string ⟨y.toArray⟩) := Lib.hid rfl
        rw [HS.out] at HCY HXY
        clear hcell hrd hy
        go_wp2_with (at_builtin; generalize wr.alloc (.cells #[.string ⟨y.toArray⟩] 9) = wa at HCY HXY ⊢; refine wpList_append_st rfl _ _ rfl rfl rfl (OwnSts.mono _ _ _ _ _ HL.out HXY.out) (by rw [HS.out]; exact HCY.out) HTL.out (ExtW.trans HE.out HXY.out).size ?_; intro v' w' ho' hb'; have HO' := Lib.hid ho'; have HB' := Lib.hid hb'; clear ho' hb')
        go_roundw
        case rel => exact ⟨j + 1, by simp, hlt, Lib.hid (by rw [HZ.out]; exact HO'.out), Lib.hid (Below.trans (ExtW.trans HE.out HXY.out) HB'.out)⟩
        case measure => simp [intOf]; omega
    · obtain rfl : j = n := by omega
      have hli : ¬ (j : Int) < (j : Int) := by omega
      go_wp2
      go_ret
      refine ⟨_, rfl, ?_, HE.out⟩
      have h := HL.out
      rwa [List.take_of_length_le (by rw [HLN.out]; exact Nat.le_refl _)] at h

set_option maxHeartbeats 4000000 in
set_option maxRecDepth 100000 in
theorem same_any (A : Option Addr) (n c : Nat) (l : List (List UInt8)) (B : Option Addr) (m d : Nat) (r : List (List UInt8)) (w : World) (hl : Dls w A n c l) (hr : Dls w B m d r) :
    Calls Try.prog 21 #[.slice A n c, .slice B m d] w fun e w' => e = .returned (.bool (decide (l = r))) ∧ ExtW w w' := by
  have HL := Lib.hid hl
  have HR := Lib.hid hr
  have HLN := Lib.hid hl.len
  have HRN := Lib.hid hr.len
  have hnm : n ≤ 9223372036854775807 := by have h1 := hl.rd.nc; have h2 := hl.rd.cm; unfold maxLen at h2; omega
  clear hl hr
  by_cases hnm2 : n = m
  · subst hnm2
    go_enter Try.func21, Try.ntmps21
    go_upto_block 0 with (fail)
    go_wp2_with fail
    go_loopw [5] (fun i wr => ∃ j : Nat, i = .int .i64 j ∧ j ≤ n ∧ Hid (l.take j = r.take j) ∧ Hid (ExtW w wr)) (fun i _ => n - (intOf i).toNat)
    case atStart => exact ⟨0, rfl, Nat.zero_le _, Lib.hid (by simp), Lib.hid (ExtW.refl _)⟩
    case round =>
      obtain ⟨j, rfl, hjn, HT, HE⟩ := hrel
      by_cases hlt : j < n
      · have hli : (j : Int) < (n : Int) := by omega
        obtain ⟨y, hy⟩ : ∃ y, l[j]? = some y := ⟨_, List.getElem?_eq_getElem (by rw [HLN.out]; exact hlt)⟩
        obtain ⟨z, hz⟩ : ∃ z, r[j]? = some z := ⟨_, List.getElem?_eq_getElem (by rw [HRN.out]; exact hlt)⟩
        have hA : ∃ a, A = some a := by
          cases hA : A with
          | none => have := HL.out.rd.nil0 hA; have := HL.out.rd.nc; omega
          | some a => exact ⟨a, rfl⟩
        have hB : ∃ a, B = some a := by
          cases hB : B with
          | none => have := HR.out.rd.nil0 hB; have := HR.out.rd.nc; omega
          | some a => exact ⟨a, rfl⟩
        obtain ⟨pa, rfl⟩ := hA
        obtain ⟨pb, rfl⟩ := hB
        have HY := Lib.hid hy
        have HZ := Lib.hid hz
        have HYL : Hid (y.length = 32) := Lib.hid (HL.out.all y (List.mem_of_getElem? hy))
        have HZL : Hid (z.length = 32) := Lib.hid (HR.out.all z (List.mem_of_getElem? hz))
        clear hy hz
        by_cases hyz : y = z
        · have HYZ : Hid ((!decide (y = z)) = false) := Lib.hid (by simp [hyz])
          have HT2 : Hid (l.take (j + 1) = r.take (j + 1)) := Lib.hid (by rw [List.take_add_one, List.take_add_one, HY.out, HZ.out, HT.out, hyz])
          clear hyz
          go_upto_region 6 with (fail)
          apply wp_region_ext _ (by kernel_rfl) (by kernel_rfl)
          iterate 3 (apply wpZ_det; (intro wq hE hG; first | exact obl_non (by rfl) | (apply obl_val (by rfl); go_simp <;> rfl)); (intro ak hak; simp only [Act.put, List.setIfInBounds_toArray, List.set_cons_succ, List.set_cons_zero] at hak; subst hak))
          (apply wpZ_det; (intro wq hE hG; exact obl_ldA (by rfl) rfl (by rfl) (((HL.out.same (ExtW.trans HE.out (ExtW.of_drew hE))).load HY.out))); (intro ak hak; simp only [Act.put, List.setIfInBounds_toArray, List.set_cons_succ, List.set_cons_zero] at hak; subst hak))
          iterate 3 (apply wpZ_det; (intro wq hE hG; first | exact obl_non (by rfl) | (apply obl_val (by rfl); go_simp <;> rfl)); (intro ak hak; simp only [Act.put, List.setIfInBounds_toArray, List.set_cons_succ, List.set_cons_zero] at hak; subst hak))
          (apply wpZ_det; (intro wq hE hG; exact obl_ldA (by rfl) rfl (by rfl) (((HR.out.same (ExtW.trans HE.out (ExtW.of_drew hE))).load HZ.out))); (intro ak hak; simp only [Act.put, List.setIfInBounds_toArray, List.set_cons_succ, List.set_cons_zero] at hak; subst hak))
          (apply wpZ_det; (intro wq hE hG; exact obl_neD (by rfl) rfl rfl rfl (HYL.out) (HZL.out) (HYZ.out)); (intro ak hak; simp only [Act.put, List.setIfInBounds_toArray, List.set_cons_succ, List.set_cons_zero] at hak; subst hak))
          (apply wpZ_nil; intro wq hE hG)
          have HX := Lib.hid (ExtW.trans HE.out (ExtW.of_drew hE))
          clear hE hG
          go_wp2_with fail
          go_roundw
          case rel => exact ⟨j + 1, by simp, hlt, HT2, HX⟩
          case measure => simp [intOf]; omega
        · have HYZ : Hid ((!decide (y = z)) = true) := Lib.hid (by simp [hyz])
          have HNE : Hid (decide (l = r) = false) := Lib.hid (by
            rw [decide_eq_false_iff_not]
            intro h
            have h1 := HY.out
            rw [h, HZ.out] at h1
            exact hyz (Option.some.inj h1).symm)
          clear hyz
          go_upto_region 6 with (fail)
          apply wp_region_ext _ (by kernel_rfl) (by kernel_rfl)
          iterate 3 (apply wpZ_det; (intro wq hE hG; first | exact obl_non (by rfl) | (apply obl_val (by rfl); go_simp <;> rfl)); (intro ak hak; simp only [Act.put, List.setIfInBounds_toArray, List.set_cons_succ, List.set_cons_zero] at hak; subst hak))
          (apply wpZ_det; (intro wq hE hG; exact obl_ldA (by rfl) rfl (by rfl) (((HL.out.same (ExtW.trans HE.out (ExtW.of_drew hE))).load HY.out))); (intro ak hak; simp only [Act.put, List.setIfInBounds_toArray, List.set_cons_succ, List.set_cons_zero] at hak; subst hak))
          iterate 3 (apply wpZ_det; (intro wq hE hG; first | exact obl_non (by rfl) | (apply obl_val (by rfl); go_simp <;> rfl)); (intro ak hak; simp only [Act.put, List.setIfInBounds_toArray, List.set_cons_succ, List.set_cons_zero] at hak; subst hak))
          (apply wpZ_det; (intro wq hE hG; exact obl_ldA (by rfl) rfl (by rfl) (((HR.out.same (ExtW.trans HE.out (ExtW.of_drew hE))).load HZ.out))); (intro ak hak; simp only [Act.put, List.setIfInBounds_toArray, List.set_cons_succ, List.set_cons_zero] at hak; subst hak))
          (apply wpZ_det; (intro wq hE hG; exact obl_neD (by rfl) rfl rfl rfl (HYL.out) (HZL.out) (HYZ.out)); (intro ak hak; simp only [Act.put, List.setIfInBounds_toArray, List.set_cons_succ, List.set_cons_zero] at hak; subst hak))
          (apply wpZ_nil; intro wq hE hG)
          have HX := Lib.hid (ExtW.trans HE.out (ExtW.of_drew hE))
          clear hE hG
          go_wp2
          go_ret
          exact ⟨by rw [HNE.out]; rfl, HX.out⟩
      · obtain rfl : j = n := by omega
        have hli : ¬ (j : Int) < (j : Int) := by omega
        have HEQ : Hid (decide (l = r) = true) := Lib.hid (by
          have h := HT.out
          rw [List.take_of_length_le (by rw [HLN.out]; exact Nat.le_refl _), List.take_of_length_le (by rw [HRN.out]; exact Nat.le_refl _)] at h
          simp [h])
        go_wp2
        go_ret
        exact ⟨by rw [HEQ.out]; rfl, HE.out⟩
  · have hne : decide (l = r) = false := by
      rw [decide_eq_false_iff_not]
      intro h
      have h1 := HLN.out
      rw [h, HRN.out] at h1
      exact hnm2 h1.symm
    have HNE := Lib.hid hne
    have hb1 : ((n : Int) == (m : Int)) = false := by rw [beq_eq_false_iff_ne]; omega
    have hb2 : ((n : Int) != (m : Int)) = true := by rw [bne_iff_ne]; omega
    clear hne
    go_enter Try.func21, Try.ntmps21
    go_wp2
    go_ret
    exact ⟨by rw [HNE.out]; rfl, ExtW.refl _⟩
end Go.Proofs.Ythaoibgcgkmnbaa

namespace Go.Proofs.Ythaoibgcgkmnbaa
set_option maxRecDepth 100000
open Go.RowKit

theorem OwnDs.empty (w : World) (base : Nat) (hb : base ≤ w.heap.size) : OwnDs base [] (.slice (some ⟨w.heap.size, 0, none⟩) 0 0) (w.alloc (.cells #[] 45)) :=
  ⟨rfl, .inr ⟨w.heap.size, 0, #[], rfl, hb, heap_alloc_new w _, Nat.le_refl _, by simp [maxLen], rfl, rfl⟩⟩
/-- digests appended to a list of the call's own -/
theorem wpList_append_dls {ops : Array Oper} {rest : List Oper} {o : Oper} {a : Act} {w : World} {Q : Exit → Act → World → Prop} (hgd : o.guard = none) (s x : Operand)
    (ho : o.op = .call { callee := .builtin .append, args := #[s, x], argTypes := #[24, 24] }) {base : Nat} {l : List (List UInt8)} {v : Value} {A : Option Addr} {m c : Nat} {ds : List (List UInt8)}
    (hs : a.eval s = v) (hx : a.eval x = .slice A m c) (h0 : OwnDs base l v w) (hd : Dls w A m c ds) (hl : l.length + m ≤ 1000000) (hb : base ≤ w.heap.size)
    (h : ∀ v' w', OwnDs base (l ++ ds) v' w' → Below base w w' → wpList Try.prog ops Q rest (a.put o.dst v') w') : wpList Try.prog ops Q (o :: rest) a w := by
  obtain ⟨i0, hi, hz0, hz1, hz2⟩ := info_parts infoD
  refine wpList_append_appd w hgd s x 24 ho base 45 i0 _ 32 32 Try.underlying24 hi hz0 hz1 hz2 rfl (by omega) v l.length (dcs l) hs (.inr h0) A m c (dcs ds) hx hd.rd (dcs_one _) (by simp [maxLen]; omega) (by omega) hb (.inl h0) ?_
  intro v' w' h1 h2 _
  refine h v' w' ?_ h2
  unfold OwnDs
  rw [dcs_app, List.length_append, hd.len]
  exact h1
theorem OwnDs.one (w : World) (d : List UInt8) (hd : d.length = 32) (base : Nat) (hb : base ≤ w.heap.size) : OwnDs base [d] (.slice (some ⟨w.heap.size, 0, none⟩) 1 1) (w.alloc (.cells (bvs d).toArray 45)) := by
  have e : dcs [d] = bvs d := by simp [dcs]
  unfold OwnDs
  rw [e]
  refine ⟨by rw [bvs_len, hd]; rfl, .inr ⟨w.heap.size, 1, (bvs d).toArray, rfl, hb, heap_alloc_new w _, Nat.le_refl _, by simp [maxLen], dg_size hd, ?_⟩⟩
  simp only [List.length_cons, List.length_nil]
  exact List.take_of_length_le (by rw [bvs_len, hd]; exact Nat.le_refl _)

end Go.Proofs.Ythaoibgcgkmnbaa

namespace Go.Proofs.Ythaoibgcgkmnbaa
set_option maxRecDepth 100000
open Go.RowKit

theorem results_ct {fn : Func} {p u : Tmp} {ty : TypeId} (h : fn.results = #[.cell p ty, .tmp u]) (tmps : Array Value) (P : Program) (w : World) {ad : Addr} {v : Value}
    (h1 : tmps.getD p undef = .pointer (some ad)) (h2 : (loadVar ty ad).run P w = .ok v w) : (results fn tmps).run P w = .ok (.tuple #[v, tmps.getD u undef]) w := by
  have h1' : tmps[p]?.getD undef = .pointer (some ad) := by simpa using h1
  simp only [results, h]
  simp [Result.andThen, h1', asAddr, h2]
theorem results_ctt {fn : Func} {p u s : Tmp} {ty : TypeId} (h : fn.results = #[.cell p ty, .tmp u, .tmp s]) (tmps : Array Value) (P : Program) (w : World) {ad : Addr} {v : Value}
    (h1 : tmps.getD p undef = .pointer (some ad)) (h2 : (loadVar ty ad).run P w = .ok v w) : (results fn tmps).run P w = .ok (.tuple #[v, tmps.getD u undef, tmps.getD s undef]) w := by
  have h1' : tmps[p]?.getD undef = .pointer (some ad) := by simpa using h1
  simp only [results, h]
  simp [Result.andThen, h1', asAddr, h2]
theorem Dls.take {w : World} {A : Option Addr} {n c : Nat} {l : List (List UInt8)} (h : Dls w A n c l) {k : Nat} (hk : k ≤ n) : Dls w A k c (l.take k) := by
  refine ⟨by rw [List.length_take, h.len]; omega, fun d hd => h.all d (List.mem_of_mem_take hd), ?_⟩
  have := h.rd.take k hk
  rwa [dcs_take h.all] at this
theorem Dls.addr {w : World} {A : Option Addr} {n c : Nat} {l : List (List UInt8)} (h : Dls w A n c l) (h0 : 0 < n) : ∃ a, A = some a := by
  cases hA : A with
  | none => have := h.rd.nil0 hA; have := h.rd.nc; omega
  | some a => exact ⟨a, rfl⟩
theorem run_takeD (A : Option Addr) (n c : Nat) (k : Nat) (h1 : k ≤ n) (h3 : n ≤ c) (W : World) : (Instr.slice 24 (.slice A n c) none (some (.int .i64 (k : Int))) none).run Try.prog W = .ok (.slice A k c) W := by
  obtain ⟨i1, hi, _, hz1, _⟩ := info_parts infoD
  have hel : (Try.prog).elem 24 = 45 := by simp [Program.elem, Try.underlying24]
  have hu : (Try.prog).underlying 24 = some (.slice ((Try.prog).elem 24)) := by rw [hel]; exact Try.underlying24
  rw [run_slice_h W _ A n c hu .i64 _ (by omega) (by omega), hel]
  cases A <;> simp [sizeOf, typeInfo, hi, hz1, sliced, Result.andThen, Addr.add]

namespace T
theorem climb_nil (B : Nat) (xs : List (List UInt8)) (d : List UInt8) : climb B [] xs d = d := by cases xs <;> simp [climb]
theorem last_split {path : List (List UInt8)} {n : Nat} {y : List UInt8} (hl : path.length = n) (hn : 0 < n) (hy : path[n - 1]? = some y) : path = path.take (n - 1) ++ [y] := by
  have h := List.take_add_one (l := path) (i := n - 1)
  rw [hy, show n - 1 + 1 = n by omega, List.take_of_length_le (by omega)] at h
  exact h
theorem above_lo {B cn j k n : Nat} {path : List (List UInt8)} {y d leaf : List UInt8} (h : 1 < cn) (hk : k = half cn) (hj : j < k) (hl : path.length = n) (hn : 0 < n) (hy : path[n - 1]? = some y)
    (hd : (path.take (n - 1)).length = (downs k j).length → d = climb B (downs k j).reverse (path.take (n - 1)) (leafD B leaf)) :
    decide ((path.take (n - 1)).length = (downs k j).length) = decide (path.length = (downs cn j).length) ∧ (path.length = (downs cn j).length → nodeD B d y = climb B (downs cn j).reverse path (leafD B leaf)) := by
  have hs := last_split hl hn hy
  have ht : (path.take (n - 1)).length = n - 1 := by rw [List.length_take, hl]; omega
  rw [downs_lo h hk hj, List.length_cons]
  refine ⟨decide_eq_decide.2 (by rw [ht, hl]; omega), fun he => ?_⟩
  have h2 := hd (by rw [ht]; rw [hl] at he; omega)
  have h3 : climb B ((downs k j).reverse ++ [true]) path (leafD B leaf) = climb B ((downs k j).reverse ++ [true]) (path.take (n - 1) ++ [y]) (leafD B leaf) := congrArg (fun p => climb B ((downs k j).reverse ++ [true]) p (leafD B leaf)) hs
  rw [h2, List.reverse_cons, h3, climb_snoc _ _ _ _ _ _ (by rw [List.length_reverse, ht]; rw [hl] at he; omega)]
  rfl
theorem above_hi {B cn j k n : Nat} {path : List (List UInt8)} {y d leaf : List UInt8} (h : 1 < cn) (hk : k = half cn) (hj : ¬ j < k) (hl : path.length = n) (hn : 0 < n) (hy : path[n - 1]? = some y)
    (hd : (path.take (n - 1)).length = (downs (cn - k) (j - k)).length → d = climb B (downs (cn - k) (j - k)).reverse (path.take (n - 1)) (leafD B leaf)) :
    decide ((path.take (n - 1)).length = (downs (cn - k) (j - k)).length) = decide (path.length = (downs cn j).length) ∧ (path.length = (downs cn j).length → nodeD B y d = climb B (downs cn j).reverse path (leafD B leaf)) := by
  have hs := last_split hl hn hy
  have ht : (path.take (n - 1)).length = n - 1 := by rw [List.length_take, hl]; omega
  rw [downs_hi h hk hj, List.length_cons]
  refine ⟨decide_eq_decide.2 (by rw [ht, hl]; omega), fun he => ?_⟩
  have h2 := hd (by rw [ht]; rw [hl] at he; omega)
  have h3 : climb B ((downs (cn - k) (j - k)).reverse ++ [false]) path (leafD B leaf) = climb B ((downs (cn - k) (j - k)).reverse ++ [false]) (path.take (n - 1) ++ [y]) (leafD B leaf) := congrArg (fun p => climb B ((downs (cn - k) (j - k)).reverse ++ [false]) p (leafD B leaf)) hs
  rw [h2, List.reverse_cons, h3, climb_snoc _ _ _ _ _ _ (by rw [List.length_reverse, ht]; rw [hl] at he; omega)]
  rfl
theorem downs_pos {n i : Nat} (h : 1 < n) : 0 < (downs n i).length := by
  rw [downs, if_neg (by omega)]
  split <;> simp
end T

/-- what a call of Above does -/
def AbovePost (B cn j : Nat) (leaf : List UInt8) (path : List (List UInt8)) (w : World) (e : Ending) (w' : World) : Prop :=
  ∃ d ok, e = .returned (.tuple #[dgV d, .bool ok]) ∧ d.length = 32 ∧ ok = decide (path.length = (T.downs cn j).length) ∧ (path.length = (T.downs cn j).length → d = T.climb B (T.downs cn j).reverse path (T.leafD B leaf)) ∧ ExtW w w'

set_option maxHeartbeats 4000000 in
set_option maxRecDepth 100000 in
theorem rabove_any (x : Int) (hx : -9223372036854775808 ≤ x ∧ x ≤ 9223372036854775807) (leaf : List UInt8) (hlf : leaf.length ≤ 1000000) : ∀ (N cn j : Nat) (A : Option Addr) (n c : Nat) (path : List (List UInt8)) (w : World), cn < N → cn < 9223372036854775808 → j < cn → Dls w A n c path →
    Calls Try.prog 60 #[.int .i64 x, .int .i64 (cn : Int), .int .i64 (j : Int), strV leaf, .slice A n c] w (AbovePost (bitsN x) cn j leaf path w) := by
  have HX := Lib.hid hx
  clear hx
  intro N
  induction N with
  | zero => intro cn j A n c path w h; omega
  | succ N ih =>
    intro cn j A n c path w hcN hc63 hj hp
    have hnc := hp.rd.nc
    have hcm := hp.rd.cm
    unfold maxLen at hcm
    have HP := Lib.hid hp
    have HPL := Lib.hid hp.len
    clear hp
    go_enter Try.func60, Try.ntmps60
    go_upto_region 1 with (refine wpList_newD rfl rfl ?_)
    have HD1 := Lib.hid (zDig_row w)
    have HE1 : Hid (ExtW w (w.alloc (.cells zDig 45))) := Lib.hid ((Below.refl _ _).alloc (Nat.le_refl _) _)
    obtain ⟨gd, hgd⟩ : ∃ g, g = w.heap.size := ⟨_, rfl⟩
    have HGD : Hid (w.heap.size ≤ gd) := Lib.hid (by omega)
    rw [← hgd] at HD1
    rw [← hgd]
    clear hgd
    generalize w.alloc (.cells zDig 45) = w1 at HD1 HE1 ⊢
    have HP1 := Lib.hid (HP.out.same HE1.out)
    by_cases h1 : cn = 1
    · subst h1
      have HDN : Hid (T.downs 1 j = []) := Lib.hid (T.downs_one (by decide))
      go_wp2_with fail
      refine (rleaf_any x HX.out leaf _ hlf).mono ?_
      rintro e we ⟨rfl, hbe⟩
      have HDE := Lib.hid (HD1.out.ext hbe)
      have HEE := Lib.hid (ExtW.trans HE1.out hbe)
      clear hbe
      by_cases hn0 : n = 0
      · subst hn0
        obtain ⟨d, hd⟩ : ∃ d, d = T.leafD (bitsN x) leaf := ⟨_, rfl⟩
        have HS : Hid ((bvs d).toArray.size = 32) := Lib.hid (dg_size (by rw [hd]; exact T.leafD_len _ _))
        have HDL : Hid (d = T.leafD (bitsN x) leaf) := Lib.hid hd
        rw [← hd]
        clear hd
        unfold dgV
        go_wp2_with (refine wpList_st rfl rfl ?_; refine ⟨gd, _, _, _, rfl, rfl, HDE.out, by rw [HS.out]; kernel_rfl, Eq.trans (show (bvs (List.replicate 32 0)).toArray.size = 32 from rfl) HS.out.symm, dg_one _, ?_⟩)
        (try simp only [Exit.inBlock, Exit.then])
        have hld := run_loadVar_row (P := Try.prog) (we.setRow gd (bvs d).toArray) gd 45 45 (bvs d).toArray (0, 0) _ (Row.setRow HDE.out (bvs d)) Try.underlying45 rfl (by rw [HS.out]; kernel_rfl)
        refine bodyPost_ret (results_ct rfl _ _ _ rfl hld) rfl ?_
        exact ⟨d, _, rfl, by rw [HDL.out]; exact T.leafD_len _ _, by rw [HDN.out, HPL.out]; try rfl, fun _ => by rw [HDN.out, HDL.out, List.reverse_nil, T.climb_nil], below_setRow HEE.out HGD.out _⟩
      · have hne0 : ((n : Int) == 0) = false := by rw [beq_eq_false_iff_ne]; omega
        have HN0 : Hid (decide (path.length = ([] : List Bool).length) = false) := Lib.hid (by rw [HPL.out, decide_eq_false_iff_not]; exact hn0)
        clear hn0
        obtain ⟨d, hd⟩ : ∃ d, d = T.leafD (bitsN x) leaf := ⟨_, rfl⟩
        have HS : Hid ((bvs d).toArray.size = 32) := Lib.hid (dg_size (by rw [hd]; exact T.leafD_len _ _))
        have HDL : Hid (d = T.leafD (bitsN x) leaf) := Lib.hid hd
        rw [← hd]
        clear hd
        unfold dgV
        go_wp2_with (refine wpList_st rfl rfl ?_; refine ⟨gd, _, _, _, rfl, rfl, HDE.out, by rw [HS.out]; kernel_rfl, Eq.trans (show (bvs (List.replicate 32 0)).toArray.size = 32 from rfl) HS.out.symm, dg_one _, ?_⟩)
        (try simp only [Exit.inBlock, Exit.then])
        have hld := run_loadVar_row (P := Try.prog) (we.setRow gd (bvs d).toArray) gd 45 45 (bvs d).toArray (0, 0) _ (Row.setRow HDE.out (bvs d)) Try.underlying45 rfl (by rw [HS.out]; kernel_rfl)
        refine bodyPost_ret (results_ct rfl _ _ _ rfl hld) rfl ?_
        exact ⟨d, _, rfl, by rw [HDL.out]; exact T.leafD_len _ _, by rw [HDN.out, HN0.out]; try rfl, fun _ => by rw [HDN.out, HDL.out, List.reverse_nil, T.climb_nil], below_setRow HEE.out HGD.out _⟩
    have h2 : 2 ≤ cn := by omega
    have hne1 : ((cn : Int) == 1) = false := by rw [beq_eq_false_iff_ne]; omega
    by_cases hn0 : n = 0
    · subst hn0
      have HN0 : Hid (decide (path.length = (T.downs cn j).length) = false ∧ path.length ≠ (T.downs cn j).length) := Lib.hid (by
        have h3 := T.downs_pos (n := cn) (i := j) (by omega)
        have h4 : path.length ≠ (T.downs cn j).length := by rw [HPL.out]; omega
        exact ⟨by rw [decide_eq_false_iff_not]; exact h4, h4⟩)
      go_wp2_with (first
        | (refine wpList_bldG rfl (by rfl) ?_; refine ⟨.agg (bvs (List.replicate 32 0)).toArray, by kernel_rfl, ?_⟩)
        | (refine wpList_st rfl rfl ?_; refine ⟨gd, _, _, _, rfl, rfl, HD1.out, by kernel_rfl, rfl, dg_one _, ?_⟩))
      (try simp only [Exit.inBlock, Exit.then])
      have hld := run_loadVar_row (P := Try.prog) (w1.setRow gd (bvs (List.replicate 32 0)).toArray) gd 45 45 (bvs (List.replicate 32 0)).toArray (0, 0) _ (Row.setRow HD1.out (bvs (List.replicate 32 0))) Try.underlying45 rfl (by kernel_rfl)
      refine bodyPost_ret (results_ct rfl _ _ _ rfl hld) rfl ?_
      exact ⟨List.replicate 32 0, _, rfl, rfl, by rw [HN0.out.1]; try rfl, fun h => absurd h HN0.out.2, below_setRow HE1.out HGD.out _⟩
    have hn1 : 0 < n := by omega
    have hneq : ((n : Int) == 0) = false := by rw [beq_eq_false_iff_ne]; omega
    obtain ⟨pa, hpa⟩ := HP.out.addr hn1
    subst hpa
    obtain ⟨y, hy⟩ : ∃ y, path[n - 1]? = some y := ⟨_, List.getElem?_eq_getElem (by rw [HPL.out]; omega)⟩
    have HYL : Hid (y.length = 32) := Lib.hid (HP.out.all y (List.mem_of_getElem? hy))
    have HY := Lib.hid hy
    have hld := HP1.out.load hy
    have hs1 : IntKind.i64.wrap ((n : Int) - 1) = ((n - 1 : Nat) : Int) := by rw [IntWalk.i64_in _ (by omega)]; omega
    have hb1 : ((n - 1 : Nat) : Int) < (n : Int) := by omega
    obtain ⟨k, hk⟩ : ∃ k, k = T.half cn := ⟨_, rfl⟩
    have hhl := T.half_lt h2
    rw [← hk] at hhl
    have HK := Lib.hid hk
    clear hk hy hn0
    go_upto_region 6 with (first
      | (refine wpList_ldA rfl (by rfl) rfl hld ?_)
      | (refine wpList_newD rfl rfl ?_)
      | (refine wpList_newst rfl rfl rfl HYL.out (d0 := List.replicate 32 0) rfl rfl rfl (zDig_row _) ?_))
    have HY2 := Lib.hid (stD_row w1 y)
    have HE2 := Lib.hid (ExtW.trans HE1.out (stD_ext w1 y))
    have HD2 := Lib.hid (HD1.out.ext (stD_ext w1 y))
    have HP2 := Lib.hid (HP1.out.same (stD_ext w1 y))
    generalize (w1.alloc (.cells zDig 45)).setRow w1.heap.size (bvs y).toArray = w2 at HY2 HE2 HD2 HP2 ⊢
    obtain ⟨gy, hgy⟩ : ∃ g, g = w1.heap.size := ⟨_, rfl⟩
    rw [← hgy] at HY2 ⊢
    clear hgy hld HD1 HE1 HP1
    go_wp2_with fail
    refine (rhalf_any cn _ ⟨by omega, by omega⟩).mono ?_
    rintro e we ⟨rfl, rfl⟩
    rw [← HK.out]
    have hrt := run_takeD (some pa) n c (n - 1) (by omega) hnc
    have HPT := Lib.hid (HP2.out.take (k := n - 1) (by omega))
    by_cases hjk : j < k
    · have hjki : (j : Int) < (k : Int) := by omega
      go_wp2_with fail
      refine (ih k j (some pa) (n - 1) c _ we (by omega) (by omega) hjk HPT.out).mono ?_
      rintro e w3 ⟨d1, ok, rfl, hdl, hok, hcl, hb⟩
      have HPO := Lib.hid (T.above_lo (B := bitsN x) (leaf := leaf) h2 HK.out hjk HPL.out hn1 HY.out hcl)
      have HOK := Lib.hid hok
      have HDL1 := Lib.hid hdl
      have HE3 := Lib.hid (ExtW.trans HE2.out hb)
      have HD3 := Lib.hid (HD2.out.ext hb)
      have HY3 := Lib.hid (HY2.out.ext hb)
      clear hdl hok hcl hb HD2 HY2 HE2
      go_upto_region 9 with (first
        | (refine wpList_newD rfl rfl ?_)
        | (refine wpList_newst rfl rfl rfl HDL1.out (d0 := List.replicate 32 0) rfl rfl rfl (zDig_row _) ?_))
      have HA4 := Lib.hid (stD_row w3 d1)
      have HE4 := Lib.hid (ExtW.trans HE3.out (stD_ext w3 d1))
      have HD4 := Lib.hid (HD3.out.ext (stD_ext w3 d1))
      have HY4 := Lib.hid (HY3.out.ext (stD_ext w3 d1))
      generalize (w3.alloc (.cells zDig 45)).setRow w3.heap.size (bvs d1).toArray = w4 at HA4 HE4 HD4 HY4 ⊢
      obtain ⟨ga, hga⟩ : ∃ g, g = w3.heap.size := ⟨_, rfl⟩
      rw [← hga] at HA4 ⊢
      clear hga HE3 HD3 HY3
      have HSA : Hid ((bvs d1).toArray.size = 32) := Lib.hid (dg_size HDL1.out)
      have HSY : Hid ((bvs y).toArray.size = 32) := Lib.hid (dg_size HYL.out)
      go_wp2_with (refine wpList_ld rfl rfl ?_; first | refine ⟨ga, _, _, _, rfl, HA4.out, Try.underlying45, rfl, by rw [HSA.out]; kernel_rfl, ?_⟩ | refine ⟨gy, _, _, _, rfl, HY4.out, Try.underlying45, rfl, by rw [HSY.out]; kernel_rfl, ?_⟩)
      refine (rnode_any x HX.out d1 y _ HDL1.out HYL.out).mono ?_
      rintro e w5 ⟨rfl, hb⟩
      have HDE := Lib.hid (HD4.out.ext hb)
      have HEE := Lib.hid (ExtW.trans HE4.out hb)
      clear hb HD4 HE4
      obtain ⟨d, hd⟩ : ∃ d, d = T.nodeD (bitsN x) d1 y := ⟨_, rfl⟩
      have HS : Hid ((bvs d).toArray.size = 32) := Lib.hid (dg_size (by rw [hd]; exact T.nodeD_len _ _ _))
      have HDL : Hid (d = T.nodeD (bitsN x) d1 y) := Lib.hid hd
      rw [← hd]
      clear hd
      unfold dgV
      go_wp2_with (refine wpList_st rfl rfl ?_; refine ⟨gd, _, _, _, rfl, rfl, HDE.out, by rw [HS.out]; kernel_rfl, Eq.trans (show (bvs (List.replicate 32 0)).toArray.size = 32 from rfl) HS.out.symm, dg_one _, ?_⟩)
      (try simp only [Exit.inBlock, Exit.then])
      have hld := run_loadVar_row (P := Try.prog) (w5.setRow gd (bvs d).toArray) gd 45 45 (bvs d).toArray (0, 0) _ (Row.setRow HDE.out (bvs d)) Try.underlying45 rfl (by rw [HS.out]; kernel_rfl)
      refine bodyPost_ret (results_ct rfl _ _ _ rfl hld) rfl ?_
      exact ⟨d, _, rfl, by rw [HDL.out]; exact T.nodeD_len _ _ _, by rw [← HPO.out.1, ← HOK.out]; try rfl, fun h => by rw [HDL.out]; exact HPO.out.2 h, below_setRow HEE.out HGD.out _⟩
    · have hjki : ¬ (j : Int) < (k : Int) := by omega
      have hs2 : IntKind.i64.wrap ((cn : Int) - (k : Int)) = ((cn - k : Nat) : Int) := by rw [IntWalk.i64_in _ (by omega)]; omega
      have hs3 : IntKind.i64.wrap ((j : Int) - (k : Int)) = ((j - k : Nat) : Int) := by rw [IntWalk.i64_in _ (by omega)]; omega
      go_wp2_with fail
      refine (ih (cn - k) (j - k) (some pa) (n - 1) c _ we (by omega) (by omega) (by omega) HPT.out).mono ?_
      rintro e w3 ⟨d1, ok, rfl, hdl, hok, hcl, hb⟩
      have HPO := Lib.hid (T.above_hi (B := bitsN x) (leaf := leaf) h2 HK.out hjk HPL.out hn1 HY.out hcl)
      have HOK := Lib.hid hok
      have HDL1 := Lib.hid hdl
      have HE3 := Lib.hid (ExtW.trans HE2.out hb)
      have HD3 := Lib.hid (HD2.out.ext hb)
      have HY3 := Lib.hid (HY2.out.ext hb)
      clear hdl hok hcl hb HD2 HY2 HE2 hs2 hs3
      go_upto_region 11 with (first
        | (refine wpList_newD rfl rfl ?_)
        | (refine wpList_newst rfl rfl rfl HDL1.out (d0 := List.replicate 32 0) rfl rfl rfl (zDig_row _) ?_))
      have HA4 := Lib.hid (stD_row w3 d1)
      have HE4 := Lib.hid (ExtW.trans HE3.out (stD_ext w3 d1))
      have HD4 := Lib.hid (HD3.out.ext (stD_ext w3 d1))
      have HY4 := Lib.hid (HY3.out.ext (stD_ext w3 d1))
      generalize (w3.alloc (.cells zDig 45)).setRow w3.heap.size (bvs d1).toArray = w4 at HA4 HE4 HD4 HY4 ⊢
      obtain ⟨ga, hga⟩ : ∃ g, g = w3.heap.size := ⟨_, rfl⟩
      rw [← hga] at HA4 ⊢
      clear hga HE3 HD3 HY3
      have HSA : Hid ((bvs d1).toArray.size = 32) := Lib.hid (dg_size HDL1.out)
      have HSY : Hid ((bvs y).toArray.size = 32) := Lib.hid (dg_size HYL.out)
      go_wp2_with (refine wpList_ld rfl rfl ?_; first | refine ⟨ga, _, _, _, rfl, HA4.out, Try.underlying45, rfl, by rw [HSA.out]; kernel_rfl, ?_⟩ | refine ⟨gy, _, _, _, rfl, HY4.out, Try.underlying45, rfl, by rw [HSY.out]; kernel_rfl, ?_⟩)
      refine (rnode_any x HX.out y d1 _ HYL.out HDL1.out).mono ?_
      rintro e w5 ⟨rfl, hb⟩
      have HDE := Lib.hid (HD4.out.ext hb)
      have HEE := Lib.hid (ExtW.trans HE4.out hb)
      clear hb HD4 HE4
      obtain ⟨d, hd⟩ : ∃ d, d = T.nodeD (bitsN x) y d1 := ⟨_, rfl⟩
      have HS : Hid ((bvs d).toArray.size = 32) := Lib.hid (dg_size (by rw [hd]; exact T.nodeD_len _ _ _))
      have HDL : Hid (d = T.nodeD (bitsN x) y d1) := Lib.hid hd
      rw [← hd]
      clear hd
      unfold dgV
      go_wp2_with (refine wpList_st rfl rfl ?_; refine ⟨gd, _, _, _, rfl, rfl, HDE.out, by rw [HS.out]; kernel_rfl, Eq.trans (show (bvs (List.replicate 32 0)).toArray.size = 32 from rfl) HS.out.symm, dg_one _, ?_⟩)
      (try simp only [Exit.inBlock, Exit.then])
      have hld := run_loadVar_row (P := Try.prog) (w5.setRow gd (bvs d).toArray) gd 45 45 (bvs d).toArray (0, 0) _ (Row.setRow HDE.out (bvs d)) Try.underlying45 rfl (by rw [HS.out]; kernel_rfl)
      refine bodyPost_ret (results_ct rfl _ _ _ rfl hld) rfl ?_
      exact ⟨d, _, rfl, by rw [HDL.out]; exact T.nodeD_len _ _ _, by rw [← HPO.out.1, ← HOK.out]; try rfl, fun h => by rw [HDL.out]; exact HPO.out.2 h, below_setRow HEE.out HGD.out _⟩

set_option maxHeartbeats 4000000 in
set_option maxRecDepth 100000 in
theorem rcheck_any (x : Int) (hx : -9223372036854775808 ≤ x ∧ x ≤ 9223372036854775807) (root : List UInt8) (hroot : root.length = 32) (cn i : Int) (hcn : cn ≤ 9223372036854775807) (leaf : List UInt8) (hlf : leaf.length ≤ 1000000)
    (A : Option Addr) (n c : Nat) (path : List (List UInt8)) (w : World) (hp : Dls w A n c path) :
    Calls Try.prog 40 #[.int .i64 x, dgV root, .int .i64 cn, .int .i64 i, strV leaf, .slice A n c] w fun e w' => e = .returned (.bool (T.checkD (bitsN x) root cn i leaf path)) ∧ ExtW w w' := by
  have HX := Lib.hid hx
  have HRL := Lib.hid hroot
  have HSR : Hid ((bvs root).toArray.size = 32) := Lib.hid (dg_size hroot)
  have HP := Lib.hid hp
  have HC := Lib.hid hcn
  have HR1 : Hid (Row (w.alloc (.cells (bvs root).toArray 45)) w.heap.size 45 (bvs root)) := Lib.hid (heap_alloc_last _ _)
  have HE1 : Hid (ExtW w (w.alloc (.cells (bvs root).toArray 45))) := Lib.hid ((Below.refl _ _).alloc (Nat.le_refl _) _)
  clear hx hroot hp hcn
  by_cases hout : i < 0 ∨ cn ≤ i
  · have HNO : Hid (T.checkD (bitsN x) root cn i leaf path = false) := Lib.hid (by unfold T.checkD; rw [if_pos hout])
    have hcase : i < 0 ∨ (¬ i < 0 ∧ cn ≤ i ∧ ¬ i < cn) := by omega
    clear hout
    unfold dgV
    rcases hcase with h1 | ⟨h1, h2, h3⟩
    all_goals
      go_enter Try.func40, Try.ntmps40
      go_wp2
      go_ret
      exact ⟨by rw [HNO.out]; rfl, HE1.out⟩
  obtain ⟨k, rfl⟩ : ∃ k : Nat, cn = (k : Int) := ⟨cn.toNat, by omega⟩
  obtain ⟨j, rfl⟩ : ∃ j : Nat, i = (j : Int) := ⟨i.toNat, by omega⟩
  have HYES : Hid (T.checkD (bitsN x) root (k : Int) (j : Int) leaf path = (decide (path.length = (T.downs k j).length) && decide (T.climb (bitsN x) (T.downs k j).reverse path (T.leafD (bitsN x) leaf) = root))) := Lib.hid (by unfold T.checkD; rw [if_neg hout, Int.toNat_natCast, Int.toNat_natCast])
  have h1 : ¬ (j : Int) < 0 := by omega
  have h2 : ¬ (k : Int) ≤ (j : Int) := by omega
  have h3 : (j : Int) < (k : Int) := by omega
  have h4 : j < k := by omega
  clear hout
  unfold dgV
  go_enter Try.func40, Try.ntmps40
  go_upto_region 1 with (fail)
  generalize w.alloc (.cells (bvs root).toArray 45) = w1 at HR1 HE1 ⊢
  obtain ⟨gr, hgr⟩ : ∃ g, g = w.heap.size := ⟨_, rfl⟩
  rw [← hgr] at HR1 ⊢
  clear hgr
  go_wp2_with fail
  refine (rabove_any x HX.out leaf hlf (k + 1) k j A n c path _ (by omega) (by have := HC.out; omega) h4 (HP.out.same HE1.out)).mono ?_
  rintro e w2 ⟨d1, ok, rfl, hdl, hok, hcl, hb⟩
  have HDL := Lib.hid hdl
  have HOK := Lib.hid hok
  have HCL := Lib.hid hcl
  have HR2 := Lib.hid (HR1.out.ext hb)
  have HE2 := Lib.hid (ExtW.trans HE1.out hb)
  clear hdl hok hcl hb HR1 HE1
  go_upto_region 4 with (first
    | (refine wpList_newD rfl rfl ?_)
    | (refine wpList_newst rfl rfl rfl HDL.out (d0 := List.replicate 32 0) rfl rfl rfl (zDig_row _) ?_))
  have HA3 := Lib.hid (stD_row w2 d1)
  have HE3 := Lib.hid (ExtW.trans HE2.out (stD_ext w2 d1))
  have HR3 := Lib.hid (HR2.out.ext (stD_ext w2 d1))
  generalize (w2.alloc (.cells zDig 45)).setRow w2.heap.size (bvs d1).toArray = w3 at HA3 HE3 HR3 ⊢
  obtain ⟨ga, hga⟩ : ∃ g, g = w2.heap.size := ⟨_, rfl⟩
  rw [← hga] at HA3 ⊢
  clear hga
  cases ok with
  | false =>
    have HF : Hid (decide (path.length = (T.downs k j).length) = false) := Lib.hid HOK.out.symm
    clear HOK
    go_wp2
    go_ret
    exact ⟨by rw [HYES.out, HF.out]; rfl, HE3.out⟩
  | true =>
    have HT : Hid (path.length = (T.downs k j).length) := Lib.hid (of_decide_eq_true HOK.out.symm)
    have HV := Lib.hid (HCL.out HT.out)
    have heq := eq_dg d1 root HDL.out HRL.out
    clear HOK
    go_wp2_with (refine wpList_ldG rfl (by rfl) ?_; first | refine ⟨ga, 0, _, _, rfl, HA3.out.range, Try.underlying45, rfl, sizeD HDL.out, ?_⟩ | refine ⟨gr, 0, _, _, rfl, HR3.out.range, Try.underlying45, rfl, sizeD HRL.out, ?_⟩)
    go_ret
    exact ⟨by rw [HYES.out, ← HV.out, decide_eq_true HT.out]; rfl, HE3.out⟩
end Go.Proofs.Ythaoibgcgkmnbaa

namespace Go.Proofs.Ythaoibgcgkmnbaa
set_option maxRecDepth 100000
open Go.RowKit

namespace T
theorem popsD_le_open {B : Nat} {part : List (List UInt8)} {m cn : Nat} (hm : part.length = m) {root : List UInt8} {a : Int} {ds : List (List UInt8)} (hin : ¬ (m = 0 ∨ a < 0 ∨ (cn : Int) < m ∨ (cn : Int) - m < a)) {d : List UInt8} {u : Nat} {ok : Bool}
    (hok : ok = decide (popsD cn a m ≤ ds.length)) (hu : ok = true → u = popsD cn a m ∧ d = (openD B part cn a ds false).1) : checkRD B root cn a part ds = (ok && decide (u = ds.length) && decide (d = root)) := by
  rw [checkRD_in hm hin rfl]
  by_cases h : popsD cn a m ≤ ds.length
  · have hk : ok = true := by rw [hok]; simp [h]
    obtain ⟨h1, h2⟩ := hu hk
    rw [openD_ge B part hm (cn + 1) cn a ds false (by omega) h, hk, h1, h2]
    have h3 : decide (ds.drop (popsD cn a m) = []) = decide (popsD cn a m = ds.length) := by
      apply decide_eq_decide.2
      rw [List.drop_eq_nil_iff]
      omega
    simp only [h3, Bool.not_false, Bool.true_and]
  · have hk : ok = false := by rw [hok]; simp [h]
    rw [openD_lt B part hm (cn + 1) cn a ds false (by omega) (by omega), hk]
    rfl
end T

/-- what a call of Over does -/
def OverPost (B : Nat) (part : List (List UInt8)) (m cn : Nat) (a : Int) (ds : List (List UInt8)) (w : World) (e : Ending) (w' : World) : Prop :=
  ∃ (d : List UInt8) (u : Nat) (ok : Bool), e = .returned (.tuple #[dgV d, .int .i64 (u : Int), .bool ok]) ∧ d.length = 32 ∧ u ≤ ds.length ∧ ok = decide (T.popsD cn a m ≤ ds.length) ∧ (ok = true → u = T.popsD cn a m ∧ d = (T.openD B part cn a ds false).1) ∧ ExtW w w'

set_option maxHeartbeats 8000000 in
set_option maxRecDepth 100000 in
theorem rover_any (x : Int) (hx : -9223372036854775808 ≤ x ∧ x ≤ 9223372036854775807) (part : List (List UInt8)) (hlv : Lv part) (n : Nat) (hlen : part.length = n) (hn : n ≤ 1000000) :
    ∀ (N : Nat) (cn : Nat) (a : Int) (A : Option Addr) (c : Nat) (PA : Option Addr) (pn pc : Nat) (ds : List (List UInt8)) (w : World), cn < N → 1 ≤ cn → -9223372036854775807 ≤ a - cn → a + n ≤ 9223372036854775807 → cn < 9223372036854775808 → Sts w A n c part → Dls w PA pn pc ds →
    Calls Try.prog 65 #[.int .i64 x, .int .i64 (cn : Int), .int .i64 a, .slice A n c, .slice PA pn pc] w (OverPost (bitsN x) part n cn a ds w) := by
  have HX := Lib.hid hx
  have HV := Lib.hid hlv
  have HPL := Lib.hid hlen
  clear hx hlv hlen
  intro N
  induction N with
  | zero => intro cn a A c PA pn pc ds w h; omega
  | succ N ih =>
    intro cn a A c PA pn pc ds w hcN hc1 ha1 ha2 hc2 hs hp
    have hnc := hp.rd.nc
    have hcm := hp.rd.cm
    unfold maxLen at hcm
    have HS0 := Lib.hid hs
    have HP := Lib.hid hp
    have HDN := Lib.hid hp.len
    clear hs hp
    go_enter Try.func65, Try.ntmps65
    go_upto_region 1 with (refine wpList_newD rfl rfl ?_)
    have HD1 := Lib.hid (zDig_row w)
    have HE1 : Hid (ExtW w (w.alloc (.cells zDig 45))) := Lib.hid ((Below.refl _ _).alloc (Nat.le_refl _) _)
    obtain ⟨gd, hgd⟩ : ∃ g, g = w.heap.size := ⟨_, rfl⟩
    have HGD : Hid (w.heap.size ≤ gd) := Lib.hid (by omega)
    rw [← hgd] at HD1
    rw [← hgd]
    clear hgd
    generalize w.alloc (.cells zDig 45) = w1 at HD1 HE1 ⊢
    have HP1 := Lib.hid (HP.out.same HE1.out)
    have HS1 := Lib.hid (HS0.out.same HE1.out)
    have hsum : IntKind.i64.wrap (a + (n : Int)) = a + (n : Int) := IntWalk.i64_in _ (by omega)
    by_cases hout : a + (n : Int) ≤ 0 ∨ (cn : Int) ≤ a
    · have HPP := Lib.hid (T.popsD_out (n := cn) (a := a) (m := n) hout)
      have HOUT := Lib.hid hout
      have hcase : (a + (n : Int) ≤ 0) ∨ (¬ a + (n : Int) ≤ 0 ∧ (cn : Int) ≤ a ∧ ¬ a < (cn : Int)) := by omega
      clear hout
      by_cases hm : pn = 0
      · subst hm
        rcases hcase with h1 | ⟨h1, h2, h3⟩
        all_goals
          go_wp2_with (first
            | (refine wpList_bldG rfl (by rfl) ?_; refine ⟨.agg (bvs (List.replicate 32 0)).toArray, by kernel_rfl, ?_⟩)
            | (refine wpList_st rfl rfl ?_; refine ⟨gd, _, _, _, rfl, rfl, HD1.out, by kernel_rfl, rfl, dg_one _, ?_⟩))
          (try simp only [Exit.inBlock, Exit.then])
          have hld := run_loadVar_row (P := Try.prog) (w1.setRow gd (bvs (List.replicate 32 0)).toArray) gd 45 45 (bvs (List.replicate 32 0)).toArray (0, 0) _ (Row.setRow HD1.out (bvs (List.replicate 32 0))) Try.underlying45 rfl (by kernel_rfl)
          refine bodyPost_ret (results_ctt rfl _ _ _ rfl hld) rfl ?_
          exact ⟨List.replicate 32 0, 0, false, rfl, rfl, Nat.zero_le _, by rw [HPP.out, HDN.out]; rfl, (fun h => by cases h), below_setRow HE1.out HGD.out _⟩
      · obtain ⟨y, rest, hyr⟩ : ∃ y r, ds = y :: r := by
          cases hd : ds with
          | nil => exact absurd (by have := HDN.out; rw [hd] at this; exact this.symm) hm
          | cons y r => exact ⟨y, r, rfl⟩
        have HYL : Hid (y.length = 32) := Lib.hid (HP.out.all y (by rw [hyr]; exact List.mem_cons_self ..))
        have HYS : Hid ((bvs y).toArray.size = 32) := Lib.hid (dg_size HYL.out)
        have HYR := Lib.hid hyr
        have HPO := Lib.hid (T.openD_take (B := bitsN x) (part := part) (n := cn) (a := a) (d := y) (r := rest) (bad := false) HPL.out HOUT.out)
        have hm0 : 0 < pn := by omega
        have hne0 : ((pn : Int) == 0) = false := by rw [beq_eq_false_iff_ne]; omega
        obtain ⟨pa, hpa⟩ := HP.out.addr hm0
        subst hpa
        have hld := HP1.out.load (k := 0) (d := y) (by rw [hyr]; rfl)
        rw [show pa.add (0 * 32) = pa by simp [Addr.add]] at hld
        clear hyr
        rcases hcase with h1 | ⟨h1, h2, h3⟩
        all_goals
          go_wp2_with (first
            | (refine wpList_ldA rfl (by rfl) rfl hld ?_; unfold dgV)
            | (refine wpList_st rfl rfl ?_; refine ⟨gd, _, _, _, rfl, rfl, HD1.out, by rw [HYS.out]; kernel_rfl, Eq.trans (show (bvs (List.replicate 32 0)).toArray.size = 32 from rfl) HYS.out.symm, dg_one _, ?_⟩))
          (try simp only [Exit.inBlock, Exit.then])
          have hlr := run_loadVar_row (P := Try.prog) (w1.setRow gd (bvs y).toArray) gd 45 45 (bvs y).toArray (0, 0) _ (Row.setRow HD1.out (bvs y)) Try.underlying45 rfl (by rw [HYS.out]; kernel_rfl)
          refine bodyPost_ret (results_ctt rfl _ _ _ rfl hlr) rfl ?_
          exact ⟨y, 1, true, rfl, HYL.out, by rw [HDN.out]; exact hm0, by rw [HPP.out, HDN.out]; exact (decide_eq_true hm0).symm, fun _ => ⟨HPP.out.symm, by rw [HYR.out, HPO.out]⟩, below_setRow HE1.out HGD.out _⟩
    have HOUT := Lib.hid hout
    have hn1 : ¬ a + (n : Int) ≤ 0 := by omega
    have hn2 : ¬ (cn : Int) ≤ a := by omega
    have hn3 : a < (cn : Int) := by omega
    by_cases h1 : cn = 1
    · have HPO := Lib.hid (T.openD_leaf (B := bitsN x) (part := part) (n := cn) (a := a) (ds := ds) (bad := false) HPL.out hout (by omega))
      have HPP := Lib.hid (T.popsD_one (n := cn) (a := a) (m := n) hout (by omega))
      subst h1
      obtain ⟨j, hj⟩ : ∃ j : Nat, -a = (j : Int) := ⟨(-a).toNat, by omega⟩
      have hjn : j < n := by omega
      have hjni : (j : Int) < (n : Int) := by omega
      have hneg : IntKind.i64.wrap (-a) = (j : Int) := by rw [IntWalk.i64_in _ (by omega)]; exact hj
      obtain ⟨y, hy⟩ : ∃ y, part[j]? = some y := ⟨_, List.getElem?_eq_getElem (by rw [HPL.out]; exact hjn)⟩
      have HGT : Hid (part.getD (-a).toNat [] = y) := Lib.hid (by rw [hj, Int.toNat_natCast, List.getD_eq_getElem?_getD, hy]; rfl)
      obtain ⟨sa, hsa⟩ := HS1.out.addr (by omega)
      subst hsa
      have hc0 := HS1.out.at hy
      have HYL : Hid (y.length ≤ 1000000) := Lib.hid (HV.out y (List.mem_of_getElem? hy))
      clear hy hj hout
      go_wp2_with fail
      refine (rleaf_any x HX.out y _ HYL.out).mono ?_
      rintro e we ⟨rfl, hbe⟩
      have HDE := Lib.hid (HD1.out.ext hbe)
      have HEE := Lib.hid (ExtW.trans HE1.out hbe)
      clear hbe hc0
      obtain ⟨d, hd⟩ : ∃ d, d = T.leafD (bitsN x) y := ⟨_, rfl⟩
      have HS : Hid ((bvs d).toArray.size = 32) := Lib.hid (dg_size (by rw [hd]; exact T.leafD_len _ _))
      have HDL : Hid (d = T.leafD (bitsN x) y) := Lib.hid hd
      rw [← hd]
      clear hd
      unfold dgV
      go_wp2_with (refine wpList_st rfl rfl ?_; refine ⟨gd, _, _, _, rfl, rfl, HDE.out, by rw [HS.out]; kernel_rfl, Eq.trans (show (bvs (List.replicate 32 0)).toArray.size = 32 from rfl) HS.out.symm, dg_one _, ?_⟩)
      (try simp only [Exit.inBlock, Exit.then])
      have hld := run_loadVar_row (P := Try.prog) (we.setRow gd (bvs d).toArray) gd 45 45 (bvs d).toArray (0, 0) _ (Row.setRow HDE.out (bvs d)) Try.underlying45 rfl (by rw [HS.out]; kernel_rfl)
      refine bodyPost_ret (results_ctt rfl _ _ _ rfl hld) rfl ?_
      exact ⟨d, 0, true, rfl, by rw [HDL.out]; exact T.leafD_len _ _, Nat.zero_le _, by rw [HPP.out]; exact (decide_eq_true (Nat.zero_le _)).symm, fun _ => ⟨HPP.out.symm, by rw [HPO.out, HGT.out, HDL.out]⟩, below_setRow HEE.out HGD.out _⟩
    have h2 : 2 ≤ cn := by omega
    have hne1 : ((cn : Int) == 1) = false := by rw [beq_eq_false_iff_ne]; omega
    obtain ⟨k, hk⟩ : ∃ k, k = T.half cn := ⟨_, rfl⟩
    have hhl := T.half_lt h2
    rw [← hk] at hhl
    have HPO := Lib.hid (T.openD_more (B := bitsN x) (part := part) (n := cn) (a := a) (ds := ds) (bad := false) HPL.out hout (by omega) hk)
    have HPP := Lib.hid (T.popsD_more (n := cn) (a := a) (m := n) hout (by omega) hk)
    have HK := Lib.hid hk
    clear hk hout
    go_wp2_with fail
    refine (rhalf_any cn _ ⟨by omega, by omega⟩).mono ?_
    rintro e we ⟨rfl, rfl⟩
    rw [← HK.out]
    go_wp2_with fail
    refine (ih k a A c PA pn pc ds we (by omega) (by omega) (by omega) (by omega) (by omega) HS1.out HP1.out).mono ?_
    rintro e w3 ⟨d1, u1, ok1, rfl, hdl, hul, hok, hcl, hb⟩
    have HDL1 := Lib.hid hdl
    have HOK1 := Lib.hid hok
    have HCL1 := Lib.hid hcl
    have HE3 := Lib.hid (ExtW.trans HE1.out hb)
    have HD3 := Lib.hid (HD1.out.ext hb)
    have HP3 := Lib.hid (HP1.out.same hb)
    have HS3 := Lib.hid (HS1.out.same hb)
    rw [HDN.out] at hul
    clear hdl hok hcl hb HD1 HE1 HP1 HS1
    go_upto_region 9 with (first
      | (refine wpList_newD rfl rfl ?_)
      | (refine wpList_newst rfl rfl rfl HDL1.out (d0 := List.replicate 32 0) rfl rfl rfl (zDig_row _) ?_))
    have HA4 := Lib.hid (stD_row w3 d1)
    have HE4 := Lib.hid (ExtW.trans HE3.out (stD_ext w3 d1))
    have HD4 := Lib.hid (HD3.out.ext (stD_ext w3 d1))
    have HP4 := Lib.hid (HP3.out.same (stD_ext w3 d1))
    have HS4 := Lib.hid (HS3.out.same (stD_ext w3 d1))
    generalize (w3.alloc (.cells zDig 45)).setRow w3.heap.size (bvs d1).toArray = w4 at HA4 HE4 HD4 HP4 HS4 ⊢
    obtain ⟨ga, hga⟩ : ∃ g, g = w3.heap.size := ⟨_, rfl⟩
    rw [← hga] at HA4 ⊢
    clear hga HE3 HD3 HP3 HS3
    cases ok1 with
    | false =>
      have HNO : Hid (false = decide (T.popsD cn a n ≤ ds.length)) := Lib.hid (by
        have h := of_decide_eq_false HOK1.out.symm
        rw [HPP.out]
        exact (decide_eq_false (by omega)).symm)
      clear HOK1
      go_wp2_with (first
        | (refine wpList_bldG rfl (by rfl) ?_; refine ⟨.agg (bvs (List.replicate 32 0)).toArray, by kernel_rfl, ?_⟩)
        | (refine wpList_st rfl rfl ?_; refine ⟨gd, _, _, _, rfl, rfl, HD4.out, by kernel_rfl, rfl, dg_one _, ?_⟩))
      (try simp only [Exit.inBlock, Exit.then])
      have hld := run_loadVar_row (P := Try.prog) (w4.setRow gd (bvs (List.replicate 32 0)).toArray) gd 45 45 (bvs (List.replicate 32 0)).toArray (0, 0) _ (Row.setRow HD4.out (bvs (List.replicate 32 0))) Try.underlying45 rfl (by kernel_rfl)
      refine bodyPost_ret (results_ctt rfl _ _ _ rfl hld) rfl ?_
      exact ⟨List.replicate 32 0, 0, false, rfl, rfl, Nat.zero_le _, HNO.out, (fun h => by cases h), below_setRow HE4.out HGD.out _⟩
    | true =>
      obtain ⟨hu1, hd1⟩ := HCL1.out rfl
      have hpk := of_decide_eq_true HOK1.out.symm
      have HU1 := Lib.hid hu1
      have HD1' := Lib.hid hd1
      have HPK := Lib.hid hpk
      have HOG := Lib.hid (T.openD_ge (bitsN x) part HPL.out (k + 1) k a ds false (by omega) hpk)
      clear hu1 hd1 hpk HCL1 HOK1
      have hs1 : IntKind.i64.wrap ((cn : Int) - (k : Int)) = ((cn - k : Nat) : Int) := by rw [IntWalk.i64_in _ (by omega)]; omega
      have hs2 : IntKind.i64.wrap (a - (k : Int)) = a - (k : Int) := IntWalk.i64_in _ (by omega)
      have hdr := run_dropD PA pn pc u1 hul hnc
      go_wp2_with fail
      refine (ih (cn - k) (a - (k : Int)) A c (dropD PA pc u1) (pn - u1) (pc - u1) (ds.drop u1) w4 (by omega) (by omega) (by omega) (by omega) (by omega) HS4.out (HP4.out.dropD hul)).mono ?_
      rintro e w5 ⟨d2, u2, ok2, rfl, hdl, hul2, hok, hcl, hb⟩
      have HDL2 := Lib.hid hdl
      have HOK2 := Lib.hid hok
      have HCL2 := Lib.hid hcl
      have HE5 := Lib.hid (ExtW.trans HE4.out hb)
      have HD5 := Lib.hid (HD4.out.ext hb)
      have HA5 := Lib.hid (HA4.out.ext hb)
      rw [List.length_drop, HDN.out] at hul2
      clear hdl hok hcl hb hs1 hs2 HD4 HE4 HA4
      go_upto_region 12 with (first
        | (refine wpList_newD rfl rfl ?_)
        | (refine wpList_newst rfl rfl rfl HDL2.out (d0 := List.replicate 32 0) rfl rfl rfl (zDig_row _) ?_))
      have HB6 := Lib.hid (stD_row w5 d2)
      have HE6 := Lib.hid (ExtW.trans HE5.out (stD_ext w5 d2))
      have HD6 := Lib.hid (HD5.out.ext (stD_ext w5 d2))
      have HA6 := Lib.hid (HA5.out.ext (stD_ext w5 d2))
      generalize (w5.alloc (.cells zDig 45)).setRow w5.heap.size (bvs d2).toArray = w6 at HB6 HE6 HD6 HA6 ⊢
      obtain ⟨gb, hgb⟩ : ∃ g, g = w5.heap.size := ⟨_, rfl⟩
      rw [← hgb] at HB6 ⊢
      clear hgb HE5 HD5 HA5
      have HSA : Hid ((bvs d1).toArray.size = 32) := Lib.hid (dg_size HDL1.out)
      have HSB : Hid ((bvs d2).toArray.size = 32) := Lib.hid (dg_size HDL2.out)
      go_wp2_with (refine wpList_ld rfl rfl ?_; first | refine ⟨ga, _, _, _, rfl, HA6.out, Try.underlying45, rfl, by rw [HSA.out]; kernel_rfl, ?_⟩ | refine ⟨gb, _, _, _, rfl, HB6.out, Try.underlying45, rfl, by rw [HSB.out]; kernel_rfl, ?_⟩)
      refine (rnode_any x HX.out d1 d2 _ HDL1.out HDL2.out).mono ?_
      rintro e w7 ⟨rfl, hb⟩
      have HDE := Lib.hid (HD6.out.ext hb)
      have HEE := Lib.hid (ExtW.trans HE6.out hb)
      have hs3 : IntKind.i64.wrap ((u1 : Int) + (u2 : Int)) = ((u1 + u2 : Nat) : Int) := by rw [IntWalk.i64_in _ (by omega)]; omega
      have HLE : Hid (u1 + u2 ≤ ds.length) := Lib.hid (by rw [HDN.out]; omega)
      have HOKS : Hid (ok2 = decide (T.popsD cn a n ≤ ds.length)) := Lib.hid (by
        rw [HOK2.out, HPP.out, List.length_drop, HU1.out]
        have := HPK.out
        exact decide_eq_decide.2 (by omega))
      have HYES : Hid (ok2 = true → u1 + u2 = T.popsD cn a n ∧ T.nodeD (bitsN x) d1 d2 = (T.openD (bitsN x) part cn a ds false).1) := Lib.hid (fun h => by
        obtain ⟨e1, e2⟩ := HCL2.out h
        rw [HPP.out, HPO.out, HOG.out, ← HU1.out, e1, e2, HD1'.out]
        exact ⟨rfl, rfl⟩)
      clear hb HD6 HE6 HA6 HB6
      obtain ⟨d, hd⟩ : ∃ d, d = T.nodeD (bitsN x) d1 d2 := ⟨_, rfl⟩
      have HS : Hid ((bvs d).toArray.size = 32) := Lib.hid (dg_size (by rw [hd]; exact T.nodeD_len _ _ _))
      have HDL : Hid (d = T.nodeD (bitsN x) d1 d2) := Lib.hid hd
      rw [← hd]
      clear hd
      unfold dgV
      go_wp2_with (refine wpList_st rfl rfl ?_; refine ⟨gd, _, _, _, rfl, rfl, HDE.out, by rw [HS.out]; kernel_rfl, Eq.trans (show (bvs (List.replicate 32 0)).toArray.size = 32 from rfl) HS.out.symm, dg_one _, ?_⟩)
      (try simp only [Exit.inBlock, Exit.then])
      have hld := run_loadVar_row (P := Try.prog) (w7.setRow gd (bvs d).toArray) gd 45 45 (bvs d).toArray (0, 0) _ (Row.setRow HDE.out (bvs d)) Try.underlying45 rfl (by rw [HS.out]; kernel_rfl)
      refine bodyPost_ret (results_ctt rfl _ _ _ rfl hld) rfl ?_
      exact ⟨d, u1 + u2, ok2, by first | rfl | simp [hs3], by rw [HDL.out]; exact T.nodeD_len _ _ _, HLE.out, HOKS.out, by rw [HDL.out]; exact HYES.out, below_setRow HEE.out HGD.out _⟩

set_option maxHeartbeats 4000000 in
set_option maxRecDepth 100000 in
theorem rcr_no (x : Int) (root : List UInt8) (cn a : Int) (hcn : cn ≤ 9223372036854775807) (A : Option Addr) (n c : Nat) (vp : Value) (w : World) (h : n = 0 ∨ a < 0 ∨ cn < n ∨ cn - n < a) :
    Calls Try.prog 50 #[.int .i64 x, dgV root, .int .i64 cn, .int .i64 a, .slice A n c, vp] w fun e w' => e = .returned (.bool false) ∧ ExtW w w' := by
  have HE0 : Hid (ExtW w (w.alloc (.cells (bvs root).toArray 45))) := Lib.hid ((Below.refl _ _).alloc (Nat.le_refl _) _)
  unfold dgV
  by_cases h0 : n = 0
  · subst h0
    clear h
    go_enter Try.func50, Try.ntmps50
    go_wp2
    go_ret
    exact ⟨rfl, HE0.out⟩
  have hne0 : ((n : Int) == 0) = false := by rw [beq_eq_false_iff_ne]; omega
  have hc : a < 0 ∨ (¬ a < 0 ∧ cn < n ∧ ¬ (n : Int) ≤ cn) ∨ (¬ a < 0 ∧ ¬ cn < n ∧ cn - n < a ∧ ¬ a ≤ cn - n) := by omega
  clear h h0
  rcases hc with h1 | ⟨h1, h2, h3⟩ | ⟨h1, h2, h3, h4⟩
  · go_enter Try.func50, Try.ntmps50
    go_wp2
    go_ret
    exact ⟨rfl, HE0.out⟩
  · go_enter Try.func50, Try.ntmps50
    go_wp2
    go_ret
    exact ⟨rfl, HE0.out⟩
  · have hs : IntKind.i64.wrap (cn - (n : Int)) = cn - (n : Int) := IntWalk.i64_in _ (by omega)
    go_enter Try.func50, Try.ntmps50
    go_wp2
    go_ret
    exact ⟨rfl, HE0.out⟩

set_option maxHeartbeats 4000000 in
set_option maxRecDepth 100000 in
theorem rcr_in (x : Int) (hx : -9223372036854775808 ≤ x ∧ x ≤ 9223372036854775807) (root : List UInt8) (hroot : root.length = 32) (cn : Nat) (a : Int) (hcn : cn < 9223372036854775808)
    (A : Option Addr) (n c : Nat) (part : List (List UInt8)) (PA : Option Addr) (pn pc : Nat) (path : List (List UInt8)) (w : World) (hpart : Sts w A n c part) (hlv : Lv part) (hn : n ≤ 1000000) (hp : Dls w PA pn pc path)
    (hin : ¬ (n = 0 ∨ a < 0 ∨ (cn : Int) < n ∨ (cn : Int) - n < a)) :
    Calls Try.prog 50 #[.int .i64 x, dgV root, .int .i64 (cn : Int), .int .i64 a, .slice A n c, .slice PA pn pc] w fun e w' => e = .returned (.bool (T.checkRD (bitsN x) root cn a part path)) ∧ ExtW w w' := by
  have HX := Lib.hid hx
  have HRL := Lib.hid hroot
  have HP := Lib.hid hp
  have HB := Lib.hid hpart
  have HV := Lib.hid hlv
  have HPN := Lib.hid hp.len
  have HLN := Lib.hid hpart.1
  have HIN := Lib.hid hin
  have hne0 : ((n : Int) == 0) = false := by rw [beq_eq_false_iff_ne]; omega
  have h1 : ¬ a < 0 := by omega
  have h2 : decide (cn < n) = false := by rw [decide_eq_false_iff_not]; omega
  have h3 : ¬ (cn : Int) - n < a := by omega
  have h4 : a ≤ (cn : Int) - n := by omega
  have h5 : (n : Int) ≤ cn := by omega
  have hs : IntKind.i64.wrap ((cn : Int) - (n : Int)) = (cn : Int) - (n : Int) := IntWalk.i64_in _ (by omega)
  have hc1 : 1 ≤ cn := by omega
  have HR1 : Hid (Row (w.alloc (.cells (bvs root).toArray 45)) w.heap.size 45 (bvs root)) := Lib.hid (heap_alloc_last _ _)
  have HE1 : Hid (ExtW w (w.alloc (.cells (bvs root).toArray 45))) := Lib.hid ((Below.refl _ _).alloc (Nat.le_refl _) _)
  clear hx hroot hp hpart hlv hin
  unfold dgV
  go_enter Try.func50, Try.ntmps50
  go_upto_region 1 with (fail)
  generalize w.alloc (.cells (bvs root).toArray 45) = w1 at HR1 HE1 ⊢
  obtain ⟨gr, hgr⟩ : ∃ g, g = w.heap.size := ⟨_, rfl⟩
  rw [← hgr] at HR1 ⊢
  clear hgr
  go_wp2_with fail
  refine (rover_any x HX.out part HV.out n HLN.out hn (cn + 1) cn a A c PA pn pc path _ (by omega) hc1 (by omega) (by omega) hcn (HB.out.same HE1.out) (HP.out.same HE1.out)).mono ?_
  rintro e w2 ⟨d1, u1, ok, rfl, hdl, hul, hok, hcl, hb⟩
  have HDL := Lib.hid hdl
  have HRES := Lib.hid (T.popsD_le_open HLN.out (root := root) HIN.out hok hcl)
  have HR2 := Lib.hid (HR1.out.ext hb)
  have HE2 := Lib.hid (ExtW.trans HE1.out hb)
  rw [HPN.out] at hul
  clear hdl hok hcl hb HR1 HE1
  go_upto_region 4 with (first
    | (refine wpList_newD rfl rfl ?_)
    | (refine wpList_newst rfl rfl rfl HDL.out (d0 := List.replicate 32 0) rfl rfl rfl (zDig_row _) ?_))
  have HA3 := Lib.hid (stD_row w2 d1)
  have HE3 := Lib.hid (ExtW.trans HE2.out (stD_ext w2 d1))
  have HR3 := Lib.hid (HR2.out.ext (stD_ext w2 d1))
  generalize (w2.alloc (.cells zDig 45)).setRow w2.heap.size (bvs d1).toArray = w3 at HA3 HE3 HR3 ⊢
  obtain ⟨ga, hga⟩ : ∃ g, g = w2.heap.size := ⟨_, rfl⟩
  rw [← hga] at HA3 ⊢
  clear hga
  cases ok with
  | false =>
    go_wp2
    go_ret
    exact ⟨by rw [HRES.out]; rfl, HE3.out⟩
  | true =>
    by_cases hu : u1 = pn
    · have HU : Hid (decide (u1 = path.length) = true) := Lib.hid (by rw [HPN.out]; exact decide_eq_true hu)
      have heq := eq_dg d1 root HDL.out HRL.out
      subst hu
      go_wp2_with (refine wpList_ldG rfl (by rfl) ?_; first | refine ⟨ga, 0, _, _, rfl, HA3.out.range, Try.underlying45, rfl, sizeD HDL.out, ?_⟩ | refine ⟨gr, 0, _, _, rfl, HR3.out.range, Try.underlying45, rfl, sizeD HRL.out, ?_⟩)
      go_ret
      exact ⟨by rw [HRES.out, HU.out]; rfl, HE3.out⟩
    · have HU : Hid (decide (u1 = path.length) = false) := Lib.hid (by rw [HPN.out]; exact decide_eq_false hu)
      have hui : ((u1 : Int) == (pn : Int)) = false := by rw [beq_eq_false_iff_ne]; omega
      clear hu
      go_wp2
      go_ret
      exact ⟨by rw [HRES.out, HU.out]; rfl, HE3.out⟩

/-- any answer of the document's CheckRange -/
theorem rcr_any (x : Int) (hx : -9223372036854775808 ≤ x ∧ x ≤ 9223372036854775807) (root : List UInt8) (hroot : root.length = 32) (cn a : Int) (hcn : cn ≤ 9223372036854775807)
    (A : Option Addr) (n c : Nat) (part : List (List UInt8)) (PA : Option Addr) (pn pc : Nat) (path : List (List UInt8)) (w : World) (hpart : Sts w A n c part) (hlv : Lv part) (hn : n ≤ 1000000) (hp : Dls w PA pn pc path) :
    Calls Try.prog 50 #[.int .i64 x, dgV root, .int .i64 cn, .int .i64 a, .slice A n c, .slice PA pn pc] w fun e w' => e = .returned (.bool (T.checkRD (bitsN x) root cn a part path)) ∧ ExtW w w' := by
  by_cases h : n = 0 ∨ a < 0 ∨ cn < n ∨ cn - n < a
  · rw [T.checkRD_no hpart.1 h]
    exact rcr_no x root cn a hcn A n c _ w h
  · obtain ⟨k, rfl⟩ : ∃ k : Nat, cn = (k : Int) := ⟨cn.toNat, by omega⟩
    exact rcr_in x hx root hroot k a (by omega) A n c part PA pn pc path w hpart hlv hn hp h
end Go.Proofs.Ythaoibgcgkmnbaa
