/- Walk of shown. -/
import Derived.Test.YtncdgndeidbgoaaTe
import Derived.Lib.SlBytesConst
namespace Go.Proofs.Ytncdgndeidbgoaa
open Go.RowKit

theorem keep_full {d : List UInt8} (h : d.length = 32) : keep d 256 = d := by
  apply List.ext_getElem?
  intro i
  by_cases hi : i < d.length
  · rw [keep_get d 256 i hi]
    have : keepB (d.getD i 0) (256 - 8 * i) = d.getD i 0 := by unfold keepB; rw [if_neg (by omega), if_neg (by omega)]
    rw [this, List.getD_eq_getElem?_getD, List.getElem?_eq_getElem hi]; rfl
  · rw [List.getElem?_eq_none (by rw [keep_len]; omega), List.getElem?_eq_none (by omega)]
theorem T.leafD_full (xs : List UInt8) : T.leafD 256 xs = S.sha (0 :: xs) := keep_full (S.sha_len _)
theorem T.emptyD_full : T.emptyD 256 = S.sha [] := keep_full (S.sha_len _)
namespace T
theorem half2 : half 2 = 1 := by unfold half; rfl
theorem half3 : half 3 = 2 := half_eq (j := 1) (by decide) (by decide) (by decide)
theorem root2 (B : Nat) (x y : List UInt8) : rootD B [x, y] = nodeD B (leafD B x) (leafD B y) := by
  rw [rootD_more B (n := 2) (k := 1) rfl (by decide) half2.symm]
  rw [show ([x, y].take 1) = [x] from rfl, show ([x, y].drop 1) = [y] from rfl, rootD_one, rootD_one]
theorem root3 (B : Nat) (x y z : List UInt8) : rootD B [x, y, z] = nodeD B (nodeD B (leafD B x) (leafD B y)) (leafD B z) := by
  rw [rootD_more B (n := 3) (k := 2) rfl (by decide) half3.symm]
  rw [show ([x, y, z].take 2) = [x, y] from rfl, show ([x, y, z].drop 2) = [z] from rfl, rootD_one, root2]
theorem path3 (B : Nat) (x y z : List UInt8) : pathD B [x, y, z] 2 = [nodeD B (leafD B x) (leafD B y)] := by
  rw [pathD_hi B (n := 3) (k := 2) rfl (by decide) half3.symm (by decide)]
  rw [show ([x, y, z].take 2) = [x, y] from rfl, show ([x, y, z].drop 2) = [z] from rfl, root2, pathD_one B rfl]
  rfl
theorem beside3 (B : Nat) (x y z : List UInt8) : besideD B [x, y, z] 1 2 = [leafD B x, leafD B z] := by
  rw [besideD_more B (n := 3) (k := 2) rfl (by decide) (by decide) half3.symm]
  rw [show ([x, y, z].take 2) = [x, y] from rfl, show ([x, y, z].drop 2) = [z] from rfl]
  rw [besideD_more B (n := 2) (k := 1) (l := [x, y]) rfl (by decide) (by decide) half2.symm]
  rw [show ([x, y].take 1) = [x] from rfl, show ([x, y].drop 1) = [y] from rfl]
  rw [besideD_out B (l := [x]) (n := 1) rfl (by decide), besideD_one B (l := [y]) (n := 1) rfl (by decide) rfl, besideD_out B (l := [z]) (n := 1) rfl (by decide), rootD_one, rootD_one]
  rfl
theorem downs32 : downs 3 2 = [false] := by
  rw [downs_hi (k := 2) (by decide) half3.symm (by decide), downs_one (by decide)]
theorem check3 (B : Nat) (x y z : List UInt8) : checkD B (rootD B [x, y, z]) 3 2 z [nodeD B (leafD B x) (leafD B y)] = true := by
  unfold checkD
  rw [if_neg (by decide), show (3 : Int).toNat = 3 from rfl, show (2 : Int).toNat = 2 from rfl, downs32, root3]
  simp [climb, stepD]
theorem check3n (B : Nat) (r z : List UInt8) : checkD B r 3 2 z [] = false := by
  unfold checkD
  rw [if_neg (by decide), show (3 : Int).toNat = 3 from rfl, show (2 : Int).toNat = 2 from rfl, downs32]
  simp
theorem checkR3 (B : Nat) (x y z : List UInt8) : checkRD B (rootD B [x, y, z]) 3 1 [y] [leafD B x, leafD B z] = true := by
  have h0 : checkRD B (rootD B [x, y, z]) ((3 : Nat) : Int) 1 [y] [leafD B x, leafD B z] = _ := checkRD_in (cn := 3) (n := 1) (o := (rootD B [x, y, z], [], false)) rfl (by decide) (by
    rw [openD_more (pn := 1) (k := 2) rfl (by decide) (by decide) half3.symm]
    have h1 : openD B [y] 2 1 [leafD B x, leafD B z] false = (nodeD B (leafD B x) (leafD B y), [leafD B z], false) := by
      rw [openD_more (pn := 1) (k := 1) rfl (by decide) (by decide) half2.symm]
      have h2 : openD B [y] 1 1 [leafD B x, leafD B z] false = (leafD B x, [leafD B z], false) := openD_take (pn := 1) rfl (by decide)
      rw [h2]
      have h3 : openD B [y] (2 - 1) (1 - ((1 : Nat) : Int)) [leafD B z] false = (leafD B y, [leafD B z], false) := openD_leaf (pn := 1) rfl (by decide) (by decide)
      rw [h3]
    rw [h1]
    have h4 : openD B [y] (3 - 2) (1 - ((2 : Nat) : Int)) [leafD B z] false = (leafD B z, [], false) := openD_take (pn := 1) rfl (by decide)
    rw [h4, root3])
  rw [show (3 : Int) = ((3 : Nat) : Int) from rfl, h0]
  simp
theorem checkR3n (B : Nat) (r : List UInt8) (q : List (List UInt8)) : checkRD B r 3 1 [] q = false := checkRD_no (n := 0) rfl (.inl rfl)
end T

theorem Rd.newM (w : World) (cs : List Value) (e size : Nat) (n : Nat) (m : Nat × Nat) (hl : cs.length = n * size) (hn : n ≤ maxLen) : Rd (w.alloc (.cells cs.toArray e m)) (some ⟨w.heap.size, 0, none⟩) n n size cs := by
  refine ⟨hl, Nat.le_refl _, hn, (fun h => by cases h), fun a ha j u hj => ?_⟩
  cases ha
  have h1 : (w.alloc (.cells cs.toArray e m)).heap[w.heap.size]? = some (.cells cs.toArray e m) := heap_alloc_new w _
  rw [Addr.add_mid, Nat.zero_add]
  simp only [World.cell?, h1]
  simpa using hj

set_option maxHeartbeats 4000000 in
set_option maxRecDepth 100000 in
theorem shown_any (w : World) : Calls Try.prog 13 #[] w fun e w' => e = .returned (.bool true) ∧ ExtW w w' := by
  have kc := fun (w : World) (C : Array Value) (n c : Nat) => Lib.run_convert_bytes_const (P := Try.prog) w 36 5 C n c Try.underlying36 Try.underlying5
  have kc1 := kc (w.alloc (.cells #[.int .u8 97] 5 (1, 2))) #[.int .u8 98] 1 1
  have kc2 := kc ((w.alloc (.cells #[.int .u8 97] 5 (1, 2))).alloc (.cells #[.int .u8 98] 5 (1, 2))) #[.int .u8 99] 1 1
  have hz1 : (w.alloc (.cells #[.int .u8 97] 5 (1, 2))).heap.size = w.heap.size + 1 := by simp
  have hz2 : ((w.alloc (.cells #[.int .u8 97] 5 (1, 2))).alloc (.cells #[.int .u8 98] 5 (1, 2))).heap.size = w.heap.size + 1 + 1 := by simp
  rw [hz1] at kc1
  rw [hz2] at kc2
  clear hz1 hz2
  go_enter Try.func13, Try.ntmps13
  go_upto_region 2 with (fail)
  obtain ⟨g0, hg0⟩ : ∃ g, g = w.heap.size := ⟨_, rfl⟩
  obtain ⟨g1, hg1⟩ : ∃ g, g = w.heap.size + 1 := ⟨_, rfl⟩
  obtain ⟨g2, hg2⟩ : ∃ g, g = w.heap.size + 1 + 1 := ⟨_, rfl⟩
  obtain ⟨g, hg⟩ : ∃ g, g = w.heap.size + 1 + 1 + 1 := ⟨_, rfl⟩
  have HR0 : Hid (Rd (w.alloc (.cells #[.int .u8 97] 5 (1, 2))) (some ⟨g0, 0, none⟩) 1 1 1 (bvs [97])) := Lib.hid (by rw [hg0]; exact Rd.newM w [.int .u8 97] 5 1 1 (1, 2) rfl (by decide))
  have HE0 : Hid (ExtW w (w.alloc (.cells #[.int .u8 97] 5 (1, 2)))) := Lib.hid ((Below.refl _ _).alloc (Nat.le_refl _) _)
  have HA0 : Hid ((w.alloc (.cells #[.int .u8 97] 5 (1, 2))).heap.size = g1) := Lib.hid (by rw [hg1]; simp)
  rw [← hg, ← hg2, ← hg1, ← hg0]
  generalize w.alloc (.cells #[.int .u8 97] 5 (1, 2)) = wa at HR0 HE0 HA0 ⊢
  have HR1 : Hid (Rd (wa.alloc (.cells #[.int .u8 98] 5 (1, 2))) (some ⟨g1, 0, none⟩) 1 1 1 (bvs [98])) := Lib.hid (by rw [← HA0.out]; exact Rd.newM wa [.int .u8 98] 5 1 1 (1, 2) rfl (by decide))
  have HE1 : Hid (ExtW wa (wa.alloc (.cells #[.int .u8 98] 5 (1, 2)))) := Lib.hid ((Below.refl _ _).alloc (Nat.le_refl _) _)
  have HA1 : Hid ((wa.alloc (.cells #[.int .u8 98] 5 (1, 2))).heap.size = g2) := Lib.hid (by have := HA0.out; simp; omega)
  generalize wa.alloc (.cells #[.int .u8 98] 5 (1, 2)) = wb at HR1 HE1 HA1 ⊢
  have HR2 : Hid (Rd (wb.alloc (.cells #[.int .u8 99] 5 (1, 2))) (some ⟨g2, 0, none⟩) 1 1 1 (bvs [99])) := Lib.hid (by rw [← HA1.out]; exact Rd.newM wb [.int .u8 99] 5 1 1 (1, 2) rfl (by decide))
  have HE2 : Hid (ExtW wb (wb.alloc (.cells #[.int .u8 99] 5 (1, 2)))) := Lib.hid ((Below.refl _ _).alloc (Nat.le_refl _) _)
  have HA2 : Hid ((wb.alloc (.cells #[.int .u8 99] 5 (1, 2))).heap.size = g) := Lib.hid (by have := HA1.out; simp; omega)
  generalize wb.alloc (.cells #[.int .u8 99] 5 (1, 2)) = wc at HR2 HE2 HA2 ⊢
  have HROW : Hid (Row (wc.alloc (.cells #[.slice (some ⟨g0, 0, none⟩) 1 1, .slice (some ⟨g1, 0, none⟩) 1 1, .slice (some ⟨g2, 0, none⟩) 1 1] 36)) g 36 [.slice (some ⟨g0, 0, none⟩) 1 1, .slice (some ⟨g1, 0, none⟩) 1 1, .slice (some ⟨g2, 0, none⟩) 1 1]) := Lib.hid (by rw [← HA2.out]; exact heap_alloc_last _ _)
  have HE3 : Hid (ExtW wc (wc.alloc (.cells #[.slice (some ⟨g0, 0, none⟩) 1 1, .slice (some ⟨g1, 0, none⟩) 1 1, .slice (some ⟨g2, 0, none⟩) 1 1] 36))) := Lib.hid ((Below.refl _ _).alloc (Nat.le_refl _) _)
  generalize wc.alloc (.cells #[.slice (some ⟨g0, 0, none⟩) 1 1, .slice (some ⟨g1, 0, none⟩) 1 1, .slice (some ⟨g2, 0, none⟩) 1 1] 36) = wd at HROW HE3 ⊢
  have HD0 := Lib.hid (HR0.out.below (ExtW.trans HE1.out (ExtW.trans HE2.out HE3.out)) (Nat.le_refl _))
  have HD1 := Lib.hid (HR1.out.below (ExtW.trans HE2.out HE3.out) (Nat.le_refl _))
  have HD2 := Lib.hid (HR2.out.below HE3.out (Nat.le_refl _))
  have HW := Lib.hid (ExtW.trans HE0.out (ExtW.trans HE1.out (ExtW.trans HE2.out HE3.out)))
  have HBS : Hid (Bss wd (some ⟨g, 0, none⟩) 3 3 [[97], [98], [99]]) := Lib.hid ⟨rfl, Nat.le_refl _, by decide, (fun h => by cases h), fun a ha i x hx => by
    cases ha
    match i, hx with
    | 0, hx => cases hx; exact ⟨_, 1, 1, by rw [Addr.add_mid]; exact HROW.out.cell (j := 0) rfl, HD0.out⟩
    | 1, hx => cases hx; exact ⟨_, 1, 1, by rw [Addr.add_mid]; exact HROW.out.cell (j := 1) rfl, HD1.out⟩
    | 2, hx => cases hx; exact ⟨_, 1, 1, by rw [Addr.add_mid]; exact HROW.out.cell (j := 2) rfl, HD2.out⟩
    | i + 3, hx => simp at hx⟩
  have HLV : Hid (Lv [[97], [98], [99]]) := Lib.hid (fun y hy => by simp at hy; rcases hy with rfl | rfl | rfl <;> decide)
  have HC0 := Lib.hid (HROW.out.cell (j := 0) (v := .slice (some ⟨g0, 0, none⟩) 1 1) rfl)
  have HC1 := Lib.hid (HROW.out.cell (j := 1) (v := .slice (some ⟨g1, 0, none⟩) 1 1) rfl)
  have HC2 := Lib.hid (HROW.out.cell (j := 2) (v := .slice (some ⟨g2, 0, none⟩) 1 1) rfl)
  clear hg0 hg1 hg2 hg HR0 HR1 HR2 HE0 HE1 HE2 HE3 HA0 HA1 HA2 HROW kc1 kc2
  apply wp_region_ext_tail 10 _ (by kernel_rfl) (by kernel_rfl)
  simp only [List.take_succ_cons, List.take_zero, List.drop_succ_cons, List.drop_zero]
  iterate 2 (apply wpZ_det; (intro wq hE hG; first | exact obl_non (by rfl) | (apply obl_val (by rfl); go_simp; rfl)); (intro ak hak; simp only [Act.put, List.setIfInBounds_toArray, List.set_cons_succ, List.set_cons_zero] at hak; subst hak))
  (apply wpZ_det; (intro wq hE hG; have kk := (ExtW.of_drew hE).cellAt HC0.out; apply obl_val (by rfl); go_simp; rfl); (intro ak hak; simp only [Act.put, List.setIfInBounds_toArray, List.set_cons_succ, List.set_cons_zero] at hak; subst hak))
  (apply wpZ_det; (intro wq hE hG; apply obl_on (by kernel_rfl); go_simp; simp only [extUpon_enter]; refine (pleaf_any _ 1 1 [97] _ (HD0.out.below (ExtW.of_drew hE) (Nat.le_refl _)) (by decide)).mono ?_; rintro e w' ⟨rfl, hb⟩; exact ⟨_, rfl, hb, rfl⟩); (intro ak hak; simp only [Act.put, List.setIfInBounds_toArray, List.set_cons_succ, List.set_cons_zero] at hak; subst hak))
  iterate 2 (apply wpZ_det; (intro wq hE hG; first | exact obl_non (by rfl) | (apply obl_val (by rfl); go_simp; rfl)); (intro ak hak; simp only [Act.put, List.setIfInBounds_toArray, List.set_cons_succ, List.set_cons_zero] at hak; subst hak))
  (apply wpZ_det; (intro wq hE hG; have kk := (ExtW.of_drew hE).cellAt HC1.out; apply obl_val (by rfl); go_simp; rfl); (intro ak hak; simp only [Act.put, List.setIfInBounds_toArray, List.set_cons_succ, List.set_cons_zero] at hak; subst hak))
  (apply wpZ_det; (intro wq hE hG; apply obl_on (by kernel_rfl); go_simp; simp only [extUpon_enter]; refine (pleaf_any _ 1 1 [98] _ (HD1.out.below (ExtW.of_drew hE) (Nat.le_refl _)) (by decide)).mono ?_; rintro e w' ⟨rfl, hb⟩; exact ⟨_, rfl, hb, rfl⟩); (intro ak hak; simp only [Act.put, List.setIfInBounds_toArray, List.set_cons_succ, List.set_cons_zero] at hak; subst hak))
  (apply wpZ_det; (intro wq hE hG; apply obl_on (by kernel_rfl); go_simp; simp only [extUpon_enter]; refine (pnode_any _ _ _ (T.leafD_len _ _) (T.leafD_len _ _)).mono ?_; rintro e w' ⟨rfl, hb⟩; exact ⟨_, rfl, hb, rfl⟩); (intro ak hak; simp only [Act.put, List.setIfInBounds_toArray, List.set_cons_succ, List.set_cons_zero] at hak; subst hak))
  (apply wpZ_nd (NewD wd.heap.size) (NewD.mono _); (intro wq hE hG; exact obl_newD (by kernel_rfl) rfl (ExtW.of_drew hE).size); (intro u9 ak hak; simp only [Act.put, List.setIfInBounds_toArray, List.set_cons_succ, List.set_cons_zero] at hak; subst hak))
  (apply wpZ_nil; intro wq hE hG)
  obtain ⟨gab, rfl, hgb, hrow⟩ : NewD wd.heap.size u9 wq := hG _ (List.mem_cons_self ..)
  have HROW := Lib.hid hrow
  have HGB := Lib.hid hgb
  have HE := Lib.hid (ExtW.of_drew hE)
  clear hE hG hrow hgb
  obtain ⟨ab, hab⟩ : ∃ d, d = T.nodeD 256 (T.leafD 256 [97]) (T.leafD 256 [98]) := ⟨_, rfl⟩
  have HAB := Lib.hid hab
  have HABL : Hid (ab.length = 32) := Lib.hid (by rw [hab]; exact T.nodeD_len _ _ _)
  rw [← hab]
  clear hab
  go_upto_region 3 with (refine wpList_newst rfl rfl rfl HABL.out (d0 := List.replicate 32 0) rfl rfl rfl HROW.out ?_)
  have HAR : Hid (Row (wq.setRow gab (bvs ab).toArray) gab 24 (bvs ab)) := Lib.hid (HROW.out.setRow _)
  have HE1 : Hid (ExtW wd (wq.setRow gab (bvs ab).toArray)) := Lib.hid (below_setRow HE.out HGB.out _)
  generalize wq.setRow gab (bvs ab).toArray = w1 at HAR HE1 ⊢
  clear HROW HGB HE
  -- the root
  go_wp2_with fail
  refine (proot_any _ 3 3 _ _ (HBS.out.same HE1.out) HLV.out).mono ?_
  rintro e w2 ⟨rfl, hb⟩
  have HB2 := Lib.hid hb
  clear hb
  obtain ⟨rt, hrt⟩ : ∃ d, d = T.rootD 256 [[97], [98], [99]] := ⟨_, rfl⟩
  have HRT := Lib.hid hrt
  have HRTL : Hid (rt.length = 32) := Lib.hid (by rw [hrt]; exact T.rootD_len _ _)
  rw [← hrt]
  clear hrt
  go_upto_region 4 with (first
    | (refine wpList_newD rfl rfl ?_)
    | (refine wpList_newst rfl rfl rfl HRTL.out (d0 := List.replicate 32 0) rfl rfl rfl (zDig_row _) ?_))
  have HRR := Lib.hid (stD_row w2 rt)
  have HE3 := Lib.hid (stD_ext w2 rt)
  generalize (w2.alloc (.cells zDig 24)).setRow w2.heap.size (bvs rt).toArray = w3 at HRR HE3 ⊢
  obtain ⟨grt, hgr⟩ : ∃ g, g = w2.heap.size := ⟨_, rfl⟩
  rw [← hgr] at HRR ⊢
  have HAR3 := Lib.hid (HAR.out.ext (ExtW.trans HB2.out HE3.out))
  have HE4 := Lib.hid (ExtW.trans HE1.out (ExtW.trans HB2.out HE3.out))
  clear hgr HAR HB2 HE1 HE3
  -- the path
  go_wp2_with fail
  refine (ppath_ok _ 3 3 [[97], [98], [99]] 2 _ (by decide) (by decide) (HBS.out.same HE4.out) HLV.out).mono ?_
  rintro e w5 ⟨v, rfl, ho, hb⟩
  rw [T.path3, ← HAB.out] at ho
  obtain ⟨gp, cp, rfl, hdp⟩ := OwnDs.at ho (fun d hd => by rw [List.mem_singleton] at hd; rw [hd]; exact HABL.out) (by simp)
  simp only [List.length_cons, List.length_nil, Nat.zero_add] at hdp ⊢
  have HDP := Lib.hid hdp
  have HAR5 := Lib.hid (HAR3.out.ext hb)
  have HRR5 := Lib.hid (HRR.out.ext hb)
  have HE5 := Lib.hid (ExtW.trans HE4.out hb)
  clear ho hb hdp HAR3 HRR HE4
  -- the row
  go_wp2_with fail
  refine (prange_ok _ 3 3 [[97], [98], [99]] 1 2 _ (by decide) (by decide) (by decide) (by decide) (HBS.out.same HE5.out) HLV.out).mono ?_
  rintro e w6 ⟨v, rfl, ho, hb⟩
  rw [T.beside3] at ho
  obtain ⟨gq, cq, rfl, hdq⟩ := OwnDs.at ho (fun d hd => by simp at hd; rcases hd with rfl | rfl <;> exact T.leafD_len _ _) (by simp)
  simp only [List.length_cons, List.length_nil, Nat.zero_add, Nat.reduceAdd] at hdq ⊢
  have HDQ := Lib.hid hdq
  have HDP6 := Lib.hid (HDP.out.same hb)
  have HAR6 := Lib.hid (HAR5.out.ext hb)
  have HRR6 := Lib.hid (HRR5.out.ext hb)
  have HE6 := Lib.hid (ExtW.trans HE5.out hb)
  clear ho hb hdq HAR5 HRR5 HE5 HDP
  go_upto_region 6 with (fail)
  apply wp_region_ext _ (by kernel_rfl) (by kernel_rfl)
  iterate 17 (apply wpZ_det; (intro wq hE hG; first | exact obl_non (by rfl) | (apply obl_val (by rfl); go_simp; rfl)); (intro ak hak; simp only [Act.put, List.setIfInBounds_toArray, List.set_cons_succ, List.set_cons_zero] at hak; subst hak))
  (apply wpZ_det; (intro wq hE hG; exact obl_ldg (by rfl) rfl (by rfl) (HRR6.out.ext (ExtW.of_drew hE)) Try.underlying24 rfl (sizeD HRTL.out)); (intro ak hak; simp only [Act.put, List.setIfInBounds_toArray, List.set_cons_succ, List.set_cons_zero] at hak; subst hak))
  (apply wpZ_det; (intro wq hE hG; exact obl_ldg (by rfl) rfl (by rfl) (HAR6.out.ext (ExtW.of_drew hE)) Try.underlying24 rfl (sizeD HABL.out)); (intro ak hak; simp only [Act.put, List.setIfInBounds_toArray, List.set_cons_succ, List.set_cons_zero] at hak; subst hak))
  iterate 2 (apply wpZ_det; (intro wq hE hG; first | exact obl_non (by rfl) | (apply obl_val (by rfl); go_simp; rfl)); (intro ak hak; simp only [Act.put, List.setIfInBounds_toArray, List.set_cons_succ, List.set_cons_zero] at hak; subst hak))
  (apply wpZ_det; (intro wq hE hG; have kk := (ExtW.of_drew hE).cellAt (HE6.out.cellAt HC2.out); apply obl_val (by rfl); go_simp; rfl); (intro ak hak; simp only [Act.put, List.setIfInBounds_toArray, List.set_cons_succ, List.set_cons_zero] at hak; subst hak))
  (apply wpZ_det; (intro wq hE hG; apply obl_on (by kernel_rfl); go_simp; simp only [extUpon_enter]; refine (pleaf_any _ 1 1 [99] _ (HD2.out.below (ExtW.trans HE6.out (ExtW.of_drew hE)) (Nat.le_refl _)) (by decide)).mono ?_; rintro e w' ⟨rfl, hb⟩; exact ⟨_, rfl, hb, rfl⟩); (intro ak hak; simp only [Act.put, List.setIfInBounds_toArray, List.set_cons_succ, List.set_cons_zero] at hak; subst hak))
  (apply wpZ_det; (intro wq hE hG; apply obl_on (by kernel_rfl); go_simp; simp only [extUpon_enter]; refine (pnode_any _ _ _ HABL.out (T.leafD_len _ _)).mono ?_; rintro e w' ⟨rfl, hb⟩; exact ⟨_, rfl, hb, rfl⟩); (intro ak hak; simp only [Act.put, List.setIfInBounds_toArray, List.set_cons_succ, List.set_cons_zero] at hak; subst hak))
  (apply wpZ_det; (intro wq hE hG; exact obl_neD (by rfl) rfl rfl rfl (HRTL.out) (T.nodeD_len _ _ _) ((show _ = false by rw [HRT.out, HAB.out, T.root3]; simp))); (intro ak hak; simp only [Act.put, List.setIfInBounds_toArray, List.set_cons_succ, List.set_cons_zero] at hak; subst hak))
  (apply wpZ_det; (intro wq hE hG; first | exact obl_non (by rfl) | (apply obl_val (by rfl); go_simp; rfl)); (intro ak hak; simp only [Act.put, List.setIfInBounds_toArray, List.set_cons_succ, List.set_cons_zero] at hak; subst hak))
  (apply wpZ_nil; intro wq hE hG)
  have HE7 := Lib.hid (ExtW.trans HE6.out (ExtW.of_drew hE))
  have HDP7 := Lib.hid (HDP6.out.same (ExtW.of_drew hE))
  have HDQ7 := Lib.hid (HDQ.out.same (ExtW.of_drew hE))
  have HAR7 := Lib.hid (HAR6.out.ext (ExtW.of_drew hE))
  have HRR7 := Lib.hid (HRR6.out.ext (ExtW.of_drew hE))
  clear hE hG HE6 HDP6 HDQ HAR6 HRR6
  go_wp2_with fail
  refine (proot_any none 0 0 [] _ (Bss.nil _) (fun y hy => by cases hy)).mono ?_
  rintro e w8 ⟨rfl, hb⟩
  have HB8 := Lib.hid hb
  clear hb
  go_wp2_with fail
  refine (of_any none 0 0 [] _ (Rd.nil _ 1) (by decide)).mono ?_
  rintro e w9 ⟨rfl, hb⟩
  have HB9 := Lib.hid (ExtW.trans HB8.out hb)
  clear hb
  go_wp2_with (refine wpList_eqD (by rfl) rfl rfl rfl (T.rootD_len _ _) (S.sha_len _) (show _ = true by rw [T.rootD_nil, keep_full (S.sha_len _)]; simp) ?_)
  refine (pleaf_any _ 1 1 [97] _ (Rd.newM w9 [.int .u8 97] 5 1 1 (1, 2) rfl (by decide)) (by decide)).mono ?_
  rintro e w10 ⟨rfl, hb⟩
  have HB10 := Lib.hid (ExtW.trans HB9.out (ExtW.trans ((Below.refl _ _).alloc (Nat.le_refl _) _) hb))
  clear hb
  go_wp2_with fail
  refine (of_any _ 2 2 [0, 97] _ (Rd.newM w10 [.int .u8 0, .int .u8 97] 5 1 2 (2, 3) rfl (by decide)) (by decide)).mono ?_
  rintro e w11 ⟨rfl, hb⟩
  have HB11 := Lib.hid (ExtW.trans HB10.out (ExtW.trans ((Below.refl _ _).alloc (Nat.le_refl _) _) hb))
  clear hb
  go_wp2_with (refine wpList_eqD (by rfl) rfl rfl rfl (T.leafD_len _ _) (S.sha_len _) (show _ = true by rw [T.leafD_full]; simp) ?_)
  have HE8 := Lib.hid (ExtW.trans HE7.out HB11.out)
  have HDP8 := Lib.hid (HDP7.out.same HB11.out)
  have HDQ8 := Lib.hid (HDQ7.out.same HB11.out)
  have HAR8 := Lib.hid (HAR7.out.ext HB11.out)
  have HRR8 := Lib.hid (HRR7.out.ext HB11.out)
  clear HE7 HDP7 HDQ7 HAR7 HRR7 HB8 HB9 HB10 HB11 kc
  have hct := run_cutA (some ⟨g, 0, none⟩) 3 3 1 2 (by decide) (by decide) (by decide)
  have HBC : Hid (Bss wd (cutA (some ⟨g, 0, none⟩) 3 1) 1 2 [[98]]) := Lib.hid (HBS.out.cutA (i := 1) (k := 2) (by decide) (by decide))
  go_upto_region 9 with (fail)
  apply wp_region_ext _ (by kernel_rfl) (by kernel_rfl)
  iterate 3 (apply wpZ_det; (intro wq hE hG; first | exact obl_non (by rfl) | (apply obl_val (by rfl); go_simp; rfl)); (intro ak hak; simp only [Act.put, List.setIfInBounds_toArray, List.set_cons_succ, List.set_cons_zero] at hak; subst hak))
  (apply wpZ_det (c := .pointer (some ⟨gp, 0, none⟩)); (intro wq hE hG; exact obl_same (by rfl) (by go_simp; rfl) (by first | rfl | (apply int_eq; omega) | (apply int_eq; rw [IntWalk.i64_in _ (by omega)]; omega) | (apply int_eq; simp; omega))); (intro ak hak; simp only [Act.put, List.setIfInBounds_toArray, List.set_cons_succ, List.set_cons_zero] at hak; subst hak))
  (apply wpZ_det; (intro wq hE hG; exact obl_ldA (by rfl) rfl (by rfl) ((HDP8.out.same (ExtW.of_drew hE)).loadAt 0 (d := ab) rfl rfl)); (intro ak hak; simp only [Act.put, List.setIfInBounds_toArray, List.set_cons_succ, List.set_cons_zero] at hak; subst hak))
  (apply wpZ_det; (intro wq hE hG; exact obl_ldg (by rfl) rfl (by rfl) (HAR8.out.ext (ExtW.of_drew hE)) Try.underlying24 rfl (sizeD HABL.out)); (intro ak hak; simp only [Act.put, List.setIfInBounds_toArray, List.set_cons_succ, List.set_cons_zero] at hak; subst hak))
  (apply wpZ_det; (intro wq hE hG; exact obl_eqD (by rfl) rfl rfl rfl (HABL.out) (HABL.out) ((show _ = true by simp))); (intro ak hak; simp only [Act.put, List.setIfInBounds_toArray, List.set_cons_succ, List.set_cons_zero] at hak; subst hak))
  iterate 3 (apply wpZ_det; (intro wq hE hG; first | exact obl_non (by rfl) | (apply obl_val (by rfl); go_simp; rfl)); (intro ak hak; simp only [Act.put, List.setIfInBounds_toArray, List.set_cons_succ, List.set_cons_zero] at hak; subst hak))
  (apply wpZ_det (c := .pointer (some ⟨gq, 0, none⟩)); (intro wq hE hG; exact obl_same (by rfl) (by go_simp; rfl) (by first | rfl | (apply int_eq; omega) | (apply int_eq; rw [IntWalk.i64_in _ (by omega)]; omega) | (apply int_eq; simp; omega))); (intro ak hak; simp only [Act.put, List.setIfInBounds_toArray, List.set_cons_succ, List.set_cons_zero] at hak; subst hak))
  (apply wpZ_det; (intro wq hE hG; exact obl_ldA (by rfl) rfl (by rfl) ((HDQ8.out.same (ExtW.of_drew hE)).loadAt 0 (d := T.leafD 256 [97]) rfl rfl)); (intro ak hak; simp only [Act.put, List.setIfInBounds_toArray, List.set_cons_succ, List.set_cons_zero] at hak; subst hak))
  iterate 2 (apply wpZ_det; (intro wq hE hG; first | exact obl_non (by rfl) | (apply obl_val (by rfl); go_simp; rfl)); (intro ak hak; simp only [Act.put, List.setIfInBounds_toArray, List.set_cons_succ, List.set_cons_zero] at hak; subst hak))
  (apply wpZ_det; (intro wq hE hG; have kk := (ExtW.of_drew hE).cellAt (HE8.out.cellAt HC0.out); apply obl_val (by rfl); go_simp; rfl); (intro ak hak; simp only [Act.put, List.setIfInBounds_toArray, List.set_cons_succ, List.set_cons_zero] at hak; subst hak))
  (apply wpZ_det; (intro wq hE hG; apply obl_on (by kernel_rfl); go_simp; simp only [extUpon_enter]; refine (pleaf_any _ 1 1 [97] _ (HD0.out.below (ExtW.trans HE8.out (ExtW.of_drew hE)) (Nat.le_refl _)) (by decide)).mono ?_; rintro e w' ⟨rfl, hb⟩; exact ⟨_, rfl, hb, rfl⟩); (intro ak hak; simp only [Act.put, List.setIfInBounds_toArray, List.set_cons_succ, List.set_cons_zero] at hak; subst hak))
  (apply wpZ_det; (intro wq hE hG; exact obl_eqD (by rfl) rfl rfl rfl (T.leafD_len _ _) (T.leafD_len _ _) ((show _ = true by simp))); (intro ak hak; simp only [Act.put, List.setIfInBounds_toArray, List.set_cons_succ, List.set_cons_zero] at hak; subst hak))
  iterate 3 (apply wpZ_det; (intro wq hE hG; first | exact obl_non (by rfl) | (apply obl_val (by rfl); go_simp; rfl)); (intro ak hak; simp only [Act.put, List.setIfInBounds_toArray, List.set_cons_succ, List.set_cons_zero] at hak; subst hak))
  (apply wpZ_det (c := .pointer (some ⟨gq, 32, none⟩)); (intro wq hE hG; exact obl_same (by rfl) (by go_simp; rfl) (by first | rfl | (apply int_eq; omega) | (apply int_eq; rw [IntWalk.i64_in _ (by omega)]; omega) | (apply int_eq; simp; omega))); (intro ak hak; simp only [Act.put, List.setIfInBounds_toArray, List.set_cons_succ, List.set_cons_zero] at hak; subst hak))
  (apply wpZ_det; (intro wq hE hG; exact obl_ldA (by rfl) rfl (by rfl) ((HDQ8.out.same (ExtW.of_drew hE)).loadAt 1 (d := T.leafD 256 [99]) rfl rfl)); (intro ak hak; simp only [Act.put, List.setIfInBounds_toArray, List.set_cons_succ, List.set_cons_zero] at hak; subst hak))
  iterate 2 (apply wpZ_det; (intro wq hE hG; first | exact obl_non (by rfl) | (apply obl_val (by rfl); go_simp; rfl)); (intro ak hak; simp only [Act.put, List.setIfInBounds_toArray, List.set_cons_succ, List.set_cons_zero] at hak; subst hak))
  (apply wpZ_det; (intro wq hE hG; have kk := (ExtW.of_drew hE).cellAt (HE8.out.cellAt HC2.out); apply obl_val (by rfl); go_simp; rfl); (intro ak hak; simp only [Act.put, List.setIfInBounds_toArray, List.set_cons_succ, List.set_cons_zero] at hak; subst hak))
  (apply wpZ_det; (intro wq hE hG; apply obl_on (by kernel_rfl); go_simp; simp only [extUpon_enter]; refine (pleaf_any _ 1 1 [99] _ (HD2.out.below (ExtW.trans HE8.out (ExtW.of_drew hE)) (Nat.le_refl _)) (by decide)).mono ?_; rintro e w' ⟨rfl, hb⟩; exact ⟨_, rfl, hb, rfl⟩); (intro ak hak; simp only [Act.put, List.setIfInBounds_toArray, List.set_cons_succ, List.set_cons_zero] at hak; subst hak))
  (apply wpZ_det; (intro wq hE hG; exact obl_eqD (by rfl) rfl rfl rfl (T.leafD_len _ _) (T.leafD_len _ _) ((show _ = true by simp))); (intro ak hak; simp only [Act.put, List.setIfInBounds_toArray, List.set_cons_succ, List.set_cons_zero] at hak; subst hak))
  iterate 2 (apply wpZ_det; (intro wq hE hG; first | exact obl_non (by rfl) | (apply obl_val (by rfl); go_simp; rfl)); (intro ak hak; simp only [Act.put, List.setIfInBounds_toArray, List.set_cons_succ, List.set_cons_zero] at hak; subst hak))
  (apply wpZ_det; (intro wq hE hG; exact obl_ldg (by rfl) rfl (by rfl) (HRR8.out.ext (ExtW.of_drew hE)) Try.underlying24 rfl (sizeD HRTL.out)); (intro ak hak; simp only [Act.put, List.setIfInBounds_toArray, List.set_cons_succ, List.set_cons_zero] at hak; subst hak))
  iterate 2 (apply wpZ_det; (intro wq hE hG; first | exact obl_non (by rfl) | (apply obl_val (by rfl); go_simp; rfl)); (intro ak hak; simp only [Act.put, List.setIfInBounds_toArray, List.set_cons_succ, List.set_cons_zero] at hak; subst hak))
  (apply wpZ_det; (intro wq hE hG; have kk := (ExtW.of_drew hE).cellAt (HE8.out.cellAt HC2.out); apply obl_val (by rfl); go_simp; rfl); (intro ak hak; simp only [Act.put, List.setIfInBounds_toArray, List.set_cons_succ, List.set_cons_zero] at hak; subst hak))
  (apply wpZ_det; (intro wq hE hG; first | exact obl_non (by rfl) | (apply obl_val (by rfl); go_simp; rfl)); (intro ak hak; simp only [Act.put, List.setIfInBounds_toArray, List.set_cons_succ, List.set_cons_zero] at hak; subst hak))
  (apply wpZ_det (c := .bool true); (intro wq hE hG; apply obl_on (by kernel_rfl); go_simp; simp only [extUpon_enter]; refine (pcheck_any rt HRTL.out 3 2 (by decide) _ 1 1 [99] _ 1 cp [ab] wq (HD2.out.below (ExtW.trans HE8.out (ExtW.of_drew hE)) (Nat.le_refl _)) (by decide) (HDP8.out.same (ExtW.of_drew hE))).mono ?_; rintro e w' ⟨rfl, hb⟩; exact ⟨_, rfl, hb, by rw [HRT.out, HAB.out, T.check3]⟩); (intro ak hak; simp only [Act.put, List.setIfInBounds_toArray, List.set_cons_succ, List.set_cons_zero] at hak; subst hak))
  iterate 2 (apply wpZ_det; (intro wq hE hG; first | exact obl_non (by rfl) | (apply obl_val (by rfl); go_simp; rfl)); (intro ak hak; simp only [Act.put, List.setIfInBounds_toArray, List.set_cons_succ, List.set_cons_zero] at hak; subst hak))
  (apply wpZ_det; (intro wq hE hG; exact obl_ldg (by rfl) rfl (by rfl) (HRR8.out.ext (ExtW.of_drew hE)) Try.underlying24 rfl (sizeD HRTL.out)); (intro ak hak; simp only [Act.put, List.setIfInBounds_toArray, List.set_cons_succ, List.set_cons_zero] at hak; subst hak))
  iterate 2 (apply wpZ_det; (intro wq hE hG; first | exact obl_non (by rfl) | (apply obl_val (by rfl); go_simp; rfl)); (intro ak hak; simp only [Act.put, List.setIfInBounds_toArray, List.set_cons_succ, List.set_cons_zero] at hak; subst hak))
  (apply wpZ_det; (intro wq hE hG; have kk := (ExtW.of_drew hE).cellAt (HE8.out.cellAt HC2.out); apply obl_val (by rfl); go_simp; rfl); (intro ak hak; simp only [Act.put, List.setIfInBounds_toArray, List.set_cons_succ, List.set_cons_zero] at hak; subst hak))
  (apply wpZ_det (c := .bool false); (intro wq hE hG; apply obl_on (by kernel_rfl); go_simp; simp only [extUpon_enter]; refine (pcheck_any rt HRTL.out 3 2 (by decide) _ 1 1 [99] none 0 0 [] wq (HD2.out.below (ExtW.trans HE8.out (ExtW.of_drew hE)) (Nat.le_refl _)) (by decide) (Dls.nil _)).mono ?_; rintro e w' ⟨rfl, hb⟩; exact ⟨_, rfl, hb, by rw [T.check3n]⟩); (intro ak hak; simp only [Act.put, List.setIfInBounds_toArray, List.set_cons_succ, List.set_cons_zero] at hak; subst hak))
  iterate 3 (apply wpZ_det; (intro wq hE hG; first | exact obl_non (by rfl) | (apply obl_val (by rfl); go_simp; rfl)); (intro ak hak; simp only [Act.put, List.setIfInBounds_toArray, List.set_cons_succ, List.set_cons_zero] at hak; subst hak))
  (apply wpZ_det; (intro wq hE hG; exact obl_ldg (by rfl) rfl (by rfl) (HRR8.out.ext (ExtW.of_drew hE)) Try.underlying24 rfl (sizeD HRTL.out)); (intro ak hak; simp only [Act.put, List.setIfInBounds_toArray, List.set_cons_succ, List.set_cons_zero] at hak; subst hak))
  iterate 3 (apply wpZ_det; (intro wq hE hG; first | exact obl_non (by rfl) | (apply obl_val (by rfl); go_simp; rfl)); (intro ak hak; simp only [Act.put, List.setIfInBounds_toArray, List.set_cons_succ, List.set_cons_zero] at hak; subst hak))
  (apply wpZ_det (c := .bool true); (intro wq hE hG; apply obl_on (by kernel_rfl); go_simp; simp only [extUpon_enter]; refine (pcr_any rt HRTL.out 3 1 (by decide) _ 1 2 [[98]] _ 2 cq [T.leafD 256 [97], T.leafD 256 [99]] wq (HBC.out.same (ExtW.trans HE8.out (ExtW.of_drew hE))) (fun y hy => HLV.out y (by simp at hy ⊢; exact .inr (.inl hy))) (by decide) (HDQ8.out.same (ExtW.of_drew hE))).mono ?_; rintro e w' ⟨rfl, hb⟩; exact ⟨_, rfl, hb, by rw [HRT.out, T.checkR3]⟩); (intro ak hak; simp only [Act.put, List.setIfInBounds_toArray, List.set_cons_succ, List.set_cons_zero] at hak; subst hak))
  iterate 2 (apply wpZ_det; (intro wq hE hG; first | exact obl_non (by rfl) | (apply obl_val (by rfl); go_simp; rfl)); (intro ak hak; simp only [Act.put, List.setIfInBounds_toArray, List.set_cons_succ, List.set_cons_zero] at hak; subst hak))
  (apply wpZ_det; (intro wq hE hG; exact obl_ldg (by rfl) rfl (by rfl) (HRR8.out.ext (ExtW.of_drew hE)) Try.underlying24 rfl (sizeD HRTL.out)); (intro ak hak; simp only [Act.put, List.setIfInBounds_toArray, List.set_cons_succ, List.set_cons_zero] at hak; subst hak))
  (apply wpZ_det; (intro wq hE hG; first | exact obl_non (by rfl) | (apply obl_val (by rfl); go_simp; rfl)); (intro ak hak; simp only [Act.put, List.setIfInBounds_toArray, List.set_cons_succ, List.set_cons_zero] at hak; subst hak))
  (apply wpZ_det (c := .bool false); (intro wq hE hG; apply obl_on (by kernel_rfl); go_simp; simp only [extUpon_enter]; refine (pcr_any rt HRTL.out 3 1 (by decide) none 0 0 [] _ 2 cq [T.leafD 256 [97], T.leafD 256 [99]] wq (Bss.nil _) (fun y hy => by cases hy) (by decide) (HDQ8.out.same (ExtW.of_drew hE))).mono ?_; rintro e w' ⟨rfl, hb⟩; exact ⟨_, rfl, hb, by rw [T.checkR3n]⟩); (intro ak hak; simp only [Act.put, List.setIfInBounds_toArray, List.set_cons_succ, List.set_cons_zero] at hak; subst hak))
  iterate 3 (apply wpZ_det; (intro wq hE hG; first | exact obl_non (by rfl) | (apply obl_val (by rfl); go_simp; rfl)); (intro ak hak; simp only [Act.put, List.setIfInBounds_toArray, List.set_cons_succ, List.set_cons_zero] at hak; subst hak))
  (apply wpZ_nil; intro wq hE hG)
  have HE9 := Lib.hid (ExtW.trans HE8.out (ExtW.of_drew hE))
  clear hE hG
  go_wp2
  go_ret
  exact ⟨rfl, ExtW.trans HW.out HE9.out⟩
end Go.Proofs.Ytncdgndeidbgoaa
