/- The walks of Of and of what it calls, for leaves of any length that a slice may have. -/
import Derived.Test.YthaoibgcgkmnbaaCE
import Derived.Test.YthaoibgcgkmnbaaT10
namespace Go.Proofs.Ythaoibgcgkmnbaa
set_option maxRecDepth 100000
open Go.RowKit
set_option linter.unusedVariables false

theorem append_oneB (g : Nat) (b : UInt8) (D : Option Addr) (q dd : Nat) (z : List UInt8) (W : World) (hg : W.cell? ⟨g, 0, none⟩ = some (.int .u8 (b.toNat : Int))) (hr : Rd W D q dd 1 (bvs z)) (hq : q ≤ 140737488351232) :
    ∃ v' W', (Builtin.append_ #[23, 23] 23 #[.slice (some ⟨g, 0, none⟩) 1 1, .slice D q dd]).run Try.prog W = .ok v' W' ∧ ExtW W W' ∧ BytesF (1 + q) (b :: z) v' W' := by
  obtain ⟨i0, hi, hz0, hz1, hz2⟩ := info_parts infoB
  have hy : Rd W (some ⟨g, 0, none⟩) 1 1 1 (bvs [b]) := ⟨rfl, Nat.le_refl _, by decide, (fun h => by cases h), fun a ha j u hj => by
    cases ha
    cases j with
    | zero => simp [bvs] at hj; subst hj; rw [Addr.add_mid]; exact hg
    | succ j => simp [bvs] at hj⟩
  by_cases h0 : 0 < q
  · obtain ⟨v', W', h1, h2, h3, _⟩ := run_append_appd (P := Try.prog) W W.heap.size 23 23 5 i0 _ 1 1 Try.underlying23 hi hz0 hz1 hz2 rfl (by omega) (.slice (some ⟨g, 0, none⟩) 1 1) 1 (bvs [b])
      (.inl ⟨some ⟨g, 0, none⟩, rfl, hy⟩) D q dd (bvs z) hr (bvs_one _) (by simp [maxLen]; omega) (by omega) (Nat.le_refl _) (.inr h0)
    obtain ⟨A', c', e, hrd, _⟩ := Rd.of_own h2
    rw [← bvs_app] at hrd
    exact ⟨v', W', h1, h3, A', c', e, hrd⟩
  · obtain rfl : q = 0 := by omega
    have hz : z = [] := by have := hr.len; rw [bvs_len] at this; exact List.length_eq_zero_iff.1 (by omega)
    subst hz
    refine ⟨.slice (some ⟨g, 0, none⟩) 1 1, W, ?_, ExtW.refl _, some ⟨g, 0, none⟩, 1, rfl, hy⟩
    cases D with
    | none =>
      have hd := hr.nil0 rfl
      subst hd
      simp [Builtin.append_, run_underlying Try.underlying23, Builtin.lenOf, Builtin.firstCells, sizeOf, typeInfo, hi, loadCells, storeCells]
    | some a => simp [Builtin.append_, run_underlying Try.underlying23, Builtin.lenOf, Builtin.firstCells, sizeOf, typeInfo, hi, loadCells, loadCellsFrom, storeCells]

set_option maxHeartbeats 4000000 in
set_option maxRecDepth 100000 in
theorem leaf_anyB (x : Int) (A : Option Addr) (n c : Nat) (xs : List UInt8) (w : World) (hr : Rd w A n c 1 (bvs xs)) (hn : n ≤ 140737488351232) (hx : -9223372036854775808 ≤ x ∧ x ≤ 9223372036854775807) :
    Calls Try.prog 28 #[.agg #[.int .i64 x], .slice A n c] w fun e w' => e = .returned (dgV (T.leafD (bitsN x) xs)) ∧ ExtW w w' := by
  have HR := Lib.hid hr
  have HX := Lib.hid hx
  have HB0 := Lib.hid (cell_new1 w (.int .i64 x) 30)
  have HE0 : Hid (ExtW w (w.alloc (.cells #[.int .i64 x] 30))) := Lib.hid ((Below.refl _ _).alloc (Nat.le_refl _) _)
  clear hr hx
  go_enter Try.func28, Try.ntmps28
  go_upto_region 1 with (refine wpList_newD rfl rfl ?_; generalize w.alloc (.cells #[.int .i64 x] 30) = w1 at HB0 HE0 ⊢)
  have HD1 := Lib.hid (zDig_row w1)
  have HE1 : Hid (ExtW w1 (w1.alloc (.cells zDig 45))) := Lib.hid ((Below.refl _ _).alloc (Nat.le_refl _) _)
  have hgd := HE0.out.size
  have HGD : Hid (w.heap.size ≤ w1.heap.size) := Lib.hid hgd
  obtain ⟨gd, hgd2⟩ : ∃ g, g = w1.heap.size := ⟨_, rfl⟩
  rw [← hgd2] at HD1 HGD ⊢
  generalize w1.alloc (.cells zDig 45) = w2 at HD1 HE1 ⊢
  have HB2 := Lib.hid (HE1.out.cellAt HB0.out)
  have HE2 := Lib.hid (ExtW.trans HE0.out HE1.out)
  have HR2 := Lib.hid (HR.out.below HE2.out (Nat.le_refl _))
  clear hgd hgd2 HB0 HE0 HE1
  apply wp_region_ext_tail 6 _ (by kernel_rfl) (by kernel_rfl)
  simp only [List.take_succ_cons, List.take_zero, List.drop_succ_cons, List.drop_zero]
  apply wpZ_nd (One1 0) (One1.mono 0)
  · intro wq hE hG
    apply obl_on (by kernel_rfl)
    go_simp
    simp only [extUpon_value]
    exact ⟨(Below.refl _ _).alloc (Nat.le_refl _) _, wq.heap.size, rfl, cell_new1 _ _ _⟩
  (intro u1 ak hak; simp only [Act.put, List.setIfInBounds_toArray, List.set_cons_succ, List.set_cons_zero] at hak; subst hak)
  (apply wpZ_det; (intro wq hE hG; first | exact obl_non (by rfl) | (apply obl_val (by rfl); go_simp <;> rfl)); (intro ak hak; simp only [Act.put, List.setIfInBounds_toArray, List.set_cons_succ, List.set_cons_zero] at hak; subst hak))
  apply wpZ_nd (BytesF (1 + n) (0 :: xs)) (BytesF.mono _ _)
  · intro wq hE hG
    obtain ⟨g, rfl, hg⟩ : One1 0 u1 wq := hG _ (List.mem_cons_self ..) (by kernel_rfl)
    obtain ⟨v', W', h1, h2, h3⟩ := append_oneB g 0 A n c xs wq hg (HR2.out.below (ExtW.of_drew hE) (Nat.le_refl _)) hn
    exact obl_append (by kernel_rfl) rfl rfl rfl h1 h2 h3
  (intro u2 ak hak; simp only [Act.put, List.setIfInBounds_toArray, List.set_cons_succ, List.set_cons_zero] at hak; subst hak)
  iterate 2 (apply wpZ_det; (intro wq hE hG; have k7 := (ExtW.of_drew hE).cellAt HB2.out; first | exact obl_non (by rfl) | (apply obl_val (by rfl); go_simp; rfl)); (intro ak hak; simp only [Act.put, List.setIfInBounds_toArray, List.set_cons_succ, List.set_cons_zero] at hak; subst hak))
  apply wpZ_det
  · intro wq hE hG
    obtain ⟨A3, c3, rfl, h3⟩ : BytesF (1 + n) (0 :: xs) u2 wq := hG _ (List.mem_cons_self ..) (by kernel_rfl)
    apply obl_on (by kernel_rfl)
    go_simp
    simp only [extUpon_enter]
    refine (kept_any A3 (1 + n) c3 (0 :: xs) x wq h3 (by omega) HX.out).mono ?_
    rintro e w' ⟨rfl, hb⟩
    exact ⟨_, rfl, hb, rfl⟩
  (intro ak hak; simp only [Act.put, List.setIfInBounds_toArray, List.set_cons_succ, List.set_cons_zero] at hak; subst hak)
  (apply wpZ_nil; intro wq hE hG)
  have HDQ := Lib.hid (HD1.out.ext (ExtW.of_drew hE))
  have HEQ := Lib.hid (ExtW.trans HE2.out (ExtW.of_drew hE))
  clear hE hG HB2 HD1 HE2 HR2
  obtain ⟨d, hd⟩ : ∃ d, d = T.leafD (bitsN x) xs := ⟨_, rfl⟩
  have HDD : Hid (keep (S.sha (0 :: xs)) (bitsN x) = d) := Lib.hid (by rw [hd]; rfl)
  have HS : Hid ((bvs d).toArray.size = 32) := Lib.hid (dg_size (by rw [hd]; exact T.leafD_len _ _))
  have HDL : Hid (d = T.leafD (bitsN x) xs) := Lib.hid hd
  rw [HDD.out]
  clear hd
  unfold dgV
  go_wp2_with (refine wpList_st rfl rfl ?_; refine ⟨gd, _, _, _, rfl, rfl, HDQ.out, by rw [HS.out]; kernel_rfl, Eq.trans (show (bvs (List.replicate 32 0)).toArray.size = 32 from rfl) HS.out.symm, dg_one _, ?_⟩)
  (try simp only [Exit.inBlock, Exit.then])
  refine bodyPost_ret (v := dgV d) ?_ rfl ⟨by rw [HDL.out], below_setRow HEQ.out HGD.out _⟩
  have h := run_loadVar_row (P := Try.prog) (wq.setRow gd (bvs d).toArray) gd 45 45 (bvs d).toArray (0, 0) _ (Row.setRow HDQ.out (bvs d)) Try.underlying45 rfl (by rw [HS.out]; kernel_rfl)
  simpa [results, Try.f28, Act.put, asAddr, dgV] using h

set_option maxHeartbeats 4000000 in
set_option maxRecDepth 100000 in
theorem mcheck_inB (x : Int) (hx : -9223372036854775808 ≤ x ∧ x ≤ 9223372036854775807) (root : List UInt8) (hroot : root.length = 32) (cn j0 : Nat) (hj0 : j0 < cn) (hcn : cn < 9223372036854775808)
    (LA : Option Addr) (ln lc : Nat) (leaf : List UInt8) (PA : Option Addr) (pn pc : Nat) (path : List (List UInt8)) (w : World) (hl : Rd w LA ln lc 1 (bvs leaf)) (hln : ln ≤ 140737488351232) (hp : Dls w PA pn pc path) :
    Calls Try.prog 23 #[.agg #[.int .i64 x], dgV root, .int .i64 (cn : Int), .int .i64 (j0 : Int), .slice LA ln lc, .slice PA pn pc] w fun e w' => e = .returned (.bool (T.takesD (bitsN x) root cn j0 leaf path)) ∧ ExtW w w' := by
  have HX := Lib.hid hx
  have HRL := Lib.hid hroot
  have HL := Lib.hid hl
  have HP := Lib.hid hp
  have HPN := Lib.hid hp.len
  have hpm : pn ≤ 9223372036854775807 := by have h1 := hp.rd.nc; have h2 := hp.rd.cm; unfold maxLen at h2; omega
  clear hl hp hx hroot
  have h1 : decide ((j0 : Int) < 0) = false := by rw [decide_eq_false_iff_not]; omega
  have h2 : decide (cn ≤ j0) = false := by rw [decide_eq_false_iff_not]; omega
  unfold dgV
  have HB0 := Lib.hid (cell_new1 w (.int .i64 x) 30)
  have HE0 : Hid (ExtW w (w.alloc (.cells #[.int .i64 x] 30))) := Lib.hid ((Below.refl _ _).alloc (Nat.le_refl _) _)
  go_enter Try.func23, Try.ntmps23
  go_upto_region 1 with (fail)
  have HA : Hid ((w.alloc (.cells #[.int .i64 x] 30)).heap.size = w.heap.size + 1) := Lib.hid (by simp)
  generalize w.alloc (.cells #[.int .i64 x] 30) = w1 at HB0 HE0 HA ⊢
  have HR1 : Hid (Row (w1.alloc (.cells (bvs root).toArray 45)) (w.heap.size + 1) 45 (bvs root)) := Lib.hid (by rw [← HA.out]; exact heap_alloc_last _ _)
  have HE1 : Hid (ExtW w1 (w1.alloc (.cells (bvs root).toArray 45))) := Lib.hid ((Below.refl _ _).alloc (Nat.le_refl _) _)
  generalize w1.alloc (.cells (bvs root).toArray 45) = w2 at HR1 HE1 ⊢
  have HB2 := Lib.hid (HE1.out.cellAt HB0.out)
  have HE2 := Lib.hid (ExtW.trans HE0.out HE1.out)
  obtain ⟨gb, hgb⟩ : ∃ g, g = w.heap.size := ⟨_, rfl⟩
  obtain ⟨gr, hgr⟩ : ∃ g, g = w.heap.size + 1 := ⟨_, rfl⟩
  rw [← hgb] at HB2
  rw [← hgr] at HR1
  rw [← hgr, ← hgb]
  clear hgb hgr HB0 HE0 HE1 HA
  go_upto_block 0 with (fail)
  go_wp2_with fail
  go_loopw [2, 3, 13] (fun cv iv uv wr => ∃ (m j : Nat) (ups : List Bool), cv = .int .i64 m ∧ iv = .int .i64 j ∧ Hid (OwnFs w2.heap.size ups uv wr) ∧ m ≤ cn ∧ j < m ∧ Hid (T.downs cn j0 = ups ++ T.downs m j) ∧ Hid (∃ e, m ≤ 2 ^ e ∧ e + ups.length ≤ 63) ∧ Hid (ExtW w2 wr)) (fun cv _ _ _ => (intOf cv).toNat)
  case atStart => exact ⟨cn, j0, [], rfl, rfl, Lib.hid (OwnFs.nil _ _), Nat.le_refl _, hj0, Lib.hid rfl, Lib.hid ⟨63, by omega, by simp⟩, Lib.hid (ExtW.refl _)⟩
  case round =>
    obtain ⟨m, j, ups, rfl, rfl, HU, hmc, hjm, HD, HLG, HEW⟩ := hrel
    by_cases hm : 1 < m
    · have hmi : (1 : Int) < (m : Int) := by omega
      obtain ⟨k, hk⟩ : ∃ k, k = T.half m := ⟨_, rfl⟩
      have hhl := T.half_lt (n := m) (by omega)
      have HPW : Hid (∃ e, k ≤ 2 ^ e ∧ m - k ≤ 2 ^ e ∧ e + (ups.length + 1) ≤ 63) := Lib.hid (by
        obtain ⟨e, h3, h4⟩ := HLG.out
        obtain ⟨f, rfl, h5, h6⟩ := T.half_pow hm h3
        exact ⟨f, by rw [hk]; exact h5, by rw [hk]; exact h6, by omega⟩)
      have HUL : Hid (ups.length ≤ 1000000) := Lib.hid (by obtain ⟨e, _, h4⟩ := HLG.out; omega)
      rw [← hk] at hhl
      have HK := Lib.hid hk
      clear hk
      go_wp2_with fail
      refine (half_any m _ ⟨by omega, by omega⟩).mono ?_
      rintro e we ⟨rfl, rfl⟩
      rw [← HK.out]
      by_cases hjk : j < k
      · have hjki : (j : Int) < (k : Int) := by omega
        have HN := Lib.hid (T.downs_lo hm HK.out hjk)
        have HC : Hid ((we.alloc (.cells #[fnV true] 86)).cell? ⟨we.heap.size, 0, none⟩ = some (fnV true)) := Lib.hid (cell_new1 _ _ _)
        have HEA : Hid (ExtW we (we.alloc (.cells #[fnV true] 86))) := Lib.hid ((Below.refl _ _).alloc (Nat.le_refl _) _)
        have hfn : fnV true = .func (.func 33) #[] #[] := rfl
        rw [hfn] at HC HEA
        clear hfn
        go_wp2_with (at_builtin; generalize we.alloc (.cells #[.func (.func 33) #[] #[]] 86) = wa at HC HEA ⊢; refine wpList_append_fs (b := true) rfl _ _ rfl rfl rfl (OwnFs.mono _ _ _ _ _ HU.out HEA.out) HC.out HUL.out (ExtW.trans HEW.out HEA.out).size ?_; intro v' w' ho' hb'; have HO' := Lib.hid ho'; have HE' := Lib.hid (Below.trans (ExtW.trans HEW.out HEA.out) hb'); clear ho' hb')
        go_roundw
        case rel => exact ⟨k, j, ups ++ [true], rfl, rfl, HO', by omega, hjk, Lib.hid (by rw [HD.out, HN.out, List.append_assoc]; rfl), Lib.hid (by obtain ⟨e, h3, _, h5⟩ := HPW.out; exact ⟨e, h3, by rw [List.length_append]; exact h5⟩), HE'⟩
        case measure => simp [intOf]; omega
      · have hjki : ¬ (j : Int) < (k : Int) := by omega
        have HN := Lib.hid (T.downs_hi hm HK.out hjk)
        have HC : Hid ((we.alloc (.cells #[fnV false] 86)).cell? ⟨we.heap.size, 0, none⟩ = some (fnV false)) := Lib.hid (cell_new1 _ _ _)
        have HEA : Hid (ExtW we (we.alloc (.cells #[fnV false] 86))) := Lib.hid ((Below.refl _ _).alloc (Nat.le_refl _) _)
        have hfn : fnV false = .func (.func 53) #[] #[] := rfl
        rw [hfn] at HC HEA
        clear hfn
        go_wp2_with (at_builtin; generalize we.alloc (.cells #[.func (.func 53) #[] #[]] 86) = wa at HC HEA ⊢; refine wpList_append_fs (b := false) rfl _ _ rfl rfl rfl (OwnFs.mono _ _ _ _ _ HU.out HEA.out) HC.out HUL.out (ExtW.trans HEW.out HEA.out).size ?_; intro v' w' ho' hb'; have HO' := Lib.hid ho'; have HE' := Lib.hid (Below.trans (ExtW.trans HEW.out HEA.out) hb'); clear ho' hb')
        go_roundw
        case rel => exact ⟨m - k, j - k, ups ++ [false], by apply int_eq; omega, by apply int_eq; omega, HO', by omega, by omega, Lib.hid (by rw [HD.out, HN.out, List.append_assoc]; rfl), Lib.hid (by obtain ⟨e, _, h4, h5⟩ := HPW.out; exact ⟨e, h4, by rw [List.length_append]; exact h5⟩), HE'⟩
        case measure => simp [intOf]; omega
    · have hmi : ¬ (1 : Int) < (m : Int) := by omega
      have HUP : Hid (T.downs cn j0 = ups) := Lib.hid (by rw [HD.out, T.downs_one (by omega), List.append_nil])
      obtain ⟨e, he1, he2⟩ := HLG.out
      obtain ⟨UA, uc, rfl, hur⟩ := HU.out.form
      have HUR := Lib.hid hur
      have huc := hur.nc
      obtain ⟨un, hun⟩ : ∃ n, n = ups.length := ⟨_, rfl⟩
      have hunb : un ≤ 63 := by omega
      rw [← hun] at HUR
      rw [← hun]
      have HUN := Lib.hid hun
      clear hur huc he1 he2 hun HU HD HLG
      by_cases hlen : pn = un
      · have hli : ((pn : Int) == (un : Int)) = true := by rw [beq_iff_eq]; omega
        have hli2 : ((pn : Int) != (un : Int)) = false := by rw [bne_eq_false_iff_eq]; omega
        have HLE := Lib.hid hlen
        clear hlen
        have k7 := HEW.out.cellAt HB2.out
        go_wp2_with fail
        refine (leaf_anyB x LA ln lc leaf _ (HL.out.below (ExtW.trans HE2.out HEW.out) (Nat.le_refl _)) (by omega) HX.out).mono ?_
        rintro e w4 ⟨rfl, hb⟩
        have HE4 := Lib.hid (ExtW.trans HEW.out hb)
        have HS0 : Hid ((bvs (T.leafD (bitsN x) leaf)).toArray.size = 32) := Lib.hid (dg_size (T.leafD_len _ _))
        have HUR4 := Lib.hid (HUR.out.below hb (Nat.le_refl _))
        have HB4 := Lib.hid (HE4.out.cellAt HB2.out)
        have HR4 := Lib.hid (HR1.out.ext HE4.out)
        have HP4 := Lib.hid (HP.out.same (ExtW.trans HE2.out HE4.out))
        clear hb k7 HUR HEW HP
        unfold dgV
        go_upto_region 12 with (first
          | (refine wpList_newD rfl rfl ?_)
          | (refine wpList_st rfl rfl ?_; refine ⟨w4.heap.size, _, _, _, rfl, rfl, zDig_row w4, by rw [HS0.out]; kernel_rfl, Eq.trans (show (bvs (List.replicate 32 0)).toArray.size = 32 from rfl) HS0.out.symm, dg_one _, ?_⟩))
        have HY0 : Hid (Row ((w4.alloc (.cells zDig 45)).setRow w4.heap.size (bvs (T.leafD (bitsN x) leaf)).toArray) w4.heap.size 45 (bvs (T.leafD (bitsN x) leaf))) := Lib.hid ((zDig_row w4).setRow _)
        have HE5 : Hid (ExtW w4 ((w4.alloc (.cells zDig 45)).setRow w4.heap.size (bvs (T.leafD (bitsN x) leaf)).toArray)) := Lib.hid (below_setRow ((Below.refl _ _).alloc (Nat.le_refl _) _) (Nat.le_refl _) _)
        generalize (w4.alloc (.cells zDig 45)).setRow w4.heap.size (bvs (T.leafD (bitsN x) leaf)).toArray = w5 at HY0 HE5 ⊢
        obtain ⟨gd, hgd⟩ : ∃ g, g = w4.heap.size := ⟨_, rfl⟩
        rw [← hgd] at HY0 ⊢
        have HGD : Hid (gd = w4.heap.size) := Lib.hid hgd
        rw [← T.upD_zero (bitsN x) ups path leaf] at HY0
        clear hgd
        have hpn : pn = un := HLE.out
        subst hpn
        go_upto_region 13 with (fail)
        go_wp2_with fail
        go_loopw [55] (fun iv wr => ∃ t : Nat, iv = .int .i64 t ∧ t ≤ pn ∧ Hid (Row wr gd 45 (bvs (T.upD (bitsN x) ups path leaf t))) ∧ Hid (Below gd w4 wr)) (fun iv _ => pn - (intOf iv).toNat)
        case atStart => exact ⟨0, rfl, Nat.zero_le _, HY0, Lib.hid (by rw [HGD.out]; exact HE5.out)⟩
        case round =>
          obtain ⟨t, rfl, htn, HY, HB⟩ := hrel
          by_cases hlt : t < pn
          · have hti : (t : Int) < (pn : Int) := by omega
            have HBE : Hid (ExtW w4 wr) := Lib.hid (by have h := HB.out; rw [HGD.out] at h; exact h)
            obtain ⟨y, hy⟩ : ∃ y, path[t]? = some y := ⟨_, List.getElem?_eq_getElem (by rw [HPN.out]; exact hlt)⟩
            have hyl : y.length = 32 := HP4.out.all y (List.mem_of_getElem? hy)
            obtain ⟨bt, hbt⟩ : ∃ bt, ups[pn - 1 - t]? = some bt := ⟨_, List.getElem?_eq_getElem (by rw [← HUN.out]; omega)⟩
            have HUS := Lib.hid (T.upD_succ (bitsN x) (ups := ups) (path := path) leaf (t := t) (b := bt) (y := y) (by rw [HPN.out, ← HUN.out]) (by rw [← HUN.out]; exact hlt) (by rw [← HUN.out]; exact hbt) hy)
            cases hPA : PA with
            | none => have h3 := HP4.out.rd.nil0 hPA; have h4 := HP4.out.rd.nc; omega
            | some pa =>
            cases hUA : UA with
            | none => have h3 := HUR4.out.nil0 hUA; have h4 := HUR4.out.nc; omega
            | some ua =>
            subst hPA hUA
            have hld := (HP4.out.same HBE.out).load hy
            have HUC : Hid (w4.cell? (ua.add (pn - 1 - t)) = some (fnV bt)) := Lib.hid (HUR4.out.cell ua rfl _ _ (by rw [List.getElem?_map, hbt]; rfl))
            have HYS : Hid ((bvs y).toArray.size = 32) := Lib.hid (dg_size hyl)
            have HYL := Lib.hid hyl
            clear hy hbt hyl
            go_upto_region 15 with (first
              | (refine wpList_ldA rfl (by rfl) rfl hld ?_; unfold dgV)
              | (refine wpList_newD rfl rfl ?_)
              | (refine wpList_st rfl rfl ?_; refine ⟨wr.heap.size, _, _, _, rfl, rfl, zDig_row wr, by rw [HYS.out]; kernel_rfl, Eq.trans (show (bvs (List.replicate 32 0)).toArray.size = 32 from rfl) HYS.out.symm, dg_one _, ?_⟩))
            have HY1 : Hid (Row ((wr.alloc (.cells zDig 45)).setRow wr.heap.size (bvs y).toArray) wr.heap.size 45 (bvs y)) := Lib.hid ((zDig_row wr).setRow _)
            have HE6 : Hid (ExtW wr ((wr.alloc (.cells zDig 45)).setRow wr.heap.size (bvs y).toArray)) := Lib.hid (below_setRow ((Below.refl _ _).alloc (Nat.le_refl _) _) (Nat.le_refl _) _)
            generalize (wr.alloc (.cells zDig 45)).setRow wr.heap.size (bvs y).toArray = w6 at HY1 HE6 ⊢
            have HYD := Lib.hid (HY.out.ext HE6.out)
            have HE7 := Lib.hid (ExtW.trans HBE.out HE6.out)
            have HB7 : Hid (Below gd w4 w6) := Lib.hid (Below.trans HB.out (HE6.out.mono (by rw [HGD.out]; exact HBE.out.size)))
            have HUC7 := Lib.hid (HE7.out.cellAt HUC.out)
            have HB8 := Lib.hid (HE7.out.cellAt HB4.out)
            obtain ⟨gy, hgy⟩ : ∃ g, g = wr.heap.size := ⟨_, rfl⟩
            rw [← hgy] at HY1 ⊢
            obtain ⟨dt, hdt⟩ : ∃ d, d = T.upD (bitsN x) ups path leaf t := ⟨_, rfl⟩
            have HDL : Hid (dt.length = 32) := Lib.hid (by rw [hdt]; exact T.upD_len _ _ _ _ _)
            rw [← hdt] at HYD HUS
            clear hgy hld hdt HUC HE6 HY HB HBE HE7
            have hpt : pn - 1 - t < pn := by omega
            cases bt
            all_goals
              apply wp_region_ext_tail 12 _ (by kernel_rfl) (by kernel_rfl)
              simp only [List.take_succ_cons, List.take_zero, List.drop_succ_cons, List.drop_zero]
              iterate 3 (apply wpZ_det; (intro wq hE hG; first | exact obl_non (by rfl) | (apply obl_val (by rfl); go_simp <;> rfl)); (intro ak hak; simp only [Act.put, List.setIfInBounds_toArray, List.set_cons_succ, List.set_cons_zero] at hak; subst hak))
              (apply wpZ_det (c := .int .i64 ((pn - 1 : Nat) : Int)); (intro wq hE hG; exact obl_same (by rfl) (by go_simp <;> rfl) (by first | rfl | (apply int_eq; omega) | (apply int_eq; rw [IntWalk.i64_in _ (by omega)]; omega) | (apply int_eq; simp; omega))); (intro ak hak; simp only [Act.put, List.setIfInBounds_toArray, List.set_cons_succ, List.set_cons_zero] at hak; subst hak))
              (apply wpZ_det; (intro wq hE hG; first | exact obl_non (by rfl) | (apply obl_val (by rfl); go_simp <;> rfl)); (intro ak hak; simp only [Act.put, List.setIfInBounds_toArray, List.set_cons_succ, List.set_cons_zero] at hak; subst hak))
              (apply wpZ_det (c := .int .i64 ((pn - 1 - t : Nat) : Int)); (intro wq hE hG; exact obl_same (by rfl) (by go_simp <;> rfl) (by first | rfl | (apply int_eq; omega) | (apply int_eq; rw [IntWalk.i64_in _ (by omega)]; omega) | (apply int_eq; simp; omega))); (intro ak hak; simp only [Act.put, List.setIfInBounds_toArray, List.set_cons_succ, List.set_cons_zero] at hak; subst hak))
              (apply wpZ_det; (intro wq hE hG; first | exact obl_non (by rfl) | (apply obl_val (by rfl); go_simp <;> rfl)); (intro ak hak; simp only [Act.put, List.setIfInBounds_toArray, List.set_cons_succ, List.set_cons_zero] at hak; subst hak))
              (apply wpZ_det; (intro wq hE hG; have kk := (ExtW.of_drew hE).cellAt HUC7.out; unfold fnV at kk; simp only [if_true, Bool.false_eq_true, if_false] at kk; apply obl_val (by rfl); go_simp; rfl); (intro ak hak; simp only [Act.put, List.setIfInBounds_toArray, List.set_cons_succ, List.set_cons_zero] at hak; subst hak))
              (apply wpZ_det; (intro wq hE hG; have kk := (ExtW.of_drew hE).cellAt HB8.out; apply obl_val (by rfl); go_simp <;> rfl); (intro ak hak; simp only [Act.put, List.setIfInBounds_toArray, List.set_cons_succ, List.set_cons_zero] at hak; subst hak))
              (apply wpZ_det; (intro wq hE hG; exact obl_ldg (by rfl) rfl (by rfl) (HYD.out.ext (ExtW.of_drew hE)) Try.underlying45 rfl (sizeD HDL.out)); (intro ak hak; simp only [Act.put, List.setIfInBounds_toArray, List.set_cons_succ, List.set_cons_zero] at hak; subst hak))
              (apply wpZ_det; (intro wq hE hG; exact obl_ldg (by rfl) rfl (by rfl) (HY1.out.ext (ExtW.of_drew hE)) Try.underlying45 rfl (sizeD HYL.out)); (intro ak hak; simp only [Act.put, List.setIfInBounds_toArray, List.set_cons_succ, List.set_cons_zero] at hak; subst hak))
              (apply wpZ_det; (intro wq hE hG; apply obl_on (by kernel_rfl); go_simp; simp only [extUpon_enter]; (first | refine (node_any x dt y _ HDL.out HYL.out HX.out).mono ?_ | refine (swapped_any x dt y _ HDL.out HYL.out HX.out).mono ?_); rintro e w' ⟨rfl, hb⟩; exact ⟨_, rfl, hb, rfl⟩); (intro ak hak; simp only [Act.put, List.setIfInBounds_toArray, List.set_cons_succ, List.set_cons_zero] at hak; subst hak))
              (apply wpZ_nil; intro wq hE hG)
              have HYQ := Lib.hid (HYD.out.ext (ExtW.of_drew hE))
              have HBQ : Hid (Below gd w4 wq) := Lib.hid (Below.trans HB7.out ((ExtW.of_drew hE).mono (Nat.le_of_lt HYD.out.lt)))
              clear hE hG
              have HUE := HUS.out
              unfold T.stepD at HUE
              simp only [if_true, Bool.false_eq_true, if_false] at HUE
              obtain ⟨dn, hdn⟩ : ∃ d, d = T.upD (bitsN x) ups path leaf (t + 1) := ⟨_, rfl⟩
              rw [← hdn] at HUE
              rw [← HUE]
              have HS : Hid ((bvs dn).toArray.size = 32) := Lib.hid (dg_size (by rw [hdn]; exact T.upD_len _ _ _ _ _))
              have HDN := Lib.hid hdn
              have HDS : Hid ((bvs dt).toArray.size = 32) := Lib.hid (dg_size HDL.out)
              clear HUE hdn
              unfold dgV
              go_wp2_with (refine wpList_st rfl rfl ?_; refine ⟨gd, _, _, _, rfl, rfl, HYQ.out, by rw [HS.out]; kernel_rfl, HDS.out.trans HS.out.symm, dg_one _, ?_⟩)
              go_roundw
              case rel => exact ⟨t + 1, by simp, hlt, Lib.hid (by rw [← HDN.out]; exact HYQ.out.setRow _), Lib.hid (below_setRow HBQ.out (Nat.le_refl _) _)⟩
              case measure => simp [intOf]; omega
          · obtain rfl : t = pn := by omega
            have HFIN := Lib.hid (T.upD_all (bitsN x) (ups := ups) (path := path) leaf (by rw [HPN.out, ← HUN.out]))
            rw [← HUN.out] at HFIN
            have HBE : Hid (ExtW w4 wr) := Lib.hid (by have h := HB.out; rw [HGD.out] at h; exact h)
            have HRR := Lib.hid (HR4.out.ext HBE.out)
            obtain ⟨dt, hdt⟩ : ∃ d, d = T.upD (bitsN x) ups path leaf t := ⟨_, rfl⟩
            have hdl : dt.length = 32 := by rw [hdt]; exact T.upD_len _ _ _ _ _
            rw [← hdt] at HY HFIN
            have HSD : Hid ((bvs dt).toArray.size = 32) := Lib.hid (dg_size hdl)
            have HSR : Hid ((bvs root).toArray.size = 32) := Lib.hid (dg_size HRL.out)
            have heq := eq_dg dt root hdl HRL.out
            have HRES : Hid (T.takesD (bitsN x) root cn j0 leaf path = decide (dt = root)) := Lib.hid (by unfold T.takesD; rw [HUP.out, HPN.out, ← HUN.out, ← HFIN.out]; simp)
            have HEE := Lib.hid (ExtW.trans HE2.out (ExtW.trans HE4.out HBE.out))
            clear hdt hdl
            go_wp2_with (refine wpList_ld rfl rfl ?_; first | refine ⟨gd, _, _, _, rfl, HY.out, Try.underlying45, rfl, by rw [HSD.out]; kernel_rfl, ?_⟩ | refine ⟨gr, _, _, _, rfl, HRR.out, Try.underlying45, rfl, by rw [HSR.out]; kernel_rfl, ?_⟩)
            go_ret
            exact ⟨by rw [HRES.out]; rfl, HEE.out⟩
      · have hli : ((pn : Int) == (un : Int)) = false := by rw [beq_eq_false_iff_ne]; omega
        have hli2 : ((pn : Int) != (un : Int)) = true := by rw [bne_iff_ne]; omega
        have HF : Hid (T.takesD (bitsN x) root cn j0 leaf path = false) := Lib.hid (by unfold T.takesD; rw [HUP.out, HPN.out, ← HUN.out, decide_eq_false hlen]; rfl)
        go_wp2
        go_ret
        exact ⟨by rw [HF.out]; rfl, ExtW.trans HE2.out HEW.out⟩

theorem mcheck_anyB (x : Int) (hx : -9223372036854775808 ≤ x ∧ x ≤ 9223372036854775807) (root : List UInt8) (hroot : root.length = 32) (cn i : Int) (hcn : cn ≤ 9223372036854775807)
    (LA : Option Addr) (ln lc : Nat) (leaf : List UInt8) (PA : Option Addr) (pn pc : Nat) (path : List (List UInt8)) (w : World) (hl : Rd w LA ln lc 1 (bvs leaf)) (hln : ln ≤ 140737488351232) (hp : Dls w PA pn pc path) :
    Calls Try.prog 23 #[.agg #[.int .i64 x], dgV root, .int .i64 cn, .int .i64 i, .slice LA ln lc, .slice PA pn pc] w fun e w' => e = .returned (.bool (T.checkD (bitsN x) root cn i leaf path)) ∧ ExtW w w' := by
  by_cases h : i < 0 ∨ cn ≤ i
  · have e : T.checkD (bitsN x) root cn i leaf path = false := by unfold T.checkD; rw [if_pos h]
    rw [e]
    exact mcheck_no x root hroot cn i _ _ w h
  · obtain ⟨k, rfl⟩ : ∃ k : Nat, cn = (k : Int) := ⟨cn.toNat, by omega⟩
    obtain ⟨j, rfl⟩ : ∃ j : Nat, i = (j : Int) := ⟨i.toNat, by omega⟩
    have e : T.checkD (bitsN x) root (k : Int) (j : Int) leaf path = T.takesD (bitsN x) root k j leaf path := by unfold T.checkD T.takesD; rw [if_neg h, Int.toNat_natCast, Int.toNat_natCast]
    rw [e]
    exact mcheck_inB x hx root hroot k j (by omega) (by omega) LA ln lc leaf PA pn pc path w hl hln hp

set_option maxHeartbeats 4000000 in
set_option maxRecDepth 100000 in
theorem leafText_anyB (A : Option Addr) (n c : Nat) (xs : List UInt8) (w : World) (hx : Rd w A n c 1 (bvs xs)) (hn : n ≤ 140737488351232) :
    Calls Try.prog 31 #[.slice A n c] w fun e w' => ∃ v, e = .returned v ∧ BytesF (1 + n) (T.ltx xs) v w' ∧ ExtW w w' := by
  obtain ⟨i0, hi, hz0, hz1, hz2⟩ := info_parts infoB
  have HX := Lib.hid hx
  have HO : Hid ((w.alloc (.cells #[.int .u8 (((0 : UInt8).toNat : Nat) : Int)] 5)).ownsRow w.heap.size 5 1 (.slice (some ⟨w.heap.size, 0, none⟩) 1 1) 1 (bvs [0])) := Lib.hid (own1 w 0)
  have HE : Hid (ExtW w (w.alloc (.cells #[.int .u8 (((0 : UInt8).toNat : Nat) : Int)] 5))) := Lib.hid ((Below.refl _ _).alloc (Nat.le_refl _) _)
  clear hx
  go_enter Try.func31, Try.ntmps31
  go_wp2_with (at_builtin; refine wpList_append_appd _ rfl _ _ 23 rfl w.heap.size 5 i0 _ 1 1 Try.underlying23 hi hz0 hz1 hz2 rfl (by omega) _ 1 (bvs [0]) rfl (.inr HO.out) A n c (bvs xs) rfl (HX.out.below HE.out (Nat.le_refl _)) (bvs_one _) (by simp [maxLen]; omega) (by omega) HE.out.size (.inl HO.out) ?_; intro v' w' ho' hb' _; have HO' := Lib.hid ho'; have HB' := Lib.hid hb'; clear ho' hb')
  go_ret
  refine ⟨_, rfl, ?_, Below.trans HE.out HB'.out⟩
  obtain ⟨A', c', e, hrd, _⟩ := Rd.of_own HO'.out
  rw [← bvs_app] at hrd
  exact ⟨A', c', e, hrd⟩

set_option maxHeartbeats 4000000 in
set_option maxRecDepth 100000 in
theorem leafC_anyB (gl gs : Nat) (A : Option Addr) (n c : Nat) (xs : List UInt8) (B : Option Addr) (m d : Nat) (ys : List UInt8) (w : World) (hgl : Row w gl 23 [.slice A n c]) (hgs : Row w gs 22 [.slice B m d])
    (hx : Rd w A n c 1 (bvs xs)) (hn : n ≤ 140737488351232) (hl : Bss w B m d [ys]) (hlv : ys.length ≤ 1000000) :
    Calls Try.prog 29 #[.pointer (some ⟨gl, 0, none⟩), .pointer (some ⟨gs, 0, none⟩)] w (DiffPost (T.diff1 [(T.ltx xs, T.ltx ys)]) w) := by
  have hm : m = 1 := hl.len.symm
  subst hm
  cases hB : B with
  | none => have h1 := hl.nil0 hB; have h2 := hl.nc; omega
  | some b =>
  subst hB
  obtain ⟨D, q, dd, hcell, hrd⟩ := hl.row b rfl 0 ys rfl
  rw [show b.add 0 = b by unfold Addr.add; simp] at hcell
  have HM : Hid (q ≤ 1000000) := Lib.hid (by have h2 := hrd.len; rw [bvs_len] at h2; omega)
  have HX := Lib.hid hx
  have HN := Lib.hid hn
  have HGL := Lib.hid (hgl.cell (j := 0) rfl)
  have HGS := Lib.hid (hgs.cell (j := 0) rfl)
  have HC := Lib.hid hcell
  have HRD := Lib.hid hrd
  clear hgl hgs hx hn hl hlv hcell hrd
  go_enter Try.func29, Try.ntmps29
  apply wp_region_ext_tail 6 _ (by kernel_rfl) (by kernel_rfl)
  simp only [List.take_succ_cons, List.take_zero, List.drop_succ_cons, List.drop_zero]
  (apply wpZ_det; (intro wq hE hG; have kk := (ExtW.of_drew hE).cellAt HGL.out; apply obl_val (by rfl); go_simp <;> rfl); (intro ak hak; simp only [Act.put, List.setIfInBounds_toArray, List.set_cons_succ, List.set_cons_zero] at hak; subst hak))
  apply wpZ_nd (BytesF (1 + n) (T.ltx xs)) (BytesF.mono _ _)
  · intro wq hE hG
    apply obl_on (by kernel_rfl)
    go_simp
    simp only [extUpon_enter]
    refine (leafText_anyB A n c xs _ (HX.out.below (ExtW.of_drew hE) (Nat.le_refl _)) (Nat.le_trans HN.out (by decide))).mono ?_
    rintro e w' ⟨v, rfl, ho, hb⟩
    exact ⟨v, rfl, hb, ho⟩
  (intro u ak hak; simp only [Act.put, List.setIfInBounds_toArray, List.set_cons_succ, List.set_cons_zero] at hak; subst hak)
  (apply wpZ_det; (intro wq hE hG; have kk := (ExtW.of_drew hE).cellAt HGS.out; apply obl_val (by rfl); go_simp <;> rfl); (intro ak hak; simp only [Act.put, List.setIfInBounds_toArray, List.set_cons_succ, List.set_cons_zero] at hak; subst hak))
  (apply wpZ_det; (intro wq hE hG; first | exact obl_non (by rfl) | (apply obl_val (by rfl); go_simp <;> rfl)); (intro ak hak; simp only [Act.put, List.setIfInBounds_toArray, List.set_cons_succ, List.set_cons_zero] at hak; subst hak))
  (apply wpZ_det; (intro wq hE hG; have kk := (ExtW.of_drew hE).cellAt HC.out; apply obl_val (by rfl); go_simp <;> rfl); (intro ak hak; simp only [Act.put, List.setIfInBounds_toArray, List.set_cons_succ, List.set_cons_zero] at hak; subst hak))
  apply wpZ_nd (BytesF (1 + q) (T.ltx ys)) (BytesF.mono _ _)
  · intro wq hE hG
    apply obl_on (by kernel_rfl)
    go_simp
    simp only [extUpon_enter]
    refine (leafText_anyB D q dd ys _ (HRD.out.below (ExtW.of_drew hE) (Nat.le_refl _)) (Nat.le_trans HM.out (by decide))).mono ?_
    rintro e w' ⟨v, rfl, ho, hb⟩
    exact ⟨v, rfl, hb, ho⟩
  (intro u2 ak hak; simp only [Act.put, List.setIfInBounds_toArray, List.set_cons_succ, List.set_cons_zero] at hak; subst hak)
  (apply wpZ_nil; intro wq hE hG)
  obtain ⟨A1, c1, rfl, h1⟩ : BytesF (1 + n) (T.ltx xs) u wq := hG _ (List.mem_cons_of_mem _ (List.mem_cons_self ..))
  obtain ⟨B1, d1, rfl, h2⟩ : BytesF (1 + q) (T.ltx ys) u2 wq := hG _ (List.mem_cons_self ..)
  have H1 := Lib.hid h1
  have H2 := Lib.hid h2
  have HE := Lib.hid (ExtW.of_drew hE)
  clear hE hG h1 h2
  go_wp2_with fail
  refine (compare_any A1 _ c1 _ B1 _ d1 _ wq H1.out H2.out).mono ?_
  intro e w1 h
  have HD := Lib.hid (h.up HE.out)
  rcases h.two with ⟨_, rfl⟩ | ⟨p, ch, _, rfl⟩
  · clear h
    go_wp2
    go_end0
    exact HD.out
  · exact ⟨rfl, HD.out⟩

set_option maxHeartbeats 40000000 in
set_option maxRecDepth 100000 in
theorem up_anyB (x : Int) (hx : -9223372036854775808 ≤ x ∧ x ≤ 9223372036854775807) (wb : World) (gt gl gu : Nat) (LA : Option Addr) (ln lc : Nat) (leaf : List UInt8)
    (hgt : wb.cell? ⟨gt, 0, none⟩ = some (.int .i64 x)) (hgl : Row wb gl 23 [.slice LA ln lc]) (hgu : wb.cell? ⟨gu, 0, none⟩ = some (upV gt gl gu)) (hlf : Rd wb LA ln lc 1 (bvs leaf)) (hln : ln ≤ 140737488351232) :
    ∀ (N : Nat) (A : Option Addr) (n c : Nat) (l : List (List UInt8)) (i : Nat) (PA : Option Addr) (pn pc : Nat) (path : List (List UInt8)) (w : World), n < N → n ≤ 1000000 → i < n → Bss wb A n c l → Lv l → Dls wb PA pn pc path → path.length = (T.downs n i).length →
    ExtW wb w →
    Calls Try.prog 27 #[.slice A n c, .int .i64 (i : Int), .slice PA pn pc, .pointer (some ⟨gt, 0, none⟩), .pointer (some ⟨gl, 0, none⟩), .pointer (some ⟨gu, 0, none⟩)] w (UpPost (T.pairsD (bitsN x) leaf l i path) (Sb wb.heap.size w.heap.size) w) := by
  have HX := Lib.hid hx
  have HGT := Lib.hid hgt
  have HGL := Lib.hid hgl
  have HGU := Lib.hid hgu
  have HLF := Lib.hid hlf
  have HLN := Lib.hid hln
  have hmf : ∀ (fn : Fn) (first cap : Array Value) (w : World), (Instr.makeFunc fn first cap).run Try.prog w = .ok (.func fn first cap) w := fun _ _ _ _ => rfl
  clear hx hgt hgl hgu hlf hln
  intro N
  induction N with
  | zero => intro A n c l i PA pn pc path w h; omega
  | succ N ih =>
    intro A n c l i PA pn pc path w hnN hnb hin hr hlv hp hpl hwb
    have hS : ∀ k, Sb wb.heap.size w.heap.size k → wb.heap.size ≤ k ∧ k < w.heap.size := fun k hk => hk
    generalize Sb wb.heap.size w.heap.size = S at hS ⊢
    have hnc := hr.nc
    have HR := Lib.hid hr
    have HV := Lib.hid hlv
    have HLL := Lib.hid hr.len
    have HP := Lib.hid hp
    have HPL := Lib.hid hp.len
    have HPD := Lib.hid hpl
    have HWB := Lib.hid hwb
    have HS := Lib.hid hS
    have hB0 : Row (w.alloc (.cells #[.slice A n c] 22)) w.heap.size 22 [.slice A n c] := heap_alloc_last _ _
    have HB0 := Lib.hid hB0
    have HE0 : Hid (ExtW w (w.alloc (.cells #[.slice A n c] 22))) := Lib.hid ((Below.refl _ _).alloc (Nat.le_refl _) _)
    clear hr hlv hp hpl hwb hS hB0
    go_enter Try.func27, Try.ntmps27
    go_upto_region 1 with (refine wpList_newD rfl rfl ?_)
    have HA : Hid ((w.alloc (.cells #[.slice A n c] 22)).heap.size = w.heap.size + 1) := Lib.hid (by simp)
    generalize w.alloc (.cells #[.slice A n c] 22) = w1 at HB0 HE0 HA ⊢
    have HD1 := Lib.hid (zDig_row w1)
    have HE1 : Hid (ExtW w1 (w1.alloc (.cells zDig 45))) := Lib.hid ((Below.refl _ _).alloc (Nat.le_refl _) _)
    rw [HA.out] at HD1
    generalize w1.alloc (.cells zDig 45) = w2 at HD1 HE1 ⊢
    have HB2 := Lib.hid (HB0.out.ext HE1.out)
    have HE2 := Lib.hid (ExtW.trans HE0.out HE1.out)
    have HW2 := Lib.hid (ExtW.trans HWB.out HE2.out)
    obtain ⟨gs, hgs⟩ : ∃ g, g = w.heap.size := ⟨_, rfl⟩
    obtain ⟨gd, hgd⟩ : ∃ g, g = w.heap.size + 1 := ⟨_, rfl⟩
    have HG : Hid (gs = w.heap.size ∧ gd = w.heap.size + 1 ∧ gd < w2.heap.size ∧ wb.heap.size ≤ gs) := Lib.hid ⟨hgs, hgd, by rw [hgd]; exact HD1.out.lt, by rw [hgs]; exact HWB.out.size⟩
    rw [← hgs] at HB2
    rw [← hgd] at HD1
    rw [← hgd, ← hgs]
    clear hgs hgd HB0 HE0 HE1 HA
    have k1 := HB2.out.cell (j := 0) rfl
    by_cases h1 : n = 1
    · subst h1
      obtain ⟨y, hy⟩ : ∃ y, l = [y] := List.length_eq_one_iff.1 HLL.out
      have HY := Lib.hid hy
      have HYL : Hid (y.length ≤ 1000000) := Lib.hid (HV.out y (by rw [hy]; exact List.mem_cons_self ..))
      have HPO : Hid (T.pairsD (bitsN x) leaf l i path = ([(T.ltx leaf, T.ltx y)], T.leafD (bitsN x) leaf)) := Lib.hid (by rw [T.pairsD_one _ _ (by rw [hy]; exact Nat.le_refl 1), hy, T.texD_one])
      clear hy
      have k2 := HW2.out.cellAt HGT.out
      have k3 := (HGL.out.ext HW2.out).cell (j := 0) rfl
      go_wp2_with fail
      refine (leaf_anyB x LA ln lc leaf _ (HLF.out.below HW2.out (Nat.le_refl _)) (Nat.le_trans HLN.out (by decide)) HX.out).mono ?_
      rintro e w3 ⟨rfl, hb⟩
      have HD3 := Lib.hid (HD1.out.ext hb)
      have HB3 := Lib.hid (HB2.out.ext hb)
      have HE3 := Lib.hid (ExtW.trans HE2.out hb)
      obtain ⟨fv, hfv⟩ : ∃ f, f = Value.func (.func 29) #[] #[.pointer (some ⟨gl, 0, none⟩), .pointer (some ⟨gs, 0, none⟩)] := ⟨_, rfl⟩
      have HW4 : Hid (ExtW w (w3.alloc (.cells #[fv] 1))) := Lib.hid (ExtW.trans HE3.out ((Below.refl _ _).alloc (Nat.le_refl _) _))
      have HF4 : Hid (Row (w3.alloc (.cells #[fv] 1)) w3.heap.size 1 [fv]) := Lib.hid (heap_alloc_last _ _)
      have HD4 := Lib.hid (HD3.out.ext ((Below.refl _ w3).alloc (Nat.le_refl _) (.cells #[fv] 1)))
      have HB4 := Lib.hid (HB3.out.ext ((Below.refl _ w3).alloc (Nat.le_refl _) (.cells #[fv] 1)))
      have HG4 : Hid (gd ≠ w3.heap.size ∧ gs ≠ w3.heap.size ∧ gs ≠ gd ∧ w.heap.size ≤ w3.heap.size) := Lib.hid (by have h1 := HD3.out.lt; have h2 := HB3.out.lt; have h3 := HG.out; have h4 := HE3.out.size; omega)
      have HOWN : Hid (∀ ds, OwnCl S w.heap.size [(T.ltx leaf, T.ltx y)] (.slice (some ⟨w3.heap.size, 0, none⟩) 1 1) ((w3.alloc (.cells #[fv] 1)).setRow gd ds)) := Lib.hid fun ds =>
        OwnCl.one S HG4.out.2.2.2 (HF4.out.setNew (fun e => HG4.out.1 e.symm) ds) ⟨_, _, hfv, fun _ => by kernel_rfl, fun W hW => by
          have hE : ExtW wb W := Below.trans (below_setRow (ExtW.trans HWB.out HW4.out) (by have := HG.out; omega) ds) (hW.below (by
            rintro k (hk | rfl)
            · exact (HS.out k hk).1
            · exact Nat.le_trans HWB.out.size HG4.out.2.2.2) (by rw [setRow_size]; exact (ExtW.trans HWB.out HW4.out).size))
          refine leafC_anyB gl gs LA ln lc leaf A 1 c y W (HGL.out.ext hE) (hW.row (HB4.out.setNew HG4.out.2.2.1 ds) ?_) (HLF.out.below hE (Nat.le_refl _)) HLN.out (by have h := HR.out.same hE; rw [HY.out] at h; exact h) HYL.out
          rintro (hk | e)
          · have h1 := (HS.out gs hk).2
            have h2 := HG.out
            omega
          · exact HG4.out.2.1 e⟩
      subst hfv
      clear hb k1 k2 k3
      obtain ⟨d, hd⟩ : ∃ d, d = T.leafD (bitsN x) leaf := ⟨_, rfl⟩
      have HS : Hid ((bvs d).toArray.size = 32) := Lib.hid (dg_size (by rw [hd]; exact T.leafD_len _ _))
      have HDL : Hid (d = T.leafD (bitsN x) leaf) := Lib.hid hd
      rw [← hd]
      clear hd
      unfold dgV
      go_wp2_with (refine wpList_st rfl rfl ?_; refine ⟨gd, _, _, _, rfl, rfl, HD4.out, by rw [HS.out]; kernel_rfl, Eq.trans (show (bvs (List.replicate 32 0)).toArray.size = 32 from rfl) HS.out.symm, dg_one _, ?_⟩)
      (try simp only [Exit.inBlock, Exit.then])
      have hld := run_loadVar_row (P := Try.prog) ((w3.alloc (.cells #[.func (.func 29) #[] #[.pointer (some ⟨gl, 0, none⟩), .pointer (some ⟨gs, 0, none⟩)]] 1)).setRow gd (bvs d).toArray) gd 45 45 (bvs d).toArray (0, 0) _ (Row.setRow HD4.out (bvs d)) Try.underlying45 rfl (by rw [HS.out]; kernel_rfl)
      refine bodyPost_ret (results_ct rfl _ _ _ rfl hld) rfl ?_
      exact (by unfold UpPost; rw [HPO.out, ← HDL.out]; exact ⟨_, rfl, HOWN.out _, below_setRow HW4.out (by have := HG.out; omega) _⟩)
    have h2 : 2 ≤ n := by omega
    obtain ⟨k, hk⟩ : ∃ k, k = T.half n := ⟨_, rfl⟩
    have hhl := T.half_lt h2
    rw [← hk] at hhl
    have HK := Lib.hid hk
    have hcl : k ≤ n := by omega
    obtain ⟨y, hy, hym⟩ := T.path_last h2 HPD.out
    rw [HPL.out] at hy
    have hpn : 0 < pn := by
      have h3 := (List.getElem?_eq_some_iff.1 hy).1
      rw [HPL.out] at h3
      omega
    have hpm : pn ≤ pc ∧ pn ≤ 9223372036854775807 := by have h1 := HP.out.rd.nc; have h2 := HP.out.rd.cm; unfold maxLen at h2; omega
    have HYL : Hid (y.length = 32) := Lib.hid (HP.out.all y hym)
    have HY := Lib.hid hy
    obtain ⟨pa, hpa⟩ := HP.out.addr hpn
    subst hpa
    have hne1 : ((n : Int) == 1) = false := by rw [beq_eq_false_iff_ne]; omega
    clear hk hym
    go_upto_region 3 with (fail)
    clear hne1 k1
    have hb1 : ((pn - 1 : Nat) : Int) < (pn : Int) := by omega
    apply wp_region_ext_tail 11 _ (by kernel_rfl) (by kernel_rfl)
    simp only [List.take_succ_cons, List.take_zero, List.drop_succ_cons, List.drop_zero]
    (apply wpZ_det; (intro wq hE hG; have kk := (ExtW.of_drew hE).cellAt (HB2.out.cell (j := 0) rfl); apply obl_val (by rfl); go_simp <;> rfl); (intro ak hak; simp only [Act.put, List.setIfInBounds_toArray, List.set_cons_succ, List.set_cons_zero] at hak; subst hak))
    (apply wpZ_det; (intro wq hE hG; first | exact obl_non (by rfl) | (apply obl_val (by rfl); go_simp <;> rfl)); (intro ak hak; simp only [Act.put, List.setIfInBounds_toArray, List.set_cons_succ, List.set_cons_zero] at hak; subst hak))
    (apply wpZ_det (c := .int .i64 (k : Nat)); (intro wq hE hG; apply obl_on (by kernel_rfl); go_simp; simp only [extUpon_enter]; refine (chalf_ext n _ ⟨by omega, by omega⟩).mono ?_; rintro e w' ⟨rfl, hb⟩; exact ⟨_, rfl, hb, by rw [HK.out]⟩); (intro ak hak; simp only [Act.put, List.setIfInBounds_toArray, List.set_cons_succ, List.set_cons_zero] at hak; subst hak))
    iterate 3 (apply wpZ_det; (intro wq hE hG; first | exact obl_non (by rfl) | (apply obl_val (by rfl); go_simp <;> rfl)); (intro ak hak; simp only [Act.put, List.setIfInBounds_toArray, List.set_cons_succ, List.set_cons_zero] at hak; subst hak))
    (apply wpZ_det (c := .int .i64 ((pn - 1 : Nat) : Int)); (intro wq hE hG; exact obl_same (by rfl) (by go_simp <;> rfl) (by first | rfl | (apply int_eq; omega) | (apply int_eq; rw [IntWalk.i64_in _ (by omega)]; omega) | (apply int_eq; simp; omega))); (intro ak hak; simp only [Act.put, List.setIfInBounds_toArray, List.set_cons_succ, List.set_cons_zero] at hak; subst hak))
    (apply wpZ_det; (intro wq hE hG; first | exact obl_non (by rfl) | (apply obl_val (by rfl); go_simp <;> rfl)); (intro ak hak; simp only [Act.put, List.setIfInBounds_toArray, List.set_cons_succ, List.set_cons_zero] at hak; subst hak))
    (apply wpZ_det; (intro wq hE hG; exact obl_ldA (by rfl) rfl (by rfl) (((HP.out.same HW2.out).same (ExtW.of_drew hE)).load hy)); (intro ak hak; simp only [Act.put, List.setIfInBounds_toArray, List.set_cons_succ, List.set_cons_zero] at hak; subst hak))
    (apply wpZ_nd (NewD w2.heap.size) (NewD.mono _); (intro wq hE hG; exact obl_newD (by kernel_rfl) rfl (ExtW.of_drew hE).size); (intro u9 ak hak; simp only [Act.put, List.setIfInBounds_toArray, List.set_cons_succ, List.set_cons_zero] at hak; subst hak))
    (apply wpZ_det; (intro wq hE hG; first | exact obl_non (by rfl) | (apply obl_val (by rfl); go_simp <;> rfl)); (intro ak hak; simp only [Act.put, List.setIfInBounds_toArray, List.set_cons_succ, List.set_cons_zero] at hak; subst hak))
    (apply wpZ_nil; intro wq hE hG)
    obtain ⟨gy, rfl, hgy, hry⟩ : NewD w2.heap.size u9 wq := hG _ (List.mem_cons_self ..)
    have HGY := Lib.hid hgy
    have HRY := Lib.hid hry
    have HEQ := Lib.hid (ExtW.of_drew hE)
    clear hG hE hgy hry hb1
    have hs1 : IntKind.i64.wrap ((pn : Int) - 1) = ((pn - 1 : Nat) : Int) := by rw [IntWalk.i64_in _ (by omega)]; omega
    have hrt := run_takeD (some pa) pn pc (pn - 1) (by omega) hpm.1
    go_upto_region 5 with (refine wpList_newst rfl rfl rfl HYL.out (d0 := List.replicate 32 0) rfl rfl rfl HRY.out ?_)
    have HY3 := Lib.hid (HRY.out.setRow (bvs y))
    have HE3 : Hid (ExtW w2 (wq.setRow gy (bvs y).toArray)) := Lib.hid (below_setRow HEQ.out HGY.out _)
    clear hs1 hrt HRY
    generalize wq.setRow gy (bvs y).toArray = w3 at HY3 HE3 ⊢
    have HW3 := Lib.hid (ExtW.trans HW2.out HE3.out)
    have HGT3 := Lib.hid (HW3.out.cellAt HGT.out)
    have HB3 := Lib.hid (HB2.out.ext HE3.out)
    have hrt := run_takeA A n c k hcl hnc
    have hrd := run_dropA A n c k hcl hnc
    have HBT := Lib.hid ((HR.out.take hcl).same HW3.out)
    have HBD := Lib.hid ((HR.out.dropA hcl).same HW3.out)
    apply wp_region_ext_tail2 12 10 11 _ (by kernel_rfl) (by kernel_rfl)
    simp only [List.take_succ_cons, List.take_zero, List.drop_succ_cons, List.drop_zero]
    (apply wpZ_det; (intro wq hE hG; have kk := (ExtW.of_drew hE).cellAt HGT3.out; apply obl_val (by rfl); go_simp <;> rfl); (intro ak hak; simp only [Act.put, List.setIfInBounds_toArray, List.set_cons_succ, List.set_cons_zero] at hak; subst hak))
    (apply wpZ_det; (intro wq hE hG; have kk := (ExtW.of_drew hE).cellAt (HB3.out.cell (j := 0) rfl); apply obl_val (by rfl); go_simp <;> rfl); (intro ak hak; simp only [Act.put, List.setIfInBounds_toArray, List.set_cons_succ, List.set_cons_zero] at hak; subst hak))
    iterate 2 (apply wpZ_det; (intro wq hE hG; first | exact obl_non (by rfl) | (apply obl_val (by rfl); go_simp <;> rfl)); (intro ak hak; simp only [Act.put, List.setIfInBounds_toArray, List.set_cons_succ, List.set_cons_zero] at hak; subst hak))
    (apply wpZ_det; (intro wq hE hG; apply obl_on (by kernel_rfl); go_simp; simp only [extUpon_enter]; refine (root_any x HX.out (n + 1) _ k c _ _ (by omega) (HBT.out.same (ExtW.of_drew hE)) (HV.out.take k)).mono ?_; rintro e w' ⟨rfl, hb⟩; exact ⟨_, rfl, hb, rfl⟩); (intro ak hak; simp only [Act.put, List.setIfInBounds_toArray, List.set_cons_succ, List.set_cons_zero] at hak; subst hak))
    (apply wpZ_det; (intro wq hE hG; have kk := (ExtW.of_drew hE).cellAt HGT3.out; apply obl_val (by rfl); go_simp <;> rfl); (intro ak hak; simp only [Act.put, List.setIfInBounds_toArray, List.set_cons_succ, List.set_cons_zero] at hak; subst hak))
    (apply wpZ_det; (intro wq hE hG; have kk := (ExtW.of_drew hE).cellAt (HB3.out.cell (j := 0) rfl); apply obl_val (by rfl); go_simp <;> rfl); (intro ak hak; simp only [Act.put, List.setIfInBounds_toArray, List.set_cons_succ, List.set_cons_zero] at hak; subst hak))
    iterate 2 (apply wpZ_det; (intro wq hE hG; first | exact obl_non (by rfl) | (apply obl_val (by rfl); go_simp <;> rfl)); (intro ak hak; simp only [Act.put, List.setIfInBounds_toArray, List.set_cons_succ, List.set_cons_zero] at hak; subst hak))
    (apply wpZ_det; (intro wq hE hG; apply obl_on (by kernel_rfl); go_simp; simp only [extUpon_enter]; refine (root_any x HX.out (n + 1) _ (n - k) (c - k) _ _ (by omega) (HBD.out.same (ExtW.of_drew hE)) (HV.out.drop k)).mono ?_; rintro e w' ⟨rfl, hb⟩; exact ⟨_, rfl, hb, rfl⟩); (intro ak hak; simp only [Act.put, List.setIfInBounds_toArray, List.set_cons_succ, List.set_cons_zero] at hak; subst hak))
    (apply wpZ_nd (NewD w3.heap.size) (NewD.mono _); (intro wq hE hG; exact obl_newD (by kernel_rfl) rfl (ExtW.of_drew hE).size); (intro u10 ak hak; simp only [Act.put, List.setIfInBounds_toArray, List.set_cons_succ, List.set_cons_zero] at hak; subst hak))
    (apply wpZ_nd (NewD w3.heap.size) (NewD.mono _); (intro wq hE hG; exact obl_newD (by kernel_rfl) rfl (ExtW.of_drew hE).size); (intro u11 ak hak; simp only [Act.put, List.setIfInBounds_toArray, List.set_cons_succ, List.set_cons_zero] at hak; subst hak))
    (apply wpZ_nil; intro wq hE hG)
    intro hap
    obtain ⟨ga, rfl, hga, hra⟩ : NewD w3.heap.size u10 wq := hG _ (List.mem_cons_of_mem _ (List.mem_cons_self ..))
    obtain ⟨gb, rfl, hgb, hrb⟩ : NewD w3.heap.size u11 wq := hG _ (List.mem_cons_self ..)
    have hab : ga ≠ gb := by
      rintro rfl
      exact hap _ _ _ _ _ rfl rfl rfl rfl rfl rfl
    have HGA : Hid (w3.heap.size ≤ ga ∧ w3.heap.size ≤ gb ∧ ga ≠ gb) := Lib.hid ⟨hga, hgb, hab⟩
    have HRA := Lib.hid hra
    have HRB := Lib.hid hrb
    have HEQ5 := Lib.hid (ExtW.of_drew hE)
    have HTX := Lib.hid (T.texD_more (bitsN x) HLL.out h2 HK.out)
    obtain ⟨da, hda⟩ : ∃ d, d = T.rootD (bitsN x) (l.take k) := ⟨_, rfl⟩
    obtain ⟨db, hdb⟩ : ∃ d, d = T.rootD (bitsN x) (l.drop k) := ⟨_, rfl⟩
    have HLA : Hid (da.length = 32) := Lib.hid (by rw [hda]; exact T.rootD_len _ _)
    have HLB : Hid (db.length = 32) := Lib.hid (by rw [hdb]; exact T.rootD_len _ _)
    rw [← hda, ← hdb] at HTX ⊢
    clear hda hdb hap hG hE hga hgb hra hrb hab hrt hrd HBT HBD
    go_upto_region 6 with (first
      | (refine wpList_newst rfl rfl rfl HLA.out (d0 := List.replicate 32 0) rfl rfl rfl HRA.out ?_)
      | (refine wpList_newst rfl rfl rfl HLB.out (d0 := List.replicate 32 0) rfl rfl rfl (HRB.out.setNew (fun e => HGA.out.2.2 e.symm) _) ?_))
    have HAA5 := Lib.hid ((HRA.out.setRow (bvs da)).setNew HGA.out.2.2 (bvs db).toArray)
    have HBB5 := Lib.hid ((HRB.out.setNew (fun e => HGA.out.2.2 e.symm) (bvs da).toArray).setRow (bvs db))
    have HE5 : Hid (ExtW w3 ((wq.setRow ga (bvs da).toArray).setRow gb (bvs db).toArray)) := Lib.hid (below_setRow (below_setRow HEQ5.out HGA.out.1 _) HGA.out.2.1 _)
    clear HRA HRB HEQ5
    generalize (wq.setRow ga (bvs da).toArray).setRow gb (bvs db).toArray = w5 at HAA5 HBB5 HE5 ⊢
    have HW5 := Lib.hid (ExtW.trans HW3.out HE5.out)
    have HE25 := Lib.hid (ExtW.trans HE2.out (ExtW.trans HE3.out HE5.out))
    have HGU5 := Lib.hid (HW5.out.cellAt HGU.out)
    have HB5 := Lib.hid (HB3.out.ext HE5.out)
    have HY5 := Lib.hid (HY3.out.ext HE5.out)
    have HD5 := Lib.hid ((HD1.out.ext HE3.out).ext HE5.out)
    have HPT : Hid (Dls wb (some pa) (pn - 1) pc (path.take (pn - 1))) := Lib.hid (HP.out.take (k := pn - 1) (by omega))
    have HGG : Hid (ga < w5.heap.size ∧ gb < w5.heap.size ∧ gy < w5.heap.size ∧ gd < w5.heap.size ∧ w2.heap.size ≤ gy ∧ w2.heap.size ≤ ga ∧ w2.heap.size ≤ gb ∧ gd < w2.heap.size) := Lib.hid ⟨HAA5.out.lt, HBB5.out.lt, HY5.out.lt, HD5.out.lt, HGY.out, Nat.le_trans HE3.out.size HGA.out.1, Nat.le_trans HE3.out.size HGA.out.2.1, HG.out.2.2.1⟩
    clear HGT3 HB3 HY3 HE3 HD1 HB2 HGY
    have hrt := run_takeA A n c k hcl hnc
    have hrd := run_dropA A n c k hcl hnc
    by_cases hik : i < k
    · have hik2 : (i : Int) < (k : Int) := by omega
      have HPO := Lib.hid (T.pairsD_lo (bitsN x) leaf HLL.out h2 HK.out HPL.out HY.out hik)
      have HPS := Lib.hid (T.low_len h2 HK.out hik HPD.out)
      rw [HPL.out] at HPS
      have HBS := Lib.hid (HR.out.take hcl)
      obtain ⟨pq, hpq⟩ : ∃ pq, pq = T.pairsD (bitsN x) leaf (l.take k) i (path.take (pn - 1)) := ⟨_, rfl⟩
      have HPQ := Lib.hid hpq
      have HPQL : Hid (pq.2.length = 32) := Lib.hid (by rw [hpq]; exact T.pairsD_len _ _ _ _ _)
      have HPQN : Hid (pq.1.reverse.length ≤ 1000000) := Lib.hid (by
        rw [List.length_reverse, hpq]
        have h3 := pairs_le (bitsN x) leaf (n + 1) (l.take k) i (path.take (pn - 1)) (by rw [List.length_take, HLL.out]; omega)
        rw [List.length_take, HLL.out] at h3
        omega)
      rw [← hpq, HTX.out] at HPO
      clear hpq
      go_upto_region 7 with (fail)
      apply wp_region_ext_tail4 11 6 10 9 (UpR wb.heap.size w5.heap.size pq) [(7, 6, fun x v => v = x), (9, 7, fun x v => ∃ xs : Array Value, x = .tuple xs ∧ xs[1]? = some v)] _ (by kernel_rfl) (by kernel_rfl) (fun o ho c a w v h => by cases ho; exact h) (fun o ho a w F h => by cases ho; exact yields_extract rfl rfl a w F h)
      simp only [List.take_succ_cons, List.take_zero, List.drop_succ_cons, List.drop_zero]
      (apply wpZ_det; (intro wq hE hG; have kk := (ExtW.of_drew hE).cellAt HGU5.out; unfold upV at kk; apply obl_val (by rfl); go_simp <;> rfl); (intro ak hak; simp only [Act.put, List.setIfInBounds_toArray, List.set_cons_succ, List.set_cons_zero] at hak; subst hak))
      (apply wpZ_det; (intro wq hE hG; have kk := (ExtW.of_drew hE).cellAt (HB5.out.cell (j := 0) rfl); apply obl_val (by rfl); go_simp <;> rfl); (intro ak hak; simp only [Act.put, List.setIfInBounds_toArray, List.set_cons_succ, List.set_cons_zero] at hak; subst hak))
      iterate 4 (apply wpZ_det; (intro wq hE hG; first | exact obl_non (by rfl) | (apply obl_val (by rfl); go_simp <;> rfl)); (intro ak hak; simp only [Act.put, List.setIfInBounds_toArray, List.set_cons_succ, List.set_cons_zero] at hak; subst hak))
      apply wpZ_nd (UpF wb.heap.size w5.heap.size pq) (UpF.mono _ _ _)
      · intro wq hE hG
        apply obl_on (by kernel_rfl)
        go_simp
        simp only [extUpon_enter]
        refine (ih A k c (l.take k) i (some pa) (pn - 1) pc (path.take (pn - 1)) wq (by omega) (by omega) hik HBS.out (HV.out.take k) HPT.out HPS.out (ExtW.trans HW5.out (ExtW.of_drew hE))).mono ?_
        unfold UpPost
        rintro e w' ⟨v, rfl, ho, hb⟩
        rw [← HPQ.out] at ho ⊢
        exact ⟨_, rfl, hb, v, _, _, rfl, (ExtW.of_drew hE).size, hb.size, ho, ExtW.refl _⟩
      (intro uc ak hak; simp only [Act.put, List.setIfInBounds_toArray, List.set_cons_succ, List.set_cons_zero] at hak; subst hak)
      apply wpZ_nd (UpF wb.heap.size w5.heap.size pq) (UpF.mono _ _ _)
      · intro wq hE hG
        have h7 : UpF wb.heap.size w5.heap.size pq uc wq := hG _ (List.mem_cons_self ..) (by kernel_rfl)
        apply obl_on (by kernel_rfl)
        go_simp
        simp only [extUpon_value]
        exact ⟨ExtW.refl _, h7⟩
      (intro um ak hak; simp only [Act.put, List.setIfInBounds_toArray, List.set_cons_succ, List.set_cons_zero] at hak; subst hak)
      apply wpZ_det (c := dgV pq.2)
      · intro wq hE hG
        obtain ⟨v, m, wc, rfl, _⟩ : UpF wb.heap.size w5.heap.size pq um wq := hG _ (List.mem_cons_self ..) (by kernel_rfl)
        exact obl_same (by rfl) (by go_simp <;> rfl) rfl
      (intro ak hak; simp only [Act.put, List.setIfInBounds_toArray, List.set_cons_succ, List.set_cons_zero] at hak; subst hak)
      apply wpZ_nd (fun _ _ => True) (fun _ _ _ _ _ => trivial)
      · intro wq hE hG
        obtain ⟨v, m, wc, rfl, _⟩ : UpF wb.heap.size w5.heap.size pq um wq := hG _ (List.mem_cons_self ..) (by kernel_rfl)
        apply obl_on (by kernel_rfl)
        go_simp
        simp only [extUpon_value]
        exact ⟨ExtW.refl _, trivial⟩
      (intro ux ak hak; simp only [Act.put, List.setIfInBounds_toArray, List.set_cons_succ, List.set_cons_zero] at hak; subst hak)
      (apply wpZ_nd (NewD w5.heap.size) (NewD.mono _); (intro wq hE hG; exact obl_newD (by kernel_rfl) rfl (ExtW.of_drew hE).size); (intro ud ak hak; simp only [Act.put, List.setIfInBounds_toArray, List.set_cons_succ, List.set_cons_zero] at hak; subst hak))
      (apply wpZ_nil; intro wq hE hG)
      intro hfin
      have hR : UpR wb.heap.size w5.heap.size pq uc ud wq := hfin.1 _ _ _ _ _ _ rfl rfl rfl rfl rfl rfl
      have h7 : um = uc := hfin.2 _ (List.mem_cons_self ..) _ _ _ _ _ _ rfl rfl rfl rfl rfl rfl
      have h9 : ∃ xs : Array Value, um = .tuple xs ∧ xs[1]? = some ux := hfin.2 _ (List.mem_cons_of_mem _ (List.mem_cons_self ..)) _ _ _ _ _ _ rfl rfl rfl rfl rfl rfl
      have hnd : NewD w5.heap.size ud wq := hG _ (List.mem_cons_self ..)
      have HEQ := Lib.hid (ExtW.of_drew hE)
      clear hfin hG hE
      subst h7
      obtain ⟨u, m, wc, gn, rfl, rfl, hm0, hmc, hgm, hown, hext⟩ := hR
      obtain ⟨xs, hxs, hx1⟩ := h9
      injection hxs with hxs
      subst hxs
      have hx1 : u = ux := by simpa using hx1
      subst hx1
      obtain ⟨g16, hg16, hge, hrow⟩ := hnd
      injection hg16 with hg16
      injection hg16 with hg16
      injection hg16 with hg16
      subst hg16
      have HOW := Lib.hid hown
      have HEX := Lib.hid hext
      have HM : Hid (w5.heap.size ≤ m ∧ m ≤ wc.heap.size ∧ (gn < m ∨ wc.heap.size ≤ gn) ∧ w5.heap.size ≤ gn) := Lib.hid ⟨hm0, hmc, hgm, hge⟩
      have HRW := Lib.hid hrow
      clear hown hext hm0 hmc hgm hge hrow
      have HOB := Lib.hid HOW.out.own
      go_upto_region 8 with (refine wpList_newst rfl rfl rfl HPQL.out (d0 := List.replicate 32 0) rfl rfl rfl HRW.out ?_)
      have HD8 : Hid (Row (wq.setRow gn (bvs pq.2).toArray) gn 45 (bvs pq.2)) := Lib.hid (HRW.out.setRow _)
      have HE8 : Hid (ExtW w5 (wq.setRow gn (bvs pq.2).toArray)) := Lib.hid (below_setRow HEQ.out HM.out.2.2.2 _)
      have HK8 : Hid (Kp (Sb wb.heap.size m) wc (wq.setRow gn (bvs pq.2).toArray)) := Lib.hid (Kp.set (Kp.of_ext _ HEX.out) (by
        rcases HM.out.2.2.1 with h | h
        · exact .inl ⟨Nat.le_trans HW5.out.size HM.out.2.2.2, h⟩
        · exact .inr h) _)
      generalize wq.setRow gn (bvs pq.2).toArray = w8 at HD8 HE8 HK8 ⊢
      have HOW8 := Lib.hid (HOW.out.kp HK8.out (fun j hj => hj.2))
      have HMS : Hid (m ≤ w8.heap.size) := Lib.hid (Nat.le_trans HM.out.2.1 HK8.out.size)
      have HGT8 := Lib.hid ((ExtW.trans HW5.out HE8.out).cellAt HGT.out)
      have HY8 := Lib.hid (HY5.out.ext HE8.out)
      have HSQ : Hid ((bvs pq.2).toArray.size = 32) := Lib.hid (dg_size HPQL.out)
      have HSY : Hid ((bvs y).toArray.size = 32) := Lib.hid (dg_size HYL.out)
      clear HRW HEQ HOW HEX HK8 hrt hrd
      have k2 := HGT8.out
      go_wp2_with (refine wpList_ld rfl rfl ?_; first | refine ⟨gn, _, _, _, rfl, HD8.out, Try.underlying45, rfl, by rw [HSQ.out]; kernel_rfl, ?_⟩ | refine ⟨gy, _, _, _, rfl, HY8.out, Try.underlying45, rfl, by rw [HSY.out]; kernel_rfl, ?_⟩)
      clear k2
      refine (node_any x pq.2 y _ HPQL.out HYL.out HX.out).mono ?_
      rintro e w9 ⟨rfl, hb⟩
      have HE9 := Lib.hid (ExtW.trans HE8.out hb)
      have HD9 := Lib.hid (HD8.out.ext hb)
      have HY9 := Lib.hid (HY8.out.ext hb)
      have HOW9 := Lib.hid (HOW8.out.ext hb)
      have HMS9 : Hid (m ≤ w9.heap.size) := Lib.hid (Nat.le_trans HMS.out hb.size)
      obtain ⟨fv, hfv⟩ : ∃ f, f = Value.func (.func 34) #[] #[.pointer (some ⟨gn, 0, none⟩), .pointer (some ⟨gy, 0, none⟩), .pointer (some ⟨ga, 0, none⟩), .pointer (some ⟨gb, 0, none⟩)] := ⟨_, rfl⟩
      have HC : Hid ((w9.alloc (.cells #[fv] 1)).cell? ⟨w9.heap.size, 0, none⟩ = some fv) := Lib.hid (cell_new1 _ _ _)
      have HEA : Hid (ExtW w9 (w9.alloc (.cells #[fv] 1))) := Lib.hid ((Below.refl _ _).alloc (Nat.le_refl _) _)
      have HSZ : Hid (w.heap.size ≤ w2.heap.size ∧ w2.heap.size ≤ w5.heap.size ∧ wb.heap.size ≤ w.heap.size) := Lib.hid ⟨HE2.out.size, by have h1 := HGG.out; have h2 := HE25.out.size; exact Nat.le_trans h1.2.2.2.2.1 (Nat.le_of_lt h1.2.2.1), HWB.out.size⟩
      have HO10 : Hid (OwnCl (fun k => S k ∨ k = gd) m pq.1.reverse u (w9.alloc (.cells #[fv] 1))) := Lib.hid ((HOW9.out.ext HEA.out).sub (by
        have h1 := HGG.out
        have h2 := HSZ.out
        have h3 := HM.out
        have h4 := HG.out
        rintro k (hk | rfl)
        · have h5 := HS.out k hk
          exact ⟨h5.1, by omega⟩
        · exact ⟨by omega, by omega⟩))
      have HCL : Hid (Clos (fun k => (S k ∨ k = gd) ∨ u.ownBlock = some k) (w9.alloc (.cells #[fv] 1)) fv (T.ntx pq.2 y, T.ntx da db)) := Lib.hid ⟨_, _, hfv, fun _ => by kernel_rfl, fun W hW => by
        have h1 := HGG.out
        have h2 := HSZ.out
        have h3 := HM.out
        have h9 := hW
        have hni : ∀ g, w2.heap.size ≤ g → (g < w5.heap.size ∨ g = gn) → ¬ ((S g ∨ g = gd) ∨ u.ownBlock = some g) := by
          rintro g hg hg2 ((hk | hk) | hk)
          · have h5 := HS.out g hk
            omega
          · omega
          · have h5 := HOB.out g hk
            rcases hg2 with hg2 | rfl
            · omega
            · omega
        exact loC_any gn gy ga gb pq.2 y da db W HPQL.out HYL.out HLA.out HLB.out (hW.row (HD9.out.ext HEA.out) (hni gn (by omega) (.inr rfl))) (hW.row (HY9.out.ext HEA.out) (hni gy (by omega) (.inl (by omega))))
          (hW.row (HAA5.out.ext (ExtW.trans HE9.out HEA.out)) (hni ga (by omega) (.inl (by omega)))) (hW.row (HBB5.out.ext (ExtW.trans HE9.out HEA.out)) (hni gb (by omega) (.inl (by omega))))⟩
      have HBM : Hid (m ≤ (w9.alloc (.cells #[fv] 1)).heap.size) := Lib.hid (Nat.le_trans HMS9.out HEA.out.size)
      have HDA : Hid (Row (w9.alloc (.cells #[fv] 1)) gd 45 (bvs (List.replicate 32 0))) := Lib.hid (HD5.out.ext (ExtW.trans HE9.out HEA.out))
      have HWA : Hid (ExtW w (w9.alloc (.cells #[fv] 1))) := Lib.hid (ExtW.trans HE25.out (ExtW.trans HE9.out HEA.out))
      subst hfv
      clear hb HOW8 HOW9 HD8 HY8 HMS9
      obtain ⟨d, hd⟩ : ∃ d, d = T.nodeD (bitsN x) pq.2 y := ⟨_, rfl⟩
      have HSD : Hid ((bvs d).toArray.size = 32) := Lib.hid (dg_size (by rw [hd]; exact T.nodeD_len _ _ _))
      have HDL : Hid (d = T.nodeD (bitsN x) pq.2 y) := Lib.hid hd
      have HLT : Hid (gd < m ∧ w.heap.size ≤ m ∧ ∀ j, S j → j < m) := Lib.hid (by
        have h1 := HGG.out
        have h2 := HSZ.out
        have h3 := HM.out
        exact ⟨by omega, by omega, fun j hj => by have h4 := HS.out j hj; omega⟩)
      rw [← hd]
      clear hd
      unfold dgV
      go_wp2_with (first
        | (at_builtin; generalize w9.alloc (.cells #[.func (.func 34) #[] #[.pointer (some ⟨gn, 0, none⟩), .pointer (some ⟨gy, 0, none⟩), .pointer (some ⟨ga, 0, none⟩), .pointer (some ⟨gb, 0, none⟩)]] 1) = wa at HC HEA HO10 HCL HBM HDA HWA ⊢; refine wpList_append_cl rfl _ _ rfl rfl rfl HO10.out HC.out HCL.out HPQN.out HBM.out ?_; intro v' w' ho' hb'; have HO' := Lib.hid ho'; have HB' := Lib.hid hb'; have HDE : Hid (Row w' gd 45 (bvs (List.replicate 32 0))) := Lib.hid ((hb'.block gd HLT.out.1).trans HDA.out); clear ho' hb')
        | (refine wpList_st rfl rfl ?_; refine ⟨gd, _, _, _, rfl, rfl, HDE.out, by rw [HSD.out]; kernel_rfl, Eq.trans (show (bvs (List.replicate 32 0)).toArray.size = 32 from rfl) HSD.out.symm, dg_one _, ?_⟩))
      have HOWN : Hid (∀ ds, OwnCl S w.heap.size (pq.1.reverse ++ [(T.ntx pq.2 y, T.ntx da db)]) v' (w'.setRow gd ds)) := Lib.hid fun ds =>
        ((HO'.out.kp (Kp.set (Kp.refl _ _) (.inl (.inr rfl)) ds) (fun j hj => hj.elim (HLT.out.2.2 j) fun e => e ▸ HLT.out.1)).sub (fun k hk => .inl hk)).le HLT.out.2.1
      (try simp only [Exit.inBlock, Exit.then])
      have hld := run_loadVar_row (P := Try.prog) (w'.setRow gd (bvs d).toArray) gd 45 45 (bvs d).toArray (0, 0) _ (Row.setRow HDE.out (bvs d)) Try.underlying45 rfl (by rw [HSD.out]; kernel_rfl)
      refine bodyPost_ret (results_ct rfl _ _ _ rfl hld) rfl ?_
      unfold UpPost
      rw [HPO.out, ← HDL.out]
      exact ⟨_, rfl, by rw [List.reverse_cons]; exact HOWN.out _, below_setRow (Below.trans HWA.out (HB'.out.mono HLT.out.2.1)) (by have := HG.out; omega) _⟩
      refine ⟨by decide, by decide, by decide, ?_, fun x z w w' h hb => UpR.mono _ _ _ _ _ _ _ h hb, ?_, ?_⟩
      · intro o ho
        cases ho
        exact ⟨rfl, fun a w => ⟨w.alloc (.cells zDig 45), by unfold execOp; kernel_rfl⟩⟩
      · refine ⟨_, _, UpE wb.heap.size w5.heap.size pq, rfl, rfl, ?_, ?_, fun wz hz => ?_⟩
        · rintro x w w' ⟨u, m, wc, h1, h2, h3, h4, h5⟩ hb
          exact ⟨u, m, wc, _, h1, rfl, h2, h3, .inr h5.size, h4, ExtW.trans h5 hb⟩
        · rintro z wz x w' ⟨g, rfl, hg, hr⟩ hb ⟨u, m, wc, h1, h2, h3, h4, h5, h6⟩
          exact ⟨u, m, wc, g, h1, rfl, h2, h3, .inl (Nat.lt_of_lt_of_le hr.lt h4), h5, h6⟩
        · simp only [List.take_succ_cons, List.take_zero, List.cons_append, List.nil_append]
          (apply wpZ_det; (intro wq hE hG; have kk := (ExtW.trans (ExtW.of_drew hz) hE).cellAt HGU5.out; unfold upV at kk; apply obl_val (by rfl); go_simp <;> rfl); (intro ak hak; simp only [Act.put, List.setIfInBounds_toArray, List.set_cons_succ, List.set_cons_zero] at hak; subst hak))
          (apply wpZ_det; (intro wq hE hG; have kk := (ExtW.trans (ExtW.of_drew hz) hE).cellAt (HB5.out.cell (j := 0) rfl); apply obl_val (by rfl); go_simp <;> rfl); (intro ak hak; simp only [Act.put, List.setIfInBounds_toArray, List.set_cons_succ, List.set_cons_zero] at hak; subst hak))
          iterate 4 (apply wpZ_det; (intro wq hE hG; first | exact obl_non (by rfl) | (apply obl_val (by rfl); go_simp <;> rfl)); (intro ak hak; simp only [Act.put, List.setIfInBounds_toArray, List.set_cons_succ, List.set_cons_zero] at hak; subst hak))
          apply wpZ_nd (fun v w' => UpF wb.heap.size w5.heap.size pq v w' ∧ UpE wb.heap.size w5.heap.size pq wz v w') (fun v w1 w2 h hb => ⟨UpF.mono _ _ _ _ _ _ h.1 hb, UpE.mono _ _ _ _ _ _ _ h.2 hb⟩)
          · intro wq hE hG
            apply obl_on (by kernel_rfl)
            go_simp
            simp only [extUpon_enter]
            refine (ih A k c (l.take k) i (some pa) (pn - 1) pc (path.take (pn - 1)) wq (by omega) (by omega) hik HBS.out (HV.out.take k) HPT.out HPS.out (ExtW.trans HW5.out (ExtW.trans (ExtW.of_drew hz) hE))).mono ?_
            unfold UpPost
            rintro e w' ⟨v, rfl, ho, hb⟩
            rw [← HPQ.out] at ho ⊢
            exact ⟨_, rfl, hb, ⟨v, _, _, rfl, (ExtW.trans (ExtW.of_drew hz) hE).size, hb.size, ho, ExtW.refl _⟩, v, _, _, rfl, (ExtW.trans (ExtW.of_drew hz) hE).size, hb.size, hE.size, ho, ExtW.refl _⟩
          (intro uc ak hak; simp only [Act.put, List.setIfInBounds_toArray, List.set_cons_succ, List.set_cons_zero] at hak; subst hak)
          (apply wpZ_nil; intro wq hE hG)
          trivial
      · intro l hl
        simp only [List.mem_cons, List.not_mem_nil, or_false] at hl
        rcases hl with rfl | rfl
        · exact ⟨by decide, by decide, fun o ho => by cases ho; kernel_rfl, fun ok op h1 h2 => by cases h1; cases h2; exact ⟨62, _, rfl, rfl, fun a w F x hx ho => link_move rfl rfl hx ho⟩⟩
        · exact ⟨by decide, by decide, fun o ho => by cases ho; kernel_rfl, fun ok op h1 h2 => by cases h1; cases h2; exact ⟨55, _, rfl, rfl, fun a w F x hx ho => link_extract rfl rfl hx ho⟩⟩
    · have hik2 : ¬ (i : Int) < (k : Int) := by omega
      have HPO := Lib.hid (T.pairsD_hi (bitsN x) leaf HLL.out h2 HK.out HPL.out HY.out hik)
      have HPS := Lib.hid (T.low_len' h2 HK.out hik HPD.out)
      rw [HPL.out] at HPS
      have HBS := Lib.hid (HR.out.dropA hcl)
      obtain ⟨pq, hpq⟩ : ∃ pq, pq = T.pairsD (bitsN x) leaf (l.drop k) (i - k) (path.take (pn - 1)) := ⟨_, rfl⟩
      have HPQ := Lib.hid hpq
      have HPQL : Hid (pq.2.length = 32) := Lib.hid (by rw [hpq]; exact T.pairsD_len _ _ _ _ _)
      have HPQN : Hid (pq.1.reverse.length ≤ 1000000) := Lib.hid (by
        rw [List.length_reverse, hpq]
        have h3 := pairs_le (bitsN x) leaf (n + 1) (l.drop k) (i - k) (path.take (pn - 1)) (by rw [List.length_drop, HLL.out]; omega)
        rw [List.length_drop, HLL.out] at h3
        omega)
      rw [← hpq, HTX.out] at HPO
      clear hpq
      go_upto_region 9 with (fail)
      apply wp_region_ext_tail4 13 8 12 11 (UpR wb.heap.size w5.heap.size pq) [(9, 8, fun x v => v = x), (11, 9, fun x v => ∃ xs : Array Value, x = .tuple xs ∧ xs[1]? = some v)] _ (by kernel_rfl) (by kernel_rfl) (fun o ho c a w v h => by cases ho; exact h) (fun o ho a w F h => by cases ho; exact yields_extract rfl rfl a w F h)
      simp only [List.take_succ_cons, List.take_zero, List.drop_succ_cons, List.drop_zero]
      (apply wpZ_det; (intro wq hE hG; have kk := (ExtW.of_drew hE).cellAt HGU5.out; unfold upV at kk; apply obl_val (by rfl); go_simp <;> rfl); (intro ak hak; simp only [Act.put, List.setIfInBounds_toArray, List.set_cons_succ, List.set_cons_zero] at hak; subst hak))
      (apply wpZ_det; (intro wq hE hG; have kk := (ExtW.of_drew hE).cellAt (HB5.out.cell (j := 0) rfl); apply obl_val (by rfl); go_simp <;> rfl); (intro ak hak; simp only [Act.put, List.setIfInBounds_toArray, List.set_cons_succ, List.set_cons_zero] at hak; subst hak))
      iterate 4 (apply wpZ_det; (intro wq hE hG; first | exact obl_non (by rfl) | (apply obl_val (by rfl); go_simp <;> rfl)); (intro ak hak; simp only [Act.put, List.setIfInBounds_toArray, List.set_cons_succ, List.set_cons_zero] at hak; subst hak))
      (apply wpZ_det (c := .int .i64 ((i - k : Nat) : Int)); (intro wq hE hG; exact obl_same (by rfl) (by go_simp <;> rfl) (by first | rfl | (apply int_eq; omega) | (apply int_eq; rw [IntWalk.i64_in _ (by omega)]; omega) | (apply int_eq; simp; omega))); (intro ak hak; simp only [Act.put, List.setIfInBounds_toArray, List.set_cons_succ, List.set_cons_zero] at hak; subst hak))
      (apply wpZ_det; (intro wq hE hG; first | exact obl_non (by rfl) | (apply obl_val (by rfl); go_simp <;> rfl)); (intro ak hak; simp only [Act.put, List.setIfInBounds_toArray, List.set_cons_succ, List.set_cons_zero] at hak; subst hak))
      apply wpZ_nd (UpF wb.heap.size w5.heap.size pq) (UpF.mono _ _ _)
      · intro wq hE hG
        apply obl_on (by kernel_rfl)
        go_simp
        simp only [extUpon_enter]
        refine (ih (dropA A c k) (n - k) (c - k) (l.drop k) (i - k) (some pa) (pn - 1) pc (path.take (pn - 1)) wq (by omega) (by omega) (by omega) HBS.out (HV.out.drop k) HPT.out HPS.out (ExtW.trans HW5.out (ExtW.of_drew hE))).mono ?_
        unfold UpPost
        rintro e w' ⟨v, rfl, ho, hb⟩
        rw [← HPQ.out] at ho ⊢
        exact ⟨_, rfl, hb, v, _, _, rfl, (ExtW.of_drew hE).size, hb.size, ho, ExtW.refl _⟩
      (intro uc ak hak; simp only [Act.put, List.setIfInBounds_toArray, List.set_cons_succ, List.set_cons_zero] at hak; subst hak)
      apply wpZ_nd (UpF wb.heap.size w5.heap.size pq) (UpF.mono _ _ _)
      · intro wq hE hG
        have h7 : UpF wb.heap.size w5.heap.size pq uc wq := hG _ (List.mem_cons_self ..) (by kernel_rfl)
        apply obl_on (by kernel_rfl)
        go_simp
        simp only [extUpon_value]
        exact ⟨ExtW.refl _, h7⟩
      (intro um ak hak; simp only [Act.put, List.setIfInBounds_toArray, List.set_cons_succ, List.set_cons_zero] at hak; subst hak)
      apply wpZ_det (c := dgV pq.2)
      · intro wq hE hG
        obtain ⟨v, m, wc, rfl, _⟩ : UpF wb.heap.size w5.heap.size pq um wq := hG _ (List.mem_cons_self ..) (by kernel_rfl)
        exact obl_same (by rfl) (by go_simp <;> rfl) rfl
      (intro ak hak; simp only [Act.put, List.setIfInBounds_toArray, List.set_cons_succ, List.set_cons_zero] at hak; subst hak)
      apply wpZ_nd (fun _ _ => True) (fun _ _ _ _ _ => trivial)
      · intro wq hE hG
        obtain ⟨v, m, wc, rfl, _⟩ : UpF wb.heap.size w5.heap.size pq um wq := hG _ (List.mem_cons_self ..) (by kernel_rfl)
        apply obl_on (by kernel_rfl)
        go_simp
        simp only [extUpon_value]
        exact ⟨ExtW.refl _, trivial⟩
      (intro ux ak hak; simp only [Act.put, List.setIfInBounds_toArray, List.set_cons_succ, List.set_cons_zero] at hak; subst hak)
      (apply wpZ_nd (NewD w5.heap.size) (NewD.mono _); (intro wq hE hG; exact obl_newD (by kernel_rfl) rfl (ExtW.of_drew hE).size); (intro ud ak hak; simp only [Act.put, List.setIfInBounds_toArray, List.set_cons_succ, List.set_cons_zero] at hak; subst hak))
      (apply wpZ_nil; intro wq hE hG)
      intro hfin
      have hR : UpR wb.heap.size w5.heap.size pq uc ud wq := hfin.1 _ _ _ _ _ _ rfl rfl rfl rfl rfl rfl
      have h7 : um = uc := hfin.2 _ (List.mem_cons_self ..) _ _ _ _ _ _ rfl rfl rfl rfl rfl rfl
      have h9 : ∃ xs : Array Value, um = .tuple xs ∧ xs[1]? = some ux := hfin.2 _ (List.mem_cons_of_mem _ (List.mem_cons_self ..)) _ _ _ _ _ _ rfl rfl rfl rfl rfl rfl
      have hnd : NewD w5.heap.size ud wq := hG _ (List.mem_cons_self ..)
      have HEQ := Lib.hid (ExtW.of_drew hE)
      clear hfin hG hE
      subst h7
      obtain ⟨u, m, wc, gn, rfl, rfl, hm0, hmc, hgm, hown, hext⟩ := hR
      obtain ⟨xs, hxs, hx1⟩ := h9
      injection hxs with hxs
      subst hxs
      have hx1 : u = ux := by simpa using hx1
      subst hx1
      obtain ⟨g16, hg16, hge, hrow⟩ := hnd
      injection hg16 with hg16
      injection hg16 with hg16
      injection hg16 with hg16
      subst hg16
      have HOW := Lib.hid hown
      have HEX := Lib.hid hext
      have HM : Hid (w5.heap.size ≤ m ∧ m ≤ wc.heap.size ∧ (gn < m ∨ wc.heap.size ≤ gn) ∧ w5.heap.size ≤ gn) := Lib.hid ⟨hm0, hmc, hgm, hge⟩
      have HRW := Lib.hid hrow
      clear hown hext hm0 hmc hgm hge hrow
      have HOB := Lib.hid HOW.out.own
      go_upto_region 10 with (refine wpList_newst rfl rfl rfl HPQL.out (d0 := List.replicate 32 0) rfl rfl rfl HRW.out ?_)
      have HD8 : Hid (Row (wq.setRow gn (bvs pq.2).toArray) gn 45 (bvs pq.2)) := Lib.hid (HRW.out.setRow _)
      have HE8 : Hid (ExtW w5 (wq.setRow gn (bvs pq.2).toArray)) := Lib.hid (below_setRow HEQ.out HM.out.2.2.2 _)
      have HK8 : Hid (Kp (Sb wb.heap.size m) wc (wq.setRow gn (bvs pq.2).toArray)) := Lib.hid (Kp.set (Kp.of_ext _ HEX.out) (by
        rcases HM.out.2.2.1 with h | h
        · exact .inl ⟨Nat.le_trans HW5.out.size HM.out.2.2.2, h⟩
        · exact .inr h) _)
      generalize wq.setRow gn (bvs pq.2).toArray = w8 at HD8 HE8 HK8 ⊢
      have HOW8 := Lib.hid (HOW.out.kp HK8.out (fun j hj => hj.2))
      have HMS : Hid (m ≤ w8.heap.size) := Lib.hid (Nat.le_trans HM.out.2.1 HK8.out.size)
      have HGT8 := Lib.hid ((ExtW.trans HW5.out HE8.out).cellAt HGT.out)
      have HY8 := Lib.hid (HY5.out.ext HE8.out)
      have HSQ : Hid ((bvs pq.2).toArray.size = 32) := Lib.hid (dg_size HPQL.out)
      have HSY : Hid ((bvs y).toArray.size = 32) := Lib.hid (dg_size HYL.out)
      clear HRW HEQ HOW HEX HK8 hrt hrd
      have k2 := HGT8.out
      go_wp2_with (refine wpList_ld rfl rfl ?_; first | refine ⟨gn, _, _, _, rfl, HD8.out, Try.underlying45, rfl, by rw [HSQ.out]; kernel_rfl, ?_⟩ | refine ⟨gy, _, _, _, rfl, HY8.out, Try.underlying45, rfl, by rw [HSY.out]; kernel_rfl, ?_⟩)
      clear k2
      refine (node_any x y pq.2 _ HYL.out HPQL.out HX.out).mono ?_
      rintro e w9 ⟨rfl, hb⟩
      have HE9 := Lib.hid (ExtW.trans HE8.out hb)
      have HD9 := Lib.hid (HD8.out.ext hb)
      have HY9 := Lib.hid (HY8.out.ext hb)
      have HOW9 := Lib.hid (HOW8.out.ext hb)
      have HMS9 : Hid (m ≤ w9.heap.size) := Lib.hid (Nat.le_trans HMS.out hb.size)
      obtain ⟨fv, hfv⟩ : ∃ f, f = Value.func (.func 36) #[] #[.pointer (some ⟨gy, 0, none⟩), .pointer (some ⟨gn, 0, none⟩), .pointer (some ⟨ga, 0, none⟩), .pointer (some ⟨gb, 0, none⟩)] := ⟨_, rfl⟩
      have HC : Hid ((w9.alloc (.cells #[fv] 1)).cell? ⟨w9.heap.size, 0, none⟩ = some fv) := Lib.hid (cell_new1 _ _ _)
      have HEA : Hid (ExtW w9 (w9.alloc (.cells #[fv] 1))) := Lib.hid ((Below.refl _ _).alloc (Nat.le_refl _) _)
      have HSZ : Hid (w.heap.size ≤ w2.heap.size ∧ w2.heap.size ≤ w5.heap.size ∧ wb.heap.size ≤ w.heap.size) := Lib.hid ⟨HE2.out.size, by have h1 := HGG.out; have h2 := HE25.out.size; exact Nat.le_trans h1.2.2.2.2.1 (Nat.le_of_lt h1.2.2.1), HWB.out.size⟩
      have HO10 : Hid (OwnCl (fun k => S k ∨ k = gd) m pq.1.reverse u (w9.alloc (.cells #[fv] 1))) := Lib.hid ((HOW9.out.ext HEA.out).sub (by
        have h1 := HGG.out
        have h2 := HSZ.out
        have h3 := HM.out
        have h4 := HG.out
        rintro k (hk | rfl)
        · have h5 := HS.out k hk
          exact ⟨h5.1, by omega⟩
        · exact ⟨by omega, by omega⟩))
      have HCL : Hid (Clos (fun k => (S k ∨ k = gd) ∨ u.ownBlock = some k) (w9.alloc (.cells #[fv] 1)) fv (T.ntx y pq.2, T.ntx da db)) := Lib.hid ⟨_, _, hfv, fun _ => by kernel_rfl, fun W hW => by
        have h1 := HGG.out
        have h2 := HSZ.out
        have h3 := HM.out
        have h9 := hW
        have hni : ∀ g, w2.heap.size ≤ g → (g < w5.heap.size ∨ g = gn) → ¬ ((S g ∨ g = gd) ∨ u.ownBlock = some g) := by
          rintro g hg hg2 ((hk | hk) | hk)
          · have h5 := HS.out g hk
            omega
          · omega
          · have h5 := HOB.out g hk
            rcases hg2 with hg2 | rfl
            · omega
            · omega
        exact hiC_any gy gn ga gb y pq.2 da db W HYL.out HPQL.out HLA.out HLB.out (hW.row (HY9.out.ext HEA.out) (hni gy (by omega) (.inl (by omega)))) (hW.row (HD9.out.ext HEA.out) (hni gn (by omega) (.inr rfl)))
          (hW.row (HAA5.out.ext (ExtW.trans HE9.out HEA.out)) (hni ga (by omega) (.inl (by omega)))) (hW.row (HBB5.out.ext (ExtW.trans HE9.out HEA.out)) (hni gb (by omega) (.inl (by omega))))⟩
      have HBM : Hid (m ≤ (w9.alloc (.cells #[fv] 1)).heap.size) := Lib.hid (Nat.le_trans HMS9.out HEA.out.size)
      have HDA : Hid (Row (w9.alloc (.cells #[fv] 1)) gd 45 (bvs (List.replicate 32 0))) := Lib.hid (HD5.out.ext (ExtW.trans HE9.out HEA.out))
      have HWA : Hid (ExtW w (w9.alloc (.cells #[fv] 1))) := Lib.hid (ExtW.trans HE25.out (ExtW.trans HE9.out HEA.out))
      subst hfv
      clear hb HOW8 HOW9 HD8 HY8 HMS9
      obtain ⟨d, hd⟩ : ∃ d, d = T.nodeD (bitsN x) y pq.2 := ⟨_, rfl⟩
      have HSD : Hid ((bvs d).toArray.size = 32) := Lib.hid (dg_size (by rw [hd]; exact T.nodeD_len _ _ _))
      have HDL : Hid (d = T.nodeD (bitsN x) y pq.2) := Lib.hid hd
      have HLT : Hid (gd < m ∧ w.heap.size ≤ m ∧ ∀ j, S j → j < m) := Lib.hid (by
        have h1 := HGG.out
        have h2 := HSZ.out
        have h3 := HM.out
        exact ⟨by omega, by omega, fun j hj => by have h4 := HS.out j hj; omega⟩)
      rw [← hd]
      clear hd
      unfold dgV
      go_wp2_with (first
        | (at_builtin; generalize w9.alloc (.cells #[.func (.func 36) #[] #[.pointer (some ⟨gy, 0, none⟩), .pointer (some ⟨gn, 0, none⟩), .pointer (some ⟨ga, 0, none⟩), .pointer (some ⟨gb, 0, none⟩)]] 1) = wa at HC HEA HO10 HCL HBM HDA HWA ⊢; refine wpList_append_cl rfl _ _ rfl rfl rfl HO10.out HC.out HCL.out HPQN.out HBM.out ?_; intro v' w' ho' hb'; have HO' := Lib.hid ho'; have HB' := Lib.hid hb'; have HDE : Hid (Row w' gd 45 (bvs (List.replicate 32 0))) := Lib.hid ((hb'.block gd HLT.out.1).trans HDA.out); clear ho' hb')
        | (refine wpList_st rfl rfl ?_; refine ⟨gd, _, _, _, rfl, rfl, HDE.out, by rw [HSD.out]; kernel_rfl, Eq.trans (show (bvs (List.replicate 32 0)).toArray.size = 32 from rfl) HSD.out.symm, dg_one _, ?_⟩))
      have HOWN : Hid (∀ ds, OwnCl S w.heap.size (pq.1.reverse ++ [(T.ntx y pq.2, T.ntx da db)]) v' (w'.setRow gd ds)) := Lib.hid fun ds =>
        ((HO'.out.kp (Kp.set (Kp.refl _ _) (.inl (.inr rfl)) ds) (fun j hj => hj.elim (HLT.out.2.2 j) fun e => e ▸ HLT.out.1)).sub (fun k hk => .inl hk)).le HLT.out.2.1
      (try simp only [Exit.inBlock, Exit.then])
      have hld := run_loadVar_row (P := Try.prog) (w'.setRow gd (bvs d).toArray) gd 45 45 (bvs d).toArray (0, 0) _ (Row.setRow HDE.out (bvs d)) Try.underlying45 rfl (by rw [HSD.out]; kernel_rfl)
      refine bodyPost_ret (results_ct rfl _ _ _ rfl hld) rfl ?_
      unfold UpPost
      rw [HPO.out, ← HDL.out]
      exact ⟨_, rfl, by rw [List.reverse_cons]; exact HOWN.out _, below_setRow (Below.trans HWA.out (HB'.out.mono HLT.out.2.1)) (by have := HG.out; omega) _⟩
      refine ⟨by decide, by decide, by decide, ?_, fun x z w w' h hb => UpR.mono _ _ _ _ _ _ _ h hb, ?_, ?_⟩
      · intro o ho
        cases ho
        exact ⟨rfl, fun a w => ⟨w.alloc (.cells zDig 45), by unfold execOp; kernel_rfl⟩⟩
      · refine ⟨_, _, UpE wb.heap.size w5.heap.size pq, rfl, rfl, ?_, ?_, fun wz hz => ?_⟩
        · rintro x w w' ⟨u, m, wc, h1, h2, h3, h4, h5⟩ hb
          exact ⟨u, m, wc, _, h1, rfl, h2, h3, .inr h5.size, h4, ExtW.trans h5 hb⟩
        · rintro z wz x w' ⟨g, rfl, hg, hr⟩ hb ⟨u, m, wc, h1, h2, h3, h4, h5, h6⟩
          exact ⟨u, m, wc, g, h1, rfl, h2, h3, .inl (Nat.lt_of_lt_of_le hr.lt h4), h5, h6⟩
        · simp only [List.take_succ_cons, List.take_zero, List.cons_append, List.nil_append]
          (apply wpZ_det; (intro wq hE hG; have kk := (ExtW.trans (ExtW.of_drew hz) hE).cellAt HGU5.out; unfold upV at kk; apply obl_val (by rfl); go_simp <;> rfl); (intro ak hak; simp only [Act.put, List.setIfInBounds_toArray, List.set_cons_succ, List.set_cons_zero] at hak; subst hak))
          (apply wpZ_det; (intro wq hE hG; have kk := (ExtW.trans (ExtW.of_drew hz) hE).cellAt (HB5.out.cell (j := 0) rfl); apply obl_val (by rfl); go_simp <;> rfl); (intro ak hak; simp only [Act.put, List.setIfInBounds_toArray, List.set_cons_succ, List.set_cons_zero] at hak; subst hak))
          iterate 4 (apply wpZ_det; (intro wq hE hG; first | exact obl_non (by rfl) | (apply obl_val (by rfl); go_simp <;> rfl)); (intro ak hak; simp only [Act.put, List.setIfInBounds_toArray, List.set_cons_succ, List.set_cons_zero] at hak; subst hak))
          (apply wpZ_det (c := .int .i64 ((i - k : Nat) : Int)); (intro wq hE hG; exact obl_same (by rfl) (by go_simp <;> rfl) (by first | rfl | (apply int_eq; omega) | (apply int_eq; rw [IntWalk.i64_in _ (by omega)]; omega) | (apply int_eq; simp; omega))); (intro ak hak; simp only [Act.put, List.setIfInBounds_toArray, List.set_cons_succ, List.set_cons_zero] at hak; subst hak))
          (apply wpZ_det; (intro wq hE hG; first | exact obl_non (by rfl) | (apply obl_val (by rfl); go_simp <;> rfl)); (intro ak hak; simp only [Act.put, List.setIfInBounds_toArray, List.set_cons_succ, List.set_cons_zero] at hak; subst hak))
          apply wpZ_nd (fun v w' => UpF wb.heap.size w5.heap.size pq v w' ∧ UpE wb.heap.size w5.heap.size pq wz v w') (fun v w1 w2 h hb => ⟨UpF.mono _ _ _ _ _ _ h.1 hb, UpE.mono _ _ _ _ _ _ _ h.2 hb⟩)
          · intro wq hE hG
            apply obl_on (by kernel_rfl)
            go_simp
            simp only [extUpon_enter]
            refine (ih (dropA A c k) (n - k) (c - k) (l.drop k) (i - k) (some pa) (pn - 1) pc (path.take (pn - 1)) wq (by omega) (by omega) (by omega) HBS.out (HV.out.drop k) HPT.out HPS.out (ExtW.trans HW5.out (ExtW.trans (ExtW.of_drew hz) hE))).mono ?_
            unfold UpPost
            rintro e w' ⟨v, rfl, ho, hb⟩
            rw [← HPQ.out] at ho ⊢
            exact ⟨_, rfl, hb, ⟨v, _, _, rfl, (ExtW.trans (ExtW.of_drew hz) hE).size, hb.size, ho, ExtW.refl _⟩, v, _, _, rfl, (ExtW.trans (ExtW.of_drew hz) hE).size, hb.size, hE.size, ho, ExtW.refl _⟩
          (intro uc ak hak; simp only [Act.put, List.setIfInBounds_toArray, List.set_cons_succ, List.set_cons_zero] at hak; subst hak)
          (apply wpZ_nil; intro wq hE hG)
          trivial
      · intro l hl
        simp only [List.mem_cons, List.not_mem_nil, or_false] at hl
        rcases hl with rfl | rfl
        · exact ⟨by decide, by decide, fun o ho => by cases ho; kernel_rfl, fun ok op h1 h2 => by cases h1; cases h2; exact ⟨82, _, rfl, rfl, fun a w F x hx ho => link_move rfl rfl hx ho⟩⟩
        · exact ⟨by decide, by decide, fun o ho => by cases ho; kernel_rfl, fun ok op h1 h2 => by cases h1; cases h2; exact ⟨73, _, rfl, rfl, fun a w F x hx ho => link_extract rfl rfl hx ho⟩⟩
    refine ⟨by decide, by decide, by decide, ?_, ?_⟩
    · rintro j o (rfl | rfl) ho <;> (cases ho; exact ⟨rfl, fun a w => ⟨w.alloc (.cells zDig 45), by unfold execOp; kernel_rfl⟩⟩)
    · rintro j (rfl | rfl) <;> exact ⟨NewD w3.heap.size, rfl, fun v w h => h.fresh⟩

set_option maxHeartbeats 20000000 in
set_option maxRecDepth 100000 in
theorem cof_anyB (x : Int) (hx : -9223372036854775808 ≤ x ∧ x ≤ 9223372036854775807) (A : Option Addr) (n c : Nat) (real : List (List UInt8)) (i : Int) (LA : Option Addr) (ln lc : Nat) (leaf : List UInt8) (PA : Option Addr) (pn pc : Nat) (path : List (List UInt8)) (w : World)
    (hr : Bss w A n c real) (hlv : Lv real) (hn : n ≤ 1000000) (hl : Rd w LA ln lc 1 (bvs leaf)) (hln : ln ≤ 140737488351232) (hp : Dls w PA pn pc path) :
    Calls Try.prog 13 #[.agg #[.int .i64 x], .slice A n c, .int .i64 i, .slice LA ln lc, .slice PA pn pc] w (OfPost (T.ofD (bitsN x) real i leaf path) w) := by
  have hmf : ∀ (fn : Fn) (first cap : Array Value) (w : World), (Instr.makeFunc fn first cap).run Try.prog w = .ok (.func fn first cap) w := fun _ _ _ _ => rfl
  have HX := Lib.hid hx
  have HR := Lib.hid hr
  have HV := Lib.hid hlv
  have HN := Lib.hid hn
  have HL := Lib.hid hl
  have HLN := Lib.hid hln
  have HP := Lib.hid hp
  have HRL := Lib.hid hr.len
  have HB0 := Lib.hid (cell_new1 w (.int .i64 x) 30)
  have HE0 : Hid (ExtW w (w.alloc (.cells #[.int .i64 x] 30))) := Lib.hid ((Below.refl _ _).alloc (Nat.le_refl _) _)
  clear hx hr hlv hn hl hln hp
  go_enter Try.func13, Try.ntmps13
  go_upto_region 1 with (fail)
  have HA : Hid ((w.alloc (.cells #[.int .i64 x] 30)).heap.size = w.heap.size + 1) := Lib.hid (by simp)
  generalize w.alloc (.cells #[.int .i64 x] 30) = w1 at HB0 HE0 HA ⊢
  have HG1 : Hid (Row (w1.alloc (.cells #[.slice LA ln lc] 23)) (w.heap.size + 1) 23 [.slice LA ln lc]) := Lib.hid (by rw [← HA.out]; exact heap_alloc_last _ _)
  have HE1 : Hid (ExtW w1 (w1.alloc (.cells #[.slice LA ln lc] 23))) := Lib.hid ((Below.refl _ _).alloc (Nat.le_refl _) _)
  generalize w1.alloc (.cells #[.slice LA ln lc] 23) = w2 at HG1 HE1 ⊢
  have HB2 := Lib.hid (HE1.out.cellAt HB0.out)
  have HE2 := Lib.hid (ExtW.trans HE0.out HE1.out)
  obtain ⟨gt, hgt⟩ : ∃ g, g = w.heap.size := ⟨_, rfl⟩
  obtain ⟨gl, hgl⟩ : ∃ g, g = w.heap.size + 1 := ⟨_, rfl⟩
  rw [← hgt] at HB2
  rw [← hgl] at HG1
  rw [← hgl, ← hgt]
  clear hgt hgl HB0 HE0 HE1 HA
  have HR2 := Lib.hid (HR.out.same HE2.out)
  have HL2 := Lib.hid (HL.out.below HE2.out (Nat.le_refl _))
  have HP2 := Lib.hid (HP.out.same HE2.out)
  clear HR HL HP
  by_cases hck : T.checkD (bitsN x) (T.rootD (bitsN x) real) real.length i leaf path = true
  · have HO := Lib.hid (T.ofD_yes hck)
    obtain ⟨j, rfl, hjn, hpl, _⟩ := T.checkD_in hck
    rw [Int.toNat_natCast] at HO
    rw [HRL.out] at hck hjn hpl
    have HCK := Lib.hid hck
    have HPD := Lib.hid hpl
    clear hck hpl
    apply wp_region_ext _ (by kernel_rfl) (by kernel_rfl)
    iterate 2 (apply wpZ_det; (intro wq hE hG; have kk := (ExtW.of_drew hE).cellAt HB2.out; apply obl_val (by rfl); go_simp <;> rfl); (intro ak hak; simp only [Act.put, List.setIfInBounds_toArray, List.set_cons_succ, List.set_cons_zero] at hak; subst hak))
    (apply wpZ_det; (intro wq hE hG; first | exact obl_non (by rfl) | (apply obl_val (by rfl); go_simp <;> rfl)); (intro ak hak; simp only [Act.put, List.setIfInBounds_toArray, List.set_cons_succ, List.set_cons_zero] at hak; subst hak))
    (apply wpZ_det; (intro wq hE hG; apply obl_on (by kernel_rfl); go_simp; simp only [extUpon_enter]; refine (root_any x HX.out (n + 1) _ n c _ _ (by omega) (HR2.out.same (ExtW.of_drew hE)) HV.out).mono ?_; rintro e w' ⟨rfl, hb⟩; exact ⟨_, rfl, hb, rfl⟩); (intro ak hak; simp only [Act.put, List.setIfInBounds_toArray, List.set_cons_succ, List.set_cons_zero] at hak; subst hak))
    iterate 3 (apply wpZ_det; (intro wq hE hG; first | exact obl_non (by rfl) | (apply obl_val (by rfl); go_simp <;> rfl)); (intro ak hak; simp only [Act.put, List.setIfInBounds_toArray, List.set_cons_succ, List.set_cons_zero] at hak; subst hak))
    (apply wpZ_det; (intro wq hE hG; have kk := (ExtW.of_drew hE).cellAt (HG1.out.cell (j := 0) rfl); apply obl_val (by rfl); go_simp <;> rfl); (intro ak hak; simp only [Act.put, List.setIfInBounds_toArray, List.set_cons_succ, List.set_cons_zero] at hak; subst hak))
    (apply wpZ_det; (intro wq hE hG; first | exact obl_non (by rfl) | (apply obl_val (by rfl); go_simp <;> rfl)); (intro ak hak; simp only [Act.put, List.setIfInBounds_toArray, List.set_cons_succ, List.set_cons_zero] at hak; subst hak))
    (apply wpZ_det (c := .bool true); (intro wq hE hG; apply obl_on (by kernel_rfl); go_simp; simp only [extUpon_enter]; refine (mcheck_anyB x HX.out _ (T.rootD_len _ _) (n : Int) (j : Int) (by have := HN.out; omega) LA ln lc leaf PA pn pc path _ (HL2.out.below (ExtW.of_drew hE) (Nat.le_refl _)) HLN.out (HP2.out.same (ExtW.of_drew hE))).mono ?_; rintro e w' ⟨rfl, hb⟩; exact ⟨_, rfl, hb, by rw [HCK.out]⟩); (intro ak hak; simp only [Act.put, List.setIfInBounds_toArray, List.set_cons_succ, List.set_cons_zero] at hak; subst hak))
    (apply wpZ_det; (intro wq hE hG; first | exact obl_non (by rfl) | (apply obl_val (by rfl); go_simp <;> rfl)); (intro ak hak; simp only [Act.put, List.setIfInBounds_toArray, List.set_cons_succ, List.set_cons_zero] at hak; subst hak))
    (apply wpZ_nil; intro wq hE hG)
    have HEQ := Lib.hid (ExtW.trans HE2.out (ExtW.of_drew hE))
    have HB3 := Lib.hid ((ExtW.of_drew hE).cellAt HB2.out)
    have HG3 := Lib.hid (HG1.out.ext (ExtW.of_drew hE))
    have HR3 := Lib.hid (HR2.out.same (ExtW.of_drew hE))
    have HL3 := Lib.hid (HL2.out.below (ExtW.of_drew hE) (Nat.le_refl _))
    have HP3 := Lib.hid (HP2.out.same (ExtW.of_drew hE))
    clear hE hG HE2 HB2 HG1 HR2 HL2 HP2
    go_upto_region 5 with (fail)
    have HUC : Hid ((wq.alloc (.cells #[upV gt gl wq.heap.size] 56)).cell? ⟨wq.heap.size, 0, none⟩ = some (upV gt gl wq.heap.size)) := Lib.hid (cell_new1 _ _ _)
    have HE4 : Hid (ExtW wq (wq.alloc (.cells #[upV gt gl wq.heap.size] 56))) := Lib.hid ((Below.refl _ _).alloc (Nat.le_refl _) _)
    unfold upV at HUC HE4
    generalize wq.alloc (.cells #[.func (.func 27) #[] #[.pointer (some ⟨gt, 0, none⟩), .pointer (some ⟨gl, 0, none⟩), .pointer (some ⟨wq.heap.size, 0, none⟩)]] 56) = wb at HUC HE4 ⊢
    obtain ⟨gu, hgu⟩ : ∃ g, g = wq.heap.size := ⟨_, rfl⟩
    rw [← hgu] at HUC ⊢
    clear hgu
    have HB4 := Lib.hid (HE4.out.cellAt HB3.out)
    have HG4 := Lib.hid (HG3.out.ext HE4.out)
    have HR4 := Lib.hid (HR3.out.same HE4.out)
    have HL4 := Lib.hid (HL3.out.below HE4.out (Nat.le_refl _))
    have HP4 := Lib.hid (HP3.out.same HE4.out)
    have HEB := Lib.hid (ExtW.trans HEQ.out HE4.out)
    clear HB3 HG3 HR3 HL3 HP3 HE4 HEQ
    obtain ⟨ps, hps⟩ : ∃ ps, ps = T.pairsD (bitsN x) leaf real j path := ⟨_, rfl⟩
    have HPS := Lib.hid hps
    have HPL : Hid (ps.2.length = 32) := Lib.hid (by rw [hps]; exact T.pairsD_len _ _ _ _ _)
    have HPN : Hid (ps.1.length ≤ 2000000) := Lib.hid (by
      rw [hps]
      have h1 := T.checkD_in HCK.out
      have h2 := pairs_le' (bitsN x) leaf real j path
      have h3 := HN.out
      have h4 := HRL.out
      omega)
    have k1 := HUC.out
    clear hps
    go_wp2_with fail
    refine (up_anyB x HX.out wb gt gl gu LA ln lc leaf HB4.out HG4.out HUC.out HL4.out HLN.out (n + 1) A n c real j PA pn pc path wb (by omega) HN.out hjn HR4.out HV.out HP4.out HPD.out (ExtW.refl _)).mono ?_
    unfold UpPost
    rw [← HPS.out]
    rintro e w5 ⟨v, rfl, ho, hb⟩
    obtain ⟨VA, vc, hv⟩ := ho.form
    obtain ⟨pl, hpl⟩ : ∃ n, n = ps.1.reverse.length := ⟨_, rfl⟩
    rw [← hpl] at hv
    subst hv
    clear hpl
    have HO5 := Lib.hid (ho.sub (S := fun _ => False) (fun k hk => hk.elim))
    have HE5 := Lib.hid (ExtW.trans HEB.out hb)
    clear ho hb k1
    have HAR : Hid (Row (((w5.alloc (.cells zDig 45)).alloc (.cells #[.slice none 0 0] 57)).setRow w5.heap.size (bvs ps.2).toArray) (w5.heap.size + 1) 57 [.slice none 0 0]) := Lib.hid (by
      have h1 : Row ((w5.alloc (.cells zDig 45)).alloc (.cells #[.slice none 0 0] 57)) (w5.heap.size + 1) 57 [.slice none 0 0] := by
        have h2 := heap_alloc_last (w5.alloc (.cells zDig 45)) (.cells #[.slice none 0 0] 57)
        have h3 : (w5.alloc (.cells zDig 45)).heap.size = w5.heap.size + 1 := by simp
        rw [h3] at h2
        exact h2
      exact h1.setNew (by omega) _)
    have HE6 : Hid (ExtW w5 (((w5.alloc (.cells zDig 45)).alloc (.cells #[.slice none 0 0] 57)).setRow w5.heap.size (bvs ps.2).toArray)) := Lib.hid (below_setRow (ExtW.trans ((Below.refl _ _).alloc (Nat.le_refl _) (.cells zDig 45)) ((Below.refl _ _).alloc (Nat.le_refl _) (.cells #[.slice none 0 0] 57))) (Nat.le_refl _) _)
    go_upto_region 6 with (first
      | (refine wpList_newD rfl rfl ?_)
      | (refine wpList_newst rfl rfl rfl HPL.out (d0 := List.replicate 32 0) rfl rfl rfl ((zDig_row w5).ext ((Below.refl _ _).alloc (Nat.le_refl _) _)) ?_; generalize ((w5.alloc (.cells zDig 45)).alloc (.cells #[.slice none 0 0] 57)).setRow w5.heap.size (bvs ps.2).toArray = w6 at HAR HE6 ⊢; have k5 := HAR.out.cell (j := 0) rfl; have k6 := HAR.out.frozen 0))
    have HAR7 := Lib.hid (HAR.out.set 0 (.slice VA pl vc))
    have HE7 : Hid (ExtW w5 (w6.setCell ⟨w5.heap.size + 1, 0, none⟩ (.slice VA pl vc))) := Lib.hid (ext_setCell HE6.out (by omega) _)
    generalize w6.setCell ⟨w5.heap.size + 1, 0, none⟩ (.slice VA pl vc) = w7 at HAR7 HE7 ⊢
    have HO7 := Lib.hid (HO5.out.ext HE7.out)
    obtain ⟨ga, hga⟩ : ∃ g, g = w5.heap.size + 1 := ⟨_, rfl⟩
    rw [← hga] at HAR7 ⊢
    clear hga k5 k6 HAR HE6 HO5
    go_wp2_with fail
    refine (seek_any 38 #[.pointer (some ⟨ga, 0, none⟩)] (T.diff1 ps.1) w7 (fun _ => by kernel_rfl) (fun W hW => runC_any ga wb.heap.size ps.1 _ W (HAR7.out.ext hW) (HO7.out.ext hW) HPN.out)).mono ?_
    intro e w8 h
    have HH := Lib.hid (h.up (ExtW.trans HE5.out HE7.out))
    obtain ⟨A1, n1, c1, B1, m1, d1, b1, rfl⟩ := h.two
    clear h
    go_wp2
    go_ret3
    rw [HO.out, ← HPS.out]
    exact HH.out
  · have hck' : T.checkD (bitsN x) (T.rootD (bitsN x) real) real.length i leaf path = false := by simpa using hck
    have HO := Lib.hid (T.ofD_no hck')
    rw [HRL.out] at hck'
    have HCK := Lib.hid hck'
    clear hck hck'
    apply wp_region_ext _ (by kernel_rfl) (by kernel_rfl)
    iterate 2 (apply wpZ_det; (intro wq hE hG; have kk := (ExtW.of_drew hE).cellAt HB2.out; apply obl_val (by rfl); go_simp <;> rfl); (intro ak hak; simp only [Act.put, List.setIfInBounds_toArray, List.set_cons_succ, List.set_cons_zero] at hak; subst hak))
    (apply wpZ_det; (intro wq hE hG; first | exact obl_non (by rfl) | (apply obl_val (by rfl); go_simp <;> rfl)); (intro ak hak; simp only [Act.put, List.setIfInBounds_toArray, List.set_cons_succ, List.set_cons_zero] at hak; subst hak))
    (apply wpZ_det; (intro wq hE hG; apply obl_on (by kernel_rfl); go_simp; simp only [extUpon_enter]; refine (root_any x HX.out (n + 1) _ n c _ _ (by omega) (HR2.out.same (ExtW.of_drew hE)) HV.out).mono ?_; rintro e w' ⟨rfl, hb⟩; exact ⟨_, rfl, hb, rfl⟩); (intro ak hak; simp only [Act.put, List.setIfInBounds_toArray, List.set_cons_succ, List.set_cons_zero] at hak; subst hak))
    iterate 3 (apply wpZ_det; (intro wq hE hG; first | exact obl_non (by rfl) | (apply obl_val (by rfl); go_simp <;> rfl)); (intro ak hak; simp only [Act.put, List.setIfInBounds_toArray, List.set_cons_succ, List.set_cons_zero] at hak; subst hak))
    (apply wpZ_det; (intro wq hE hG; have kk := (ExtW.of_drew hE).cellAt (HG1.out.cell (j := 0) rfl); apply obl_val (by rfl); go_simp <;> rfl); (intro ak hak; simp only [Act.put, List.setIfInBounds_toArray, List.set_cons_succ, List.set_cons_zero] at hak; subst hak))
    (apply wpZ_det; (intro wq hE hG; first | exact obl_non (by rfl) | (apply obl_val (by rfl); go_simp <;> rfl)); (intro ak hak; simp only [Act.put, List.setIfInBounds_toArray, List.set_cons_succ, List.set_cons_zero] at hak; subst hak))
    (apply wpZ_det (c := .bool false); (intro wq hE hG; apply obl_on (by kernel_rfl); go_simp; simp only [extUpon_enter]; refine (mcheck_anyB x HX.out _ (T.rootD_len _ _) (n : Int) i (by have := HN.out; omega) LA ln lc leaf PA pn pc path _ (HL2.out.below (ExtW.of_drew hE) (Nat.le_refl _)) HLN.out (HP2.out.same (ExtW.of_drew hE))).mono ?_; rintro e w' ⟨rfl, hb⟩; exact ⟨_, rfl, hb, by rw [HCK.out]⟩); (intro ak hak; simp only [Act.put, List.setIfInBounds_toArray, List.set_cons_succ, List.set_cons_zero] at hak; subst hak))
    (apply wpZ_det; (intro wq hE hG; first | exact obl_non (by rfl) | (apply obl_val (by rfl); go_simp <;> rfl)); (intro ak hak; simp only [Act.put, List.setIfInBounds_toArray, List.set_cons_succ, List.set_cons_zero] at hak; subst hak))
    (apply wpZ_nil; intro wq hE hG)
    have HEQ := Lib.hid (ExtW.trans HE2.out (ExtW.of_drew hE))
    clear hE hG
    go_wp2
    go_ret3
    exact ⟨HEQ.out, by rw [HO.out]; rfl⟩
end Go.Proofs.Ythaoibgcgkmnbaa
