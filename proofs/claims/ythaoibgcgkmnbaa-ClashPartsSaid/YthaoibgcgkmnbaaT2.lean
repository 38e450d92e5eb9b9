/- Walks of Node and swapped. -/
import Derived.Test.YthaoibgcgkmnbaaT1
import Derived.Test.YthaoibgcgkmnbaaExtM
namespace Go.Proofs.Ythaoibgcgkmnbaa
set_option maxRecDepth 100000
open Go.RowKit

theorem Row.rd {w : World} {g : Nat} {e : TypeId} {xs : List UInt8} (h : Row w g e (bvs xs)) (hl : xs.length ≤ maxLen) : Rd w (some ⟨g, 0, none⟩) xs.length xs.length 1 (bvs xs) :=
  ⟨by rw [bvs_len, Nat.mul_one], Nat.le_refl _, hl, (fun h => by cases h), fun a ha j u hj => by cases ha; rw [Addr.add_mid, Nat.zero_add]; exact h.cell hj⟩

theorem Row.rd32 {w : World} {g : Nat} {e : TypeId} {xs : List UInt8} (h : Row w g e (bvs xs)) (hl : xs.length = 32) : Rd w (some ⟨g, 0, none⟩) 32 32 1 (bvs xs) := by
  have := h.rd (by rw [hl]; decide)
  rwa [hl] at this
theorem mut_append {P : Program} {ops : Array Oper} {o : Oper} {a : Act} {w : World} {F : Value → World → Prop} (hw : Region.wanted o (yielded ops a.tmps) = true) {s x : Operand} {t : TypeId}
    (ho : o.op = .call { callee := .builtin .append, args := #[s, x], argTypes := #[t, t] }) {v u : Value} (hs : a.eval s = v) (hx : a.eval x = u) {v' : Value} {w' : World}
    (hrun : (Builtin.append_ #[t, t] o.type #[v, u]).run P w = .ok v' w') (h2 : F v' w') : oblMut P ops o a w F :=
  oblMut_on hw (by
    unfold execOp
    simp only [ho, resolve, invoke, builtin, Sem.run_bind, Sem.run_pure, Result.andThen_ok, List.map_toArray, List.map_cons, List.map_nil, hs, hx, hrun]
    exact h2)

set_option maxHeartbeats 4000000 in
set_option maxRecDepth 100000 in
theorem node_any (x : Int) (l r : List UInt8) (w : World) (hl : l.length = 32) (hr : r.length = 32) (hx : -9223372036854775808 ≤ x ∧ x ≤ 9223372036854775807) :
    Calls Try.prog 33 #[.agg #[.int .i64 x], dgV l, dgV r] w fun e w' => e = .returned (dgV (T.nodeD (bitsN x) l r)) ∧ ExtW w w' := by
  obtain ⟨i0, hi, hz0, hz1, hz2⟩ := info_parts infoB
  have HX := Lib.hid hx
  have HLL := Lib.hid hl
  have HRL := Lib.hid hr
  have HB0 := Lib.hid (cell_new1 w (.int .i64 x) 30)
  have HE0 : Hid (ExtW w (w.alloc (.cells #[.int .i64 x] 30))) := Lib.hid ((Below.refl _ _).alloc (Nat.le_refl _) _)
  clear hl hr hx
  unfold dgV
  go_enter Try.func33, Try.ntmps33
  go_upto_region 1 with (refine wpList_newD rfl rfl ?_)
  have HA : Hid ((w.alloc (.cells #[.int .i64 x] 30)).heap.size = w.heap.size + 1) := Lib.hid (by simp)
  generalize w.alloc (.cells #[.int .i64 x] 30) = wa at HB0 HE0 HA ⊢
  have HL1 : Hid (Row (wa.alloc (.cells (bvs l).toArray 45)) (w.heap.size + 1) 45 (bvs l)) := Lib.hid (by rw [← HA.out]; exact heap_alloc_last _ _)
  have HE1 : Hid (ExtW wa (wa.alloc (.cells (bvs l).toArray 45))) := Lib.hid ((Below.refl _ _).alloc (Nat.le_refl _) _)
  have HA1 : Hid ((wa.alloc (.cells (bvs l).toArray 45)).heap.size = w.heap.size + 1 + 1) := Lib.hid (by rw [← HA.out]; simp)
  generalize wa.alloc (.cells (bvs l).toArray 45) = wb at HL1 HE1 HA1 ⊢
  have HR2 : Hid (Row (wb.alloc (.cells (bvs r).toArray 45)) (w.heap.size + 1 + 1) 45 (bvs r)) := Lib.hid (by rw [← HA1.out]; exact heap_alloc_last _ _)
  have HE2 : Hid (ExtW wb (wb.alloc (.cells (bvs r).toArray 45))) := Lib.hid ((Below.refl _ _).alloc (Nat.le_refl _) _)
  have HA2 : Hid ((wb.alloc (.cells (bvs r).toArray 45)).heap.size = w.heap.size + 1 + 1 + 1) := Lib.hid (by rw [← HA1.out]; simp)
  generalize wb.alloc (.cells (bvs r).toArray 45) = wc at HR2 HE2 HA2 ⊢
  have HD3 := Lib.hid (zDig_row wc)
  have HE3 : Hid (ExtW wc (wc.alloc (.cells zDig 45))) := Lib.hid ((Below.refl _ _).alloc (Nat.le_refl _) _)
  have HA3 : Hid ((wc.alloc (.cells zDig 45)).heap.size = w.heap.size + 1 + 1 + 1 + 1) := Lib.hid (by rw [← HA2.out]; simp)
  rw [HA2.out] at HD3 ⊢
  generalize wc.alloc (.cells zDig 45) = wd at HD3 HE3 HA3 ⊢
  have HR3 := Lib.hid (HR2.out.ext HE3.out)
  have HL3 := Lib.hid (HL1.out.ext (ExtW.trans HE2.out HE3.out))
  have HB3 := Lib.hid ((ExtW.trans HE1.out (ExtW.trans HE2.out HE3.out)).cellAt HB0.out)
  have HW3 := Lib.hid (ExtW.trans HE0.out (ExtW.trans HE1.out (ExtW.trans HE2.out HE3.out)))
  clear HB0 HE0 HL1 HE1 HR2 HE2 HE3 HA HA1 HA2
  obtain ⟨gb, hgb⟩ : ∃ g, g = w.heap.size := ⟨_, rfl⟩
  obtain ⟨gl, hgl⟩ : ∃ g, g = w.heap.size + 1 := ⟨_, rfl⟩
  obtain ⟨gr, hgr⟩ : ∃ g, g = w.heap.size + 1 + 1 := ⟨_, rfl⟩
  obtain ⟨gd, hgd⟩ : ∃ g, g = w.heap.size + 1 + 1 + 1 := ⟨_, rfl⟩
  have HGS : Hid (w.heap.size ≤ gd ∧ gb < wd.heap.size ∧ gl < wd.heap.size ∧ gr < wd.heap.size ∧ gd < wd.heap.size) := Lib.hid (by have := HA3.out; omega)
  rw [← hgb] at HB3
  rw [← hgl] at HL3
  rw [← hgr] at HR3
  rw [← hgd] at HD3
  rw [← hgd, ← hgr, ← hgl, ← hgb]
  clear hgb hgl hgr hgd HA3
  obtain ⟨w0, hmk, hown0, hgr0⟩ := run_make_own (P := Try.prog) wd wd.heap.size 23 5 i0 _ 1 Try.underlying23 hi hz0 hz1 .i64 .i64 65 (by rw [hz2]; decide) (by decide) (Nat.le_refl _)
  have hmk' : (Instr.makeSlice 23 (.int .i64 0) (.int .i64 65)).run Try.prog wd = .ok (.slice (some ⟨wd.heap.size, 0, none⟩) 0 65) w0 := hmk
  have HO0 : Hid (w0.ownsRow wd.heap.size 5 1 (.slice (some ⟨wd.heap.size, 0, none⟩) 0 65) 0 (bvs [])) := Lib.hid hown0
  have HE0 : Hid (ExtW wd w0) := Lib.hid ((Below.refl _ _).grown hgr0 (Nat.le_refl _) (fun k hk => by cases hk))
  clear hmk hown0 hgr0
  go_upto_region 2 with (fail)
  clear hmk'
  go_upto_region 3 with (at_builtin; refine wpList_append_own _ rfl _ _ _ rfl wd.heap.size 5 i0 _ 1 1 Try.underlying23 hi hz0 hz1 hz2 rfl (by decide) _ _ _ rfl (own_ext HO0.out (show ExtW _ _ from (Below.refl _ _).alloc (Nat.le_refl _) _)) ⟨w0.heap.size, 0, none⟩ 1 1 [.int .u8 ((1 : UInt8).toNat : Int)] rfl rfl (cell_one_new _ _ _) (by simp [Value.oneCell']) (by simp [maxLen]) (by omega) (by simp; exact Nat.le_succ_of_le HE0.out.size) ?_; intro v4 w4 hown4 hgrow4 _; have HO4 := Lib.hid hown4; have HE4 := Lib.hid (Below.trans HE0.out (((Below.refl wd.heap.size w0).alloc HE0.out.size _).grown hgrow4 (by simp; exact Nat.le_succ_of_le HE0.out.size) (fun k hk => own_ge HO0.out k hk))); clear hown4 hgrow4; obtain ⟨A4, c4, hv4⟩ := own_slice' HO4.out; subst hv4)
  have HL4 := Lib.hid (HL3.out.ext HE4.out)
  have hnl : ∀ j u, (bvs l)[j]? = some u → w4.cell? ((⟨gl, 0, none⟩ : Addr).add j) = some u := fun j u hj => by rw [Addr.add_mid, Nat.zero_add]; exact HL4.out.cell hj
  have HNL := Lib.hid hnl
  clear hnl
  go_upto_region 4 with (at_builtin; refine wpList_append_own _ rfl _ _ _ rfl wd.heap.size 5 i0 _ 1 1 Try.underlying23 hi hz0 hz1 hz2 rfl (by decide) _ _ _ rfl HO4.out ⟨gl, 0, none⟩ 32 32 (bvs l) rfl (by rw [bvs_len, HLL.out]) HNL.out (bvs_one _) (by simp [maxLen]) (by omega) HE4.out.size ?_; intro v5 w5 hown5 hgrow5 _; have HO5 := Lib.hid hown5; have HE5 := Lib.hid (Below.trans HE4.out ((Below.refl wd.heap.size w4).grown hgrow5 HE4.out.size (fun k hk => own_ge HO4.out k hk))); clear hown5 hgrow5; obtain ⟨A5, c5, hv5⟩ := own_slice' HO5.out; subst hv5)
  have HO6 : Hid (w5.ownsRow wd.heap.size 5 1 (.slice A5 33 c5) 33 (bvs (1 :: l))) := Lib.hid (by
    have h := HO5.out
    simp only [Nat.zero_add] at h
    exact h)
  have hlt5 : gb < w5.heap.size := Nat.lt_of_lt_of_le HGS.out.2.1 HE5.out.size
  have HBK := Lib.hid hlt5
  clear hlt5 HO5 HO4 HE4 HNL HL3 HL4 HO0 HE0
  go_upto_region 5 with (fail)
  apply wp_region_mut 6 2 (fun b W => ExtW wd W ∧ (b = false → W.ownsRow wd.heap.size 5 1 (.slice A5 33 c5) 33 (bvs (1 :: l)))) _ (by kernel_rfl) (by kernel_rfl) (by decide)
    (fun b W W' h1 h2 => ⟨ExtW.trans h1.1 h2, fun hb => own_ext (h1.2 hb) h2⟩) ⟨ExtW.trans HE5.out (Below.refl _ _).drew, fun _ => HO6.out.drew⟩
  simp only [List.take_succ_cons, List.take_zero, List.drop_succ_cons, List.drop_zero]
  iterate 2 (apply wpM_det (by decide); (intro bq wq hJ hG; first | exact obl_non (by rfl) | (apply obl_val (by rfl); go_simp; rfl)); (intro ak hak; simp only [Act.put, List.setIfInBounds_toArray, List.set_cons_succ, List.set_cons_zero] at hak; subst hak))
  apply wpM_nd (BytesF 65 (1 :: (l ++ r))) rfl (BytesF.mono _ _)
  · intro wq hJ
    obtain ⟨v', W', h1, h2, h3, _⟩ := run_append_appd (P := Try.prog) wq wd.heap.size 23 23 5 i0 _ 1 1 Try.underlying23 hi hz0 hz1 hz2 rfl (by omega) (.slice A5 33 c5) 33 (bvs (1 :: l)) (.inr (hJ.2 rfl))
      (some ⟨gr, 0, none⟩) 32 32 (bvs r) ((HR3.out.ext hJ.1).rd32 HRL.out) (bvs_one _) (by simp [maxLen]) (by omega) (hJ.1.size) (.inl (hJ.2 rfl))
    obtain ⟨A', c', e, hrd, _⟩ := Rd.of_own h2
    rw [← bvs_app] at hrd
    exact mut_append (by kernel_rfl) rfl rfl rfl h1 ⟨⟨Below.trans hJ.1 h3, fun h => by cases h⟩, A', c', e, hrd⟩
  (intro u2 ak hak; simp only [Act.put, List.setIfInBounds_toArray, List.set_cons_succ, List.set_cons_zero] at hak; subst hak)
  (apply wpM_det (by decide); (intro bq wq hJ hG; first | exact obl_non (by rfl) | (apply obl_val (by rfl); go_simp; rfl)); (intro ak hak; simp only [Act.put, List.setIfInBounds_toArray, List.set_cons_succ, List.set_cons_zero] at hak; subst hak))
  (apply wpM_det (by decide); (intro bq wq hJ hG; have k7 := hJ.1.cellAt HB3.out; apply obl_val (by rfl); go_simp; rfl); (intro ak hak; simp only [Act.put, List.setIfInBounds_toArray, List.set_cons_succ, List.set_cons_zero] at hak; subst hak))
  apply wpM_det (by decide)
  · intro bq wq hJ hG
    obtain ⟨A3, c3, rfl, h3⟩ : BytesF 65 (1 :: (l ++ r)) u2 wq := hG _ (List.mem_cons_self ..) (by kernel_rfl)
    apply obl_on (by kernel_rfl)
    go_simp
    simp only [extUpon_enter]
    refine (kept_any A3 65 c3 (1 :: (l ++ r)) x wq h3 (by omega) HX.out).mono ?_
    rintro e w' ⟨rfl, hb⟩
    exact ⟨_, rfl, hb, rfl⟩
  (intro ak hak; simp only [Act.put, List.setIfInBounds_toArray, List.set_cons_succ, List.set_cons_zero] at hak; subst hak)
  (apply wpM_nil; intro wq hJ hG)
  have HDQ := Lib.hid (HD3.out.ext hJ.1)
  have HEQ := Lib.hid (ExtW.trans HW3.out hJ.1)
  clear hJ hG
  obtain ⟨d, hd⟩ : ∃ d, d = T.nodeD (bitsN x) l r := ⟨_, rfl⟩
  have HDD : Hid (keep (S.sha (1 :: (l ++ r))) (bitsN x) = d) := Lib.hid (by rw [hd]; rfl)
  have HS : Hid ((bvs d).toArray.size = 32) := Lib.hid (dg_size (by rw [hd]; exact T.nodeD_len _ _ _))
  have HDL : Hid (d = T.nodeD (bitsN x) l r) := Lib.hid hd
  rw [HDD.out]
  clear hd
  unfold dgV
  go_wp2_with (refine wpList_st rfl rfl ?_; refine ⟨gd, _, _, _, rfl, rfl, HDQ.out, by rw [HS.out]; kernel_rfl, Eq.trans (show (bvs (List.replicate 32 0)).toArray.size = 32 from rfl) HS.out.symm, dg_one _, ?_⟩)
  (try simp only [Exit.inBlock, Exit.then])
  refine bodyPost_ret (v := dgV d) ?_ rfl ⟨by rw [HDL.out]; rfl, below_setRow HEQ.out HGS.out.1 _⟩
  have h := run_loadVar_row (P := Try.prog) (wq.setRow gd (bvs d).toArray) gd 45 45 (bvs d).toArray (0, 0) _ (Row.setRow HDQ.out (bvs d)) Try.underlying45 rfl (by rw [HS.out]; kernel_rfl)
  simpa [results, Try.f33, Act.put, asAddr, dgV] using h
end Go.Proofs.Ythaoibgcgkmnbaa
