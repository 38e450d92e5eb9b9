/- Walks of whole, half, Leaf, Node. -/
import Derived.Test.YthaoibgcgkmnbaaTp
import Derived.Test.YthaoibgcgkmnbaaExtT
import Derived.Deep.RegionHeld3
namespace Go.Proofs.Ythaoibgcgkmnbaa
set_option maxRecDepth 100000
open Go.RowKit

theorem obl_append {P : Program} {ops : Array Oper} {o : Oper} {a : Act} {w : World} {F : Value → World → Prop} (hw : Region.wanted o (yielded ops a.tmps) = true) {s x : Operand} {t : TypeId}
    (ho : o.op = .call { callee := .builtin .append, args := #[s, x], argTypes := #[t, t] }) {v u : Value} (hs : a.eval s = v) (hx : a.eval x = u) {v' : Value} {w' : World}
    (hrun : (Builtin.append_ #[t, t] o.type #[v, u]).run P w = .ok v' w') (h1 : ExtW w w') (h2 : F v' w') : oblAt P ops o a w F :=
  obl_on hw (by
    unfold execOp
    simp only [ho, resolve, invoke, builtin, Sem.run_bind, Sem.run_pure, Result.andThen_ok, List.map_toArray, List.map_cons, List.map_nil, hs, hx, hrun]
    exact ⟨h1, h2⟩)
theorem cell_new1 (w : World) (v : Value) (e : TypeId) : (w.alloc (.cells #[v] e)).cell? ⟨w.heap.size, 0, none⟩ = some v := by
  have h1 : (w.alloc (.cells #[v] e)).heap[w.heap.size]? = some (.cells #[v] e) := heap_alloc_new w _
  unfold World.cell?
  simp only [h1]
  rfl

set_option maxHeartbeats 4000000 in
set_option maxRecDepth 100000 in
theorem half_any (n : Nat) (w : World) (hn : 1 ≤ n ∧ n < 9223372036854775808) : Calls Try.prog 52 #[.int .i64 (n : Int)] w fun e w' => e = .returned (.int .i64 (T.half n : Nat)) ∧ w' = w := by
  obtain ⟨hn1, hn2⟩ := hn
  go_enter Try.func52, Try.ntmps52
  go_wp2_with fail
  go_loopw [3] (fun k wr => ∃ m : Nat, k = .int .i64 m ∧ 1 ≤ m ∧ m ≤ n ∧ Hid (∃ j, m = 2 ^ j) ∧ Hid (m = 1 ∨ m < n) ∧ Hid (wr = w)) (fun k _ => n - (intOf k).toNat)
  case atStart => exact ⟨1, rfl, Nat.le_refl _, hn1, Lib.hid ⟨0, rfl⟩, Lib.hid (.inl rfl), rfl⟩
  case round =>
    obtain ⟨m, rfl, hm1, hmn, HJ, HM, HW⟩ := hrel
    obtain rfl := HW.out
    by_cases hlt : m < n - m
    · have hli : (m : Int) < (n : Int) - (m : Int) := by omega
      obtain ⟨m2, hm2⟩ : ∃ k, k = m * 2 := ⟨_, rfl⟩
      have hm2i : IntKind.i64.wrap ((m : Int) * 2) = (m2 : Int) := by rw [IntWalk.i64_in _ (by omega)]; omega
      have hm2b : m2 < n := by omega
      have HM2 := Lib.hid hm2
      clear hm2
      go_wp2_with fail
      go_roundw
      case rel => exact ⟨m2, by first | rfl | simp [hm2i], by have := HM2.out; omega, by omega, Lib.hid (by obtain ⟨j, hj⟩ := HJ.out; exact ⟨j + 1, by rw [HM2.out, hj, Nat.pow_succ]⟩), Lib.hid (.inr hm2b), Lib.hid trivial⟩
      case measure => simp [intOf]; have := HM2.out; omega
    · have hli : ¬ (m : Int) < (n : Int) - (m : Int) := by omega
      have hh : m = T.half n := by
        symm
        by_cases h2 : 2 ≤ n
        · obtain ⟨j, hj⟩ := HJ.out
          rw [hj]
          exact T.half_eq h2 (by rw [← hj]; rcases HM.out with h | h <;> omega) (by rw [← hj]; omega)
        · rw [T.half_one (by omega)]; omega
      have HH := Lib.hid hh
      clear hh
      go_wp2
      go_ret
      exact ⟨by rw [← HH.out]; rfl, rfl⟩

/-- a new cell for a digest -/
theorem wpList_newD {ops : Array Oper} {rest : List Oper} {o : Oper} {a : Act} {w : World} {Q : Exit → Act → World → Prop} (hgd : o.guard = none) (ho : o.op = .alloc 45)
    (h : wpList Try.prog ops Q rest (a.put o.dst (.pointer (some ⟨w.heap.size, 0, none⟩))) (w.alloc (.cells zDig 45))) : wpList Try.prog ops Q (o :: rest) a w := by
  refine wpList_plain hgd fun K hK => ?_
  unfold Oper.wp
  rw [show (execOp a.eval o).run Try.prog w = .ok (.value (.pointer (some ⟨w.heap.size, 0, none⟩))) (w.alloc (.cells zDig 45)) by unfold execOp; rw [ho]; kernel_rfl]
  exact hK _ _ h
/-- bytes that lie in a row -/
def BytesF (n : Nat) (xs : List UInt8) (v : Value) (w : World) : Prop := ∃ A c, v = .slice A n c ∧ Rd w A n c 1 (bvs xs)
theorem BytesF.mono (n : Nat) (xs : List UInt8) : ∀ v w w', BytesF n xs v w → ExtW w w' → BytesF n xs v w' := by
  rintro v w w' ⟨A, c, e, h⟩ hb
  exact ⟨A, c, e, h.below hb (Nat.le_refl _)⟩
/-- a full row of one byte, made by a literal -/
def One1 (b : UInt8) (v : Value) (w : World) : Prop := ∃ g, v = .slice (some ⟨g, 0, none⟩) 1 1 ∧ w.cell? ⟨g, 0, none⟩ = some (.int .u8 (b.toNat : Int))
theorem One1.mono (b : UInt8) : ∀ v w w', One1 b v w → ExtW w w' → One1 b v w' := by
  rintro v w w' ⟨g, e, h⟩ hb
  exact ⟨g, e, hb.cellAt h⟩
theorem append_one (g : Nat) (b : UInt8) (D : Option Addr) (q dd : Nat) (z : List UInt8) (W : World) (hg : W.cell? ⟨g, 0, none⟩ = some (.int .u8 (b.toNat : Int))) (hr : Rd W D q dd 1 (bvs z)) (hq : q ≤ 100000000000000) :
    ∃ v' W', (Builtin.append_ #[23, 23] 23 #[.slice (some ⟨g, 0, none⟩) 1 1, .slice D q dd]).run Try.prog W = .ok v' W' ∧ ExtW W W' ∧ BytesF (1 + q) (b :: z) v' W' := by
  obtain ⟨i0, hi, hz0, hz1, hz2⟩ := info_parts infoB
  have hy : Rd W (some ⟨g, 0, none⟩) 1 1 1 (bvs [b]) := ⟨rfl, Nat.le_refl _, by decide, (fun h => by cases h), fun a ha j u hj => by
    cases ha
    cases j with
    | zero => simp [bvs] at hj; subst hj; rw [Addr.add_mid]; exact hg
    | succ j => simp [bvs] at hj⟩
  by_cases h0 : 0 < q
  · obtain ⟨v', W', h1, h2, h3, _⟩ := run_append_appd (P := Try.prog) W W.heap.size 23 23 5 i0 _ 1 1 Try.underlying23 hi hz0 hz1 hz2 rfl (by omega) (.slice (some ⟨g, 0, none⟩) 1 1) 1 (bvs [b])
      (.inl ⟨some ⟨g, 0, none⟩, rfl, hy⟩) D q dd (bvs z) hr (bvs_one _) (by simp [maxLen]; omega) (by omega) (Nat.le_refl _) (.inr h0)
    obtain ⟨A', c', e, hrd, _⟩ := Rd.of_own h2
    rw [← bvs_app] at hrd
    exact ⟨v', W', h1, h3, A', c', e, hrd⟩
  · obtain rfl : q = 0 := by omega
    have hz : z = [] := by have := hr.len; rw [bvs_len] at this; exact List.length_eq_zero_iff.1 (by omega)
    subst hz
    refine ⟨.slice (some ⟨g, 0, none⟩) 1 1, W, ?_, ExtW.refl _, some ⟨g, 0, none⟩, 1, rfl, hy⟩
    cases D with
    | none =>
      have hd := hr.nil0 rfl
      subst hd
      simp [Builtin.append_, run_underlying Try.underlying23, Builtin.lenOf, Builtin.firstCells, sizeOf, typeInfo, hi, loadCells, storeCells]
    | some a => simp [Builtin.append_, run_underlying Try.underlying23, Builtin.lenOf, Builtin.firstCells, sizeOf, typeInfo, hi, loadCells, loadCellsFrom, storeCells]

set_option maxHeartbeats 4000000 in
set_option maxRecDepth 100000 in
theorem leaf_any (x : Int) (A : Option Addr) (n c : Nat) (xs : List UInt8) (w : World) (hr : Rd w A n c 1 (bvs xs)) (hn : n ≤ 100000000000000) (hx : -9223372036854775808 ≤ x ∧ x ≤ 9223372036854775807) :
    Calls Try.prog 28 #[.agg #[.int .i64 x], .slice A n c] w fun e w' => e = .returned (dgV (T.leafD (bitsN x) xs)) ∧ ExtW w w' := by
  have HR := Lib.hid hr
  have HX := Lib.hid hx
  have HB0 := Lib.hid (cell_new1 w (.int .i64 x) 30)
  have HE0 : Hid (ExtW w (w.alloc (.cells #[.int .i64 x] 30))) := Lib.hid ((Below.refl _ _).alloc (Nat.le_refl _) _)
  clear hr hx
  go_enter Try.func28, Try.ntmps28
  go_upto_region 1 with (refine wpList_newD rfl rfl ?_; generalize w.alloc (.cells #[.int .i64 x] 30) = w1 at HB0 HE0 ⊢)
  have HD1 := Lib.hid (zDig_row w1)
  have HE1 : Hid (ExtW w1 (w1.alloc (.cells zDig 45))) := Lib.hid ((Below.refl _ _).alloc (Nat.le_refl _) _)
  have hgd := HE0.out.size
  have HGD : Hid (w.heap.size ≤ w1.heap.size) := Lib.hid hgd
  obtain ⟨gd, hgd2⟩ : ∃ g, g = w1.heap.size := ⟨_, rfl⟩
  rw [← hgd2] at HD1 HGD ⊢
  generalize w1.alloc (.cells zDig 45) = w2 at HD1 HE1 ⊢
  have HB2 := Lib.hid (HE1.out.cellAt HB0.out)
  have HE2 := Lib.hid (ExtW.trans HE0.out HE1.out)
  have HR2 := Lib.hid (HR.out.below HE2.out (Nat.le_refl _))
  clear hgd hgd2 HB0 HE0 HE1
  apply wp_region_ext_tail 6 _ (by kernel_rfl) (by kernel_rfl)
  simp only [List.take_succ_cons, List.take_zero, List.drop_succ_cons, List.drop_zero]
  apply wpZ_nd (One1 0) (One1.mono 0)
  · intro wq hE hG
    apply obl_on (by kernel_rfl)
    go_simp
    simp only [extUpon_value]
    exact ⟨(Below.refl _ _).alloc (Nat.le_refl _) _, wq.heap.size, rfl, cell_new1 _ _ _⟩
  (intro u1 ak hak; simp only [Act.put, List.setIfInBounds_toArray, List.set_cons_succ, List.set_cons_zero] at hak; subst hak)
  (apply wpZ_det; (intro wq hE hG; first | exact obl_non (by rfl) | (apply obl_val (by rfl); go_simp; rfl)); (intro ak hak; simp only [Act.put, List.setIfInBounds_toArray, List.set_cons_succ, List.set_cons_zero] at hak; subst hak))
  apply wpZ_nd (BytesF (1 + n) (0 :: xs)) (BytesF.mono _ _)
  · intro wq hE hG
    obtain ⟨g, rfl, hg⟩ : One1 0 u1 wq := hG _ (List.mem_cons_self ..) (by kernel_rfl)
    obtain ⟨v', W', h1, h2, h3⟩ := append_one g 0 A n c xs wq hg (HR2.out.below (ExtW.of_drew hE) (Nat.le_refl _)) hn
    exact obl_append (by kernel_rfl) rfl rfl rfl h1 h2 h3
  (intro u2 ak hak; simp only [Act.put, List.setIfInBounds_toArray, List.set_cons_succ, List.set_cons_zero] at hak; subst hak)
  iterate 2 (apply wpZ_det; (intro wq hE hG; have k7 := (ExtW.of_drew hE).cellAt HB2.out; first | exact obl_non (by rfl) | (apply obl_val (by rfl); go_simp; rfl)); (intro ak hak; simp only [Act.put, List.setIfInBounds_toArray, List.set_cons_succ, List.set_cons_zero] at hak; subst hak))
  apply wpZ_det
  · intro wq hE hG
    obtain ⟨A3, c3, rfl, h3⟩ : BytesF (1 + n) (0 :: xs) u2 wq := hG _ (List.mem_cons_self ..) (by kernel_rfl)
    apply obl_on (by kernel_rfl)
    go_simp
    simp only [extUpon_enter]
    refine (kept_any A3 (1 + n) c3 (0 :: xs) x wq h3 (by omega) HX.out).mono ?_
    rintro e w' ⟨rfl, hb⟩
    exact ⟨_, rfl, hb, rfl⟩
  (intro ak hak; simp only [Act.put, List.setIfInBounds_toArray, List.set_cons_succ, List.set_cons_zero] at hak; subst hak)
  (apply wpZ_nil; intro wq hE hG)
  have HDQ := Lib.hid (HD1.out.ext (ExtW.of_drew hE))
  have HEQ := Lib.hid (ExtW.trans HE2.out (ExtW.of_drew hE))
  clear hE hG HB2 HD1 HE2 HR2
  obtain ⟨d, hd⟩ : ∃ d, d = T.leafD (bitsN x) xs := ⟨_, rfl⟩
  have HDD : Hid (keep (S.sha (0 :: xs)) (bitsN x) = d) := Lib.hid (by rw [hd]; rfl)
  have HS : Hid ((bvs d).toArray.size = 32) := Lib.hid (dg_size (by rw [hd]; exact T.leafD_len _ _))
  have HDL : Hid (d = T.leafD (bitsN x) xs) := Lib.hid hd
  rw [HDD.out]
  clear hd
  unfold dgV
  go_wp2_with (refine wpList_st rfl rfl ?_; refine ⟨gd, _, _, _, rfl, rfl, HDQ.out, by rw [HS.out]; kernel_rfl, Eq.trans (show (bvs (List.replicate 32 0)).toArray.size = 32 from rfl) HS.out.symm, dg_one _, ?_⟩)
  (try simp only [Exit.inBlock, Exit.then])
  refine bodyPost_ret (v := dgV d) ?_ rfl ⟨by rw [HDL.out], below_setRow HEQ.out HGD.out _⟩
  have h := run_loadVar_row (P := Try.prog) (wq.setRow gd (bvs d).toArray) gd 45 45 (bvs d).toArray (0, 0) _ (Row.setRow HDQ.out (bvs d)) Try.underlying45 rfl (by rw [HS.out]; kernel_rfl)
  simpa [results, Try.f28, Act.put, asAddr, dgV] using h
end Go.Proofs.Ythaoibgcgkmnbaa
