/- Walk of SumChecks. -/
import Derived.Test.YtoibhplpbiamfaaRefHex
namespace Go.Proofs.Ytoibhplpbiamfaa
open Go.RowKit

theorem obl_ld {P : Program} {ops : Array Oper} {o : Oper} {a : Act} {w : World} {ty : TypeId} {x : Operand} (hw : Region.wanted o (yielded ops a.tmps) = true) (ho : o.op = .load ty x) {b off : Nat} {cs : List Value} {d : TypeDesc}
    (hx : a.eval x = .pointer (some ⟨b, off, none⟩)) (hc : w.rangeAt b off cs) (hu : P.underlying ty = some d) (hd : d.isRow = true) (hi : (P.info? ty).map (·.size) = some cs.length) : oblAt P ops o a w fun v _ => v = .agg cs.toArray :=
  obl_val hw (by
    unfold execOp
    simp only [ho, hx, Instr.loadAt, Instr.sureAddr, Sem.run_bind, Sem.run_pure, Result.andThen_ok, run_loadVar_mid w b off ty cs d hc hu hd hi])

set_option maxHeartbeats 4000000 in
set_option maxRecDepth 100000 in
theorem sumChecks_walk (A : Option Addr) (n c : Nat) (xs : List UInt8) (d : List UInt8) (w : World) (hr : Rd w A n c 1 (bvs xs)) (_hc : c ≤ 140737488351232) (hd : d.length = 32) :
    Calls Try.prog 4 #[.slice A n c, .agg (bvs d).toArray] w fun e w' => e = .returned (.bool true) ∧ Below w.heap.size w w' := by
  obtain ⟨i0, hi, hz0, hz1, hz2⟩ := info_parts infoB
  obtain ⟨p, hp⟩ : ∃ p, p = min n 5000 := ⟨_, rfl⟩
  have hp1 : p ≤ 5000 := by omega
  have hp2 : p ≤ n := by omega
  have hpp : min (n : Int) 5000 = (p : Int) := by omega
  clear hp
  have hnc := hr.nc
  obtain ⟨hsl, hslr⟩ := cut_h (P := Try.prog) Try.underlying22 hi hz1 A n c .i64 (p : Int) p rfl hp2 hnc
  have hrp := hslr _ _ hr
  rw [Nat.mul_one, bvs_take] at hrp
  obtain ⟨b, hb⟩ : ∃ b, b = xs.take p := ⟨_, rfl⟩
  rw [← hb] at hrp
  have HR := Lib.hid hrp
  have HDL := Lib.hid hd
  have HSZ : Hid ((bvs d).length = 32) := Lib.hid (by rw [bvs_len, hd])
  have HB0 : Hid (Row (w.alloc (.cells (bvs d).toArray 25)) w.heap.size 25 (bvs d)) := Lib.hid (heap_alloc_last _ _)
  have HE0 : Hid (ExtW w (w.alloc (.cells (bvs d).toArray 25))) := Lib.hid ((Below.refl _ _).alloc (Nat.le_refl _) _)
  clear hslr hr hb hrp hd
  go_enter Try.func4, Try.ntmps4
  go_upto_region 1 with (fail)
  generalize w.alloc (.cells (bvs d).toArray 25) = w1 at HB0 HE0 ⊢
  go_wp2_with fail
  refine (shown_any _).mono ?_
  rintro e w2 ⟨rfl, hb2⟩
  have HB2 := Lib.hid (HB0.out.ext hb2)
  have HE2 := Lib.hid (ExtW.trans HE0.out hb2)
  have HR2 := Lib.hid (HR.out.below HE2.out (Nat.le_refl _))
  clear hb2
  have hct : ∀ wq, ExtW w2.drew wq → (convert 22 9 (.slice A p c)).run Try.prog wq = .ok (.string ⟨b.toArray⟩) wq := fun wq h => conv_str (HR2.out.below (ExtW.of_drew h) (Nat.le_refl _))
  have HBS : Hid ((⟨b.toArray⟩ : ByteArray).size ≤ 140737488351232) := Lib.hid (by rw [str_size]; have := HR2.out.len; rw [bvs_len] at this; omega)
  clear hnc hp2
  go_wp2_with fail
  apply wp_region_ext _ (by kernel_rfl) (by kernel_rfl)
  iterate 3 (apply wpZ_det; (intro wq hE hG; first | exact obl_non (by rfl) | (apply obl_val (by rfl); go_simp; rfl)); (intro ak hak; simp only [Act.put, List.setIfInBounds_toArray, List.set_cons_succ, List.set_cons_zero] at hak; subst hak))
  apply wpZ_det
  · intro wq hE hG
    apply obl_on (by kernel_rfl)
    go_simp
    simp only [extUpon_enter]
    refine (crc_any A p c b wq (HR2.out.below (ExtW.of_drew hE) (Nat.le_refl _)) (Nat.le_trans hp1 (by decide))).mono ?_
    rintro e w' ⟨rfl, rfl⟩
    exact ⟨_, rfl, ExtW.refl _, rfl⟩
  (intro ak hak; simp only [Act.put, List.setIfInBounds_toArray, List.set_cons_succ, List.set_cons_zero] at hak; subst hak)
  iterate 2 (apply wpZ_det; (intro wq hE hG; first | exact obl_non (by rfl) | (apply obl_val (by rfl); go_simp; rfl)); (intro ak hak; simp only [Act.put, List.setIfInBounds_toArray, List.set_cons_succ, List.set_cons_zero] at hak; subst hak))
  apply wpZ_det
  · intro wq hE hG
    apply obl_on (by kernel_rfl)
    go_simp
    simp only [extUpon_enter]
    refine (refCrc_any ⟨b.toArray⟩ wq HBS.out).mono ?_
    rintro e w' ⟨rfl, rfl⟩
    exact ⟨_, rfl, ExtW.refl _, by rw [str_bytes]⟩
  (intro ak hak; simp only [Act.put, List.setIfInBounds_toArray, List.set_cons_succ, List.set_cons_zero] at hak; subst hak)
  iterate 3 (apply wpZ_det; (intro wq hE hG; first | exact obl_non (by rfl) | (apply obl_val (by rfl); go_simp; rfl)); (intro ak hak; simp only [Act.put, List.setIfInBounds_toArray, List.set_cons_succ, List.set_cons_zero] at hak; subst hak))
  apply wpZ_det
  · intro wq hE hG
    exact obl_ld (by kernel_rfl) rfl rfl (HB2.out.ext (ExtW.of_drew hE)).range Try.underlying25 rfl (by rw [HSZ.out]; kernel_rfl)
  (intro ak hak; simp only [Act.put, List.setIfInBounds_toArray, List.set_cons_succ, List.set_cons_zero] at hak; subst hak)
  apply wpZ_det
  · intro wq hE hG
    apply obl_on (by kernel_rfl)
    go_simp
    simp only [extUpon_enter]
    refine (hex_any d HDL.out wq).mono ?_
    rintro e w' ⟨rfl, hb⟩
    exact ⟨_, rfl, hb, rfl⟩
  (intro ak hak; simp only [Act.put, List.setIfInBounds_toArray, List.set_cons_succ, List.set_cons_zero] at hak; subst hak)
  apply wpZ_det
  · intro wq hE hG
    exact obl_ld (by kernel_rfl) rfl rfl (HB2.out.ext (ExtW.of_drew hE)).range Try.underlying25 rfl (by rw [HSZ.out]; kernel_rfl)
  (intro ak hak; simp only [Act.put, List.setIfInBounds_toArray, List.set_cons_succ, List.set_cons_zero] at hak; subst hak)
  apply wpZ_det
  · intro wq hE hG
    apply obl_on (by kernel_rfl)
    go_simp
    simp only [extUpon_enter]
    refine (refHex_any d HDL.out wq).mono ?_
    rintro e w' ⟨rfl, hb⟩
    exact ⟨_, rfl, hb, rfl⟩
  (intro ak hak; simp only [Act.put, List.setIfInBounds_toArray, List.set_cons_succ, List.set_cons_zero] at hak; subst hak)
  iterate 3 (apply wpZ_det; (intro wq hE hG; first | exact obl_non (by rfl) | (apply obl_val (by rfl); go_simp; rfl)); (intro ak hak; simp only [Act.put, List.setIfInBounds_toArray, List.set_cons_succ, List.set_cons_zero] at hak; subst hak))
  (apply wpZ_nil; intro wk hE hG)
  have HEK : Hid (ExtW w wk) := Lib.hid (ExtW.trans HE2.out (ExtW.of_drew hE))
  clear hE hG hct
  go_wp2
  go_ret
  exact ⟨rfl, HEK.out⟩
end Go.Proofs.Ytoibhplpbiamfaa
