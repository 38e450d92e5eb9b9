/- The document's Put and Next: walks. -/
import Derived.Test.YtegkcbkgoncnbaaRef8
namespace Go.Proofs.Ytegkcbkgoncnbaa
open Go.RowKit

/-- what the document's Put tells -/
def refPutV (xs ys : List UInt8) : Value := if 65536 < ys.length then .tuple #[.string (txt []), .int .i64 3] else .tuple #[.string (txt (xs ++ frameOf ys)), .int .i64 0]

set_option maxHeartbeats 1000000 in
set_option maxRecDepth 100000 in
theorem refPut_any (xs ys : List UInt8) (w : World) (hx : xs.length ≤ 4000000000) (hn : ys.length ≤ 4000000000) :
    Calls Try.prog 12 #[.string (txt xs), .string (txt ys)] w fun e w' => e = .returned (refPutV xs ys) ∧ Below w.heap.size w w' := by
  obtain ⟨n, hl⟩ : ∃ n, n = ys.length := ⟨_, rfl⟩
  have hsz : (txt ys).size = n := by rw [txt_size, hl]
  have HL := Lib.hid hl
  have a1 : ∀ W, (Op.stringOp .add (txt xs) (txt (frameOf ys))).run Try.prog W = .ok (.string (txt (xs ++ frameOf ys))) W := add_txt _ _ (by rw [frameOf_len]; omega)
  clear hl
  by_cases hb : 65536 < n
  · have hbi : (65536 : Int) < (n : Int) := by omega
    go_enter Try.func12, Try.ntmps12
    go_wp2
    go_ret2
    exact ⟨ret_eq (by unfold refPutV; rw [if_pos (by rw [← HL.out]; exact hb)]; rfl), Below.refl _ _⟩
  · have hbi : ¬ (65536 : Int) < (n : Int) := by omega
    go_enter Try.func12, Try.ntmps12
    go_wp2_with fail
    refine (refMade_any ys _ hn).mono ?_
    rintro e w1 ⟨rfl, hb1⟩
    have HB1 := Lib.hid hb1
    clear hb1
    go_wp2
    go_ret2
    exact ⟨ret_eq (by unfold refPutV; rw [if_neg (by rw [← HL.out]; exact hb)]; rfl), HB1.out⟩

/-- what the document's Next tells -/
def refNextV (xs : List UInt8) : Value := .tuple #[.string (txt (nextF xs).1), .int .i64 ((nextF xs).2.1 : Nat), .int .i64 ((nextF xs).2.2 : Nat)]
theorem refNextV_no {xs : List UInt8} {k : Nat} (h : nextF xs = ([], 0, k)) : refNextV xs = .tuple #[.string (txt []), .int .i64 0, .int .i64 (k : Int)] := by unfold refNextV; rw [h]; rfl

set_option maxHeartbeats 2000000 in
set_option maxRecDepth 100000 in
theorem refNext_any (xs : List UInt8) (w : World) (hn : xs.length ≤ 4000000000) :
    Calls Try.prog 14 #[.string (txt xs)] w fun e w' => e = .returned (refNextV xs) ∧ Below w.heap.size w w' := by
  obtain ⟨n, hl⟩ : ∃ n, n = xs.length := ⟨_, rfl⟩
  have hsz : (txt xs).size = n := by rw [txt_size, hl]
  have HL := Lib.hid hl
  by_cases h4 : n < 4
  · have HN := Lib.hid (refNextV_no (xs := xs) (k := 5) (by unfold nextF; rw [if_pos (by omega)]))
    have h4i : (n : Int) < 4 := by omega
    clear hl
    go_enter Try.func14, Try.ntmps14
    go_wp2
    go_ret3
    exact ⟨ret_eq HN.out.symm, Below.refl _ _⟩
  · have h4i : ¬ (n : Int) < 4 := by omega
    obtain ⟨v, hv⟩ : ∃ v, v = fold4 (xs.take 4) := ⟨_, rfl⟩
    have HF : Hid (∀ w, Calls Try.prog 22 #[.string (txt xs)] w fun e w' => e = .returned (.tuple #[.int .u32 (v : Nat), .bool true]) ∧ Below w.heap.size w w') := Lib.hid fun w =>
      (refFixed_any (txt xs) w (by rw [txt_size]; omega)).mono fun e w' h => ⟨by rw [h.1, txt_list, fixV_long (by omega), hv], h.2⟩
    have hvb : v < 4294967296 := by
      rw [hv]
      have := fold4_lt (xs.take 4)
      rw [List.length_take, show min 4 xs.length = 4 by omega] at this
      exact this
    by_cases hbig : 65536 < v
    · have HN := Lib.hid (refNextV_no (xs := xs) (k := 2) (by unfold nextF; rw [if_neg (by omega), if_pos (by omega)]))
      have hbi : (65536 : Int) < (v : Int) := by omega
      clear hl hv
      go_enter Try.func14, Try.ntmps14
      go_wp2_with fail
      refine (HF.out _).mono ?_
      rintro e w1 ⟨rfl, hb⟩
      have HB := Lib.hid hb
      clear hb
      go_wp2
      go_ret3
      exact ⟨ret_eq HN.out.symm, HB.out⟩
    · have hbi : ¬ (65536 : Int) < (v : Int) := by omega
      by_cases hsh : n < 8 + v
      · have HN := Lib.hid (refNextV_no (xs := xs) (k := 5) (by unfold nextF; rw [if_neg (by omega), if_neg (by omega), if_pos (by omega)]))
        have hsi : (n : Int) < 8 + (v : Int) := by omega
        clear hl hv
        go_enter Try.func14, Try.ntmps14
        go_wp2_with fail
        refine (HF.out _).mono ?_
        rintro e w1 ⟨rfl, hb⟩
        have HB := Lib.hid hb
        clear hb
        go_wp2
        go_ret3
        exact ⟨ret_eq HN.out.symm, HB.out⟩
      · have hsi : ¬ (n : Int) < 8 + (v : Int) := by omega
        have hM := next_made (xs := xs) (by omega) (by omega) (by omega)
        rw [← hv] at hM
        obtain ⟨body, hbody⟩ : ∃ body, body = (xs.drop 8).take v := ⟨_, rfl⟩
        obtain ⟨fr, hfr⟩ : ∃ fr, fr = xs.take (8 + v) := ⟨_, rfl⟩
        rw [← hbody, ← hfr] at hM
        have hbl : body.length = v := by rw [hbody, List.length_take, List.length_drop]; omega
        have s1 : ∀ W, (Instr.slice 9 (.string (txt xs)) (some (.int .i64 8)) (some (.int .i64 (8 + (v : Int)))) none).run Try.prog W = .ok (.string (txt body)) W := fun W => by
          have h := run_slice_string (P := Try.prog) W 9 (txt xs) .i64 .i64 8 (8 + (v : Int)) Try.underlying9 (by omega) (by omega) (by rw [hsz]; omega)
          rw [h, txt_cut, hbody]
          congr 3
          rw [show (8 + (v : Int)).toNat - (8 : Int).toNat = v by omega]; rfl
        have s2 : ∀ W, (Instr.slice 9 (.string (txt xs)) none (some (.int .i64 (8 + (v : Int)))) none).run Try.prog W = .ok (.string (txt fr)) W := fun W => by
          rw [run_slice_string_to_if (P := Try.prog) W 9 (txt xs) .i64 (8 + (v : Int)) Try.underlying9, if_pos (by rw [hsz]; omega), txt_cut, hfr]
          congr 3
        have HM := Lib.hid hM
        have HBL := Lib.hid hbl
        clear hl hv hbody hfr hbl hM
        go_enter Try.func14, Try.ntmps14
        go_wp2_with fail
        refine (HF.out _).mono ?_
        rintro e w1 ⟨rfl, hb⟩
        have HB := Lib.hid hb
        clear hb
        go_wp2_with fail
        have hw8 : IntKind.i64.wrap (8 + (v : Int)) = 8 + (v : Int) := by rw [IntKind.wrap_i64]; omega
        have hcmp := txt_cmp (frameOf body) fr
        by_cases heq : frameOf body = fr
        · rw [decide_eq_true heq] at hcmp
          have HN := HM.out
          rw [if_pos heq] at HN
          have HN := Lib.hid HN
          clear heq
          apply wp_region_ext _ (by kernel_rfl) (by kernel_rfl)
          (apply wpZ_det; (intro wq hE hG; first | exact obl_non (by rfl) | (apply obl_val (by rfl); go_simp; rfl)); (intro ak hak; simp only [Act.put, List.setIfInBounds_toArray, List.set_cons_succ, List.set_cons_zero] at hak; subst hak))
          apply wpZ_det
          · intro wq hE hG
            apply obl_on (by kernel_rfl)
            go_simp
            simp only [extUpon_enter]
            refine (refMade_any body wq (by rw [HBL.out]; omega)).mono ?_
            rintro e w' ⟨rfl, hb⟩
            exact ⟨_, rfl, hb, rfl⟩
          (intro ak hak; simp only [Act.put, List.setIfInBounds_toArray, List.set_cons_succ, List.set_cons_zero] at hak; subst hak)
          iterate 5 (apply wpZ_det; (intro wq hE hG; first | exact obl_non (by rfl) | (apply obl_val (by rfl); go_simp; rfl)); (intro ak hak; simp only [Act.put, List.setIfInBounds_toArray, List.set_cons_succ, List.set_cons_zero] at hak; subst hak))
          (apply wpZ_nil; intro wq hE hG)
          have HB2 := Lib.hid (HB.out.trans ((ExtW.of_drew hE).mono HB.out.size))
          clear hE hG
          go_wp2
          go_ret3
          refine ⟨ret_eq ?_, HB2.out⟩
          unfold refNextV
          rw [HN.out]
          simp
        · rw [decide_eq_false heq] at hcmp
          have HN := HM.out
          rw [if_neg heq] at HN
          have HN := Lib.hid (refNextV_no HN)
          clear heq
          apply wp_region_ext _ (by kernel_rfl) (by kernel_rfl)
          (apply wpZ_det; (intro wq hE hG; first | exact obl_non (by rfl) | (apply obl_val (by rfl); go_simp; rfl)); (intro ak hak; simp only [Act.put, List.setIfInBounds_toArray, List.set_cons_succ, List.set_cons_zero] at hak; subst hak))
          apply wpZ_det
          · intro wq hE hG
            apply obl_on (by kernel_rfl)
            go_simp
            simp only [extUpon_enter]
            refine (refMade_any body wq (by rw [HBL.out]; omega)).mono ?_
            rintro e w' ⟨rfl, hb⟩
            exact ⟨_, rfl, hb, rfl⟩
          (intro ak hak; simp only [Act.put, List.setIfInBounds_toArray, List.set_cons_succ, List.set_cons_zero] at hak; subst hak)
          iterate 5 (apply wpZ_det; (intro wq hE hG; first | exact obl_non (by rfl) | (apply obl_val (by rfl); go_simp; rfl)); (intro ak hak; simp only [Act.put, List.setIfInBounds_toArray, List.set_cons_succ, List.set_cons_zero] at hak; subst hak))
          (apply wpZ_nil; intro wq hE hG)
          have HB2 := Lib.hid (HB.out.trans ((ExtW.of_drew hE).mono HB.out.size))
          clear hE hG
          go_wp2
          go_ret3
          exact ⟨ret_eq HN.out.symm, HB2.out⟩
end Go.Proofs.Ytegkcbkgoncnbaa
