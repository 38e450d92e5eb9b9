/- Walk of small: the first leaves, cut. -/
import Derived.Test.YthaoibgcgkmnbaaLot
namespace Go.Proofs.Ythaoibgcgkmnbaa
set_option maxRecDepth 100000
open Go.RowKit

/-- the first leaves, cut -/
def cutL (l : List (List UInt8)) (j : Nat) : List (List UInt8) := (l.take j).map (List.take 100)
theorem cutL_succ {l : List (List UInt8)} {j : Nat} {y : List UInt8} (h : l[j]? = some y) : cutL l (j + 1) = cutL l j ++ [y.take 100] := by
  unfold cutL; rw [List.take_add_one, h]; simp
theorem cutL_len (l : List (List UInt8)) (j : Nat) : (cutL l j).length = min j l.length := by unfold cutL; rw [List.length_map, List.length_take]
def smallL (l : List (List UInt8)) : List (List UInt8) := cutL l 40
theorem smallL_lv (l : List (List UInt8)) : ∀ y ∈ smallL l, y.length ≤ 100 := by
  intro y hy
  obtain ⟨x, _, rfl⟩ := List.mem_map.1 hy
  rw [List.length_take]; omega
theorem smallL_len (l : List (List UInt8)) : (smallL l).length ≤ 40 := by unfold smallL; rw [cutL_len]; omega

set_option maxHeartbeats 4000000 in
set_option maxRecDepth 100000 in
theorem small_any (A : Option Addr) (n c : Nat) (l : List (List UInt8)) (w : World) (hr : Bss w A n c l) :
    Calls Try.prog 11 #[.slice A n c] w fun e w' => ∃ v, e = .returned v ∧ Lot w.heap.size (smallL l) v w' ∧ ExtW w w' := by
  obtain ⟨i0, hi, hz0, hz1, hz2⟩ := info_parts infoB
  have HR := Lib.hid hr
  have hnc := hr.nc
  clear hr
  go_enter Try.func11, Try.ntmps11
  go_upto_region 2 with (fail)
  have HL0 : Hid (Lot w.heap.size [] (.slice (some ⟨w.heap.size, 0, none⟩) 0 0) (w.alloc (.cells #[] 23))) := Lib.hid (Lot.empty w _ (Nat.le_refl _))
  have HE0 : Hid (ExtW w (w.alloc (.cells #[] 23))) := Lib.hid ((Below.refl _ _).alloc (Nat.le_refl _) _)
  generalize w.alloc (.cells #[] 23) = w1 at HL0 HE0 ⊢
  go_upto_block 0 with (fail)
  go_wp2_with fail
  go_loopw [3, 4] (fun v i wr => ∃ j : Nat, i = .int .i64 j ∧ j ≤ 40 ∧ j ≤ n ∧ Hid (Lot w.heap.size (cutL l j) v wr) ∧ Hid (ExtW w wr)) (fun _ i _ => 40 - (intOf i).toNat)
  case atStart => exact ⟨0, rfl, Nat.zero_le _, Nat.zero_le _, HL0, HE0⟩
  case round =>
    obtain ⟨j, rfl, hj70, hjn, HL, HE⟩ := hrel
    by_cases hlt : j < n ∧ j < 40
    · obtain ⟨hl1, hl2⟩ := hlt
      have hli : (j : Int) < (n : Int) := by omega
      have hli2 : (j : Int) < 40 := by omega
      obtain ⟨y, hy⟩ : ∃ y, l[j]? = some y := ⟨_, List.getElem?_eq_getElem (by rw [HR.out.len]; exact hl1)⟩
      cases hA : A with
      | none => have := HR.out.nil0 hA; omega
      | some a =>
        obtain ⟨D, m, dd, hcell, hrd⟩ := HR.out.row a hA j y hy
        subst hA
        obtain ⟨q, hq⟩ : ∃ q, q = min m 100 := ⟨_, rfl⟩
        have hq1 : q ≤ 100 := by omega
        have hq2 : q ≤ m := by omega
        have hqq : min (m : Int) 100 = (q : Int) := by omega
        obtain ⟨hsl, hslr⟩ := cut_h (P := Try.prog) Try.underlying23 hi hz1 D m dd .i64 (q : Int) q rfl hq2 hrd.nc
        have hrq := hslr _ _ (hrd.below HE.out (Nat.le_refl _))
        rw [Nat.mul_one, bvs_take] at hrq
        obtain ⟨z, hz⟩ : ∃ z, z = y.take q := ⟨_, rfl⟩
        rw [← hz] at hrq
        have HZ : Hid (cutL l (j + 1) = cutL l j ++ [z]) := Lib.hid (by
          have hyl : y.length = m := by have := hrd.len; rw [bvs_len] at this; omega
          rw [cutL_succ hy, hz]
          by_cases hm3 : m ≤ 100
          · rw [List.take_of_length_le (by omega), List.take_of_length_le (by omega)]
          · rw [show q = 100 by omega])
        have HZL : Hid (z.length = q) := Lib.hid (by have := hrq.len; rw [bvs_len] at this; omega)
        have HRQ := Lib.hid hrq
        have hcw : ∀ wq, ExtW wr.drew wq → wq.cell? (a.add j) = some (.slice D m dd) := fun wq h => (ExtW.of_drew h).cellAt (HE.out.cellAt hcell)
        have HJ1 : Hid (j + 1 ≤ n) := Lib.hid hl1
        clear hrd hslr hrq hcell hy hq hz
        go_upto_region 5 with (fail)
        apply wp_region_ext_tail 15 _ (by kernel_rfl) (by kernel_rfl)
        simp only [List.take_succ_cons, List.take_zero, List.drop_succ_cons, List.drop_zero]
        (apply wpZ_det; (intro wq hE hG; first | exact obl_non (by rfl) | (apply obl_val (by rfl); go_simp <;> rfl)); (intro ak hak; simp only [Act.put, List.setIfInBounds_toArray, List.set_cons_succ, List.set_cons_zero] at hak; subst hak))
        apply wpZ_nd NwF NwF.mono
        · intro wq hE hG
          apply obl_on (by kernel_rfl)
          go_simp
          exact ⟨(Below.refl _ _).alloc (Nat.le_refl _) _, _, rfl⟩
        (intro u1 ak hak; simp only [Act.put, List.setIfInBounds_toArray, List.set_cons_succ, List.set_cons_zero] at hak; subst hak)
        iterate 11 (apply wpZ_det; (intro wq hE hG; first | exact obl_non (by rfl) | (apply obl_val (by rfl); go_simp <;> rfl)); (intro ak hak; simp only [Act.put, List.setIfInBounds_toArray, List.set_cons_succ, List.set_cons_zero] at hak; subst hak))
        apply wpZ_nd (PcF wr.heap.size z q) (PcF.mono _ _ _)
        · intro wq hE hG
          obtain ⟨g, rfl⟩ : NwF u1 wq := hG _ (List.mem_cons_self ..) (by kernel_rfl)
          obtain ⟨v', W', h1, h2, h3⟩ := append_new g D q dd z wq wr.heap.size (ExtW.of_drew hE).size (HRQ.out.below (ExtW.of_drew hE) (Nat.le_refl _)) (by omega)
          exact obl_append (by kernel_rfl) rfl rfl rfl h1 h2 h3
        (intro u2 ak hak; simp only [Act.put, List.setIfInBounds_toArray, List.set_cons_succ, List.set_cons_zero] at hak; subst hak)
        apply wpZ_nd (OneS wr.heap.size z) (OneS.mono _ _)
        · intro wq hE hG
          obtain ⟨A1, c1, rfl, hr1, ho1⟩ : PcF wr.heap.size z q u2 wq := hG _ (List.mem_cons_self ..) (by kernel_rfl)
          apply obl_on (by kernel_rfl)
          go_simp
          simp only [extUpon_value]
          have hx : ExtW wq (wq.alloc (.cells #[.slice A1 q c1] 23)) := (Below.refl _ _).alloc (Nat.le_refl _) _
          exact ⟨hx, wq.heap.size, A1, q, c1, rfl, cell_new1 _ _ _, hr1.below hx (Nat.le_refl _), PcF.ge ho1 HZL.out⟩
        (intro u3 ak hak; simp only [Act.put, List.setIfInBounds_toArray, List.set_cons_succ, List.set_cons_zero] at hak; subst hak)
        (apply wpZ_nil; intro wq hE hG)
        obtain ⟨g, A1, q1, c1, hu3, hc1, hr1, hge⟩ : OneS wr.heap.size z u3 wq := hG _ (List.mem_cons_self ..)
        subst hu3
        have HEQ := Lib.hid (ExtW.of_drew hE)
        have HC1 := Lib.hid hc1
        have HR1 := Lib.hid hr1
        have HGE := Lib.hid hge
        have HLQ := Lib.hid (Lot.mono _ _ _ _ _ HL.out HEQ.out)
        clear hE hG hc1 hr1 hge hcw hsl
        refine wpList_append_lot rfl _ _ rfl rfl rfl rfl HLQ.out HR1.out (fun a ha h0 e => by have h1 := HGE.out a ha h0; have h2 := (HL.out.own _ e.symm).2; omega) HC1.out (by rw [cutL_len]; omega) (Nat.le_trans HE.out.size HEQ.out.size) ?_
        intro v' w' ho' hg'
        have HO' := Lib.hid ho'
        have HE' : Hid (ExtW w w') := Lib.hid (Below.trans (ExtW.trans HE.out HEQ.out) (hg'.below (Nat.le_trans HE.out.size HEQ.out.size) fun k hk => (HLQ.out.own k hk).1))
        clear ho' hg'
        go_wp2_with fail
        go_roundw
        case rel => exact ⟨j + 1, by simp, by omega, HJ1.out, Lib.hid (by rw [HZ.out]; exact HO'.out), HE'⟩
        case measure => simp [intOf]; omega
    · have hend : smallL l = cutL l j := by
        unfold smallL cutL
        rcases (by omega : n ≤ j ∨ 40 ≤ j) with h | h
        · rw [List.take_of_length_le (by rw [HR.out.len]; omega), List.take_of_length_le (by rw [HR.out.len]; omega)]
        · rw [show j = 40 by omega]
      have HEND := Lib.hid hend
      clear hend
      have hcase : (¬ (j : Int) < (n : Int)) ∨ ((j : Int) < (n : Int) ∧ ¬ (j : Int) < 40) := by omega
      clear hlt
      rcases hcase with h1 | ⟨h1, h2⟩
      all_goals
        go_wp2
        go_ret
        exact ⟨_, rfl, by rw [HEND.out]; exact HL.out, HE.out⟩
end Go.Proofs.Ythaoibgcgkmnbaa
