/- Walks of Texts, Same, still, and of the document's Path, beside, Range. -/
import Derived.Test.YtncdgndeidbgoaaR1
namespace Go.Proofs.Ytncdgndeidbgoaa
open Go.RowKit

theorem str_one (l : List (List UInt8)) : ∀ u ∈ l.map strV, u.oneCell' = true := by
  intro u hu
  obtain ⟨b, _, rfl⟩ := List.mem_map.1 hu
  rfl
/-- texts in memory of the call's own -/
def OwnSts (base : Nat) (l : List (List UInt8)) (v : Value) (w : World) : Prop := w.ownsRow base 9 1 v l.length (l.map strV)
theorem OwnSts.mono (base : Nat) (l : List (List UInt8)) : ∀ v w w', OwnSts base l v w → ExtW w w' → OwnSts base l v w' := fun _ _ _ h hb => own_extG h hb
theorem OwnSts.empty (w : World) (base : Nat) (hb : base ≤ w.heap.size) : OwnSts base [] (.slice (some ⟨w.heap.size, 0, none⟩) 0 0) (w.alloc (.cells #[] 9)) :=
  ⟨rfl, .inr ⟨w.heap.size, 0, #[], rfl, hb, heap_alloc_new w _, Nat.le_refl _, by simp [maxLen], rfl, rfl⟩⟩
theorem OwnSts.sts {base : Nat} {l : List (List UInt8)} {v : Value} {w : World} (h : OwnSts base l v w) : ∃ A c, v = .slice A l.length c ∧ Sts w A l.length c l := by
  obtain ⟨A, c, hv, hr, _⟩ := Rd.of_own h
  exact ⟨A, c, hv, rfl, hr⟩
theorem OwnSts.le {base base' : Nat} {l : List (List UInt8)} {v : Value} {w : World} (h : OwnSts base l v w) (hb : base' ≤ base) : OwnSts base' l v w := own_mono h hb
theorem wpList_append_st {ops : Array Oper} {rest : List Oper} {o : Oper} {a : Act} {w : World} {Q : Exit → Act → World → Prop} (hgd : o.guard = none) (s x : Operand)
    (ho : o.op = .call { callee := .builtin .append, args := #[s, x], argTypes := #[27, 27] }) {base : Nat} {l : List (List UInt8)} {v : Value} {z : List UInt8} {g : Nat}
    (hs : a.eval s = v) (hx : a.eval x = .slice (some ⟨g, 0, none⟩) 1 1) (h0 : OwnSts base l v w) (hg : w.cell? ⟨g, 0, none⟩ = some (strV z)) (hl : l.length ≤ 1000000) (hb : base ≤ w.heap.size)
    (h : ∀ v' w', OwnSts base (l ++ [z]) v' w' → Below base w w' → wpList Try.prog ops Q rest (a.put o.dst v') w') : wpList Try.prog ops Q (o :: rest) a w := by
  obtain ⟨i0, hi, hz0, hz1, hz2⟩ := info_parts infoStr
  refine wpList_append_own_at w hgd s x _ ho base _ i0 _ 1 16 Try.underlying27 hi hz0 hz1 hz2 rfl (by omega) v l.length (l.map strV) hs h0 ⟨g, 0, none⟩ 1 1 [strV z] hx rfl
    (fun j u hj => by
      cases j with
      | zero => simp at hj; subst hj; rw [Addr.add_mid]; exact hg
      | succ j => simp at hj) (str_one [z]) (by simp [maxLen]; omega) (by omega) hb ?_
  intro v' w' h1 h2 _ _
  refine h v' w' ?_ ((Below.refl _ _).grown h2 hb fun k hk => (World.ownsRow.lt h0 k hk).1)
  unfold OwnSts
  rw [List.length_append, List.map_append]
  exact h1

set_option maxHeartbeats 4000000 in
set_option maxRecDepth 100000 in
theorem texts_any (A : Option Addr) (n c : Nat) (l : List (List UInt8)) (w : World) (hr : Bss w A n c l) (hn : n ≤ 1000000) :
    Calls Try.prog 15 #[.slice A n c] w fun e w' => ∃ v, e = .returned v ∧ OwnSts w.heap.size l v w' ∧ ExtW w w' := by
  have HR := Lib.hid hr
  have HLN := Lib.hid hr.len
  have hnc := hr.nc
  clear hr
  go_enter Try.func15, Try.ntmps15
  go_upto_region 2 with (fail)
  have HL0 : Hid (OwnSts w.heap.size [] (.slice (some ⟨w.heap.size, 0, none⟩) 0 0) (w.alloc (.cells #[] 9))) := Lib.hid (OwnSts.empty w _ (Nat.le_refl _))
  have HE0 : Hid (ExtW w (w.alloc (.cells #[] 9))) := Lib.hid ((Below.refl _ _).alloc (Nat.le_refl _) _)
  generalize w.alloc (.cells #[] 9) = w1 at HL0 HE0 ⊢
  go_upto_block 0 with (fail)
  go_wp2_with fail
  go_loopw [3, 4] (fun v i wr => ∃ j : Nat, i = .int .i64 j ∧ j ≤ n ∧ Hid (OwnSts w.heap.size (l.take j) v wr) ∧ Hid (ExtW w wr)) (fun _ i _ => n - (intOf i).toNat)
  case atStart => exact ⟨0, rfl, Nat.zero_le _, HL0, HE0⟩
  case round =>
    obtain ⟨j, rfl, hjn, HL, HE⟩ := hrel
    by_cases hlt : j < n
    · have hli : (j : Int) < (n : Int) := by omega
      obtain ⟨y, hy⟩ : ∃ y, l[j]? = some y := ⟨_, List.getElem?_eq_getElem (by rw [HLN.out]; exact hlt)⟩
      cases hA : A with
      | none => have := HR.out.nil0 hA; omega
      | some a =>
        obtain ⟨D, m, dd, hcell, hrd⟩ := HR.out.row a hA j y hy
        subst hA
        have HZ : Hid (l.take (j + 1) = l.take j ++ [y]) := Lib.hid (by rw [List.take_add_one, hy]; rfl)
        have k7 := HE.out.cellAt hcell
        have kc := conv_str (hrd.below HE.out (Nat.le_refl _))
        have HTL : Hid ((l.take j).length ≤ 1000000) := Lib.hid (by rw [List.length_take, HLN.out]; omega)
        have HCY := Lib.hid (cell_new1 wr (strV y) 9)
        have HXY : Hid (ExtW wr (wr.alloc (.cells #[strV y] 9))) := Lib.hid ((Below.refl _ _).alloc (Nat.le_refl _) _)
        have HS : Hid (strV y = .string ⟨y.toArray⟩) := Lib.hid rfl
        rw [HS.out] at HCY HXY
        clear hcell hrd hy
        go_wp2_with (at_builtin; generalize wr.alloc (.cells #[.string ⟨y.toArray⟩] 9) = wa at HCY HXY ⊢; refine wpList_append_st rfl _ _ rfl rfl rfl (OwnSts.mono _ _ _ _ _ HL.out HXY.out) (by rw [HS.out]; exact HCY.out) HTL.out (ExtW.trans HE.out HXY.out).size ?_; intro v' w' ho' hb'; have HO' := Lib.hid ho'; have HB' := Lib.hid hb'; clear ho' hb')
        go_roundw
        case rel => exact ⟨j + 1, by simp, hlt, Lib.hid (by rw [HZ.out]; exact HO'.out), Lib.hid (Below.trans (ExtW.trans HE.out HXY.out) HB'.out)⟩
        case measure => simp [intOf]; omega
    · obtain rfl : j = n := by omega
      have hli : ¬ (j : Int) < (j : Int) := by omega
      go_wp2
      go_ret
      refine ⟨_, rfl, ?_, HE.out⟩
      have h := HL.out
      rwa [List.take_of_length_le (by rw [HLN.out]; exact Nat.le_refl _)] at h

set_option maxHeartbeats 4000000 in
set_option maxRecDepth 100000 in
theorem still_any (A : Option Addr) (n c : Nat) (l : List (List UInt8)) (SA : Option Addr) (sc : Nat) (w : World) (hr : Bss w A n c l) (hs : Sts w SA n sc l) (hn : n ≤ 1000000) :
    Calls Try.prog 25 #[.slice A n c, .slice SA n sc] w fun e w' => e = .returned (.bool true) ∧ ExtW w w' := by
  have HR := Lib.hid hr
  have HS := Lib.hid hs
  have HLN := Lib.hid hr.len
  have hnc := hr.nc
  have hsc := hs.2.nc
  clear hr hs
  go_enter Try.func25, Try.ntmps25
  go_upto_block 0 with (fail)
  go_wp2_with fail
  go_loopw [5] (fun i wr => ∃ j : Nat, i = .int .i64 j ∧ j ≤ n ∧ Hid (ExtW w wr)) (fun i _ => n - (intOf i).toNat)
  case atStart => exact ⟨0, rfl, Nat.zero_le _, Lib.hid (ExtW.refl _)⟩
  case round =>
    obtain ⟨j, rfl, hjn, HE⟩ := hrel
    by_cases hlt : j < n
    · have hli : (j : Int) < (n : Int) := by omega
      obtain ⟨y, hy⟩ : ∃ y, l[j]? = some y := ⟨_, List.getElem?_eq_getElem (by rw [HLN.out]; exact hlt)⟩
      obtain ⟨sa, hsa⟩ := HS.out.addr (by omega)
      subst hsa
      have HCS := Lib.hid (HS.out.at hy)
      cases hA : A with
      | none => have := HR.out.nil0 hA; omega
      | some a =>
        obtain ⟨D, m, dd, hcell, hrd⟩ := HR.out.row a hA j y hy
        subst hA
        have HC := Lib.hid hcell
        have HRD := Lib.hid hrd
        clear hcell hrd hy
        go_upto_region 4 with (fail)
        apply wp_region_ext _ (by kernel_rfl) (by kernel_rfl)
        iterate 3 (apply wpZ_det; (intro wq hE hG; first | exact obl_non (by rfl) | (apply obl_val (by rfl); go_simp; rfl)); (intro ak hak; simp only [Act.put, List.setIfInBounds_toArray, List.set_cons_succ, List.set_cons_zero] at hak; subst hak))
        (apply wpZ_det; (intro wq hE hG; have kk := (ExtW.trans HE.out (ExtW.of_drew hE)).cellAt HC.out; apply obl_val (by rfl); go_simp; rfl); (intro ak hak; simp only [Act.put, List.setIfInBounds_toArray, List.set_cons_succ, List.set_cons_zero] at hak; subst hak))
        (apply wpZ_det (c := strV y); (intro wq hE hG; have kk := conv_str (HRD.out.below (ExtW.trans HE.out (ExtW.of_drew hE)) (Nat.le_refl _)); apply obl_val (by rfl); go_simp <;> rfl); (intro ak hak; simp only [Act.put, List.setIfInBounds_toArray, List.set_cons_succ, List.set_cons_zero] at hak; subst hak))
        iterate 3 (apply wpZ_det; (intro wq hE hG; first | exact obl_non (by rfl) | (apply obl_val (by rfl); go_simp; rfl)); (intro ak hak; simp only [Act.put, List.setIfInBounds_toArray, List.set_cons_succ, List.set_cons_zero] at hak; subst hak))
        (apply wpZ_det; (intro wq hE hG; have kk := (ExtW.trans HE.out (ExtW.of_drew hE)).cellAt HCS.out; apply obl_val (by rfl); go_simp; rfl); (intro ak hak; simp only [Act.put, List.setIfInBounds_toArray, List.set_cons_succ, List.set_cons_zero] at hak; subst hak))
        (apply wpZ_det (c := .bool false); (intro wq hE hG; apply obl_val (by rfl); unfold strV; go_simp <;> rfl); (intro ak hak; simp only [Act.put, List.setIfInBounds_toArray, List.set_cons_succ, List.set_cons_zero] at hak; subst hak))
        (apply wpZ_nil; intro wq hE hG)
        have HX := Lib.hid (ExtW.trans HE.out (ExtW.of_drew hE))
        clear hE hG
        go_wp2_with fail
        go_roundw
        case rel => exact ⟨j + 1, by simp, hlt, HX⟩
        case measure => simp [intOf]; omega
    · obtain rfl : j = n := by omega
      have hli : ¬ (j : Int) < (j : Int) := by omega
      go_wp2
      go_ret
      exact ⟨rfl, HE.out⟩

set_option maxHeartbeats 4000000 in
set_option maxRecDepth 100000 in
theorem same_any (A : Option Addr) (n c : Nat) (l : List (List UInt8)) (B : Option Addr) (m d : Nat) (r : List (List UInt8)) (w : World) (hl : Dls w A n c l) (hr : Dls w B m d r) :
    Calls Try.prog 30 #[.slice A n c, .slice B m d] w fun e w' => e = .returned (.bool (decide (l = r))) ∧ ExtW w w' := by
  have HL := Lib.hid hl
  have HR := Lib.hid hr
  have HLN := Lib.hid hl.len
  have HRN := Lib.hid hr.len
  have hnm : n ≤ 9223372036854775807 := by have h1 := hl.rd.nc; have h2 := hl.rd.cm; unfold maxLen at h2; omega
  clear hl hr
  by_cases hnm2 : n = m
  · subst hnm2
    go_enter Try.func30, Try.ntmps30
    go_upto_block 0 with (fail)
    go_wp2_with fail
    go_loopw [5] (fun i wr => ∃ j : Nat, i = .int .i64 j ∧ j ≤ n ∧ Hid (l.take j = r.take j) ∧ Hid (ExtW w wr)) (fun i _ => n - (intOf i).toNat)
    case atStart => exact ⟨0, rfl, Nat.zero_le _, Lib.hid (by simp), Lib.hid (ExtW.refl _)⟩
    case round =>
      obtain ⟨j, rfl, hjn, HT, HE⟩ := hrel
      by_cases hlt : j < n
      · have hli : (j : Int) < (n : Int) := by omega
        obtain ⟨y, hy⟩ : ∃ y, l[j]? = some y := ⟨_, List.getElem?_eq_getElem (by rw [HLN.out]; exact hlt)⟩
        obtain ⟨z, hz⟩ : ∃ z, r[j]? = some z := ⟨_, List.getElem?_eq_getElem (by rw [HRN.out]; exact hlt)⟩
        have hA : ∃ a, A = some a := by
          cases hA : A with
          | none => have := HL.out.rd.nil0 hA; have := HL.out.rd.nc; omega
          | some a => exact ⟨a, rfl⟩
        have hB : ∃ a, B = some a := by
          cases hB : B with
          | none => have := HR.out.rd.nil0 hB; have := HR.out.rd.nc; omega
          | some a => exact ⟨a, rfl⟩
        obtain ⟨pa, rfl⟩ := hA
        obtain ⟨pb, rfl⟩ := hB
        have HY := Lib.hid hy
        have HZ := Lib.hid hz
        have HYL : Hid (y.length = 32) := Lib.hid (HL.out.all y (List.mem_of_getElem? hy))
        have HZL : Hid (z.length = 32) := Lib.hid (HR.out.all z (List.mem_of_getElem? hz))
        clear hy hz
        by_cases hyz : y = z
        · have HYZ : Hid ((!decide (y = z)) = false) := Lib.hid (by simp [hyz])
          have HT2 : Hid (l.take (j + 1) = r.take (j + 1)) := Lib.hid (by rw [List.take_add_one, List.take_add_one, HY.out, HZ.out, HT.out, hyz])
          clear hyz
          go_upto_region 6 with (fail)
          apply wp_region_ext _ (by kernel_rfl) (by kernel_rfl)
          iterate 3 (apply wpZ_det; (intro wq hE hG; first | exact obl_non (by rfl) | (apply obl_val (by rfl); go_simp; rfl)); (intro ak hak; simp only [Act.put, List.setIfInBounds_toArray, List.set_cons_succ, List.set_cons_zero] at hak; subst hak))
          (apply wpZ_det; (intro wq hE hG; exact obl_ldA (by rfl) rfl (by rfl) (((HL.out.same (ExtW.trans HE.out (ExtW.of_drew hE))).load HY.out))); (intro ak hak; simp only [Act.put, List.setIfInBounds_toArray, List.set_cons_succ, List.set_cons_zero] at hak; subst hak))
          iterate 3 (apply wpZ_det; (intro wq hE hG; first | exact obl_non (by rfl) | (apply obl_val (by rfl); go_simp; rfl)); (intro ak hak; simp only [Act.put, List.setIfInBounds_toArray, List.set_cons_succ, List.set_cons_zero] at hak; subst hak))
          (apply wpZ_det; (intro wq hE hG; exact obl_ldA (by rfl) rfl (by rfl) (((HR.out.same (ExtW.trans HE.out (ExtW.of_drew hE))).load HZ.out))); (intro ak hak; simp only [Act.put, List.setIfInBounds_toArray, List.set_cons_succ, List.set_cons_zero] at hak; subst hak))
          (apply wpZ_det; (intro wq hE hG; exact obl_neD (by rfl) rfl rfl rfl (HYL.out) (HZL.out) (HYZ.out)); (intro ak hak; simp only [Act.put, List.setIfInBounds_toArray, List.set_cons_succ, List.set_cons_zero] at hak; subst hak))
          (apply wpZ_nil; intro wq hE hG)
          have HX := Lib.hid (ExtW.trans HE.out (ExtW.of_drew hE))
          clear hE hG
          go_wp2_with fail
          go_roundw
          case rel => exact ⟨j + 1, by simp, hlt, HT2, HX⟩
          case measure => simp [intOf]; omega
        · have HYZ : Hid ((!decide (y = z)) = true) := Lib.hid (by simp [hyz])
          have HNE : Hid (decide (l = r) = false) := Lib.hid (by
            rw [decide_eq_false_iff_not]
            intro h
            have h1 := HY.out
            rw [h, HZ.out] at h1
            exact hyz (Option.some.inj h1).symm)
          clear hyz
          go_upto_region 6 with (fail)
          apply wp_region_ext _ (by kernel_rfl) (by kernel_rfl)
          iterate 3 (apply wpZ_det; (intro wq hE hG; first | exact obl_non (by rfl) | (apply obl_val (by rfl); go_simp; rfl)); (intro ak hak; simp only [Act.put, List.setIfInBounds_toArray, List.set_cons_succ, List.set_cons_zero] at hak; subst hak))
          (apply wpZ_det; (intro wq hE hG; exact obl_ldA (by rfl) rfl (by rfl) (((HL.out.same (ExtW.trans HE.out (ExtW.of_drew hE))).load HY.out))); (intro ak hak; simp only [Act.put, List.setIfInBounds_toArray, List.set_cons_succ, List.set_cons_zero] at hak; subst hak))
          iterate 3 (apply wpZ_det; (intro wq hE hG; first | exact obl_non (by rfl) | (apply obl_val (by rfl); go_simp; rfl)); (intro ak hak; simp only [Act.put, List.setIfInBounds_toArray, List.set_cons_succ, List.set_cons_zero] at hak; subst hak))
          (apply wpZ_det; (intro wq hE hG; exact obl_ldA (by rfl) rfl (by rfl) (((HR.out.same (ExtW.trans HE.out (ExtW.of_drew hE))).load HZ.out))); (intro ak hak; simp only [Act.put, List.setIfInBounds_toArray, List.set_cons_succ, List.set_cons_zero] at hak; subst hak))
          (apply wpZ_det; (intro wq hE hG; exact obl_neD (by rfl) rfl rfl rfl (HYL.out) (HZL.out) (HYZ.out)); (intro ak hak; simp only [Act.put, List.setIfInBounds_toArray, List.set_cons_succ, List.set_cons_zero] at hak; subst hak))
          (apply wpZ_nil; intro wq hE hG)
          have HX := Lib.hid (ExtW.trans HE.out (ExtW.of_drew hE))
          clear hE hG
          go_wp2
          go_ret
          exact ⟨by rw [HNE.out]; rfl, HX.out⟩
      · obtain rfl : j = n := by omega
        have hli : ¬ (j : Int) < (j : Int) := by omega
        have HEQ : Hid (decide (l = r) = true) := Lib.hid (by
          have h := HT.out
          rw [List.take_of_length_le (by rw [HLN.out]; exact Nat.le_refl _), List.take_of_length_le (by rw [HRN.out]; exact Nat.le_refl _)] at h
          simp [h])
        go_wp2
        go_ret
        exact ⟨by rw [HEQ.out]; rfl, HE.out⟩
  · have hne : decide (l = r) = false := by
      rw [decide_eq_false_iff_not]
      intro h
      have h1 := HLN.out
      rw [h, HRN.out] at h1
      exact hnm2 h1.symm
    have HNE := Lib.hid hne
    have hb1 : ((n : Int) == (m : Int)) = false := by rw [beq_eq_false_iff_ne]; omega
    have hb2 : ((n : Int) != (m : Int)) = true := by rw [bne_iff_ne]; omega
    clear hne
    go_enter Try.func30, Try.ntmps30
    go_wp2
    go_ret
    exact ⟨by rw [HNE.out]; rfl, ExtW.refl _⟩
end Go.Proofs.Ytncdgndeidbgoaa
