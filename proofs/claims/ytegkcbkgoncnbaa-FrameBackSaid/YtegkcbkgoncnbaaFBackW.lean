/- Walk of FrameBack. -/
import Derived.Test.YtegkcbkgoncnbaaCut8
namespace Go.Proofs.Ytegkcbkgoncnbaa
open Go.RowKit

set_option maxHeartbeats 8000000 in
set_option maxRecDepth 100000 in
theorem frameBack_walk (A : Option Addr) (n c : Nat) (l : List (List UInt8)) (A2 : Option Addr) (n2 c2 : Nat) (ys : List UInt8) (x : Int) (w : World)
    (hr : Bss w A n c l) (hc : c ≤ 140737488351232) (hr2 : Rd w A2 n2 c2 1 (bvs ys)) (_hc2 : c2 ≤ 140737488351232) (hx : -9223372036854775808 ≤ x ∧ x ≤ 9223372036854775807) :
    Calls Try.prog 5 #[.slice A n c, .slice A2 n2 c2, .int .i64 x] w fun e w' => e = .returned (.bool true) ∧ Below w.heap.size w w' := by
  obtain ⟨i0, hi, hz0, hz1, hz2⟩ := info_parts infoB
  have HS := Lib.hid fun w => shown_any w
  have HX := Lib.hid hx
  have HC := Lib.hid hc
  obtain ⟨p, hp⟩ : ∃ p, p = min n2 3000 := ⟨_, rfl⟩
  have hp1 : p ≤ 3000 := by omega
  have hp2 : p ≤ n2 := by omega
  have hpp : (if 3000 < (n2 : Int) then (3000 : Int) else (n2 : Int)) = (p : Int) := by split <;> omega
  clear hp
  have hnc := hr.nc
  have hnc2 := hr2.nc
  have hrp := hr2.take p hp2
  rw [Nat.mul_one, bvs_take] at hrp
  obtain ⟨b, hb⟩ : ∃ b, b = ys.take p := ⟨_, rfl⟩
  rw [← hb] at hrp
  have hbl : b.length = p := by have := hrp.len; rw [bvs_len] at this; omega
  have HR := Lib.hid hr
  have HR2 := Lib.hid hrp
  have HBL := Lib.hid hbl
  have HPP := Lib.hid hpp
  clear hr hr2 hb hrp hbl hpp hx
  go_enter Try.func5, Try.ntmps5
  go_wp2_with fail
  refine (HS.out _).mono ?_
  rintro e w1 ⟨rfl, hb1⟩
  have HB1 := Lib.hid hb1
  clear hb1
  go_upto_block 0 with (fail)
  go_cut [8, 9] (fun s o wc => ∃ (j k : Nat) (B : Option Addr) (d : Nat), o = .int .i64 j ∧ s = .slice B k d ∧ j ≤ n ∧ j ≤ 40 ∧ k ≤ j * 3008 ∧ Hid (Rd wc B k d 1 (bvs (framesOf (cutRows 3000 l j)))) ∧ Hid (Below w.heap.size w wc))
  case first =>
    go_wp2_with fail
    go_loopw [8, 9, 10] (fun s o i wr => ∃ (j k : Nat) (B : Option Addr) (d : Nat), i = .int .i64 j ∧ o = .int .i64 j ∧ s = .slice B k d ∧ j ≤ n ∧ j ≤ 40 ∧ k ≤ j * 3008 ∧ Hid (Rd wr B k d 1 (bvs (framesOf (cutRows 3000 l j)))) ∧ Hid (Below w.heap.size w wr)) (fun _ _ i _ => 40 - (intOf i).toNat)
    case atStart => exact ⟨0, 0, none, 0, rfl, rfl, rfl, Nat.zero_le _, Nat.zero_le _, Nat.zero_le _, Lib.hid (Rd.nil _ 1), HB1⟩
    case round =>
      clear HB1
      obtain ⟨j, k, B, d, rfl, rfl, rfl, hjn, hj40, hk, HK, HB⟩ := hrel
      by_cases hlt : j < n ∧ j < 40
      · obtain ⟨hl1, hl2⟩ := hlt
        have hli : (j : Int) < (n : Int) := by omega
        have hli2 : (j : Int) < 40 := by omega
        obtain ⟨y, hy⟩ : ∃ y, l[j]? = some y := ⟨_, List.getElem?_eq_getElem (by rw [HR.out.len]; exact hl1)⟩
        cases hA : A with
        | none => have := HR.out.nil0 hA; omega
        | some a =>
          obtain ⟨D, m, dd, hcell, hrd⟩ := HR.out.row a hA j y hy
          subst hA
          have hcell2 := HB.out.cell (p := a.add j) (cell_lt hcell)
          rw [hcell] at hcell2
          obtain ⟨q, hq⟩ : ∃ q, q = min m 3000 := ⟨_, rfl⟩
          have hq1 : q ≤ 3000 := by omega
          have hq2 : q ≤ m := by omega
          have hqq : (if 3000 < (m : Int) then (3000 : Int) else (m : Int)) = (q : Int) := by split <;> omega
          obtain ⟨hsl, hslr⟩ := cut_h (P := Try.prog) Try.underlying22 hi hz1 D m dd .i64 (q : Int) q rfl hq2 hrd.nc
          have hrq := hslr _ _ (hrd.below HB.out (Nat.le_refl _))
          rw [Nat.mul_one, bvs_take] at hrq
          have HRQ := Lib.hid hrq
          have HCELL := Lib.hid hcell2
          have HQQ := Lib.hid hqq
          have HY := Lib.hid hy
          have hyq : y.take q = y.take 3000 := by
            have hyl : y.length = m := by have := hrd.len; rw [bvs_len] at this; omega
            by_cases hm3 : m ≤ 3000
            · rw [List.take_of_length_le (by omega), List.take_of_length_le (by omega)]
            · rw [show q = 3000 by omega]
          have HYQ := Lib.hid hyq
          have hkb : k ≤ 1000000000 := by omega
          have hcw : ∀ wq, ExtW wr.drew wq → wq.cell? (a.add j) = some (.slice D m dd) := fun wq h => (ExtW.of_drew h).cellAt HCELL.out
          clear hrd hslr hrq hcell hcell2 hy hyq hq
          go_wp2_with fail
          apply wp_region_ext _ (by kernel_rfl) (by kernel_rfl)
          iterate 12 (apply wpZ_det; (intro wq hE hG; first | exact obl_non (by rfl) | (apply obl_val (by rfl); go_simp; rfl)); (intro ak hak; simp only [Act.put, List.setIfInBounds_toArray, List.set_cons_succ, List.set_cons_zero] at hak; subst hak))
          apply wpZ_nd (PutF (framesOf (cutRows 3000 l j) ++ frameOf (y.take q)) (k + (q + 8))) (PutF.mono _ _)
          · intro wq hE hG
            apply obl_on (by kernel_rfl)
            go_simp
            simp only [extUpon_enter]
            refine (framePut_any B k d (framesOf (cutRows 3000 l j)) D q dd (y.take q) wq (HK.out.below (ExtW.of_drew hE) (Nat.le_refl _)) (HRQ.out.below (ExtW.of_drew hE) (Nat.le_refl _)) hkb (by omega)).mono ?_
            rintro e w' ⟨r, rfl, hown, hb⟩
            obtain ⟨A', c', rfl, hr', _⟩ := own_rd hown
            exact ⟨_, rfl, hb, A', c', rfl, hr'⟩
          (intro u ak hak; simp only [Act.put, List.setIfInBounds_toArray, List.set_cons_succ, List.set_cons_zero] at hak; subst hak)
          apply wpZ_nd (PutF (framesOf (cutRows 3000 l j) ++ frameOf (y.take q)) (k + (q + 8))) (PutF.mono _ _)
          · intro wq hE hG
            have hF : PutF (framesOf (cutRows 3000 l j) ++ frameOf (y.take q)) (k + (q + 8)) u wq := hG _ (List.mem_cons_self ..) (by kernel_rfl)
            apply obl_on (by kernel_rfl)
            go_simp
            exact ⟨ExtW.refl _, hF⟩
          (intro u2 ak hak; simp only [Act.put, List.setIfInBounds_toArray, List.set_cons_succ, List.set_cons_zero] at hak; subst hak)
          apply wpZ_nd (SlF (framesOf (cutRows 3000 l j) ++ frameOf (y.take q)) (k + (q + 8))) (SlF.mono _ _)
          · intro wq hE hG
            obtain ⟨A', c', rfl, hr'⟩ : PutF (framesOf (cutRows 3000 l j) ++ frameOf (y.take q)) (k + (q + 8)) u2 wq := hG _ (List.mem_cons_self ..) (by kernel_rfl)
            apply obl_on (by kernel_rfl)
            go_simp
            exact ⟨ExtW.refl _, A', c', rfl, hr'⟩
          (intro u3 ak hak; simp only [Act.put, List.setIfInBounds_toArray, List.set_cons_succ, List.set_cons_zero] at hak; subst hak)
          apply wpZ_det
          · intro wq hE hG
            obtain ⟨A', c', rfl, hr'⟩ : PutF (framesOf (cutRows 3000 l j) ++ frameOf (y.take q)) (k + (q + 8)) u2 wq := hG _ (List.mem_cons_of_mem _ (List.mem_cons_self ..)) (by kernel_rfl)
            apply obl_val (by rfl)
            go_simp
            rfl
          (intro ak hak; simp only [Act.put, List.setIfInBounds_toArray, List.set_cons_succ, List.set_cons_zero] at hak; subst hak)
          apply wpZ_nd (SlF (framesOf (cutRows 3000 l j) ++ frameOf (y.take q)) (k + (q + 8))) (SlF.mono _ _)
          · intro wq hE hG
            have hF : SlF (framesOf (cutRows 3000 l j) ++ frameOf (y.take q)) (k + (q + 8)) u3 wq := hG _ (List.mem_cons_self ..) (by kernel_rfl)
            apply obl_on (by kernel_rfl)
            go_simp
            exact ⟨ExtW.refl _, hF⟩
          (intro u4 ak hak; simp only [Act.put, List.setIfInBounds_toArray, List.set_cons_succ, List.set_cons_zero] at hak; subst hak)
          (apply wpZ_det; (intro wq hE hG; first | exact obl_non (by rfl) | (apply obl_val (by rfl); go_simp; rfl)); (intro ak hak; simp only [Act.put, List.setIfInBounds_toArray, List.set_cons_succ, List.set_cons_zero] at hak; subst hak))
          apply wpZ_nil
          intro wq hE hG
          obtain ⟨B', d', hu4, hr'⟩ : SlF (framesOf (cutRows 3000 l j) ++ frameOf (y.take q)) (k + (q + 8)) u4 wq := hG _ (List.mem_cons_self ..)
          subst hu4
          have HE := Lib.hid hE
          have HR' := Lib.hid hr'
          clear hE hG hr'
          have hcw2 := hcw wq HE.out
          obtain ⟨k2, hk2⟩ : ∃ k2, k2 = k + (q + 8) := ⟨_, rfl⟩
          rw [← hk2] at HR' ⊢
          have hcm : ((k2 : Int) != (k : Int) + 8 + (q : Int)) = false := by clear hqq; simp; omega
          have hk3 : k2 ≤ (j + 1) * 3008 := by clear hqq; omega
          have hk4 : k ≤ 200000 := by clear hqq; omega
          clear hcw hk2
          go_wp2
          go_roundw
          case rel =>
            refine ⟨j + 1, k2, B', d', by simp, by simp, rfl, hl1, hl2, hk3, Lib.hid ?_, Lib.hid (HB.out.trans ((ExtW.of_drew HE.out).mono HB.out.size))⟩
            rw [cutRows_succ HY.out, framesOf_snoc, ← HYQ.out]
            exact HR'.out
          case measure => clear hqq; simp [intOf]; omega
      · by_cases h1 : j < n
        · have hli : (j : Int) < (n : Int) := by omega
          have hli2 : ¬ (j : Int) < 40 := by omega
          go_wp2_with fail
          go_meet
          case rel => exact ⟨j, k, B, d, rfl, rfl, hjn, hj40, hk, HK, HB⟩
        · have hli : ¬ (j : Int) < (n : Int) := by omega
          go_wp2_with fail
          go_meet
          case rel => exact ⟨j, k, B, d, rfl, rfl, hjn, hj40, hk, HK, HB⟩
  case rest =>
    obtain ⟨j, k, B, d, rfl, rfl, hjn, hj40, hk, HK, HB⟩ := hcut
    have hpp := HPP.out
    clear HB1
    go_wp2_with fail
    refine (framePut_any none 0 0 [] A2 p c2 b _ (Rd.nil _ 1) (HR2.out.below HB.out (Nat.le_refl _)) (by omega) (Nat.le_trans hp1 (by decide))).mono ?_
    rintro e w3 ⟨r, rfl, hown, hb3⟩
    have HB3 := Lib.hid (HB.out.trans (hb3.mono HB.out.size))
    have HKB := Lib.hid (HK.out.below hb3 (Nat.le_refl _))
    rw [Nat.zero_add, List.nil_append] at hown
    obtain ⟨k3, hk3⟩ : ∃ k3, k3 = p + 8 := ⟨_, rfl⟩
    rw [← hk3] at hown
    obtain ⟨A3, c3, rfl, hr3, _⟩ := own_rd hown
    have HR3 := Lib.hid hr3
    have hk3b : k3 ≤ 3008 := by clear hpp; omega
    have hk30 : 0 < k3 := by clear hpp; omega
    have hcm : ((k3 : Int) != 8 + (p : Int)) = false := by clear hpp; simp; omega
    have HK3 := Lib.hid hk3
    clear hown hb3 hr3 hk3 HB HK
    go_upto_if 88 with (fail)
    clear hpp hcm
    go_cut [2] (fun t wd => ∃ y : Nat, t = .int .i64 y ∧ y < 9223372036854775808 ∧ Hid (wd = w3))
    case first =>
      rcases sign_of HX.out with ⟨y, hy, hx0, hyb, hyn, hyy⟩ | ⟨y, hy, hyb, hxb⟩
      · have HYB := Lib.hid hyb
        have hxb : decide (x < 0) = true := decide_eq_true hx0
        clear hk hjn hj40 hnc hnc2 hp1 hp2 hc _hc2 hk3b hk30 hz0 hz1 hz2 hi hyb
        go_wp2_with fail
        go_meet
        case rel => exact ⟨y, by simp [hyy], HYB.out, rfl⟩
      · subst hy
        have HYB := Lib.hid hyb
        clear hk hjn hj40 hnc hnc2 hp1 hp2 hc _hc2 hk3b hk30 hz0 hz1 hz2 hi hyb
        go_wp2_with fail
        go_meet
        case rel => exact ⟨y, rfl, HYB.out, rfl⟩
    case rest =>
      obtain ⟨y, rfl, hyb, HW⟩ := hcut
      obtain rfl := HW.out
      have hjj := Nat.mod_lt y hk30
      obtain ⟨hsl, hslr⟩ := cut_h (P := Try.prog) Try.underlying22 hi hz1 A3 k3 c3 .i64 ((y : Int) % (k3 : Int)) (y % k3) (by simp) (Nat.le_of_lt hjj) HR3.out.nc
      go_upto_region 18 with (fail)
      have hrm := hslr _ _ HR3.out
      rw [Nat.mul_one, bvs_take] at hrm
      generalize hjj2 : y % k3 = jj at hjj hrm ⊢
      have HRM := Lib.hid hrm
      have HO := Lib.hid (own_empty wc wc.heap.size (Nat.le_refl _))
      have HY := Lib.hid (HKB.out.alloc (.cells #[] 5))
      clear hsl hslr hrm hjj2
      go_upto_region 19 with (at_builtin; refine wpList_append_appd _ rfl _ _ _ rfl wc.heap.size 5 i0 _ 1 1 Try.underlying22 hi hz0 hz1 hz2 rfl (by omega) _ _ _ rfl (.inr HO.out) B k d _ rfl HY.out (bvs_one _) (by simp [maxLen]; omega) (by omega) (by simp) (.inl HO.out) ?_; intro v4 w4 hown4 hb4 _)
      obtain ⟨A4, c4, rfl, _, _⟩ := Rd.of_own hown4
      rw [Nat.zero_add, show bvs [] ++ bvs (framesOf (cutRows 3000 l j)) = bvs (framesOf (cutRows 3000 l j)) from rfl] at hown4
      rw [Nat.zero_add]
      have HO4 := Lib.hid hown4
      have hbb4 : Below wc.heap.size wc w4 := ((Below.refl _ _).alloc (Nat.le_refl _) _).trans hb4
      have HB4 := Lib.hid (HB3.out.trans (hbb4.mono HB3.out.size))
      have HSZ4 := Lib.hid hbb4.size
      have HRM4 := Lib.hid (HRM.out.below hbb4 (Nat.le_refl _))
      have hjb : jj ≤ 3008 := Nat.le_trans (Nat.le_of_lt hjj) hk3b
      clear hown4 hb4 hbb4 HO HY HKB
      go_wp2_with (at_builtin; refine wpList_append_appd _ rfl _ _ _ rfl wc.heap.size 5 i0 _ 1 1 Try.underlying22 hi hz0 hz1 hz2 rfl (by omega) _ _ _ rfl (.inr HO4.out) A3 jj c3 _ rfl HRM4.out (bvs_one _) (by simp [maxLen]; omega) (by omega) HSZ4.out (.inl HO4.out) ?_; intro v5 w5 hown5 hb5 _; obtain ⟨A5, c5, rfl, hr5, _⟩ := Rd.of_own hown5; have HR5 := Lib.hid hr5; have HB5 := Lib.hid (HB4.out.trans (hb5.mono HB3.out.size)); clear hown5 hb5 hr5)
      have HFL : Hid ((framesOf (cutRows 3000 l j)).length = k) := Lib.hid (by have := HO4.out.1; rw [bvs_len] at this; omega)
      refine (all_any A5 (k + jj) c5 (framesOf (cutRows 3000 l j) ++ (frameOf b).take jj) _ (by rw [bvs_app]; exact HR5.out) (by omega)).mono ?_
      rintro e w6 ⟨v, fs, rfl, hall, _, hown, hrows, _, hb6⟩
      obtain ⟨t1, t2, t3, t4⟩ := back_told (by rw [HR.out.len]; exact hjn) (by rw [HBL.out]; exact hp1) (by rw [HBL.out, ← HK3.out]; exact hjj) hall
      rw [t4, t2, HFL.out]
      rw [t1] at hown
      have HB6 := Lib.hid (HB5.out.trans (hb6.mono HB5.out.size))
      have HOWN := Lib.hid hown
      have HROWS := Lib.hid hrows
      have HT1 := Lib.hid t1
      have HT3 := Lib.hid t3
      obtain ⟨ge, he⟩ : ∃ ge : Nat, ge = if jj = 0 then 0 else 5 := ⟨_, rfl⟩
      rw [← he]
      have HGE := Lib.hid he
      obtain ⟨A6, c6, rfl⟩ : ∃ A c, v = .slice A j c := by
        rcases hown.2 with ⟨e1, e2⟩ | ⟨g, cap, cur, e1, _⟩
        · exact ⟨none, 0, by rw [e1, e2]⟩
        · exact ⟨_, _, e1⟩
      clear hall hown hrows hb6 t1 t2 t3 t4 he
      go_upto_region 20 with (fail)
      go_cut [134] (fun t wd => t = .bool false ∧ Hid (wd = w6))
      case first =>
        by_cases h0 : jj = 0
        · subst h0
          have hg0 : ge = 0 := by rw [HGE.out]; rfl
          subst hg0
          go_wp2_with fail
          go_meet
          case rel => exact ⟨rfl, rfl⟩
        · have hg5 : ge = 5 := by rw [HGE.out, if_neg h0]
          subst hg5
          have hj0 : ((jj : Int) == 0) = false := by rw [beq_eq_false_iff_ne]; intro h; exact h0 (by exact Int.ofNat_eq_zero.1 h)
          clear h0
          go_wp2_with fail
          go_meet
          case rel => exact ⟨rfl, rfl⟩
      case rest =>
        obtain ⟨rfl, HW6⟩ := hcut
        obtain rfl := HW6.out
        go_wp2_with fail
        go_loopw [19] (fun i wr => ∃ i2 : Nat, i = .int .i64 i2 ∧ i2 ≤ j ∧ Hid (ExtW wc wr)) (fun i _ => j - (intOf i).toNat)
        case atStart => exact ⟨0, rfl, Nat.zero_le _, Lib.hid (ExtW.refl _)⟩
        case round =>
          obtain ⟨w8, rfl⟩ : ∃ w8, w8 = wr := ⟨_, rfl⟩
          obtain ⟨i2, rfl, hi2, HE⟩ := hrel
          by_cases hlt : i2 < j
          · have hji : (i2 : Int) < (j : Int) := by omega
            have hin : (i2 : Int) < (n : Int) := by omega
            have hin2 : i2 < n := by omega
            obtain ⟨g6, c6', hv6, _, _⟩ := own_form HOWN.out (by omega)
            cases hv6
            obtain ⟨x, hx⟩ : ∃ x, fs[i2]? = some x := ⟨_, List.getElem?_eq_getElem (by rw [HT1.out]; exact hlt)⟩
            have hcell6 := fram_row_at (i := i2) (x := x.v) HOWN.out (by rw [List.getElem?_map, hx]; rfl)
            have hrow := HROWS.out x (List.mem_of_getElem? hx)
            obtain ⟨A9, c9, hv9, hr9, _⟩ := own_rd hrow
            rw [hv9] at hcell6
            obtain ⟨y, hy⟩ : ∃ y, l[i2]? = some y := ⟨_, List.getElem?_eq_getElem (by rw [HR.out.len]; exact hin2)⟩
            cases hA : A with
            | none => have := HR.out.nil0 hA; omega
            | some a =>
              obtain ⟨D, m, dd, hcell, hrd⟩ := HR.out.row a hA i2 y hy
              subst hA
              obtain ⟨q, hq⟩ : ∃ q, q = min m 3000 := ⟨_, rfl⟩
              have hq2 : q ≤ m := by omega
              have hqq : (if 3000 < (m : Int) then (3000 : Int) else (m : Int)) = (q : Int) := by split <;> omega
              obtain ⟨hsl, hslr⟩ := cut_h (P := Try.prog) Try.underlying22 hi hz1 D m dd .i64 (q : Int) q rfl hq2 hrd.nc
              have hyl : y.length = m := by have := hrd.len; rw [bvs_len] at this; omega
              have hyq : y.take q = y.take 3000 := by
                by_cases hm3 : m ≤ 3000
                · rw [List.take_of_length_le (by omega), List.take_of_length_le (by omega)]
                · rw [show q = 3000 by omega]
              have hxb : x.body = y.take q := by
                have e1 : (fs.map Fram.body)[i2]? = (cutRows 3000 l j)[i2]? := by rw [HT3.out]
                unfold cutRows at e1
                rw [List.getElem?_map, hx, List.getElem?_map, List.getElem?_take, if_pos hlt, hy] at e1
                rw [hyq]
                exact Option.some.inj e1
              have hcw6 : ∀ wq, ExtW w8.drew wq → wq.cell? ⟨g6, i2, none⟩ = some (.slice A9 x.body.length c9) := fun wq h => (HE.out.trans (ExtW.of_drew h)).cellAt hcell6
              have hcwl : ∀ wq, ExtW w8.drew wq → wq.cell? (a.add i2) = some (.slice D m dd) := fun wq h => ((HB6.out.trans (Below.mono (ExtW.trans HE.out (ExtW.of_drew h)) HB6.out.size) |>.cell (cell_lt hcell))).trans hcell
              have hcs : ∀ wq, ExtW w8.drew wq → (convert 22 9 (.slice A9 x.body.length c9)).run Try.prog wq = .ok (.string ⟨(y.take q).toArray⟩) wq := fun wq h => by
                have := conv_str (hr9.below (ExtW.trans HE.out (ExtW.of_drew h)) (Nat.le_refl _))
                rw [hxb] at this ⊢
                exact this
              have hct : ∀ wq, ExtW w8.drew wq → (convert 22 9 (.slice D q dd)).run Try.prog wq = .ok (.string ⟨(y.take q).toArray⟩) wq := fun wq h => by
                have h2 := hslr _ _ (hrd.below (HB6.out.trans (Below.mono (ExtW.trans HE.out (ExtW.of_drew h)) HB6.out.size)) (Nat.le_refl _))
                rw [Nat.mul_one, bvs_take] at h2
                exact conv_str h2
              have HQQ := Lib.hid hqq
              have HHE := Lib.hid HE.out
              clear hrd hslr hcell hr9 hrow hx hv9 hcell6 hyl hyq hxb hy hq
              go_wp2_with fail
              apply wp_region_ext _ (by kernel_rfl) (by kernel_rfl)
              iterate 18 (apply wpZ_det; (intro wq hE hG; first | exact obl_non (by rfl) | (apply obl_val (by rfl); go_simp; rfl)); (intro ak hak; simp only [Act.put, List.setIfInBounds_toArray, List.set_cons_succ, List.set_cons_zero] at hak; subst hak))
              (apply wpZ_nil; intro wk hE hG)
              have HEK : Hid (ExtW wc wk) := Lib.hid (ExtW.trans HHE.out (ExtW.of_drew hE))
              clear hE hG hcw6 hcwl hcs hct hsl hqq
              go_wp2
              go_roundw
              case rel => exact ⟨i2 + 1, by simp, hlt, HEK⟩
              case measure => simp [intOf]; omega
          · obtain rfl : i2 = j := by omega
            have hji : ¬ (i2 : Int) < (i2 : Int) := by omega
            go_wp2
            go_ret
            exact ⟨rfl, HB6.out.trans (HE.out.mono HB6.out.size)⟩
end Go.Proofs.Ytegkcbkgoncnbaa
