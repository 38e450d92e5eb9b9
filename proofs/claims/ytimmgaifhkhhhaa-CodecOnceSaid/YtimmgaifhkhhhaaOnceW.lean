/- Walk of CodecOnce. -/
import Derived.Test.YtimmgaifhkhhhaaShown1
import Derived.Test.YtimmgaifhkhhhaaExt
namespace Go.Proofs.Ytimmgaifhkhhhaa
open Go.RowKit

theorem Rd.drew {w : World} {A : Option Addr} {n c size : Nat} {cs : List Value} (h : Rd w A n c size cs) : Rd w.drew A n c size cs :=
  h.below (Below.refl w.heap.size w).drew (Nat.le_refl _)

/-- Put behind nothing, as a text -/
theorem put0_str (v : Nat) (hv : U64 v) (w : World) : Calls Try.prog 11 #[.slice none 0 0, .int .u64 v] w fun e w' =>
    ∃ A c n, e = .returned (.slice A n c) ∧ (convert 22 9 (.slice A n c)).run Try.prog w' = .ok (.string ⟨(enc v).toArray⟩) w' ∧ Below w.heap.size w w' := by
  refine (put_any none 0 0 [] v w hv (Rd.nil w 1) (by omega)).mono ?_
  rintro e w' ⟨r, rfl, hown, hb⟩
  obtain ⟨A, c, rfl, hs, _⟩ := own_str hown
  exact ⟨A, c, _, rfl, by simpa using hs, hb⟩

theorem str_at {w w' : World} {A : Option Addr} {n c B : Nat} {xs : List UInt8} (h : Rd w A n c 1 (bvs xs)) (hb : Below B w w') (hB : w.heap.size ≤ B) :
    (convert 22 9 (.slice A n c)).run Try.prog w' = .ok (.string ⟨xs.toArray⟩) w' :=
  (h.below hb hB).str _ _ _ Try.underlying22 Try.underlying5 Try.underlying9

set_option maxHeartbeats 1000000 in
set_option maxRecDepth 100000 in
theorem codecOnce_walk (A : Option Addr) (n c : Nat) (xs : List UInt8) (w : World) (hr : Rd w A n c 1 (bvs xs)) (hc : c ≤ 140737488351232) :
    Calls Try.prog 3 #[.slice A n c] w fun e w' => e = .returned (.bool true) ∧ Below w.heap.size w w' := by
  have hnc := hr.nc
  have hxl := hr.len
  rw [bvs_len, Nat.mul_one] at hxl
  have hn : n ≤ 140737488351232 := by omega
  have HS := Lib.hid fun w => shown_any w
  have HR := Lib.hid hr; clear hr
  cases hg : getNum xs with
  | none =>
    have HG := Lib.hid (getV_none hg)
    clear hg hxl
    go_enter Try.func3, Try.ntmps3
    go_wp2_with fail
    refine (HS.out _).mono ?_
    rintro e w1 ⟨rfl, hb1⟩
    have HB1 := Lib.hid hb1; clear hb1
    go_wp2_with fail
    refine (get_any A n c xs _ (HR.out.below HB1.out (Nat.le_refl _)) hn).mono ?_
    rw [HG.out]
    rintro e w2 ⟨rfl, rfl⟩
    go_wp2
    go_ret
    exact ⟨rfl, HB1.out⟩
  | some p =>
    obtain ⟨v, k⟩ := p
    obtain ⟨hen, hv64, hk1, hk10, hkl⟩ := getNum_only hg
    have HG := Lib.hid (getV_some hg)
    have HSH := Lib.hid (fun j (hj : j < k) => getV_none (getNum_short hg hj))
    have hkn : k ≤ n := by omega
    have HV : Hid (U64 v) := Lib.hid hv64
    have HRk := Lib.hid (HR.out.take k hkn)
    rw [Nat.mul_one, bvs_take, ← hen] at HRk
    have hki : (1 : Int) ≤ (k : Int) := by omega
    have hkni : (k : Int) ≤ (n : Int) := by omega
    have hknc : (k : Int) ≤ (c : Int) := by omega
    have t1 : decide ((k : Int) < 1) = false := by simp; omega
    have t2 : decide (n < k) = false := by simp; omega
    have hk0 : (0 : Int) ≤ (k : Int) := by omega
    clear hg hxl hen hv64
    go_enter Try.func3, Try.ntmps3
    go_wp2_with fail
    refine (HS.out _).mono ?_
    rintro e w1 ⟨rfl, hb1⟩
    have HB1 := Lib.hid hb1; clear hb1
    go_wp2_with fail
    refine (get_any A n c xs _ (HR.out.below HB1.out (Nat.le_refl _)) hn).mono ?_
    rw [HG.out]
    rintro e w2 ⟨rfl, rfl⟩
    have hs1 := str_at HRk.out HB1.out.drew (Nat.le_refl _)
    go_wp2_with fail
    go_upto_region 5 with (fail)
    go_cut [46] (fun t wc => t = .bool false ∧ Hid (Below w.heap.size w wc))
    case first =>
      go_wp2_with fail
      apply wp_region_ext _ (by kernel_rfl) (by kernel_rfl)
      have HD := Lib.hid (HRk.out.below HB1.out.drew (Nat.le_refl _))
      iterate 10 (apply wpZ_det; (intro wq hE hG; first | exact obl_non (by rfl) | (apply obl_val (by rfl); go_simp; rfl)); (intro ak hak; simp only [Act.put, List.setIfInBounds_toArray, List.set_cons_succ, List.set_cons_zero] at hak; subst hak))
      apply wpZ_nd (fun u w' => ∃ A c n, u = .slice A n c ∧ Rd w' A n c 1 (bvs (enc v)))
      · rintro u w3 w4 ⟨A3, c3, n3, h1, h2⟩ hx; exact ⟨A3, c3, n3, h1, h2.below hx (Nat.le_refl _)⟩
      · intro wq hE hG
        apply obl_on (by kernel_rfl)
        go_simp
        simp only [extUpon_enter]
        refine (put_any none 0 0 [] v _ HV.out (Rd.nil _ 1) (by omega)).mono ?_
        rintro e w4 ⟨r, rfl, hown, hb⟩
        obtain ⟨A3, c3, rfl, hr3, _⟩ := Rd.of_own hown
        exact ⟨_, rfl, hb, A3, c3, _, rfl, hr3⟩
      intro u ak hak
      simp only [Act.put, List.setIfInBounds_toArray, List.set_cons_succ, List.set_cons_zero] at hak
      subst hak
      apply wpZ_det
      · intro wq hE hG
        obtain ⟨A3, c3, n3, rfl, hr3⟩ := hG _ (List.mem_cons_self ..) (by kernel_rfl)
        have hs3 := hr3.str 22 9 _ Try.underlying22 Try.underlying5 Try.underlying9
        clear hr3
        apply obl_val (by kernel_rfl)
        go_simp
        rfl
      intro ak hak
      simp only [Act.put, List.setIfInBounds_toArray, List.set_cons_succ, List.set_cons_zero] at hak
      subst hak
      iterate 3 (apply wpZ_det; (intro wq hE hG; apply obl_val (by kernel_rfl); go_simp; rfl); (intro ak hak; simp only [Act.put, List.setIfInBounds_toArray, List.set_cons_succ, List.set_cons_zero] at hak; subst hak))
      apply wpZ_det
      · intro wq hE hG
        have hs3 := (HD.out.below hE (Nat.le_refl _)).str 22 9 _ Try.underlying22 Try.underlying5 Try.underlying9
        apply obl_val (by kernel_rfl)
        go_simp
        rfl
      intro ak hak
      simp only [Act.put, List.setIfInBounds_toArray, List.set_cons_succ, List.set_cons_zero] at hak
      subst hak
      iterate 2 (apply wpZ_det; (intro wq hE hG; apply obl_val (by kernel_rfl); go_simp; rfl); (intro ak hak; simp only [Act.put, List.setIfInBounds_toArray, List.set_cons_succ, List.set_cons_zero] at hak; subst hak))
      apply wpZ_nil
      intro wq hE hG
      clear hG
      go_wp2_with fail
      go_meet
      case rel => exact ⟨rfl, Lib.hid ((HB1.out.drew).trans (hE.mono HB1.out.size))⟩
    case rest =>
      clear hs1
      obtain ⟨rfl, HBc⟩ := hcut
      go_wp2_with fail
      go_loop [7] (fun i => ∃ j : Nat, j ≤ k ∧ i = .int .i64 j) (fun i => k - (intOf i).toNat)
      case atStart => exact ⟨0, by omega, rfl⟩
      case round =>
        obtain ⟨j, hj, rfl⟩ := hrel
        by_cases hlt : j < k
        · have HRj := Lib.hid ((HR.out.below HBc.out (Nat.le_refl _)).take j (by omega))
          rw [Nat.mul_one, bvs_take] at HRj
          have HGj := Lib.hid (HSH.out j hlt)
          have hjn : j ≤ 140737488351232 := by omega
          have hjc : (j : Int) ≤ (c : Int) := by omega
          have hj0 : (0 : Int) ≤ (j : Int) := by omega
          go_wp2_with fail
          refine (get_any A j c (xs.take j) _ HRj.out hjn).mono ?_
          rw [HGj.out]
          rintro e w2 ⟨rfl, rfl⟩
          go_wp2
          go_round
          case rel => exact ⟨j + 1, by omega, by go_num⟩
          case measure => simp [intOf]; omega
        · go_wp2
          go_ret
          exact ⟨rfl, HBc.out⟩
end Go.Proofs.Ytimmgaifhkhhhaa
