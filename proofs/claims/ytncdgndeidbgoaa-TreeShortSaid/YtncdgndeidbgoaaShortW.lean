/- Walk of TreeShort. -/
import Derived.Test.YtncdgndeidbgoaaS5
import Derived.Test.YtncdgndeidbgoaaSmall5
import Derived.Test.YtncdgndeidbgoaaTq
import Derived.Test.YtncdgndeidbgoaaBit
namespace Go.Proofs.Ytncdgndeidbgoaa
open Go.RowKit

theorem Dls.addr {w : World} {A : Option Addr} {n c : Nat} {l : List (List UInt8)} (h : Dls w A n c l) (h0 : 0 < n) : ∃ a, A = some a := by
  cases hA : A with
  | none => have := h.rd.nil0 hA; have := h.rd.nc; omega
  | some a => exact ⟨a, rfl⟩

set_option maxHeartbeats 4000000 in
set_option maxRecDepth 100000 in
theorem treeShort_walk (A : Option Addr) (n0 c0 : Nat) (l : List (List UInt8)) (fr tt : Int) (w : World) (hr : Bss w A n0 c0 l) (_hc : c0 ≤ 140737488351232) (_hf : -9223372036854775808 ≤ fr ∧ fr ≤ 9223372036854775807) (_ht : -9223372036854775808 ≤ tt ∧ tt ≤ 9223372036854775807) :
    Calls Try.prog 8 #[.slice A n0 c0, .int .i64 fr, .int .i64 tt] w fun e w' => e = .returned (.bool true) ∧ Below w.heap.size w w' := by
  have HR := Lib.hid hr
  clear hr _hc _hf _ht
  obtain ⟨f1, hf1, hf1b⟩ := low16 fr
  obtain ⟨f2, hf2, hf2b⟩ := low16 tt
  go_enter Try.func8, Try.ntmps8
  go_wp2_with fail
  refine (shown_any _).mono ?_
  rintro e w1 ⟨rfl, hb1⟩
  have HE1 := Lib.hid hb1
  clear hb1
  go_wp2_with fail
  refine (small_any A n0 c0 l _ (HR.out.same HE1.out)).mono ?_
  rintro e w2 ⟨v, rfl, hlot, hb⟩
  have HE2 := Lib.hid (ExtW.trans HE1.out hb)
  obtain ⟨s, hs⟩ : ∃ s, s = smallL l := ⟨_, rfl⟩
  have HLV : Hid (Lv s) := Lib.hid (fun y hy => Nat.le_trans (smallL_lv l y (by rw [← hs]; exact hy)) (by decide))
  have hsn := smallL_len l
  rw [← hs] at hlot hsn
  obtain ⟨B, c, rfl, hbs⟩ := hlot.bss
  obtain ⟨n, hn⟩ : ∃ n, n = s.length := ⟨_, rfl⟩
  rw [← hn] at hbs hsn ⊢
  have HB2 := Lib.hid hbs
  have HN : Hid (s.length = n) := Lib.hid hn.symm
  have hnc := hbs.nc
  clear hb hlot hbs hs hn HE1
  by_cases h0 : n = 0
  · have hne0 : ((n : Int) == 0) = true := by rw [beq_iff_eq]; omega
    subst h0
    go_wp2
    go_ret
    exact ⟨rfl, HE2.out⟩
  have hne0 : ((n : Int) == 0) = false := by rw [beq_eq_false_iff_ne]; omega
  go_upto_block 0 with (fail)
  go_wp2_with fail
  go_loopw [9] (fun tv wr => ∃ t : Nat, tv = .int .i64 t ∧ t ≤ 7 ∧ Hid (wr = w2)) (fun tv _ => 7 - (intOf tv).toNat)
  case atStart => exact ⟨0, rfl, by decide, Lib.hid rfl⟩
  case round =>
    obtain ⟨t, rfl, ht7, HW⟩ := hrel
    obtain rfl := HW.out
    obtain ⟨p, hp⟩ : ∃ p, p = 2 ^ t := ⟨_, rfl⟩
    have hpw : IntKind.i64.wrap ((2 : Int) ^ t) = (p : Int) := by
      rw [hp]
      rcases (by omega : t = 0 ∨ t = 1 ∨ t = 2 ∨ t = 3 ∨ t = 4 ∨ t = 5 ∨ t = 6 ∨ t = 7) with rfl | rfl | rfl | rfl | rfl | rfl | rfl | rfl <;> rfl
    have hp7 : t = 7 → p = 128 := by intro h; rw [hp, h]
    have HP := Lib.hid hp
    clear hp
    by_cases hlt : p < n
    · have hpi : (p : Int) < (n : Int) := by omega
      have ht6 : t < 7 := by
        rcases Nat.lt_or_ge t 7 with h | h
        · exact h
        · have := hp7 (by omega); omega
      clear hp7
      go_wp2_with fail
      go_roundw
      case rel => exact ⟨t + 1, by simp, ht6, Lib.hid trivial⟩
      case measure => simp [intOf]; omega
    have hpi : ¬ (p : Int) < (n : Int) := by omega
    have HNP : Hid (n ≤ 2 ^ t) := Lib.hid (by rw [← HP.out]; omega)
    clear hp7
    obtain ⟨i, hi⟩ : ∃ i, i = f1 % n := ⟨_, rfl⟩
    have hin : i < n := by rw [hi]; exact Nat.mod_lt _ (by omega)
    have hm1 : (f1 : Int) % (n : Int) = (i : Int) := by rw [hi]; omega
    have hm1' : (f1 : Int).tmod (n : Int) = (i : Int) := by rw [Int.tmod_eq_emod_of_nonneg (by omega)]; exact hm1
    obtain ⟨j, hj⟩ : ∃ j, j = f2 % (n - i) := ⟨_, rfl⟩
    have hjn : j < n - i := by rw [hj]; exact Nat.mod_lt _ (by omega)
    have hsb : IntKind.i64.wrap ((n : Int) - (i : Int)) = ((n - i : Nat) : Int) := by rw [IntWalk.i64_in _ (by omega)]; omega
    have hm2 : (f2 : Int) % ((n - i : Nat) : Int) = (j : Int) := by rw [hj]; omega
    have hm2' : (f2 : Int).tmod ((n - i : Nat) : Int) = (j : Int) := by rw [Int.tmod_eq_emod_of_nonneg (by omega)]; exact hm2
    obtain ⟨k, hk⟩ : ∃ k, k = i + 1 + j := ⟨_, rfl⟩
    have hkn : k ≤ n := by omega
    have hik : i < k := by omega
    have hki : (i : Int) + 1 + (j : Int) = (k : Int) := by omega
    clear hi hj hk
    go_wp2_with fail
    refine (ppath_ok B n c s i _ (by omega) hin HB2.out HLV.out).mono ?_
    rintro e w6 ⟨v, rfl, ho, hb⟩
    obtain ⟨P, hP⟩ : ∃ P, P = T.pathD 256 s i := ⟨_, rfl⟩
    have hPa : ∀ d ∈ P, d.length = 32 := by rw [hP]; exact T.pathD_len32 _ _ _
    rw [← hP] at ho
    obtain ⟨PA, pc, rfl, hdp⟩ := ho.dls hPa
    obtain ⟨pl, hpl⟩ : ∃ pl, pl = P.length := ⟨_, rfl⟩
    rw [← hpl] at hdp ⊢
    have hplt : pl ≤ t := by
      rw [hpl, hP, T.pathD_len, HN.out]
      exact T.downs_len HNP.out
    have HDP := Lib.hid hdp
    have HP2 := Lib.hid hP
    have HPL := Lib.hid hpl.symm
    have HE3 := Lib.hid (ExtW.trans HE2.out hb)
    have HB6 := Lib.hid (HB2.out.same hb)
    clear hb ho hdp hP hpl hPa
    go_wp2_with fail
    refine (prange_ok B n c s i k _ (by omega) (by omega) (by omega) (by omega) HB6.out HLV.out).mono ?_
    rintro e w7 ⟨v, rfl, ho, hb⟩
    obtain ⟨RA, rc, rfl, hdr⟩ := ho.dls (T.besideD_len32 _ _ _ _)
    obtain ⟨rl, hrl⟩ : ∃ rl, rl = (T.besideD 256 s i k).length := ⟨_, rfl⟩
    rw [← hrl] at hdr ⊢
    have hrlt : rl ≤ 2 * t := by
      have h := T.besideD_pops 256 (m := k - i) (s.length + 1) s i (by omega) (by rw [HN.out]; omega)
      rw [show (i : Int) + ((k - i : Nat) : Int) = (k : Int) by omega, HN.out] at h
      rw [hrl, h]
      exact T.popsB (by omega) (n + 1) n t i (by omega) (by omega) HNP.out (by omega) (by omega)
    have HE4 := Lib.hid (ExtW.trans HE3.out hb)
    have HB7 := Lib.hid (HB6.out.same hb)
    have HDP7 := Lib.hid (HDP.out.same hb)
    clear hb ho hdr hrl HB6 HDP HE3
    go_wp2_with fail
    refine (prange_ok B n c s 0 n _ (by omega) (by omega) (by omega) (by omega) HB7.out HLV.out).mono ?_
    rintro e w8 ⟨v, rfl, ho, hb⟩
    have hz : T.besideD 256 s 0 n = [] := by
      apply List.length_eq_zero_iff.1
      have h := T.besideD_pops 256 (m := n) (s.length + 1) s 0 (by omega) (by rw [HN.out]; omega)
      rw [show (0 : Int) + (n : Int) = (n : Int) by omega] at h
      rw [h]
      exact T.popsD_full (s.length + 1) s.length 0 (by omega) (by rw [HN.out]; omega) (by omega) (by rw [HN.out]; omega)
    rw [hz] at ho
    obtain ⟨LA, lc, rfl, _⟩ := ho.dls (fun d hd => by cases hd)
    simp only [List.length_nil]
    have HE5 := Lib.hid (ExtW.trans HE4.out hb)
    have HB8 := Lib.hid (HB7.out.same hb)
    have HDP8 := Lib.hid (HDP7.out.same hb)
    clear hb ho hz HB7 HDP7 HE4
    go_wp2_with fail
    refine (prange_ok B n c s i ((i : Int) + 1) _ (by omega) (by omega) (by omega) (by omega) HB8.out HLV.out).mono ?_
    rintro e w9 ⟨v, rfl, ho, hb⟩
    obtain ⟨O, hO⟩ : ∃ O, O = T.besideD 256 s i ((i : Int) + 1) := ⟨_, rfl⟩
    have hOa : ∀ d ∈ O, d.length = 32 := by rw [hO]; exact T.besideD_len32 _ _ _ _
    have hperm : O.Perm P := by rw [hO, HP2.out]; exact T.beside_perm 256 (s.length + 1) s i (by omega) (by rw [HN.out]; exact hin)
    rw [← hO] at ho
    obtain ⟨OA, oc, rfl, hdo⟩ := ho.dls hOa
    have hol : O.length = pl := by rw [hperm.length_eq, HPL.out]
    rw [hol] at hdo ⊢
    have HDO := Lib.hid hdo
    have HPM := Lib.hid hperm
    have HOL := Lib.hid hol
    have HE6 := Lib.hid (ExtW.trans HE5.out hb)
    have HDP9 := Lib.hid (HDP8.out.same hb)
    clear hb ho hdo hO hOa hperm hol HB8 HDP8 HE5 hf1 hf2 hm1 hm1' hm2 hm2' hsb hki hpw
    have hd1 : decide (t < pl) = false := by rw [decide_eq_false_iff_not]; omega
    have hd2 : ¬ (2 * (t : Int) < (rl : Int)) := by omega
    have hw2 : IntKind.i64.wrap (2 * (t : Int)) = 2 * (t : Int) := IntWalk.i64_in _ (by omega)
    go_upto_block 2 with (fail)
    clear hd1 hd2 hw2
    go_wp2_with fail
    go_loopw [20] (fun av wl => ∃ a : Nat, av = .int .i64 a ∧ a ≤ pl ∧ Hid (ExtW w9 wl)) (fun av _ => pl - (intOf av).toNat)
    case atStart => exact ⟨0, rfl, Nat.zero_le _, Lib.hid (ExtW.refl _)⟩
    case round =>
      obtain ⟨a, rfl, hap, HXA⟩ := hrel
      by_cases hlt : a < pl
      · have hai : (a : Int) < (pl : Int) := by omega
        obtain ⟨pa, hpa⟩ := HDP9.out.addr (by omega)
        obtain ⟨oa, hoa⟩ := HDO.out.addr (by omega)
        subst hpa hoa
        obtain ⟨d, hd⟩ : ∃ d, P[a]? = some d := ⟨_, List.getElem?_eq_getElem (by rw [HPL.out]; exact hlt)⟩
        have HDL : Hid (d.length = 32) := Lib.hid (HDP9.out.all d (List.mem_of_getElem? hd))
        have HD := Lib.hid hd
        clear hd
        go_upto_block 4 with (fail)
        go_wp2_with fail
        go_loopw [21, 22, 23] (fun hv tv bv wl2 => ∃ b hN tN : Nat, bv = .int .i64 b ∧ hv = .int .i64 hN ∧ tv = .int .i64 tN ∧ b ≤ pl ∧ hN ≤ b ∧ tN ≤ b ∧ Hid (hN = (P.take b).count d) ∧ Hid (tN = (O.take b).count d) ∧ Hid (ExtW w9 wl2)) (fun _ _ bv _ => pl - (intOf bv).toNat)
        case atStart => exact ⟨0, 0, 0, rfl, rfl, rfl, Nat.zero_le _, Nat.le_refl _, Nat.le_refl _, Lib.hid (by simp), Lib.hid (by simp), HXA⟩
        case round =>
          obtain ⟨b, hN, tN, rfl, rfl, rfl, hbp, hhN, htN, HHN, HTN, HXB⟩ := hrel
          by_cases hlb : b < pl
          · have hbi : (b : Int) < (pl : Int) := by omega
            obtain ⟨y, hy⟩ : ∃ y, P[b]? = some y := ⟨_, List.getElem?_eq_getElem (by rw [HPL.out]; exact hlb)⟩
            obtain ⟨z, hz⟩ : ∃ z, O[b]? = some z := ⟨_, List.getElem?_eq_getElem (by rw [HOL.out]; exact hlb)⟩
            have HYL : Hid (y.length = 32) := Lib.hid (HDP9.out.all y (List.mem_of_getElem? hy))
            have HZL : Hid (z.length = 32) := Lib.hid (HDO.out.all z (List.mem_of_getElem? hz))
            have HY := Lib.hid hy
            have HZ := Lib.hid hz
            have HHN2 : Hid ((P.take (b + 1)).count d = hN + if y = d then 1 else 0) := Lib.hid (by
              rw [List.take_add_one, hy, Option.toList_some, List.count_append, ← HHN.out, List.count_singleton]
              by_cases h : y = d <;> simp [h])
            have HTN2 : Hid ((O.take (b + 1)).count d = tN + if z = d then 1 else 0) := Lib.hid (by
              rw [List.take_add_one, hz, Option.toList_some, List.count_append, ← HTN.out, List.count_singleton]
              by_cases h : z = d <;> simp [h])
            clear hy hz
            have HEY : Hid (decide (y = d) = true ∨ decide (y = d) = false) := Lib.hid (by cases decide (y = d) <;> simp)
            have HEZ : Hid (decide (z = d) = true ∨ decide (z = d) = false) := Lib.hid (by cases decide (z = d) <;> simp)
            rcases HEY.out with hey | hey <;> rcases HEZ.out with hez | hez
            all_goals
              have HY1 := Lib.hid hey
              have HZ1 := Lib.hid hez
              clear hey hez HEY HEZ
              go_upto_region 24 with (fail)
              apply wp_region_ext _ (by kernel_rfl) (by kernel_rfl)
              iterate 3 (apply wpZ_det; (intro wq hE hG; first | exact obl_non (by rfl) | (apply obl_val (by rfl); go_simp; rfl)); (intro ak hak; simp only [Act.put, List.setIfInBounds_toArray, List.set_cons_succ, List.set_cons_zero] at hak; subst hak))
              (apply wpZ_det; (intro wq hE hG; exact obl_ldA (by rfl) rfl (by rfl) (((HDP9.out.same (ExtW.trans HXB.out (ExtW.of_drew hE))).load HY.out))); (intro ak hak; simp only [Act.put, List.setIfInBounds_toArray, List.set_cons_succ, List.set_cons_zero] at hak; subst hak))
              iterate 3 (apply wpZ_det; (intro wq hE hG; first | exact obl_non (by rfl) | (apply obl_val (by rfl); go_simp; rfl)); (intro ak hak; simp only [Act.put, List.setIfInBounds_toArray, List.set_cons_succ, List.set_cons_zero] at hak; subst hak))
              (apply wpZ_det; (intro wq hE hG; exact obl_ldA (by rfl) rfl (by rfl) (((HDP9.out.same (ExtW.trans HXB.out (ExtW.of_drew hE))).load HD.out))); (intro ak hak; simp only [Act.put, List.setIfInBounds_toArray, List.set_cons_succ, List.set_cons_zero] at hak; subst hak))
              (apply wpZ_det; (intro wq hE hG; exact obl_eqD (by rfl) rfl rfl rfl (HYL.out) (HDL.out) (HY1.out)); (intro ak hak; simp only [Act.put, List.setIfInBounds_toArray, List.set_cons_succ, List.set_cons_zero] at hak; subst hak))
              (apply wpZ_nil; intro wq hE hG)
              have HXC := Lib.hid (ExtW.trans HXB.out (ExtW.of_drew hE))
              clear hE hG
              go_upto_region 26 with (fail)
              apply wp_region_ext _ (by kernel_rfl) (by kernel_rfl)
              iterate 3 (apply wpZ_det; (intro wq hE hG; first | exact obl_non (by rfl) | (apply obl_val (by rfl); go_simp; rfl)); (intro ak hak; simp only [Act.put, List.setIfInBounds_toArray, List.set_cons_succ, List.set_cons_zero] at hak; subst hak))
              (apply wpZ_det; (intro wq hE hG; exact obl_ldA (by rfl) rfl (by rfl) (((HDO.out.same (ExtW.trans HXC.out (ExtW.of_drew hE))).load HZ.out))); (intro ak hak; simp only [Act.put, List.setIfInBounds_toArray, List.set_cons_succ, List.set_cons_zero] at hak; subst hak))
              iterate 3 (apply wpZ_det; (intro wq hE hG; first | exact obl_non (by rfl) | (apply obl_val (by rfl); go_simp; rfl)); (intro ak hak; simp only [Act.put, List.setIfInBounds_toArray, List.set_cons_succ, List.set_cons_zero] at hak; subst hak))
              (apply wpZ_det; (intro wq hE hG; exact obl_ldA (by rfl) rfl (by rfl) (((HDP9.out.same (ExtW.trans HXC.out (ExtW.of_drew hE))).load HD.out))); (intro ak hak; simp only [Act.put, List.setIfInBounds_toArray, List.set_cons_succ, List.set_cons_zero] at hak; subst hak))
              (apply wpZ_det; (intro wq hE hG; exact obl_eqD (by rfl) rfl rfl rfl (HZL.out) (HDL.out) (HZ1.out)); (intro ak hak; simp only [Act.put, List.setIfInBounds_toArray, List.set_cons_succ, List.set_cons_zero] at hak; subst hak))
              (apply wpZ_nil; intro wq hE hG)
              have HXD := Lib.hid (ExtW.trans HXC.out (ExtW.of_drew hE))
              clear hE hG
              go_wp2_with fail
              go_roundw
              case measure => simp [intOf]; omega
              case rel =>
                first
                  | exact ⟨b + 1, hN, tN, by simp, rfl, rfl, hlb, by omega, by omega, Lib.hid (by rw [HHN2.out, if_neg (of_decide_eq_false HY1.out)]; rfl), Lib.hid (by rw [HTN2.out, if_neg (of_decide_eq_false HZ1.out)]; rfl), HXD⟩
                  | exact ⟨b + 1, hN + 1, tN, by simp, by simp, rfl, hlb, by omega, by omega, Lib.hid (by rw [HHN2.out, if_pos (of_decide_eq_true HY1.out)]), Lib.hid (by rw [HTN2.out, if_neg (of_decide_eq_false HZ1.out)]; rfl), HXD⟩
                  | exact ⟨b + 1, hN, tN + 1, by simp, rfl, by simp, hlb, by omega, by omega, Lib.hid (by rw [HHN2.out, if_neg (of_decide_eq_false HY1.out)]; rfl), Lib.hid (by rw [HTN2.out, if_pos (of_decide_eq_true HZ1.out)]), HXD⟩
                  | exact ⟨b + 1, hN + 1, tN + 1, by simp, by simp, by simp, hlb, by omega, by omega, Lib.hid (by rw [HHN2.out, if_pos (of_decide_eq_true HY1.out)]), Lib.hid (by rw [HTN2.out, if_pos (of_decide_eq_true HZ1.out)]), HXD⟩
          · obtain rfl : b = pl := by omega
            have hbi : ¬ (b : Int) < (b : Int) := by omega
            have heq : hN = tN := by
              rw [HHN.out, HTN.out, List.take_of_length_le (by rw [HPL.out]; exact Nat.le_refl _), List.take_of_length_le (by rw [HOL.out]; exact Nat.le_refl _)]
              exact (HPM.out.count_eq d).symm
            subst heq
            go_wp2_with fail
            go_roundw
            case rel => exact ⟨a + 1, by simp, hlt, HXB⟩
            case measure => simp [intOf]; omega
      · have hai : ¬ (a : Int) < (pl : Int) := by omega
        go_wp2
        go_ret
        exact ⟨rfl, ExtW.trans HE6.out HXA.out⟩
end Go.Proofs.Ytncdgndeidbgoaa
