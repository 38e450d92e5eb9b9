/- Walk of CodecPuts. -/
import Derived.Test.YtimmgaifhkhhhaaShown1
import Derived.Test.YtimmgaifhkhhhaaRef
namespace Go.Proofs.Ytimmgaifhkhhhaa
open Go.RowKit

theorem own_empty (w : World) (base : Nat) (hb : base ≤ w.heap.size) : (w.alloc (.cells #[] 5)).ownsRow base 5 1 (.slice (some ⟨w.heap.size, 0, none⟩) 0 0) 0 (bvs []) := by
  refine ⟨rfl, .inr ⟨w.heap.size, 0, #[], rfl, hb, heap_alloc_new w _, Nat.le_refl _, by simp [maxLen], rfl, rfl⟩⟩
theorem str_bytes (xs : List UInt8) : (⟨xs.toArray⟩ : ByteArray).data.toList = xs := by simp
/-- something owned lies at the head of a block -/
theorem own_form {w : World} {base e n : Nat} {v : Value} {xs : List Value} (h : w.ownsRow base e 1 v n xs) (hn : 0 < n) :
    ∃ g c, v = .slice (some ⟨g, 0, none⟩) n c ∧ base ≤ g ∧ g < w.heap.size := by
  rcases h.2 with ⟨_, h0⟩ | ⟨g, cap, cur, hv, hb, hg, _⟩
  · omega
  · refine ⟨g, cap, hv, hb, ?_⟩
    rcases Nat.lt_or_ge g w.heap.size with h1 | h1
    · exact h1
    · rw [Array.getElem?_eq_none h1] at hg; cases hg
/-- what is owned stays so, where nothing but new memory comes -/
theorem own_ext {w w' : World} {base e n : Nat} {v : Value} {xs : List Value} (h : w.ownsRow base e 1 v n xs) (hb : ExtW w w') : w'.ownsRow base e 1 v n xs := by
  refine ⟨h.1, ?_⟩
  rcases h.2 with h2 | ⟨g, cap, cur, hv, hbg, hg, rest⟩
  · exact .inl h2
  · refine .inr ⟨g, cap, cur, hv, hbg, ?_, rest⟩
    have : g < w.heap.size := by
      rcases Nat.lt_or_ge g w.heap.size with h1 | h1
      · exact h1
      · rw [Array.getElem?_eq_none h1] at hg; cases hg
    rw [hb.block g this]; exact hg

set_option maxHeartbeats 4000000 in
set_option maxRecDepth 100000 in
theorem codecPuts_walk (A : Option Addr) (n c : Nat) (xs : List UInt8) (v : Nat) (s : ByteArray) (x : Nat) (w : World) (hr : Rd w A n c 1 (bvs xs)) (hc : c ≤ 1048576) (hv : v < 18446744073709551616) (hs : s.size ≤ 1048576) (hx : x < 4294967296) :
    Calls Try.prog 6 #[.slice A n c, .int .u64 v, .string s, .int .u32 x] w fun e w' => e = .returned (.bool true) ∧ Below w.heap.size w w' := by
  obtain ⟨i0, hi, hz0, hz1, hz2⟩ := info_parts infoB
  have HS := Lib.hid fun w => shown_any w
  have hnc := hr.nc
  have hn : n ≤ 1048576 := by omega
  have hxl := hr.len
  rw [bvs_len, Nat.mul_one] at hxl
  have hxs : (⟨xs.toArray⟩ : ByteArray).size ≤ 1048576 := by rw [← size_list, str_bytes]; omega
  clear hnc hc hxl
  have HR := Lib.hid hr; clear hr
  have HXS := Lib.hid hxs; clear hxs
  have HV : Hid (U64 v) := Lib.hid hv
  have HX := Lib.hid hx
  have e10 := enc_le10 hv
  have e1 := enc_pos v
  have HSZ := Lib.hid fun w => size_any v w hv
  have HRS := Lib.hid fun w => refSize_any v w hv
  have et : (encText s.data.toList).length ≤ 1048586 ∧ 1 ≤ (encText s.data.toList).length := by
    unfold encText; rw [List.length_append, size_list]; have := enc_le10 (v := s.size) (by omega); have := enc_pos s.size; omega
  obtain ⟨et1, et2⟩ := et
  -- the document's answers, over the bytes
  have R1 : Hid (∀ W, Calls Try.prog 16 #[.string ⟨xs.toArray⟩, .int .u64 v] W fun e w' => e = .returned (.string ⟨(xs ++ enc v).toArray⟩) ∧ Below W.heap.size W w') := Lib.hid fun W =>
    refPut_any ⟨xs.toArray⟩ v W hv (Nat.le_trans HXS.out (by omega))
  have R2 : Hid (∀ W, Calls Try.prog 17 #[.string ⟨xs.toArray⟩, .string s] W fun e w' => e = .returned (.string ⟨(xs ++ encText s.data.toList).toArray⟩) ∧ Below W.heap.size W w') := Lib.hid fun W =>
    refPutText_any ⟨xs.toArray⟩ s W (Nat.le_trans HXS.out (by omega)) (by omega)
  have R3 : Hid (∀ W, Calls Try.prog 18 #[.string ⟨xs.toArray⟩, .int .u32 x] W fun e w' => e = .returned (.string ⟨(xs ++ fix4 x).toArray⟩) ∧ Below W.heap.size W w') := Lib.hid fun W =>
    refPutFixed_any ⟨xs.toArray⟩ x W hx (Nat.le_trans HXS.out (by omega))
  have hstr : Hid (∀ W (A : Option Addr) (n c : Nat) (xs : List UInt8), Rd W A n c 1 (bvs xs) → (convert 22 9 (.slice A n c)).run Try.prog W = .ok (.string ⟨xs.toArray⟩) W) := Lib.hid fun W A n c xs h => h.str _ _ _ Try.underlying22 Try.underlying5 Try.underlying9
  clear hv hx
  obtain ⟨d1, hd1⟩ : ∃ d, d = (enc v).length := ⟨_, rfl⟩
  obtain ⟨d2, hd2⟩ : ∃ d, d = (encText s.data.toList).length := ⟨_, rfl⟩
  obtain ⟨b1, hb1⟩ : ∃ b, b = xs ++ enc v := ⟨_, rfl⟩
  obtain ⟨b2, hb2⟩ : ∃ b, b = xs ++ encText s.data.toList := ⟨_, rfl⟩
  obtain ⟨b3, hb3⟩ : ∃ b, b = xs ++ fix4 x := ⟨_, rfl⟩
  rw [← hd1] at e10 e1 HSZ HRS
  rw [← hd2] at et1 et2
  rw [← hb1] at R1; rw [← hb2] at R2; rw [← hb3] at R3
  have D1 := Lib.hid hd1; have D2 := Lib.hid hd2; have E1 := Lib.hid hb1; have E2 := Lib.hid hb2; have E3 := Lib.hid hb3
  clear hd1 hd2 hb1 hb2 hb3
  go_enter Try.func6, Try.ntmps6
  go_wp2_with fail
  refine (HS.out _).mono ?_
  rintro e w1 ⟨rfl, hb1⟩
  have HB1 := Lib.hid hb1; clear hb1
  have HO := Lib.hid (own_empty w1 w1.heap.size (Nat.le_refl _))
  have HY := Lib.hid ((HR.out.below HB1.out (Nat.le_refl _)).alloc (.cells #[] 5))
  go_wp2_with (at_builtin; refine wpList_append_appd _ rfl _ _ _ rfl w1.heap.size 5 i0 _ 1 1 Try.underlying22 hi hz0 hz1 hz2 rfl (by omega) _ _ _ rfl (.inr HO.out) A n c _ rfl HY.out (bvs_one _) (by simp [maxLen]; omega) (by omega) (by simp) (.inl HO.out) ?_; intro v3 w3 hown3 hb3 _; obtain ⟨A3, c3, rfl, hr3, _⟩ := Rd.of_own hown3)
  have HR3 := Lib.hid hr3
  rw [Nat.zero_add] at HR3
  have HB3 : Hid (Below w.heap.size w w3) := Lib.hid (HB1.out.trans ((((Below.refl _ _).alloc (Nat.le_refl _) _).trans hb3).mono HB1.out.size))
  have HRa := Lib.hid (HR.out.below HB3.out (Nat.le_refl _))
  clear hown3 hr3 hb3
  refine (put_any A3 n c3 xs v _ HV.out HR3.out (by omega)).mono ?_
  rintro e w4 ⟨r, rfl, hown4, hb4⟩
  rw [← D1.out, ← E1.out] at hown4
  obtain ⟨g4, c4, rfl, hg4, hl4⟩ := own_form hown4 (by omega)
  have HO4 := Lib.hid hown4; have HB4 := Lib.hid hb4
  clear hown4 hb4
  go_wp2_with fail
  refine (putText_any A3 n c3 xs s _ (by omega) (HR3.out.below HB4.out (Nat.le_refl _))).mono ?_
  rintro e w5 ⟨r, rfl, hown5, hb5⟩
  rw [← D2.out, ← E2.out] at hown5
  obtain ⟨g5, c5, rfl, hg5, hl5⟩ := own_form hown5 (by omega)
  have HO5 := Lib.hid hown5; have HB5 := Lib.hid hb5
  clear hown5 hb5
  go_wp2_with fail
  refine (putFixed_any A3 n c3 xs x _ HX.out (by omega) (HR3.out.below (HB4.out.trans (HB5.out.mono HB4.out.size)) (Nat.le_refl _))).mono ?_
  rintro e w6 ⟨r, rfl, hown6, hb6⟩
  rw [← E3.out] at hown6
  obtain ⟨g6, c6, rfl, hg6, hl6⟩ := own_form hown6 (by omega)
  have HO6 := Lib.hid hown6; have HB6 := Lib.hid hb6
  clear hown6 hb6
  -- what all of these read as from here on
  have X36 : Hid (ExtW w3 w6) := Lib.hid ((ExtW.trans HB4.out HB5.out).trans HB6.out)
  have X46 : Hid (ExtW w4 w6) := Lib.hid (ExtW.trans HB5.out HB6.out)
  have C0 : Hid (∀ wq, ExtW w6 wq → Rd wq A n c 1 (bvs xs)) := Lib.hid fun wq h => (HRa.out.below (ExtW.trans X36.out h) (Nat.le_refl _))
  have C4 : Hid (∀ wq, ExtW w6 wq → Rd wq (some ⟨g4, 0, none⟩) (n + d1) c4 1 (bvs b1)) := Lib.hid fun wq h => by
    obtain ⟨A', c', h1, h2, _⟩ := Rd.of_own HO4.out; cases h1
    exact h2.below (ExtW.trans X46.out h) (Nat.le_refl _)
  have C5 : Hid (∀ wq, ExtW w6 wq → Rd wq (some ⟨g5, 0, none⟩) (n + d2) c5 1 (bvs b2)) := Lib.hid fun wq h => by
    obtain ⟨A', c', h1, h2, _⟩ := Rd.of_own HO5.out; cases h1
    exact h2.below (ExtW.trans HB6.out h) (Nat.le_refl _)
  have C6 : Hid (∀ wq, ExtW w6 wq → Rd wq (some ⟨g6, 0, none⟩) (n + 4) c6 1 (bvs b3)) := Lib.hid fun wq h => by
    obtain ⟨A', c', h1, h2, _⟩ := Rd.of_own HO6.out; cases h1
    exact h2.below h (Nat.le_refl _)
  go_wp2_with fail
  apply wp_region_ext _ (by kernel_rfl) (by kernel_rfl)
  have cv1 : ∀ wq, ExtW w6.drew wq → (convert 22 9 (.slice (some ⟨g4, 0, none⟩) (n + d1) c4)).run Try.prog wq = .ok (.string ⟨b1.toArray⟩) wq := fun wq h => hstr.out _ _ _ _ _ (C4.out wq (id h.of_drew))
  have cv2 : ∀ wq, ExtW w6.drew wq → (convert 22 9 (.slice A n c)).run Try.prog wq = .ok (.string ⟨xs.toArray⟩) wq := fun wq h => hstr.out _ _ _ _ _ (C0.out wq (id h.of_drew))
  iterate 5 (apply wpZ_det; (intro wq hE hG; first | exact obl_non (by rfl) | (apply obl_val (by rfl); go_simp; rfl)); (intro ak hak; simp only [Act.put, List.setIfInBounds_toArray, List.set_cons_succ, List.set_cons_zero] at hak; subst hak))
  apply wpZ_det
  · intro wq hE hG
    apply obl_on (by kernel_rfl)
    go_simp
    simp only [extUpon_enter]
    refine (R1.out _).mono ?_
    rintro e w7 ⟨rfl, hb7⟩
    exact ⟨_, rfl, hb7, rfl⟩
  (intro ak hak; simp only [Act.put, List.setIfInBounds_toArray, List.set_cons_succ, List.set_cons_zero] at hak; subst hak)
  iterate 2 (apply wpZ_det; (intro wq hE hG; first | exact obl_non (by rfl) | (apply obl_val (by rfl); go_simp; rfl)); (intro ak hak; simp only [Act.put, List.setIfInBounds_toArray, List.set_cons_succ, List.set_cons_zero] at hak; subst hak))
  apply wpZ_nil
  intro wa hE hG
  have Hwa : Hid (ExtW w6 wa) := Lib.hid (id hE.of_drew)
  clear hG hE cv1 cv2
  go_wp2_with fail
  apply wp_region_ext _ (by kernel_rfl) (by kernel_rfl)
  have cv1 : ∀ wq, ExtW wa.drew wq → (convert 22 9 (.slice (some ⟨g5, 0, none⟩) (n + d2) c5)).run Try.prog wq = .ok (.string ⟨b2.toArray⟩) wq := fun wq h => hstr.out _ _ _ _ _ (C5.out wq (ExtW.trans Hwa.out h.of_drew))
  have cv2 : ∀ wq, ExtW wa.drew wq → (convert 22 9 (.slice A n c)).run Try.prog wq = .ok (.string ⟨xs.toArray⟩) wq := fun wq h => hstr.out _ _ _ _ _ (C0.out wq (ExtW.trans Hwa.out h.of_drew))
  iterate 5 (apply wpZ_det; (intro wq hE hG; first | exact obl_non (by rfl) | (apply obl_val (by rfl); go_simp; rfl)); (intro ak hak; simp only [Act.put, List.setIfInBounds_toArray, List.set_cons_succ, List.set_cons_zero] at hak; subst hak))
  apply wpZ_det
  · intro wq hE hG
    apply obl_on (by kernel_rfl)
    go_simp
    simp only [extUpon_enter]
    refine (R2.out _).mono ?_
    rintro e w7 ⟨rfl, hb7⟩
    exact ⟨_, rfl, hb7, rfl⟩
  (intro ak hak; simp only [Act.put, List.setIfInBounds_toArray, List.set_cons_succ, List.set_cons_zero] at hak; subst hak)
  iterate 2 (apply wpZ_det; (intro wq hE hG; first | exact obl_non (by rfl) | (apply obl_val (by rfl); go_simp; rfl)); (intro ak hak; simp only [Act.put, List.setIfInBounds_toArray, List.set_cons_succ, List.set_cons_zero] at hak; subst hak))
  apply wpZ_nil
  intro wb hE hG
  have Hwb : Hid (ExtW w6 wb) := Lib.hid (ExtW.trans Hwa.out hE.of_drew)
  clear hG hE cv1 cv2
  go_wp2_with fail
  apply wp_region_ext _ (by kernel_rfl) (by kernel_rfl)
  have cv1 : ∀ wq, ExtW wb.drew wq → (convert 22 9 (.slice (some ⟨g6, 0, none⟩) (n + 4) c6)).run Try.prog wq = .ok (.string ⟨b3.toArray⟩) wq := fun wq h => hstr.out _ _ _ _ _ (C6.out wq (ExtW.trans Hwb.out h.of_drew))
  have cv2 : ∀ wq, ExtW wb.drew wq → (convert 22 9 (.slice A n c)).run Try.prog wq = .ok (.string ⟨xs.toArray⟩) wq := fun wq h => hstr.out _ _ _ _ _ (C0.out wq (ExtW.trans Hwb.out h.of_drew))
  iterate 5 (apply wpZ_det; (intro wq hE hG; first | exact obl_non (by rfl) | (apply obl_val (by rfl); go_simp; rfl)); (intro ak hak; simp only [Act.put, List.setIfInBounds_toArray, List.set_cons_succ, List.set_cons_zero] at hak; subst hak))
  apply wpZ_det
  · intro wq hE hG
    apply obl_on (by kernel_rfl)
    go_simp
    simp only [extUpon_enter]
    refine (R3.out _).mono ?_
    rintro e w7 ⟨rfl, hb7⟩
    exact ⟨_, rfl, hb7, rfl⟩
  (intro ak hak; simp only [Act.put, List.setIfInBounds_toArray, List.set_cons_succ, List.set_cons_zero] at hak; subst hak)
  iterate 2 (apply wpZ_det; (intro wq hE hG; first | exact obl_non (by rfl) | (apply obl_val (by rfl); go_simp; rfl)); (intro ak hak; simp only [Act.put, List.setIfInBounds_toArray, List.set_cons_succ, List.set_cons_zero] at hak; subst hak))
  apply wpZ_nil
  intro wd hE hG
  have Hwd : Hid (ExtW w6 wd) := Lib.hid (ExtW.trans Hwb.out hE.of_drew)
  clear hG hE cv1 cv2

  -- what comes out is overwritten
  have HO4d := Lib.hid (own_ext HO4.out (ExtW.trans X46.out Hwd.out))
  have HO5d := Lib.hid (own_ext HO5.out (ExtW.trans HB6.out Hwd.out))
  have hg45 : g4 < g5 := by omega
  have hsd : w6.heap.size ≤ wd.heap.size := Hwd.out.size
  have hnd1 : n + d1 ≤ 1048586 := by omega
  have hnd2 : n + d2 ≤ 2097162 := by omega
  have L3 : Hid (w3.heap.size ≤ g4) := Lib.hid hg4
  have L4 : Hid (w4.heap.size ≤ g5) := Lib.hid hg5
  have L45 : Hid (g4 < w4.heap.size) := Lib.hid hl4
  clear hg4 hg5 hg6 hl4 hl5 hl6
  go_wp2_with fail
  go_loopw [17] (fun i wr => ∃ (k : Nat) (ys : List Value), i = .int .i64 k ∧ k ≤ n + d1 ∧ Hid (wr.ownsRow w3.heap.size 5 1 (.slice (some ⟨g4, 0, none⟩) (n + d1) c4) (n + d1) ys) ∧ Hid (wr.ownsRow w4.heap.size 5 1 (.slice (some ⟨g5, 0, none⟩) (n + d2) c5) (n + d2) (bvs b2)) ∧ Hid (Below w3.heap.size wd wr)) (fun i _ => n + d1 - (intOf i).toNat)
  case atStart => exact ⟨0, _, rfl, by omega, HO4d, HO5d, Lib.hid (Below.refl _ _)⟩
  case round =>
    clear HO4d HO5d
    obtain ⟨k, ys, rfl, hk, HA, HB, HL⟩ := hrel
    by_cases hlt : k < n + d1
    · have hki : (k : Int) < (n : Int) + (d1 : Int) := by omega
      have hcell : ∃ u, wr.cell? ⟨g4, k, none⟩ = some u := by
        have h1 := HA.out.cellAt k (by omega)
        have h2 := HA.out.1
        rw [List.getElem?_eq_getElem (by omega)] at h1
        exact ⟨_, h1⟩
      obtain ⟨u, hcell⟩ := hcell
      have hfr := HA.out.frozenAt k
      have HST := Lib.hid (HA.out.stored k (.int .u8 63))
      go_wp2
      go_roundw
      case rel => exact ⟨k + 1, ys.set k (.int .u8 63), by go_num, by omega, Lib.hid HST.out.1, Lib.hid (ownsRow_setCell_below HB.out L45.out _), Lib.hid (HL.out.setCell L3.out _)⟩
      case measure => simp [intOf]; omega
    · have hke : k = n + d1 := by omega
      clear hlt
      have hkb : ¬ (k : Int) < (n : Int) + (d1 : Int) := by omega
      have HL2 := HL
      clear HA
      go_wp2_with fail
      go_loopw [18] (fun i wr => ∃ (k : Nat) (ys : List Value), i = .int .i64 k ∧ k ≤ n + d2 ∧ Hid (wr.ownsRow w4.heap.size 5 1 (.slice (some ⟨g5, 0, none⟩) (n + d2) c5) (n + d2) ys) ∧ Hid (Below w3.heap.size wd wr)) (fun i _ => n + d2 - (intOf i).toNat)
      case atStart => exact ⟨0, _, rfl, by omega, HB, HL2⟩
      case round =>
        clear HB HL HL2
        rename_i wr1 k1
        obtain ⟨k2, ys, rfl, hk2, HA, HL⟩ := hrel
        by_cases hlt : k2 < n + d2
        · have hki : (k2 : Int) < (n : Int) + (d2 : Int) := by omega
          have hcell : ∃ u, wr.cell? ⟨g5, k2, none⟩ = some u := by
            have h1 := HA.out.cellAt k2 (by omega)
            have h2 := HA.out.1
            rw [List.getElem?_eq_getElem (by omega)] at h1
            exact ⟨_, h1⟩
          obtain ⟨u, hcell⟩ := hcell
          have hfr := HA.out.frozenAt k2
          have HST := Lib.hid (HA.out.stored k2 (.int .u8 63))
          have hg35 : Hid (w3.heap.size ≤ g5) := Lib.hid (Nat.le_trans (Nat.le_of_lt (Nat.lt_of_le_of_lt L3.out L45.out)) L4.out)
          go_wp2
          go_roundw
          case rel => exact ⟨k2 + 1, ys.set k2 (.int .u8 63), by go_num, by omega, Lib.hid HST.out.1, Lib.hid (HL.out.setCell hg35.out _)⟩
          case measure => simp [intOf]; omega
        · have hkb2 : ¬ (k2 : Int) < (n : Int) + (d2 : Int) := by omega
          have HW : Hid (Below w3.heap.size w3 wr) := Lib.hid ((Below.trans (Below.trans X36.out (Hwd.out.mono X36.out.size)) HL.out))
          have cv1 := hstr.out _ _ _ _ _ (HR3.out.below HW.out (Nat.le_refl _))
          have cv2 := hstr.out _ _ _ _ _ (HRa.out.below HW.out (Nat.le_refl _))
          clear HA
          go_wp2_with fail
          refine (HSZ.out _).mono ?_
          rintro e w8 ⟨rfl, rfl⟩
          go_wp2_with fail
          refine (HRS.out _).mono ?_
          rintro e w8 ⟨rfl, hb8⟩
          have HB8 := Lib.hid hb8
          clear hb8
          go_wp2
          all_goals (go_ret; exact ⟨by first | rfl | simp, HB3.out.trans ((HW.out.mono HB3.out.size).trans (HB8.out.mono (Nat.le_trans HB3.out.size HW.out.size)))⟩)
end Go.Proofs.Ytimmgaifhkhhhaa
