/- Walk of CodecRow. -/
import Derived.Test.YtimmgaifhkhhhaaShown1
import Derived.Test.YtimmgaifhkhhhaaExtW
namespace Go.Proofs.Ytimmgaifhkhhhaa
open Go.RowKit

theorem getText_put (s r : List UInt8) (h : s.length < 18446744073709551616) : getText (encText s ++ r) = some (s, (encText s).length) := by
  unfold getText encText
  rw [List.append_assoc, getNum_enc h]
  simp only [List.length_append]
  rw [if_pos (by omega)]
  congr 2
  rw [List.drop_left]; simp

/-- the text that the law takes of the i-th -/
def cutText (s : ByteArray) : ByteArray := s.extract 0 (min s.size 300)
def rowBytes (l : List ByteArray) : List UInt8 := l.flatMap fun s => encText (cutText s).data.toList
theorem cutText_size (s : ByteArray) : (cutText s).size ≤ 300 := by
  unfold cutText; simp only [ByteArray.size_extract]; omega
theorem data_len (s : ByteArray) : s.data.toList.length = s.size := by rw [Array.length_toList]; rfl
theorem encText_le (s : ByteArray) (h : s.size ≤ 300) : (encText s.data.toList).length ≤ 310 := by
  unfold encText
  rw [List.length_append, data_len]
  have := enc_le10 (v := s.size) (by omega)
  omega
theorem rowBytes_le (l : List ByteArray) : (rowBytes l).length ≤ 310 * l.length := by
  induction l with
  | nil => simp [rowBytes]
  | cons s l ih =>
    have := encText_le (cutText s) (cutText_size s)
    unfold rowBytes at *
    simp only [List.flatMap_cons, List.length_append, List.length_cons]; omega
theorem rowBytes_snoc (l : List ByteArray) (s : ByteArray) : rowBytes (l ++ [s]) = rowBytes l ++ encText (cutText s).data.toList := by
  simp [rowBytes]
theorem rowBytes_cons (s : ByteArray) (l : List ByteArray) : rowBytes (s :: l) = encText (cutText s).data.toList ++ rowBytes l := by
  simp [rowBytes]

theorem Rd.strAt {w : World} {A : Option Addr} {n c : Nat} {ss : List ByteArray} (h : Rd w A n c 1 (ss.map Value.string)) (j : Nat) (hj : j < ss.length) :
    ∃ a, A = some a ∧ w.cell? (a.add j) = some (.string ss[j]) := by
  rcases A with _ | a
  · have h1 := h.nil0 rfl; have h2 := h.nc; have h3 := h.len; rw [List.length_map] at h3; omega
  · exact ⟨a, rfl, h.cell a rfl j _ (by simp [hj])⟩

set_option maxHeartbeats 1000000 in
set_option maxRecDepth 100000 in
theorem codecRow_walk (A : Option Addr) (n c : Nat) (ss : List ByteArray) (w : World) (hr : Rd w A n c 1 (ss.map Value.string)) (hmx : ∀ s ∈ ss, s.size ≤ maxLen) :
    Calls Try.prog 5 #[.slice A n c] w fun e w' => e = .returned (.bool true) ∧ Below w.heap.size w w' := by
  have hnc := hr.nc
  have hcm := hr.cm
  have hxl := hr.len
  rw [List.length_map, Nat.mul_one] at hxl
  have HX := Lib.hid hxl; clear hxl
  have HM := Lib.hid hmx; clear hmx
  have hnm : n ≤ 9223372036854775807 := by unfold maxLen at hcm; omega
  have HS := Lib.hid fun w => shown_any w
  have HR := Lib.hid hr; clear hr
  obtain ⟨m, hm⟩ : ∃ m, m = min n 50 := ⟨_, rfl⟩
  have hm50 : m ≤ 50 := by omega
  have hmn : m ≤ n := by omega
  have hmor : m = n ∨ (m = 50 ∧ m < n) := by omega
  clear hm
  obtain ⟨B, hB⟩ : ∃ B, B = w.heap.size := ⟨_, rfl⟩
  rw [← hB]
  have HBB := Lib.hid hB; clear hB hcm
  have HMOR := Lib.hid hmor; clear hmor
  go_enter Try.func5, Try.ntmps5
  go_wp2_with fail
  refine (HS.out _).mono ?_
  rintro e w1 ⟨rfl, hb1⟩
  have HB1 := Lib.hid hb1; clear hb1
  go_wp2_with fail
  go_loopw [4, 5] (fun b i wr => ∃ (k : Nat) (A1 : Option Addr) (n1 c1 : Nat), i = .int .i64 k ∧ k ≤ m ∧ b = .slice A1 n1 c1 ∧ Hid (Rd wr A1 n1 c1 1 (bvs (rowBytes (ss.take k)))) ∧ Hid (Below B w wr)) (fun _ i _ => m - (intOf i).toNat)
  case atStart => exact ⟨0, none, 0, 0, rfl, by omega, rfl, Lib.hid (Rd.nil _ 1), Lib.hid (by rw [HBB.out]; exact HB1.out)⟩
  case round =>
    obtain ⟨k, A1, n1, c1, rfl, hk, rfl, HR1, HL⟩ := hrel
    by_cases hlt : k < m
    · have hkx : k < ss.length := by have := HX.out; omega
      have hk50 : (k : Int) < 50 := by omega
      have HRk := Lib.hid (HR.out.below HL.out (by rw [HBB.out]; exact Nat.le_refl _))
      obtain ⟨a, rfl, hc⟩ := HRk.out.strAt k hkx
      have HT := Lib.hid (List.take_succ_eq_append_getElem hkx)
      obtain ⟨s, hs⟩ : ∃ s, s = ss[k] := ⟨_, rfl⟩
      have hsm : s.size ≤ 9223372036854775807 := by
        have := HM.out s (by rw [hs]; exact List.getElem_mem hkx)
        unfold maxLen at this; exact this
      rw [← hs] at hc HT
      clear hs
      obtain ⟨q, hq⟩ : ∃ q, q = min s.size 300 := ⟨_, rfl⟩
      have hq1 : q ≤ 300 := by omega
      have hq2 : q ≤ s.size := by omega
      have hmin : (if 300 < (s.size : Int) then (300 : Int) else (s.size : Int)) = (q : Int) := by split <;> omega
      have HQ := Lib.hid hq; clear hq
      have hlen : n1 ≤ 15500 := by
        have h1 := HR1.out.len
        rw [bvs_len, Nat.mul_one] at h1
        have h2 := rowBytes_le (ss.take k)
        rw [List.length_take] at h2; omega
      have hcw : ∀ wq, ExtW wr.drew wq → wq.cell? (a.add k) = some (.string s) := fun wq hE => hE.cellAt (p := a.add k) (w := wr.drew) hc
      have hsum : n1 + (s.extract 0 q).size ≤ 140737488351232 := by simp only [ByteArray.size_extract]; omega
      obtain ⟨ys, hys⟩ : ∃ ys, ys = rowBytes (ss.take k) ++ encText (s.extract 0 q).data.toList := ⟨_, rfl⟩
      have HYS := Lib.hid hys; clear hys
      go_wp2_with fail
      apply wp_region_ext _ (by kernel_rfl) (by kernel_rfl)
      iterate 12 (apply wpZ_det; (intro wq hE hG; first | exact obl_non (by rfl) | (apply obl_val (by rfl); go_simp; rfl)); (intro ak hak; simp only [Act.put, List.setIfInBounds_toArray, List.set_cons_succ, List.set_cons_zero] at hak; subst hak))
      apply wpZ_nd (IsBytes ys) (IsBytes.mono ys)
      · intro wq hE hG
        apply obl_on (by kernel_rfl)
        go_simp
        simp only [extUpon_enter]
        refine (putText_any A1 n1 c1 (rowBytes (ss.take k)) (s.extract 0 q) _ hsum (HR1.out.below (Below.trans (Below.refl _ _).drew hE) (Nat.le_refl _))).mono ?_
        rintro e w4 ⟨r, rfl, hown, hb⟩
        exact ⟨_, rfl, hb, by rw [HYS.out]; exact IsBytes.own hown⟩
      (intro u ak hak; simp only [Act.put, List.setIfInBounds_toArray, List.set_cons_succ, List.set_cons_zero] at hak; subst hak)
      apply wpZ_nd (IsBytes ys) (IsBytes.mono ys)
      · intro wq hE hG
        have hF : IsBytes ys u wq := hG _ (List.mem_cons_self ..) (by kernel_rfl)
        apply obl_on (by kernel_rfl)
        go_simp
        exact ⟨ExtW.refl _, hF⟩
      (intro u2 ak hak; simp only [Act.put, List.setIfInBounds_toArray, List.set_cons_succ, List.set_cons_zero] at hak; subst hak)
      apply wpZ_nil
      intro wq hE hG
      obtain ⟨A3, n3, c3, hu, hr3⟩ : IsBytes ys u2 wq := hG _ (List.mem_cons_self ..)
      subst hu
      have HR3 := Lib.hid hr3
      have HE := Lib.hid hE
      clear hG hr3 hE hcw
      go_wp2
      go_roundw
      case rel => exact ⟨k + 1, A3, n3, c3, by go_num, by omega, rfl, Lib.hid (by
        have h1 := HR3.out
        rw [HYS.out] at h1
        rw [HT.out, rowBytes_snoc]; unfold cutText; rw [← HQ.out]; exact h1), Lib.hid ((HL.out.drew).trans (HE.out.mono (by rw [HBB.out]; exact HL.out.size)))⟩
      case measure => simp [intOf]; omega
    · have hkm : k = m := by omega
      subst hkm
      have HR2 : Hid (Rd wr A1 n1 c1 1 (bvs (rowBytes ((ss.take k).drop 0)))) := HR1
      clear HR1
      have hc1 : ∀ j : Nat, (j < n ∧ j < 50) ↔ j < k := by
        intro j; have := HMOR.out; omega
      have HC1 := Lib.hid hc1; clear hc1
      rcases HMOR.out with hmo | ⟨hmo, hmo2⟩
      all_goals
        have HMO := Lib.hid hmo; clear hmo
        have hx1 : ¬ (k < n ∧ k < 50) := by rw [HC1.out]; omega
        try (have hx2 : ¬ k < n := by have := HMO.out; omega)
        try (have hx2 : ¬ (k : Int) < 50 := by have := HMO.out; omega)
        go_wp2_with fail
        go_loopw [4, 6] (fun b i wr => ∃ (k' : Nat) (A1 : Option Addr) (n1 c1 : Nat), i = .int .i64 k' ∧ k' ≤ k ∧ b = .slice A1 n1 c1 ∧ Hid (Rd wr A1 n1 c1 1 (bvs (rowBytes ((ss.take k).drop k')))) ∧ Hid (Below B w wr)) (fun _ i _ => k - (intOf i).toNat)
        case atStart => exact ⟨0, A1, n1, c1, rfl, by omega, rfl, HR2, HL⟩
        case round =>
          clear HR2 HL
          rename_i wr0
          obtain ⟨k', A1, n1, c1, rfl, hk', rfl, HR1, HL⟩ := hrel
          by_cases hlt' : k' < k
          · have hkx : k' < ss.length := by have := HX.out; omega
            have h50 : (k' : Int) < 50 := by omega
            have hkn' : k' < n := by omega
            have HRk := Lib.hid (HR.out.below HL.out (by rw [HBB.out]; exact Nat.le_refl _))
            obtain ⟨a, rfl, hc⟩ := HRk.out.strAt k' hkx
            have hdr : (ss.take k).drop k' = ss[k'] :: (ss.take k).drop (k' + 1) := by
              rw [List.drop_eq_getElem_cons (by rw [List.length_take]; omega), List.getElem_take]
            have HD := Lib.hid hdr; clear hdr
            obtain ⟨s, hs⟩ : ∃ s, s = ss[k'] := ⟨_, rfl⟩
            have hsm : s.size ≤ 9223372036854775807 := by
              have := HM.out s (by rw [hs]; exact List.getElem_mem hkx)
              unfold maxLen at this; exact this
            rw [← hs] at hc HD
            clear hs
            obtain ⟨q, hq⟩ : ∃ q, q = min s.size 300 := ⟨_, rfl⟩
            have hq1 : q ≤ 300 := by omega
            have hq2 : q ≤ s.size := by omega
            have hmin : (if 300 < (s.size : Int) then (300 : Int) else (s.size : Int)) = (q : Int) := by split <;> omega
            have HQ := Lib.hid hq; clear hq
            have hcut : cutText s = s.extract 0 q := by unfold cutText; rw [← HQ.out]
            have h3 := HR1.out
            rw [HD.out, rowBytes_cons, hcut] at h3
            have hts : (s.extract 0 q).data.toList.length < 18446744073709551616 := by rw [data_len, ByteArray.size_extract]; omega
            have hgt := getText_put (s.extract 0 q).data.toList (rowBytes ((ss.take k).drop (k' + 1))) hts
            have h4 := h3.len
            rw [bvs_len, Nat.mul_one, List.length_append] at h4
            have hn15 : n1 ≤ 140737488351232 := by
              have h5 := rowBytes_le ((ss.take k).drop (k' + 1))
              have h6 := encText_le (s.extract 0 q) (by simp only [ByteArray.size_extract]; omega)
              rw [List.length_drop, List.length_take] at h5; omega
            have hpos : 1 ≤ (encText (s.extract 0 q).data.toList).length := by unfold encText; rw [List.length_append]; have := enc_pos (s.extract 0 q).data.toList.length; omega
            have hdl : (encText (s.extract 0 q).data.toList).length ≤ n1 := by omega
            have hV := textV_some hgt
            have hba : (⟨(s.extract 0 q).data.toList.toArray⟩ : ByteArray) = s.extract 0 q := by rw [Array.toArray_toList]
            rw [hba] at hV
            have HDR : Hid (∀ w' A', Rd w' A' (n1 - (encText (s.extract 0 q).data.toList).length) (c1 - (encText (s.extract 0 q).data.toList).length) 1 (((bvs (encText (s.extract 0 q).data.toList ++ rowBytes ((ss.take k).drop (k' + 1)))).drop ((encText (s.extract 0 q).data.toList).length * 1)).take ((n1 - (encText (s.extract 0 q).data.toList).length) * 1)) → Rd w' A' (n1 - (encText (s.extract 0 q).data.toList).length) (c1 - (encText (s.extract 0 q).data.toList).length) 1 (bvs (rowBytes ((ss.take k).drop (k' + 1))))) := Lib.hid fun w' A' h => by
              rw [Nat.mul_one, Nat.mul_one, bvs_drop, List.drop_left, bvs_take, List.take_of_length_le (by omega)] at h; exact h
            generalize (encText (s.extract 0 q).data.toList).length = d at *
            have HV := Lib.hid hV
            have H3 := Lib.hid h3
            have hd1 : (1 : Int) ≤ (d : Int) := by omega
            have t1 : decide ((d : Int) < 1) = false := by simp; omega
            have t2 : decide (n1 < d) = false := by simp; omega
            have hn1c : n1 ≤ c1 := h3.nc
            obtain ⟨i0, hi, hz0, hz1, hz2⟩ := info_parts infoB
            obtain ⟨A', hsl, hslr⟩ := cut_l (P := Try.prog) Try.underlying22 hi hz1 A1 n1 c1 .i64 (d : Int) d rfl hdl hn1c
            have HSL := Lib.hid hslr
            clear hcut h3 hts hgt h4 hV hba hslr hz0 hz1 hz2 hi
            have hcw : ∀ wq, ExtW wr.drew wq → wq.cell? (a.add k') = some (.string s) := fun wq hE => hE.cellAt (p := a.add k') (w := wr.drew) hc
            go_wp2_with fail
            refine (text_any A1 n1 c1 _ _ H3.out hn15).mono ?_
            rw [HV.out]
            rintro e w2 ⟨rfl, rfl⟩
            go_wp2_with fail
            apply wp_region_ext _ (by kernel_rfl) (by kernel_rfl)
            iterate 27 (apply wpZ_det; (intro wq hE hG; first | exact obl_non (by rfl) | (apply obl_val (by rfl); go_simp; rfl)); (intro ak hak; simp only [Act.put, List.setIfInBounds_toArray, List.set_cons_succ, List.set_cons_zero] at hak; subst hak))
            apply wpZ_nil
            intro wq hE hG
            have HE := Lib.hid hE
            clear hG hE hcw
            go_wp2
            go_roundw
            case rel => exact ⟨k' + 1, A', n1 - d, c1 - d, by go_num, by omega, by rfl, Lib.hid (HDR.out _ _ (HSL.out _ _ (H3.out.below (Below.trans (Below.refl _ _).drew HE.out) (Nat.le_refl _)))), Lib.hid ((HL.out.drew).trans (HE.out.mono (by rw [HBB.out]; exact HL.out.size)))⟩
            case measure => simp [intOf]; omega
          · have hkk : k' = k := by omega
            subst hkk
            have hn0 : n1 = 0 := by
              have h1 := HR1.out.len
              rw [bvs_len, List.drop_eq_nil_of_le (by rw [List.length_take]; omega)] at h1
              simp [rowBytes] at h1; omega
            subst hn0
            go_wp2
            go_ret
            exact ⟨rfl, HL.out⟩
end Go.Proofs.Ytimmgaifhkhhhaa
