/- Walk of CodecBack. -/
import Derived.Test.YtimmgaifhkhhhaaShown1
import Derived.Test.YtimmgaifhkhhhaaExtW
namespace Go.Proofs.Ytimmgaifhkhhhaa
open Go.RowKit

theorem getText_put (s r : List UInt8) (h : s.length < 18446744073709551616) : getText (encText s ++ r) = some (s, (encText s).length) := by
  unfold getText encText
  rw [List.append_assoc, getNum_enc h]
  simp only [List.length_append]
  rw [if_pos (by omega)]
  congr 2
  rw [List.drop_left]; simp
theorem getFix_put (v : Nat) (h : v < 4294967296) (r : List UInt8) : getFix (fix4 v ++ r) = some v := by
  simp only [fix4, List.cons_append, List.nil_append, getFix, UInt8.toNat_ofNat']
  congr 1; omega
theorem data_len (s : ByteArray) : s.data.toList.length = s.size := by rw [Array.length_toList]; rfl

set_option maxHeartbeats 2000000 in
set_option maxRecDepth 100000 in
theorem codecBack_walk (v : Nat) (s : ByteArray) (x : Nat) (A : Option Addr) (n c : Nat) (xs : List UInt8) (w : World) (hv : v < 18446744073709551616) (hs : s.size ≤ 140737488351232) (hx : x < 4294967296)
    (hr : Rd w A n c 1 (bvs xs)) (_hc : c ≤ 140737488351232) :
    Calls Try.prog 8 #[.int .u64 v, .string s, .int .u32 x, .slice A n c] w fun e w' => e = .returned (.bool true) ∧ Below w.heap.size w w' := by
  obtain ⟨i0, hi, hz0, hz1, hz2⟩ := info_parts infoB
  have HS := Lib.hid fun w => shown_any w
  -- the cut arguments
  obtain ⟨q, hq⟩ : ∃ q, q = min s.size 2000 := ⟨_, rfl⟩
  have hq1 : q ≤ 2000 := by omega
  have hq2 : q ≤ s.size := by omega
  have hqm : (if 2000 < (s.size : Int) then (2000 : Int) else (s.size : Int)) = (q : Int) := by split <;> omega
  clear hq
  obtain ⟨m, hm⟩ : ∃ m, m = min n 2000 := ⟨_, rfl⟩
  have hm1 : m ≤ 2000 := by omega
  have hm2 : m ≤ n := by omega
  have hmm : (if 2000 < (n : Int) then (2000 : Int) else (n : Int)) = (m : Int) := by split <;> omega
  clear hm
  have hnc := hr.nc
  have hr2 := hr.take m hm2
  rw [Nat.mul_one, bvs_take] at hr2
  have HR := Lib.hid hr2; clear hr hr2
  obtain ⟨ys, hys⟩ : ∃ ys, ys = xs.take m := ⟨_, rfl⟩
  rw [← hys] at HR
  clear hys
  -- what is read
  have HV : Hid (U64 v) := Lib.hid hv
  have e10 := enc_le10 hv
  have e1 := enc_pos v
  have HG := Lib.hid (getV_some (getNum_enc hv ys))
  have HSZ := Lib.hid fun w => size_any v w hv
  obtain ⟨d, hd⟩ : ∃ d, d = (enc v).length := ⟨_, rfl⟩
  rw [← hd] at e10 e1 HG HSZ
  have htq : (s.extract 0 q).size ≤ 2000 := by rw [ByteArray.size_extract]; omega
  have hgt := getText_put (s.extract 0 q).data.toList ys (by rw [data_len]; omega)
  have hba : (⟨(s.extract 0 q).data.toList.toArray⟩ : ByteArray) = s.extract 0 q := by rw [Array.toArray_toList]
  have hT := textV_some hgt
  rw [hba] at hT
  have HT := Lib.hid hT
  have htl : (encText (s.extract 0 q).data.toList).length ≤ 2010 := by
    unfold encText; rw [List.length_append, data_len]; have := enc_le10 (v := (s.extract 0 q).size) (by omega); omega
  obtain ⟨f, hf⟩ : ∃ f, f = (encText (s.extract 0 q).data.toList).length := ⟨_, rfl⟩
  rw [← hf] at htl HT
  have HX : Hid (fixV (fix4 x ++ ys) = .tuple #[.int .u32 x, .bool true]) := Lib.hid (by unfold fixV; rw [getFix_put x hx])
  have HX4 := Lib.hid hx
  have HD := Lib.hid hd; have HF := Lib.hid hf; have HTQ := Lib.hid htq
  clear hd hf hgt hba hT hv hx htq
  go_enter Try.func8, Try.ntmps8
  go_wp2_with fail
  refine (HS.out _).mono ?_
  rintro e w1 ⟨rfl, hb1⟩
  have HB1 := Lib.hid hb1; clear hb1
  go_wp2_with fail
  refine (put_any none 0 0 [] v _ HV.out (Rd.nil _ 1) (by omega)).mono ?_
  rintro e w2 ⟨r, rfl, hown, hb2⟩
  have HB2 := Lib.hid hb2; clear hb2
  rw [Nat.zero_add, List.nil_append, ← HD.out] at hown
  obtain ⟨A1, c1, rfl, hr1, _⟩ := Rd.of_own hown
  have HO1 := Lib.hid hown
  have HY2 := Lib.hid (HR.out.below ((HB1.out).trans (HB2.out.mono HB1.out.size)) (Nat.le_refl _))
  clear hown hr1
  go_wp2_with (at_builtin; refine wpList_append_appd _ rfl _ _ _ rfl _ 5 i0 _ 1 1 Try.underlying22 hi hz0 hz1 hz2 rfl (by omega) _ _ _ rfl (.inr HO1.out) A m c _ rfl HY2.out (bvs_one _) (by simp [maxLen]; omega) (by omega) HB2.out.size (.inl HO1.out) ?_; intro v3 w3 hown3 hb3 _; obtain ⟨A3, c3, rfl, hr3, _⟩ := Rd.of_own hown3)
  have HR3 := Lib.hid hr3
  have HB3 := Lib.hid hb3
  have hdm : d + m ≤ 140737488351232 := by omega
  clear hown3 hr3 hb3
  refine (get_any A3 (d + m) c3 (enc v ++ ys) _ (by rw [bvs_app]; exact HR3.out) hdm).mono ?_
  rw [HG.out]
  rintro e w4 ⟨rfl, rfl⟩
  go_wp2_with fail
  refine (putText_any none 0 0 [] (s.extract 0 q) _ (by have := HTQ.out; omega) (Rd.nil _ 1)).mono ?_
  rintro e w4 ⟨r, rfl, hown, hb4⟩
  have HB4 := Lib.hid hb4; clear hb4
  rw [Nat.zero_add, List.nil_append, ← HF.out] at hown
  obtain ⟨A5, c5, rfl, hr5, _⟩ := Rd.of_own hown
  have HO5 := Lib.hid hown
  have HW3 : Hid (Below w.heap.size w w3) := Lib.hid ((HB1.out.trans (HB2.out.mono HB1.out.size)).trans (HB3.out.mono HB1.out.size))
  have HW4 : Hid (Below w.heap.size w w4) := Lib.hid (HW3.out.trans (HB4.out.mono HW3.out.size))
  have HY5 := Lib.hid (HR.out.below HW4.out (Nat.le_refl _))
  clear hown hr5
  go_wp2_with (at_builtin; refine wpList_append_appd _ rfl _ _ _ rfl _ 5 i0 _ 1 1 Try.underlying22 hi hz0 hz1 hz2 rfl (by omega) _ _ _ rfl (.inr HO5.out) A m c _ rfl HY5.out (bvs_one _) (by simp [maxLen]; omega) (by omega) HB4.out.size (.inl HO5.out) ?_; intro v6 w6 hown6 hb6 _; obtain ⟨A6, c6, rfl, hr6, _⟩ := Rd.of_own hown6)
  have HR6 := Lib.hid hr6
  have HB6 := Lib.hid hb6
  have hfm : f + m ≤ 140737488351232 := by omega
  clear hown6 hr6 hb6
  refine (text_any A6 (f + m) c6 (encText (s.extract 0 q).data.toList ++ ys) _ (by rw [bvs_app]; exact HR6.out) hfm).mono ?_
  rw [HT.out]
  rintro e w7 ⟨rfl, rfl⟩
  go_wp2_with fail
  refine (putFixed_any none 0 0 [] x _ HX4.out (by omega) (Rd.nil _ 1)).mono ?_
  rintro e w7 ⟨r, rfl, hown, hb7⟩
  have HB7 := Lib.hid hb7; clear hb7
  rw [Nat.zero_add, List.nil_append] at hown
  obtain ⟨A8, c8, rfl, hr8, _⟩ := Rd.of_own hown
  have HO8 := Lib.hid hown
  have HW6 : Hid (Below w.heap.size w w6) := Lib.hid (HW4.out.trans (HB6.out.mono HW3.out.size))
  have HW7 : Hid (Below w.heap.size w w7) := Lib.hid (HW6.out.trans (HB7.out.mono HW6.out.size))
  have HY8 := Lib.hid (HR.out.below HW7.out (Nat.le_refl _))
  clear hown hr8
  go_wp2_with (at_builtin; refine wpList_append_appd _ rfl _ _ _ rfl _ 5 i0 _ 1 1 Try.underlying22 hi hz0 hz1 hz2 rfl (by omega) _ _ _ rfl (.inr HO8.out) A m c _ rfl HY8.out (bvs_one _) (by simp [maxLen]; omega) (by omega) HB7.out.size (.inl HO8.out) ?_; intro v9 w9 hown9 hb9 _; obtain ⟨A9, c9, rfl, hr9, _⟩ := Rd.of_own hown9)
  have HR9 := Lib.hid hr9
  have HB9 := Lib.hid hb9
  have h4m : 4 + m ≤ 140737488351232 := by omega
  clear hown9 hr9 hb9
  refine (fixed_any A9 (4 + m) c9 (fix4 x ++ ys) _ (by rw [bvs_app]; exact HR9.out) h4m).mono ?_
  rw [HX.out]
  rintro e w10 ⟨rfl, rfl⟩
  go_wp2_with fail
  refine (HSZ.out _).mono ?_
  rintro e w10 ⟨rfl, rfl⟩
  go_wp2
  all_goals (go_ret; exact ⟨by first | rfl | simp, HW7.out.trans (HB9.out.mono HW6.out.size)⟩)
end Go.Proofs.Ytimmgaifhkhhhaa
