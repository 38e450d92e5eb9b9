/- Walk of ClashParts. -/
import Derived.Test.YthaoibgcgkmnbaaCOpensW
import Derived.Test.YthaoibgcgkmnbaaD5
namespace Go.Proofs.Ythaoibgcgkmnbaa
set_option maxRecDepth 100000
open Go.RowKit

set_option maxHeartbeats 20000000 in
set_option maxRecDepth 100000 in
theorem clashParts_walk (x : Int) (A : Option Addr) (n0 c0 : Nat) (xl : List (List UInt8)) (fr : Int) (B : Option Addr) (m0 d0 : Nat) (yl : List (List UInt8)) (PA : Option Addr) (pn0 pc : Nat) (pl0 : List (List UInt8)) (w : World) (hx : -9223372036854775808 ≤ x ∧ x ≤ 9223372036854775807) (hr : Bss w A n0 c0 xl) (_hc : c0 ≤ 140737488351232)
    (hf : -9223372036854775808 ≤ fr ∧ fr ≤ 9223372036854775807) (hs : Bss w B m0 d0 yl) (_hd : d0 ≤ 140737488351232) (hp : Dls w PA pn0 pc pl0) :
    Calls Try.prog 4 #[.int .i64 x, .slice A n0 c0, .int .i64 fr, .slice B m0 d0, .slice PA pn0 pc] w fun e w' => e = .returned (.bool true) ∧ Below w.heap.size w w' := by
  have HX := Lib.hid hx
  have HF := Lib.hid hf
  have HR := Lib.hid hr
  have HS := Lib.hid hs
  have hpnc := hp.rd.nc
  obtain ⟨pn, hpn⟩ : ∃ p, p = min pn0 80 := ⟨_, rfl⟩
  have hp1 : pn ≤ 80 := by omega
  have hp2 : pn ≤ pn0 := by omega
  have hpp : min (pn0 : Int) 80 = (pn : Int) := by omega
  clear hpn
  have hrt := run_takeD PA pn0 pc pn hp2 hpnc
  have hpt := hp.take hp2
  obtain ⟨pl, hpl⟩ : ∃ xs, xs = pl0.take pn := ⟨_, rfl⟩
  rw [← hpl] at hpt
  have HP := Lib.hid hpt
  have hbld := bldT
  clear hr hs _hc _hd hx hf hp hpt hpl
  go_enter Try.func4, Try.ntmps4
  go_wp2_with fail
  refine (shown6_any _).mono ?_
  rintro e w1 ⟨rfl, hb1⟩
  have HE1 := Lib.hid hb1
  clear hb1
  go_wp2_with fail
  refine (small_any A n0 c0 xl _ (HR.out.same HE1.out)).mono ?_
  rintro e w2 ⟨v, rfl, hlot, hb⟩
  have HE2 := Lib.hid (ExtW.trans HE1.out hb)
  obtain ⟨s, hs⟩ : ∃ s, s = smallL xl := ⟨_, rfl⟩
  have HLV : Hid (∀ y ∈ s, y.length ≤ 100) := Lib.hid (fun y hy => smallL_lv xl y (by rw [← hs]; exact hy))
  have hsn := smallL_len xl
  rw [← hs] at hlot hsn
  obtain ⟨A1, c1, rfl, hbs⟩ := hlot.bss
  obtain ⟨n, hn⟩ : ∃ n, n = s.length := ⟨_, rfl⟩
  rw [← hn] at hbs hsn ⊢
  have HBS := Lib.hid hbs
  have HN : Hid (s.length = n) := Lib.hid hn.symm
  clear hs hlot hn hbs hb HR
  go_wp2_with fail
  refine (small_any B m0 d0 yl _ (HS.out.same HE2.out)).mono ?_
  rintro e w3 ⟨v, rfl, hlot, hb⟩
  have HE3 := Lib.hid (ExtW.trans HE2.out hb)
  have HBS3 := Lib.hid (HBS.out.same hb)
  obtain ⟨t, ht⟩ : ∃ t, t = smallL yl := ⟨_, rfl⟩
  have HLW : Hid (∀ y ∈ t, y.length ≤ 100) := Lib.hid (fun y hy => smallL_lv yl y (by rw [← ht]; exact hy))
  have htm := smallL_len yl
  rw [← ht] at hlot htm
  obtain ⟨B1, d1, rfl, hbt⟩ := hlot.bss
  obtain ⟨m, hm⟩ : ∃ m, m = t.length := ⟨_, rfl⟩
  rw [← hm] at hbt htm ⊢
  have HBT := Lib.hid hbt
  have HM : Hid (t.length = m) := Lib.hid hm.symm
  have HLVS : Hid (Lv s) := Lib.hid (fun y hy => Nat.le_trans (HLV.out y hy) (by decide))
  have HLVT : Hid (Lv t) := Lib.hid (fun y hy => Nat.le_trans (HLW.out y hy) (by decide))
  clear ht hlot hm hbt hb HS HBS HE1 HE2
  go_wp2_with fail
  clear hpp hrt
  refine (texts_any A1 n c1 s w3 HBS3.out (by omega)).mono ?_
  rintro e w4 ⟨tv, rfl, hown, hb⟩
  obtain ⟨TA, tc, rfl, hsts⟩ := hown.sts
  rw [HN.out] at hsts
  have HTS := Lib.hid hsts
  have HE4 := Lib.hid (ExtW.trans HE3.out hb)
  have HBS4 := Lib.hid (HBS3.out.same hb)
  have HBT4 := Lib.hid (HBT.out.same hb)
  rw [HN.out]
  clear hown hsts hb HBS3 HBT HE3
  go_wp2_with fail
  refine (texts_any B1 m d1 t w4 HBT4.out (by omega)).mono ?_
  rintro e w5 ⟨tv, rfl, hown, hb⟩
  obtain ⟨UA, uc, rfl, hsts⟩ := hown.sts
  rw [HM.out] at hsts
  have HUS := Lib.hid hsts
  have HE5 := Lib.hid (ExtW.trans HE4.out hb)
  have HBS5 := Lib.hid (HBS4.out.same hb)
  have HBT5 := Lib.hid (HBT4.out.same hb)
  have HTS5 := Lib.hid (HTS.out.same hb)
  rw [HM.out]
  clear hown hsts hb HBS4 HBT4 HTS HE4
  go_upto_region 8 with (fail)
  have HT6 := Lib.hid (cell_new1 w5 (.int .i64 x) 30)
  have HX6 : Hid (ExtW w5 (w5.alloc (.cells #[.int .i64 x] 30))) := Lib.hid ((Below.refl _ _).alloc (Nat.le_refl _) _)
  generalize w5.alloc (.cells #[.int .i64 x] 30) = w6 at HT6 HX6 ⊢
  obtain ⟨gt, hgt⟩ : ∃ g, g = w5.heap.size := ⟨_, rfl⟩
  rw [← hgt] at HT6 ⊢
  have HE6 := Lib.hid (ExtW.trans HE5.out HX6.out)
  have HP6 := Lib.hid (HP.out.same HE6.out)
  have HO0 : Hid (OwnDs w6.heap.size [] (.slice (some ⟨w6.heap.size, 0, none⟩) 0 0) (w6.alloc (.cells #[] 45))) := Lib.hid (OwnDs.empty w6 _ (Nat.le_refl _))
  have HX7 : Hid (ExtW w6 (w6.alloc (.cells #[] 45))) := Lib.hid ((Below.refl _ _).alloc (Nat.le_refl _) _)
  clear hgt hbld
  go_upto_region 9 with (at_builtin; generalize w6.alloc (.cells #[] 45) = w7 at HO0 HX7 ⊢; refine wpList_append_dls rfl _ _ rfl rfl rfl HO0.out (HP6.out.same HX7.out) (by simp; omega) HX7.out.size ?_; intro v' w8 ho' hb'; have HO' := Lib.hid ho'; have HX8 : Hid (ExtW w6 w8) := Lib.hid (Below.trans HX7.out hb'); clear ho' hb')
  have ho := HO'.out
  rw [List.nil_append] at ho
  obtain ⟨OA, oc, rfl, hdl⟩ := ho.dls HP6.out.all
  have HPN := Lib.hid HP6.out.len
  rw [HPN.out] at hdl ⊢
  have HD8 := Lib.hid hdl
  have HT8 := Lib.hid (HX8.out.cellAt HT6.out)
  have HX58 := Lib.hid (ExtW.trans HX6.out HX8.out)
  have HE8 := Lib.hid (ExtW.trans HE6.out HX8.out)
  have HBS8 := Lib.hid (HBS5.out.same HX58.out)
  have HBT8 := Lib.hid (HBT5.out.same HX58.out)
  have HTS8 := Lib.hid (HTS5.out.same HX58.out)
  have HUS8 := Lib.hid (HUS.out.same HX58.out)
  have HP8 := Lib.hid (HP6.out.same HX8.out)
  clear ho hdl HO' HX7 HO0 HT6 HX6 HX8 HX58 HE6 HE5 HBS5 HBT5 HTS5 HUS HP6 HP
  have k1 := HT8.out
  go_wp2_with fail
  clear k1
  refine (cofr_any x HX.out A1 n c1 s fr HF.out B1 m d1 t OA pn oc pl w8 HBS8.out HLVS.out (by omega) HBT8.out HLVT.out (by omega) HD8.out).mono ?_
  intro e w9 h
  obtain ⟨hb, ra, rl, rc, rb, rm, rd, rfl, hra, hrb⟩ := h.reads
  obtain ⟨o, ho⟩ : ∃ o, o = T.ofRD (bitsN x) s fr t pl := ⟨_, rfl⟩
  have HO := Lib.hid ho
  rw [← ho] at hra hrb ⊢
  have HRA9 := Lib.hid hra
  have HRB9 := Lib.hid hrb
  have HX9 := Lib.hid hb
  clear h ho hb hra hrb
  go_wp2_with fail
  refine (rofr_any x HX.out TA n tc s fr UA m uc t PA pn pc pl w9 (HTS8.out.same HX9.out) HLVS.out (by omega) (HUS8.out.same HX9.out) HLVT.out (by omega) (HP8.out.same HX9.out)).mono ?_
  rintro e w10 ⟨rfl, hb⟩
  rw [← HO.out, ofV_eq]
  have HRA10 := Lib.hid (HRA9.out.below hb (Nat.le_refl _))
  have HRB10 := Lib.hid (HRB9.out.below hb (Nat.le_refl _))
  have HX10 := Lib.hid (ExtW.trans HX9.out hb)
  obtain ⟨ok, hok⟩ : ∃ b, b = o.isSome := ⟨_, rfl⟩
  obtain ⟨sp, hsp⟩ : ∃ s, s = (⟨(fstD o).toArray⟩ : ByteArray) := ⟨_, rfl⟩
  obtain ⟨sq, hsq⟩ : ∃ s, s = (⟨(sndD o).toArray⟩ : ByteArray) := ⟨_, rfl⟩
  have HSP := Lib.hid hsp
  have HSQ := Lib.hid hsq
  rw [← hok, ← hsp, ← hsq]
  clear hb HRA9 HRB9 HX9 hok hsp hsq
  have k2 := HX10.out.cellAt HT8.out
  go_wp2_with fail
  clear k2
  refine (cofl_any x HX.out A1 n c1 s B1 m d1 t w10 (HBS8.out.same HX10.out) HLVS.out (by omega) (HBT8.out.same HX10.out) HLVT.out (by omega)).mono ?_
  intro e w11 h
  obtain ⟨hb, sa, sl, sc, sb, sm, sd, rfl, hsa, hsb⟩ := h.reads
  obtain ⟨o2, ho2⟩ : ∃ o, o = T.ofLD (bitsN x) s t := ⟨_, rfl⟩
  have HO2 := Lib.hid ho2
  rw [← ho2] at hsa hsb ⊢
  have HSA11 := Lib.hid hsa
  have HSB11 := Lib.hid hsb
  have HRA11 := Lib.hid (HRA10.out.below hb (Nat.le_refl _))
  have HRB11 := Lib.hid (HRB10.out.below hb (Nat.le_refl _))
  have HX11 := Lib.hid (ExtW.trans HX10.out hb)
  clear h ho2 hb hsa hsb HRA10 HRB10 HX10
  go_wp2_with fail
  refine (rofl_any x HX.out TA n tc s UA m uc t w11 (HTS8.out.same HX11.out) HLVS.out (by omega) (HUS8.out.same HX11.out) HLVT.out (by omega)).mono ?_
  rintro e w12 ⟨rfl, hb⟩
  rw [← HO2.out, ofV_eq]
  have HSA12 := Lib.hid (HSA11.out.below hb (Nat.le_refl _))
  have HSB12 := Lib.hid (HSB11.out.below hb (Nat.le_refl _))
  have HRA12 := Lib.hid (HRA11.out.below hb (Nat.le_refl _))
  have HRB12 := Lib.hid (HRB11.out.below hb (Nat.le_refl _))
  have HX12 := Lib.hid (ExtW.trans HX11.out hb)
  obtain ⟨ok2, hok2⟩ : ∃ b, b = o2.isSome := ⟨_, rfl⟩
  obtain ⟨tp, htp⟩ : ∃ s, s = (⟨(fstD o2).toArray⟩ : ByteArray) := ⟨_, rfl⟩
  obtain ⟨tq, htq⟩ : ∃ s, s = (⟨(sndD o2).toArray⟩ : ByteArray) := ⟨_, rfl⟩
  have HTP := Lib.hid htp
  have HTQ := Lib.hid htq
  rw [← hok2, ← htp, ← htq]
  clear hb HRA11 HRB11 HSA11 HSB11 HX11 hok2 htp htq
  go_wp2_with fail
  refine (same_any OA pn oc pl PA pn pc pl w12 (HD8.out.same HX12.out) (HP8.out.same HX12.out)).mono ?_
  rintro e w13 ⟨rfl, hb⟩
  rw [decide_eq_true (rfl : pl = pl)]
  have s1 := conv_str (HRA12.out.below hb (Nat.le_refl _))
  have s2 := conv_str (HRB12.out.below hb (Nat.le_refl _))
  have s3 := conv_str (HSA12.out.below hb (Nat.le_refl _))
  have s4 := conv_str (HSB12.out.below hb (Nat.le_refl _))
  have HEZ := Lib.hid (ExtW.trans HE8.out (ExtW.trans HX12.out hb))
  rw [← HSP.out] at s1
  rw [← HSQ.out] at s2
  rw [← HTP.out] at s3
  rw [← HTQ.out] at s4
  have hbb : (ok == ok) = true := by simp
  have hbb2 : (ok2 == ok2) = true := by simp
  clear hb
  go_wp2
  go_ret
  exact ⟨rfl, HEZ.out⟩
end Go.Proofs.Ythaoibgcgkmnbaa
