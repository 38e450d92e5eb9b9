/- Walk of TreeCheckRanges. -/
import Derived.Test.YtncdgndeidbgoaaS5
import Derived.Test.YtncdgndeidbgoaaSmall5
import Derived.Test.YtncdgndeidbgoaaR5
namespace Go.Proofs.Ytncdgndeidbgoaa
open Go.RowKit

set_option maxHeartbeats 8000000 in
set_option maxRecDepth 100000 in
theorem treeCheckRanges_walk (x : Int) (root : List UInt8) (cn fr : Int) (A : Option Addr) (n0 c0 : Nat) (l : List (List UInt8)) (PA : Option Addr) (pn0 pc : Nat) (pl : List (List UInt8)) (w : World) (hx : -9223372036854775808 ≤ x ∧ x ≤ 9223372036854775807) (hroot : root.length = 32)
    (hcn : -9223372036854775808 ≤ cn ∧ cn ≤ 9223372036854775807) (_hf : -9223372036854775808 ≤ fr ∧ fr ≤ 9223372036854775807) (hr : Bss w A n0 c0 l) (_hc : c0 ≤ 140737488351232) (hp : Dls w PA pn0 pc pl) :
    Calls Try.prog 6 #[.int .i64 x, .agg (bvs root).toArray, .int .i64 cn, .int .i64 fr, .slice A n0 c0, .slice PA pn0 pc] w fun e w' => e = .returned (.bool true) ∧ Below w.heap.size w w' := by
  have HX := Lib.hid hx
  have HCN := Lib.hid hcn.2
  have HR := Lib.hid hr
  have HP := Lib.hid hp
  have HRL := Lib.hid hroot
  have HSR : Hid ((bvs root).toArray.size = 32) := Lib.hid (dg_size hroot)
  have hpnc := hp.rd.nc
  have hpcm := hp.rd.cm
  unfold maxLen at hpcm
  clear hr hx hp hroot hcn _hf _hc
  go_enter Try.func6, Try.ntmps6
  go_upto_region 1 with (fail)
  have HA0 : Hid (Row (w.alloc (.cells (bvs root).toArray 24)) w.heap.size 24 (bvs root)) := Lib.hid (heap_alloc_last _ _)
  have HE0 : Hid (ExtW w (w.alloc (.cells (bvs root).toArray 24))) := Lib.hid ((Below.refl _ _).alloc (Nat.le_refl _) _)
  generalize w.alloc (.cells (bvs root).toArray 24) = wa at HA0 HE0 ⊢
  obtain ⟨gr, hgr⟩ : ∃ g, g = w.heap.size := ⟨_, rfl⟩
  rw [← hgr] at HA0 ⊢
  clear hgr
  go_wp2_with fail
  refine (shown_any _).mono ?_
  rintro e w1 ⟨rfl, hb1⟩
  have HE1 := Lib.hid (ExtW.trans HE0.out hb1)
  have HA1 := Lib.hid (HA0.out.ext hb1)
  clear hb1 HE0 HA0
  obtain ⟨q, hq⟩ : ∃ q, q = min pn0 140 := ⟨_, rfl⟩
  have hqq : min (pn0 : Int) 140 = (q : Int) := by omega
  have hq1 : q ≤ pn0 := by omega
  have hrt := run_takeD PA pn0 pc q hq1 hpnc
  clear hq
  obtain ⟨p, hpp⟩ : ∃ p, p = pl.take q := ⟨_, rfl⟩
  have HP1 : Hid (Dls w PA q pc p) := Lib.hid (by rw [hpp]; exact HP.out.take hq1)
  clear hpp
  go_wp2_with fail
  clear hrt hqq
  refine (small_any A n0 c0 l _ (HR.out.same HE1.out)).mono ?_
  rintro e w2 ⟨v, rfl, hlot, hb⟩
  have HE2 := Lib.hid (ExtW.trans HE1.out hb)
  have HA2 := Lib.hid (HA1.out.ext hb)
  obtain ⟨s, hs⟩ : ∃ s, s = smallL l := ⟨_, rfl⟩
  have HLV : Hid (Lv s) := Lib.hid (fun y hy => Nat.le_trans (smallL_lv l y (by rw [← hs]; exact hy)) (by decide))
  have hsn := smallL_len l
  rw [← hs] at hlot hsn
  obtain ⟨B, c, rfl, hbs⟩ := hlot.bss
  obtain ⟨n, hn⟩ : ∃ n, n = s.length := ⟨_, rfl⟩
  rw [← hn] at hbs hsn ⊢
  have HBS2 := Lib.hid hbs
  have HN : Hid (s.length = n) := Lib.hid hn.symm
  have hnc := hbs.nc
  clear hb hlot hbs hs hn HE1 HA1
  go_wp2_with fail
  refine (texts_any B n c s _ HBS2.out (by omega)).mono ?_
  rintro e w3 ⟨v, rfl, hst, hb⟩
  obtain ⟨SA, sc, rfl, hs2⟩ := hst.sts
  rw [HN.out] at hs2 ⊢
  have HS3 := Lib.hid hs2
  have hsc := hs2.2.nc
  have HE3 := Lib.hid (ExtW.trans HE2.out hb)
  have HA3 := Lib.hid (HA2.out.ext hb)
  have HBS3 := Lib.hid (HBS2.out.same hb)
  clear hb hst hs2 HE2 HBS2 HA2
  have HC0 := Lib.hid (cell_new1 w3 (.int .i64 x) 30)
  have HEX : Hid (ExtW w3 (w3.alloc (.cells #[.int .i64 x] 30))) := Lib.hid ((Below.refl _ _).alloc (Nat.le_refl _) _)
  go_upto_region 6 with (fail)
  generalize w3.alloc (.cells #[.int .i64 x] 30) = w5 at HC0 HEX ⊢
  obtain ⟨gt, hgt⟩ : ∃ g, g = w3.heap.size := ⟨_, rfl⟩
  rw [← hgt] at HC0 ⊢
  have HC := Lib.hid HC0.out
  have HE := Lib.hid (ExtW.trans HE3.out HEX.out)
  have HB := Lib.hid (HBS3.out.same HEX.out)
  have HS := Lib.hid (HS3.out.same HEX.out)
  have HA := Lib.hid (HA3.out.ext HEX.out)
  clear hgt HEX HC0 HE3 HBS3 HS3 HA3
  obtain ⟨b1, hb1⟩ : ∃ b, b = T.checkRD (bitsN x) root cn fr s p := ⟨_, rfl⟩
  obtain ⟨b2, hb2⟩ : ∃ b, b = T.checkRD 256 root cn fr s p := ⟨_, rfl⟩
  have HB1 := Lib.hid hb1
  have HB2 := Lib.hid hb2
  clear hb1 hb2
  have k7 := HC.out
  go_wp2_with (refine wpList_ld rfl rfl ?_; refine ⟨gr, _, _, _, rfl, HA.out, Try.underlying24, rfl, by rw [HSR.out]; kernel_rfl, ?_⟩)
  refine (mcr_any x HX.out root HRL.out cn fr HCN.out B n c s PA q pc p _ HB.out HLV.out (by omega) (HP1.out.same HE.out)).mono ?_
  clear k7
  rintro e w6 ⟨rfl, hb⟩
  rw [← HB1.out]
  have HE6 := Lib.hid (ExtW.trans HE.out hb)
  have HB6 := Lib.hid (HB.out.same hb)
  have HS6 := Lib.hid (HS.out.same hb)
  have HA6 := Lib.hid (HA.out.ext hb)
  clear hb HE HB HS HA HC
  go_wp2_with (refine wpList_ld rfl rfl ?_; refine ⟨gr, _, _, _, rfl, HA6.out, Try.underlying24, rfl, by rw [HSR.out]; kernel_rfl, ?_⟩)
  refine (pcr_any root HRL.out cn fr HCN.out B n c s PA q pc p _ HB6.out HLV.out (by omega) (HP1.out.same HE6.out)).mono ?_
  rintro e w7 ⟨rfl, hb⟩
  rw [← HB2.out]
  have HE7 := Lib.hid (ExtW.trans HE6.out hb)
  have HB7 := Lib.hid (HB6.out.same hb)
  have HS7 := Lib.hid (HS6.out.same hb)
  have HA7 := Lib.hid (HA6.out.ext hb)
  clear hb HE6 HB6 HS6 HA6
  have hbb1 : (b1 == b1) = true := by simp
  have hbb2 : (b2 == b2) = true := by simp
  go_wp2_with fail
  refine (still_any B n c s SA sc _ HB7.out HS7.out (by omega)).mono ?_
  rintro e w8 ⟨rfl, hb⟩
  have HE8 := Lib.hid (ExtW.trans HE7.out hb)
  have HS8 := Lib.hid (HS7.out.same hb)
  have HA8 := Lib.hid (HA7.out.ext hb)
  clear hb HE7 HB7 HS7 HA7
  go_wp2_with (refine wpList_ldG rfl (by rfl) ?_; refine ⟨gr, 0, _, _, rfl, HA8.out.range, Try.underlying24, rfl, sizeD HRL.out, ?_⟩)
  refine (rcr_any x HX.out root HRL.out cn fr HCN.out SA n sc s PA q pc p _ HS8.out HLV.out (by omega) (HP1.out.same HE8.out)).mono ?_
  rintro e w9 ⟨rfl, hb⟩
  rw [← HB1.out]
  have HE9 := Lib.hid (ExtW.trans HE8.out hb)
  have HS9 := Lib.hid (HS8.out.same hb)
  have HA9 := Lib.hid (HA8.out.ext hb)
  clear hb HE8 HS8 HA8
  go_wp2_with (refine wpList_ldG rfl (by rfl) ?_; refine ⟨gr, 0, _, _, rfl, HA9.out.range, Try.underlying24, rfl, sizeD HRL.out, ?_⟩)
  refine (rcr_any 256 (by decide) root HRL.out cn fr HCN.out SA n sc s PA q pc p _ HS9.out HLV.out (by omega) (HP1.out.same HE9.out)).mono ?_
  rintro e w10 ⟨rfl, hb⟩
  rw [show bitsN 256 = 256 from rfl, ← HB2.out]
  have HEF := Lib.hid (ExtW.trans HE9.out hb)
  clear hb
  go_wp2
  go_ret
  exact ⟨rfl, HEF.out⟩
end Go.Proofs.Ytncdgndeidbgoaa
