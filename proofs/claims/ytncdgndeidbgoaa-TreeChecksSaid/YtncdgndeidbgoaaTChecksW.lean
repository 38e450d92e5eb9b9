/- Walk of TreeChecks. -/
import Derived.Test.YtncdgndeidbgoaaS5
import Derived.Test.YtncdgndeidbgoaaR5
import Derived.Test.YtncdgndeidbgoaaR2
namespace Go.Proofs.Ytncdgndeidbgoaa
open Go.RowKit

set_option maxHeartbeats 8000000 in
set_option maxRecDepth 100000 in
theorem treeChecks_walk (x : Int) (root : List UInt8) (cn fr : Int) (LA : Option Addr) (ln0 lc : Nat) (ll : List UInt8) (PA : Option Addr) (pn0 pc : Nat) (pl : List (List UInt8)) (w : World) (hx : -9223372036854775808 ≤ x ∧ x ≤ 9223372036854775807) (hroot : root.length = 32)
    (hcn : -9223372036854775808 ≤ cn ∧ cn ≤ 9223372036854775807) (_hf : -9223372036854775808 ≤ fr ∧ fr ≤ 9223372036854775807) (hl : Rd w LA ln0 lc 1 (bvs ll)) (_hc : lc ≤ 140737488351232) (hp : Dls w PA pn0 pc pl) :
    Calls Try.prog 5 #[.int .i64 x, .agg (bvs root).toArray, .int .i64 cn, .int .i64 fr, .slice LA ln0 lc, .slice PA pn0 pc] w fun e w' => e = .returned (.bool true) ∧ Below w.heap.size w w' := by
  obtain ⟨i0, hi, hz0, hz1, hz2⟩ := info_parts infoB
  have HX := Lib.hid hx
  have HCN := Lib.hid hcn.2
  have HRL := Lib.hid hroot
  have HSR : Hid ((bvs root).toArray.size = 32) := Lib.hid (dg_size hroot)
  have hpnc := hp.rd.nc
  have hpcm := hp.rd.cm
  unfold maxLen at hpcm
  obtain ⟨q, hq⟩ : ∃ q, q = min pn0 70 := ⟨_, rfl⟩
  have hqq : min (pn0 : Int) 70 = (q : Int) := by omega
  have hq1 : q ≤ pn0 := by omega
  have hq70 : q ≤ 70 := by omega
  have hrt := run_takeD PA pn0 pc q hq1 hpnc
  obtain ⟨p, hpp⟩ : ∃ p, p = pl.take q := ⟨_, rfl⟩
  have HP1 : Hid (Dls w PA q pc p) := Lib.hid (by rw [hpp]; exact hp.take hq1)
  have HPN := Lib.hid HP1.out.len
  obtain ⟨r, hr⟩ : ∃ r, r = min ln0 200 := ⟨_, rfl⟩
  have hrr : min (ln0 : Int) 200 = (r : Int) := by omega
  have hr1 : r ≤ ln0 := by omega
  have hr200 : r ≤ 200 := by omega
  obtain ⟨hsl, hslr⟩ := cut_h (P := Try.prog) Try.underlying36 hi hz1 LA ln0 lc .i64 (r : Int) r rfl hr1 hl.nc
  have hrq := hslr _ _ hl
  rw [Nat.mul_one, bvs_take] at hrq
  obtain ⟨lf, hlf⟩ : ∃ z, z = ll.take r := ⟨_, rfl⟩
  rw [← hlf] at hrq
  have HL1 := Lib.hid hrq
  have HLL : Hid (lf.length ≤ 1000000) := Lib.hid (by have := hrq.len; rw [bvs_len] at this; omega)
  clear hx hp hroot hcn _hf _hc hq hpp hr hrq hlf hslr hl
  go_enter Try.func5, Try.ntmps5
  go_upto_region 1 with (fail)
  have HA0 : Hid (Row (w.alloc (.cells (bvs root).toArray 24)) w.heap.size 24 (bvs root)) := Lib.hid (heap_alloc_last _ _)
  have HE0 : Hid (ExtW w (w.alloc (.cells (bvs root).toArray 24))) := Lib.hid ((Below.refl _ _).alloc (Nat.le_refl _) _)
  generalize w.alloc (.cells (bvs root).toArray 24) = wa at HA0 HE0 ⊢
  obtain ⟨gr, hgr⟩ : ∃ g, g = w.heap.size := ⟨_, rfl⟩
  rw [← hgr] at HA0 ⊢
  clear hgr
  go_wp2_with fail
  refine (shown_any _).mono ?_
  rintro e w1 ⟨rfl, hb1⟩
  have HE1 := Lib.hid (ExtW.trans HE0.out hb1)
  have HA1 := Lib.hid (HA0.out.ext hb1)
  clear hb1 HE0 HA0
  go_upto_region 4 with (fail)
  clear hrt hqq hsl hrr
  have HC0 := Lib.hid (cell_new1 w1 (.int .i64 x) 30)
  have HEX : Hid (ExtW w1 (w1.alloc (.cells #[.int .i64 x] 30))) := Lib.hid ((Below.refl _ _).alloc (Nat.le_refl _) _)
  go_upto_region 5 with (fail)
  generalize w1.alloc (.cells #[.int .i64 x] 30) = w5 at HC0 HEX ⊢
  obtain ⟨gt, hgt⟩ : ∃ g, g = w1.heap.size := ⟨_, rfl⟩
  rw [← hgt] at HC0 ⊢
  have HC := Lib.hid HC0.out
  have HE := Lib.hid (ExtW.trans HE1.out HEX.out)
  have HA := Lib.hid (HA1.out.ext HEX.out)
  clear hgt HEX HC0 HE1 HA1
  have HO0 : Hid (OwnDs w5.heap.size [] (.slice (some ⟨w5.heap.size, 0, none⟩) 0 0) (w5.alloc (.cells #[] 24))) := Lib.hid (OwnDs.empty w5 _ (Nat.le_refl _))
  have HEO : Hid (ExtW w5 (w5.alloc (.cells #[] 24))) := Lib.hid ((Below.refl _ _).alloc (Nat.le_refl _) _)
  go_upto_region 6 with (at_builtin; refine wpList_append_dls rfl _ _ rfl rfl rfl HO0.out (HP1.out.same (ExtW.trans HE.out HEO.out)) (by simp; omega) HEO.out.size ?_; intro v' w' ho' hb'; have HO' := Lib.hid ho'; have HE' : Hid (ExtW w5 w') := Lib.hid (Below.trans HEO.out hb'); clear ho' hb')
  rename_i v' w'
  have ho := HO'.out
  rw [List.nil_append] at ho
  obtain ⟨OA, oc, rfl, hdo⟩ := ho.dls HP1.out.all
  rw [HPN.out] at hdo ⊢
  have HD6 := Lib.hid hdo
  have HE6 := Lib.hid (ExtW.trans HE.out HE'.out)
  have HC6 := Lib.hid (HE'.out.cellAt HC.out)
  have HA6 := Lib.hid (HA.out.ext HE'.out)
  clear ho hdo HO0 HEO HO' HE' HE HA HC
  obtain ⟨b1, hb1⟩ : ∃ b, b = T.checkD (bitsN x) root cn fr lf p := ⟨_, rfl⟩
  obtain ⟨b2, hb2⟩ : ∃ b, b = T.checkD 256 root cn fr lf p := ⟨_, rfl⟩
  have HB1 := Lib.hid hb1
  have HB2 := Lib.hid hb2
  clear hb1 hb2
  have k7 := HC6.out
  go_wp2_with (refine wpList_ld rfl rfl ?_; refine ⟨gr, _, _, _, rfl, HA6.out, Try.underlying24, rfl, by rw [HSR.out]; kernel_rfl, ?_⟩)
  refine (mcheck_any x HX.out root HRL.out cn fr HCN.out LA r lc lf OA q oc p _ (HL1.out.below HE6.out (Nat.le_refl _)) (by omega) HD6.out).mono ?_
  clear k7
  rintro e w7 ⟨rfl, hb⟩
  rw [← HB1.out]
  have HE7 := Lib.hid (ExtW.trans HE6.out hb)
  have HD7 := Lib.hid (HD6.out.same hb)
  have HA7 := Lib.hid (HA6.out.ext hb)
  clear hb HE6 HD6 HA6 HC6
  go_wp2_with (refine wpList_ld rfl rfl ?_; refine ⟨gr, _, _, _, rfl, HA7.out, Try.underlying24, rfl, by rw [HSR.out]; kernel_rfl, ?_⟩)
  refine (pcheck_any root HRL.out cn fr HCN.out LA r lc lf OA q oc p _ (HL1.out.below HE7.out (Nat.le_refl _)) (by omega) HD7.out).mono ?_
  rintro e w8 ⟨rfl, hb⟩
  rw [← HB2.out]
  have HE8 := Lib.hid (ExtW.trans HE7.out hb)
  have HD8 := Lib.hid (HD7.out.same hb)
  have HA8 := Lib.hid (HA7.out.ext hb)
  clear hb HE7 HD7 HA7
  go_wp2_with fail
  refine (same_any OA q oc p PA q pc p _ HD8.out (HP1.out.same HE8.out)).mono ?_
  rintro e w9 ⟨rfl, hb⟩
  rw [show decide (p = p) = true by simp]
  have HE9 := Lib.hid (ExtW.trans HE8.out hb)
  have HA9 := Lib.hid (HA8.out.ext hb)
  clear hb HE8 HD8 HA8
  have hbb1 : (b1 == b1) = true := by simp
  have hbb2 : (b2 == b2) = true := by simp
  have hcv := conv_str (HL1.out.below HE9.out (Nat.le_refl _))
  go_wp2_with (refine wpList_ldG rfl (by rfl) ?_; refine ⟨gr, 0, _, _, rfl, HA9.out.range, Try.underlying24, rfl, sizeD HRL.out, ?_⟩)
  refine (rcheck_any x HX.out root HRL.out cn fr HCN.out lf HLL.out PA q pc p _ (HP1.out.same HE9.out)).mono ?_
  rintro e w10 ⟨rfl, hb⟩
  rw [← HB1.out]
  have HE10 := Lib.hid (ExtW.trans HE9.out hb)
  have HA10 := Lib.hid (HA9.out.ext hb)
  clear hb HE9 HA9 hcv
  have hcv := conv_str (HL1.out.below HE10.out (Nat.le_refl _))
  go_wp2_with (refine wpList_ldG rfl (by rfl) ?_; refine ⟨gr, 0, _, _, rfl, HA10.out.range, Try.underlying24, rfl, sizeD HRL.out, ?_⟩)
  refine (rcheck_any 256 (by decide) root HRL.out cn fr HCN.out lf HLL.out PA q pc p _ (HP1.out.same HE10.out)).mono ?_
  rintro e w11 ⟨rfl, hb⟩
  rw [show bitsN 256 = 256 from rfl, ← HB2.out]
  have HEF := Lib.hid (ExtW.trans HE10.out hb)
  clear hb hcv
  go_wp2
  go_ret
  exact ⟨rfl, HEF.out⟩
end Go.Proofs.Ytncdgndeidbgoaa
