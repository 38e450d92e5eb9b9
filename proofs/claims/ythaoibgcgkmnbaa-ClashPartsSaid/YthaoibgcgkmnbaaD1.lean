/- Walks of the document's text and OfTexts. -/
import Derived.Test.YthaoibgcgkmnbaaRB
import Derived.Test.YthaoibgcgkmnbaaCB
namespace Go.Proofs.Ythaoibgcgkmnbaa
set_option maxRecDepth 100000
open Go.RowKit

set_option maxHeartbeats 4000000 in
set_option maxRecDepth 100000 in
theorem rtext_any (x : Int) (hx : -9223372036854775808 ≤ x ∧ x ≤ 9223372036854775807) (A : Option Addr) (n c : Nat) (l : List (List UInt8)) (w : World) (h1n : 1 ≤ n) (hr : Sts w A n c l) (hlv : Lv l) :
    Calls Try.prog 42 #[.int .i64 x, .slice A n c] w fun e w' => e = .returned (strV (T.texD (bitsN x) l)) ∧ ExtW w w' := by
  have HX := Lib.hid hx
  have hn63 : n < 9223372036854775808 := by have h1 := hr.2.nc; have h2 := hr.2.cm; unfold maxLen at h2; omega
  have hnc := hr.2.nc
  have HR := Lib.hid hr
  have HV := Lib.hid hlv
  have HLN := Lib.hid hr.1
  clear hr hlv hx
  go_enter Try.func42, Try.ntmps42
  by_cases h1 : n = 1
  · subst h1
    obtain ⟨y, hy⟩ : ∃ y, l = [y] := List.length_eq_one_iff.1 HLN.out
    have HY := Lib.hid hy
    obtain ⟨a, ha⟩ := HR.out.addr (by decide)
    subst ha
    have hc0 := HR.out.at (i := 0) (y := y) (by rw [hy]; rfl)
    rw [show a.add 0 = a by unfold Addr.add; simp] at hc0
    have HYL : Hid (y.length ≤ 1000000) := Lib.hid (HV.out y (by rw [hy]; exact List.mem_cons_self ..))
    have HT : Hid (0 :: y = T.texD (bitsN x) l) := Lib.hid (by rw [hy, T.texD_one]; rfl)
    clear hy
    go_wp2_with fail
    refine (rleafText_any y _ HYL.out).mono ?_
    rintro e we ⟨rfl, rfl⟩
    rw [HT.out]
    go_wp2
    go_ret
    exact ⟨rfl, ExtW.refl _⟩
  have hne0 : ((n : Int) == 1) = false := by rw [beq_eq_false_iff_ne]; omega
  have h2 : 2 ≤ n := by omega
  obtain ⟨k, hk⟩ : ∃ k, k = T.half n := ⟨_, rfl⟩
  have hhl := T.half_lt h2
  rw [← hk] at hhl
  have HK := Lib.hid hk
  clear hk
  go_wp2_with fail
  refine (rhalf_any n _ ⟨by omega, hn63⟩).mono ?_
  rintro e we ⟨rfl, rfl⟩
  rw [← HK.out]
  have hcl : k ≤ n := by omega
  have hrt := run_takeT A n c k hcl hnc
  have hrd := run_dropT A n c k hcl hnc
  have HM := Lib.hid (T.texD_more (bitsN x) HLN.out h2 HK.out)
  have HBT := Lib.hid (HR.out.take hcl)
  have HBD := Lib.hid (HR.out.dropA hcl)
  obtain ⟨a, ha⟩ : ∃ d, d = T.rootD (bitsN x) (l.take k) := ⟨_, rfl⟩
  have hal : a.length = 32 := by rw [ha]; exact T.rootD_len _ _
  obtain ⟨b, hb⟩ : ∃ d, d = T.rootD (bitsN x) (l.drop k) := ⟨_, rfl⟩
  have hbl : b.length = 32 := by rw [hb]; exact T.rootD_len _ _
  have HA := Lib.hid ha
  have HB := Lib.hid hb
  have HAL := Lib.hid hal
  have HBL := Lib.hid hbl
  rw [← ha, ← hb] at HM
  clear ha hb hal hbl
  go_wp2_with fail
  refine (rroot_any x HX.out (k + 1) A k c _ _ (by omega) HBT.out (HV.out.take k)).mono ?_
  rintro e w3 ⟨rfl, hb⟩
  have HE3 := Lib.hid hb
  rw [← HA.out]
  clear hb
  go_upto_region 5 with (first
    | (refine wpList_newD rfl rfl ?_)
    | (refine wpList_newst rfl rfl rfl HAL.out (d0 := List.replicate 32 0) rfl rfl rfl (zDig_row _) ?_))
  have HAR := Lib.hid (stD_row w3 a)
  have HE4 := Lib.hid (ExtW.trans HE3.out (stD_ext w3 a))
  generalize (w3.alloc (.cells zDig 45)).setRow w3.heap.size (bvs a).toArray = w4 at HAR HE4 ⊢
  obtain ⟨ga, hga⟩ : ∃ g, g = w3.heap.size := ⟨_, rfl⟩
  rw [← hga] at HAR ⊢
  clear hga HE3
  go_wp2_with fail
  refine (rroot_any x HX.out (n + 1) _ (n - k) (c - k) _ _ (by omega) (HBD.out.same HE4.out) (HV.out.drop k)).mono ?_
  rintro e w5 ⟨rfl, hb⟩
  have HE5 := Lib.hid (ExtW.trans HE4.out hb)
  have HAR5 := Lib.hid (HAR.out.ext hb)
  rw [← HB.out]
  clear hb HAR HE4
  go_upto_region 6 with (first
    | (refine wpList_newD rfl rfl ?_)
    | (refine wpList_newst rfl rfl rfl HBL.out (d0 := List.replicate 32 0) rfl rfl rfl (zDig_row _) ?_))
  have HBR := Lib.hid (stD_row w5 b)
  have HE6 := Lib.hid (ExtW.trans HE5.out (stD_ext w5 b))
  have HAR6 := Lib.hid (HAR5.out.ext (stD_ext w5 b))
  generalize (w5.alloc (.cells zDig 45)).setRow w5.heap.size (bvs b).toArray = w6 at HBR HE6 HAR6 ⊢
  obtain ⟨gb, hgb⟩ : ∃ g, g = w5.heap.size := ⟨_, rfl⟩
  rw [← hgb] at HBR ⊢
  clear hgb HE5 HAR5
  have HSA : Hid ((bvs a).toArray.size = 32) := Lib.hid (dg_size HAL.out)
  have HSB : Hid ((bvs b).toArray.size = 32) := Lib.hid (dg_size HBL.out)
  go_wp2_with (refine wpList_ld rfl rfl ?_; first | refine ⟨ga, _, _, _, rfl, HAR6.out, Try.underlying45, rfl, by rw [HSA.out]; kernel_rfl, ?_⟩ | refine ⟨gb, _, _, _, rfl, HBR.out, Try.underlying45, rfl, by rw [HSB.out]; kernel_rfl, ?_⟩)
  refine (rnodeText_any a b _ HAL.out HBL.out).mono ?_
  rintro e w7 ⟨rfl, hb⟩
  have HEE := Lib.hid (ExtW.trans HE6.out hb)
  clear hb
  have HT : Hid (1 :: (a ++ b) = T.texD (bitsN x) l) := Lib.hid (by rw [HM.out]; rfl)
  rw [HT.out]
  go_wp2
  go_ret
  exact ⟨rfl, HEE.out⟩

set_option maxHeartbeats 4000000 in
set_option maxRecDepth 100000 in
theorem rots_any (x : Int) (hx : -9223372036854775808 ≤ x ∧ x ≤ 9223372036854775807) (p q : List UInt8) (w : World) (hp : p.length ≤ 1000000) (hq : q.length ≤ 1000000) :
    Calls Try.prog 16 #[.int .i64 x, strV p, strV q] w fun e w' => e = .returned (.bool (T.clashB (bitsN x) p q)) ∧ ExtW w w' := by
  have HX := Lib.hid hx
  have hzp : (⟨p.toArray⟩ : ByteArray).size ≤ 1000000000 := by rw [str_size]; omega
  have hzq : (⟨q.toArray⟩ : ByteArray).size ≤ 1000000000 := by rw [str_size]; omega
  have HZP := Lib.hid hzp
  have HZQ := Lib.hid hzq
  clear hx hp hq hzp hzq
  unfold strV
  by_cases hpq : p = q
  · subst hpq
    have HN : Hid (T.clashB (bitsN x) p p = false) := Lib.hid (by unfold T.clashB; simp)
    rw [HN.out]
    go_enter Try.func16, Try.ntmps16
    go_wp2
    go_ret
    exact ⟨rfl, ExtW.refl _⟩
  · have HN : Hid (T.clashB (bitsN x) p q = decide (T.sumD (bitsN x) p = T.sumD (bitsN x) q)) := Lib.hid (by unfold T.clashB; simp [hpq])
    rw [HN.out]
    obtain ⟨sx, hsx⟩ : ∃ s, s = (⟨p.toArray⟩ : ByteArray) := ⟨_, rfl⟩
    obtain ⟨sy, hsy⟩ : ∃ s, s = (⟨q.toArray⟩ : ByteArray) := ⟨_, rfl⟩
    have hs2 : (sx.toList == sy.toList) = false := by
      rw [beq_eq_false_iff_ne, hsx, hsy, ByteArray.toList_eq, ByteArray.toList_eq]
      simpa using hpq
    have HSX := Lib.hid (show sx.data.toList = p by rw [hsx])
    have HSY := Lib.hid (show sy.data.toList = q by rw [hsy])
    rw [← hsx] at HZP ⊢
    rw [← hsy] at HZQ ⊢
    clear hsx hsy
    clear hpq
    go_enter Try.func16, Try.ntmps16
    go_wp2_with fail
    refine (refKept_any _ x _ HZP.out HX.out).mono ?_
    rintro e w3 ⟨rfl, hb⟩
    rw [HSX.out]
    have HE3 := Lib.hid hb
    clear hb
    go_wp2_with fail
    refine (refKept_any _ x _ HZQ.out HX.out).mono ?_
    rintro e w4 ⟨rfl, hb⟩
    rw [HSY.out]
    have HE4 := Lib.hid (ExtW.trans HE3.out hb)
    clear hb
    obtain ⟨a, ha⟩ : ∃ a, a = keep (S.sha p) (bitsN x) := ⟨_, rfl⟩
    obtain ⟨b, hb⟩ : ∃ a, a = keep (S.sha q) (bitsN x) := ⟨_, rfl⟩
    have heq := eq_dg a b (by rw [ha, keep_len]; rfl) (by rw [hb, keep_len]; rfl)
    have HAB : Hid (T.sumD (bitsN x) p = a ∧ T.sumD (bitsN x) q = b) := Lib.hid (by rw [ha, hb]; exact ⟨rfl, rfl⟩)
    rw [← ha, ← hb]
    unfold dgV
    clear ha hb
    go_wp2
    go_ret
    exact ⟨by rw [HAB.out.1, HAB.out.2]; rfl, HE4.out⟩
end Go.Proofs.Ythaoibgcgkmnbaa
