/- Walk of ClashOpens. -/
import Derived.Test.YthaoibgcgkmnbaaCListsW
import Derived.Test.YthaoibgcgkmnbaaD3
namespace Go.Proofs.Ythaoibgcgkmnbaa
set_option maxRecDepth 100000
open Go.RowKit

def fstD (o : Option (List UInt8 × List UInt8)) : List UInt8 := match o with | none => [] | some p => p.1
def sndD (o : Option (List UInt8 × List UInt8)) : List UInt8 := match o with | none => [] | some p => p.2
theorem ofV_eq (o : Option (List UInt8 × List UInt8)) : ofV o = .tuple #[.string ⟨(fstD o).toArray⟩, .string ⟨(sndD o).toArray⟩, .bool o.isSome] := by cases o <;> rfl
/-- both ends of Of, in one -/
theorem OfPost.reads {o : Option (List UInt8 × List UInt8)} {w : World} {e : Ending} {w' : World} (h : OfPost o w e w') :
    ExtW w w' ∧ ∃ A n c B m d, e = .returned (.tuple #[.slice A n c, .slice B m d, .bool o.isSome]) ∧ Rd w' A n c 1 (bvs (fstD o)) ∧ Rd w' B m d 1 (bvs (sndD o)) := by
  obtain ⟨h1, h2⟩ := h
  refine ⟨h1, ?_⟩
  cases o with
  | none => exact ⟨none, 0, 0, none, 0, 0, h2, Rd.nil w' 1, Rd.nil w' 1⟩
  | some p =>
    obtain ⟨A, n, c, B, m, d, h3, h4, h5⟩ := h2
    exact ⟨A, n, c, B, m, d, h3, h4, h5⟩

set_option maxHeartbeats 20000000 in
set_option maxRecDepth 100000 in
theorem clashOpens_walk (x : Int) (A : Option Addr) (n0 c0 : Nat) (xl : List (List UInt8)) (fr : Int) (LA : Option Addr) (ln0 lc : Nat) (leaf0 : List UInt8) (PA : Option Addr) (pn0 pc : Nat) (pl0 : List (List UInt8)) (w : World) (hx : -9223372036854775808 ≤ x ∧ x ≤ 9223372036854775807) (hr : Bss w A n0 c0 xl) (_hc : c0 ≤ 140737488351232)
    (_hf : -9223372036854775808 ≤ fr ∧ fr ≤ 9223372036854775807) (hl : Rd w LA ln0 lc 1 (bvs leaf0)) (hlc : lc ≤ 140737488351232) (hp : Dls w PA pn0 pc pl0) :
    Calls Try.prog 3 #[.int .i64 x, .slice A n0 c0, .int .i64 fr, .slice LA ln0 lc, .slice PA pn0 pc] w fun e w' => e = .returned (.bool true) ∧ Below w.heap.size w w' := by
  obtain ⟨i0, hi, hz0, hz1, hz2⟩ := info_parts infoB
  have HX := Lib.hid hx
  have HR := Lib.hid hr
  have hlnc := hl.nc
  have hpnc := hp.rd.nc
  obtain ⟨ln, hln⟩ : ∃ q, q = min ln0 100 := ⟨_, rfl⟩
  have hq1 : ln ≤ 100 := by omega
  have hq2 : ln ≤ ln0 := by omega
  have hqq : min (ln0 : Int) 100 = (ln : Int) := by omega
  obtain ⟨pn, hpn⟩ : ∃ p, p = min pn0 50 := ⟨_, rfl⟩
  have hp1 : pn ≤ 50 := by omega
  have hp2 : pn ≤ pn0 := by omega
  have hpp : min (pn0 : Int) 50 = (pn : Int) := by omega
  clear hln hpn
  obtain ⟨hsl, hslr⟩ := cut_h (P := Try.prog) Try.underlying23 hi hz1 LA ln0 lc .i64 (ln : Int) ln rfl hq2 hlnc
  have hrq := hslr _ _ hl
  rw [Nat.mul_one, bvs_take] at hrq
  have hrt := run_takeD PA pn0 pc pn hp2 hpnc
  have hpt := hp.take hp2
  obtain ⟨leaf, hleaf⟩ : ∃ xs, xs = leaf0.take ln := ⟨_, rfl⟩
  obtain ⟨pl, hpl⟩ : ∃ xs, xs = pl0.take pn := ⟨_, rfl⟩
  rw [← hleaf] at hrq
  rw [← hpl] at hpt
  have HL := Lib.hid hrq
  have HP := Lib.hid hpt
  have HLE : Hid (leaf.length ≤ 100) := Lib.hid (by have h := hrq.len; rw [bvs_len] at h; omega)
  have hbld := bldT
  clear hr _hc hx _hf hp hl hlc hslr hrq hpt hleaf hpl
  go_enter Try.func3, Try.ntmps3
  go_wp2_with fail
  refine (shown6_any _).mono ?_
  rintro e w1 ⟨rfl, hb1⟩
  have HE1 := Lib.hid hb1
  clear hb1
  go_wp2_with fail
  refine (small_any A n0 c0 xl _ (HR.out.same HE1.out)).mono ?_
  rintro e w2 ⟨v, rfl, hlot, hb⟩
  have HE2 := Lib.hid (ExtW.trans HE1.out hb)
  obtain ⟨s, hs⟩ : ∃ s, s = smallL xl := ⟨_, rfl⟩
  have HLV : Hid (∀ y ∈ s, y.length ≤ 100) := Lib.hid (fun y hy => smallL_lv xl y (by rw [← hs]; exact hy))
  have hsn := smallL_len xl
  rw [← hs] at hlot hsn
  obtain ⟨A1, c1, rfl, hbs⟩ := hlot.bss
  obtain ⟨n, hn⟩ : ∃ n, n = s.length := ⟨_, rfl⟩
  rw [← hn] at hbs hsn ⊢
  have HBS := Lib.hid hbs
  have HN : Hid (s.length = n) := Lib.hid hn.symm
  clear hs hlot hn hbs hb HR
  have HLVS : Hid (Lv s) := Lib.hid (fun y hy => Nat.le_trans (HLV.out y hy) (by decide))
  go_wp2_with fail
  clear hqq hpp hsl hrt
  refine (texts_any A1 n c1 s w2 HBS.out (by omega)).mono ?_
  rintro e w3 ⟨tv, rfl, hown, hb⟩
  obtain ⟨TA, tc, rfl, hsts⟩ := hown.sts
  rw [HN.out] at hsts
  have HTS := Lib.hid hsts
  have HB3 := Lib.hid hb
  rw [HN.out]
  clear hown hsts hb
  go_upto_region 7 with (fail)
  have HT4 := Lib.hid (cell_new1 w3 (.int .i64 x) 30)
  have HE4 : Hid (ExtW w3 (w3.alloc (.cells #[.int .i64 x] 30))) := Lib.hid ((Below.refl _ _).alloc (Nat.le_refl _) _)
  generalize w3.alloc (.cells #[.int .i64 x] 30) = w4 at HT4 HE4 ⊢
  obtain ⟨gt, hgt⟩ : ∃ g, g = w3.heap.size := ⟨_, rfl⟩
  rw [← hgt] at HT4 ⊢
  have HBS4 := Lib.hid (HBS.out.same (ExtW.trans HB3.out HE4.out))
  have HTS4 := Lib.hid (HTS.out.same HE4.out)
  have HW4 := Lib.hid (ExtW.trans HE2.out (ExtW.trans HB3.out HE4.out))
  have HP4 := Lib.hid (HP.out.same HW4.out)
  have HL4 := Lib.hid (HL.out.below HW4.out (Nat.le_refl _))
  clear hgt HE4 HE1 HE2 HB3 HTS hbld HBS HP HL
  have k1 := HT4.out
  go_wp2_with fail
  refine (cof_any x HX.out A1 n c1 s fr LA ln lc leaf PA pn pc pl w4 HBS4.out HLVS.out (by omega) HL4.out (by omega) HP4.out).mono ?_
  intro e w5 h
  obtain ⟨hb5, ra, rl, rc, rb, rm, rd, rfl, hra, hrb⟩ := h.reads
  obtain ⟨o, ho⟩ : ∃ o, o = T.ofD (bitsN x) s fr leaf pl := ⟨_, rfl⟩
  have HO := Lib.hid ho
  rw [← ho] at hra hrb ⊢
  have HT5 := Lib.hid (hb5.cellAt HT4.out)
  have HBS5 := Lib.hid (HBS4.out.same hb5)
  have HTS5 := Lib.hid (HTS4.out.same hb5)
  have HP5 := Lib.hid (HP4.out.same hb5)
  have HL5 := Lib.hid (HL4.out.below hb5 (Nat.le_refl _))
  have HW5 := Lib.hid (ExtW.trans HW4.out hb5)
  have HRA := Lib.hid hra
  have HRB := Lib.hid hrb
  clear h k1 HT4 HBS4 HTS4 HW4 HP4 HL4 ho hb5 hra hrb
  have hcl := conv_str HL5.out
  go_wp2_with fail
  clear hcl
  refine (rof_any x HX.out TA n tc s fr leaf (Nat.le_trans HLE.out (by decide)) PA pn pc pl w5 HTS5.out HLVS.out (by omega) HP5.out).mono ?_
  rintro e w6 ⟨rfl, hb⟩
  rw [← HO.out, ofV_eq]
  have HRA6 := Lib.hid (HRA.out.below hb (Nat.le_refl _))
  have HRB6 := Lib.hid (HRB.out.below hb (Nat.le_refl _))
  have HT6 := Lib.hid (hb.cellAt HT5.out)
  have HBS6 := Lib.hid (HBS5.out.same hb)
  have HTS6 := Lib.hid (HTS5.out.same hb)
  have HL6 := Lib.hid (HL5.out.below hb (Nat.le_refl _))
  have HW6 := Lib.hid (ExtW.trans HW5.out hb)
  clear hb HRA HRB HT5 HBS5 HTS5 HL5 HW5
  obtain ⟨p, hp⟩ : ∃ p, p = fstD o := ⟨_, rfl⟩
  obtain ⟨q, hq⟩ : ∃ p, p = sndD o := ⟨_, rfl⟩
  have HPQ : Hid (p.length ≤ 101 ∧ q.length ≤ 101) := Lib.hid (by
    rw [hp, hq]
    cases hoo : o with
    | none => exact ⟨by decide, by decide⟩
    | some z =>
      obtain ⟨z1, z2⟩ := z
      exact T.ofD_small (M := 101) (by decide) (Nat.succ_le_succ HLE.out) (fun y hy => Nat.succ_le_succ (HLV.out y hy)) HP5.out.all (HO.out.symm.trans hoo))
  rw [← hp] at HRA6 ⊢
  rw [← hq] at HRB6 ⊢
  have s1 := conv_str HRA6.out
  have s2 := conv_str HRB6.out
  obtain ⟨ok, hok⟩ : ∃ b, b = o.isSome := ⟨_, rfl⟩
  obtain ⟨sp, hsp⟩ : ∃ s, s = (⟨p.toArray⟩ : ByteArray) := ⟨_, rfl⟩
  obtain ⟨sq, hsq⟩ : ∃ s, s = (⟨q.toArray⟩ : ByteArray) := ⟨_, rfl⟩
  have HSP : Hid (.string sp = strV p) := Lib.hid (by rw [hsp]; rfl)
  have HSQ : Hid (.string sq = strV q) := Lib.hid (by rw [hsq]; rfl)
  rw [← hok, ← hsp, ← hsq]
  rw [← hsp] at s1
  rw [← hsq] at s2
  clear hok hsp hsq hp hq
  have hbb : (ok != ok) = false := by simp
  go_upto_block 0 with (fail)
  clear s1 s2 hbb
  obtain ⟨cb, hcb⟩ : ∃ b, b = T.clashB (bitsN x) p q := ⟨_, rfl⟩
  have HCB := Lib.hid hcb
  clear hcb
  go_wp2_with fail
  go_loopw [20] (fun i wr => ∃ j : Nat, i = .int .i64 (j : Int) ∧ j ≤ n ∧ Hid (ExtW w6 wr)) (fun i _ => n - (intOf i).toNat)
  case atStart => exact ⟨0, rfl, Nat.zero_le _, Lib.hid (ExtW.refl _)⟩
  case round =>
    obtain ⟨j, rfl, hjn, HE⟩ := hrel
    by_cases hlt : j < n
    · have hli : (j : Int) < (n : Int) := by omega
      obtain ⟨y, hy⟩ : ∃ y, s[j]? = some y := ⟨_, List.getElem?_eq_getElem (by rw [HN.out]; exact hlt)⟩
      obtain ⟨ta, hta⟩ := HTS6.out.addr (by omega)
      subst hta
      have HCT := Lib.hid (HTS6.out.at hy)
      cases hA : A1 with
      | none => have h3 := HBS6.out.nil0 hA; have h4 := HBS6.out.nc; omega
      | some pa =>
      obtain ⟨D, m, dd, hcell, hrd⟩ := HBS6.out.row pa hA j y hy
      subst hA
      have HC := Lib.hid hcell
      have HRD := Lib.hid hrd
      have HYL : Hid (y.length ≤ 100) := Lib.hid (HLV.out y (List.mem_of_getElem? hy))
      have hmb : m ≤ 100 := by have h := hrd.len; rw [bvs_len] at h; have := HYL.out; omega
      obtain ⟨b, hb⟩ : ∃ b, b = T.clashB (bitsN x) leaf y := ⟨_, rfl⟩
      have HB := Lib.hid hb.symm
      clear hcell hrd hy hb
      go_upto_region 14 with (fail)
      apply wp_region_ext _ (by kernel_rfl) (by kernel_rfl)
      iterate 3 (apply wpZ_det; (intro wq hE hG; first | exact obl_non (by rfl) | (apply obl_val (by rfl); go_simp <;> rfl)); (intro ak hak; simp only [Act.put, List.setIfInBounds_toArray, List.set_cons_succ, List.set_cons_zero] at hak; subst hak))
      (apply wpZ_det; (intro wq hE hG; have kk := (ExtW.trans HE.out (ExtW.of_drew hE)).cellAt HC.out; apply obl_val (by rfl); go_simp <;> rfl); (intro ak hak; simp only [Act.put, List.setIfInBounds_toArray, List.set_cons_succ, List.set_cons_zero] at hak; subst hak))
      (apply wpZ_det (c := strV y); (intro wq hE hG; have kk := conv_str (HRD.out.below (ExtW.trans HE.out (ExtW.of_drew hE)) (Nat.le_refl _)); apply obl_val (by rfl); go_simp <;> rfl); (intro ak hak; simp only [Act.put, List.setIfInBounds_toArray, List.set_cons_succ, List.set_cons_zero] at hak; subst hak))
      iterate 3 (apply wpZ_det; (intro wq hE hG; first | exact obl_non (by rfl) | (apply obl_val (by rfl); go_simp <;> rfl)); (intro ak hak; simp only [Act.put, List.setIfInBounds_toArray, List.set_cons_succ, List.set_cons_zero] at hak; subst hak))
      (apply wpZ_det; (intro wq hE hG; have kk := (ExtW.trans HE.out (ExtW.of_drew hE)).cellAt HCT.out; apply obl_val (by rfl); go_simp <;> rfl); (intro ak hak; simp only [Act.put, List.setIfInBounds_toArray, List.set_cons_succ, List.set_cons_zero] at hak; subst hak))
      (apply wpZ_det (c := .bool false); (intro wq hE hG; apply obl_val (by rfl); unfold strV; go_simp <;> rfl); (intro ak hak; simp only [Act.put, List.setIfInBounds_toArray, List.set_cons_succ, List.set_cons_zero] at hak; subst hak))
      (apply wpZ_det; (intro wq hE hG; first | exact obl_non (by rfl) | (apply obl_val (by rfl); go_simp <;> rfl)); (intro ak hak; simp only [Act.put, List.setIfInBounds_toArray, List.set_cons_succ, List.set_cons_zero] at hak; subst hak))
      (apply wpZ_det; (intro wq hE hG; have kk := (ExtW.trans HE.out (ExtW.of_drew hE)).cellAt HT6.out; apply obl_val (by rfl); go_simp <;> rfl); (intro ak hak; simp only [Act.put, List.setIfInBounds_toArray, List.set_cons_succ, List.set_cons_zero] at hak; subst hak))
      iterate 4 (apply wpZ_det; (intro wq hE hG; first | exact obl_non (by rfl) | (apply obl_val (by rfl); go_simp <;> rfl)); (intro ak hak; simp only [Act.put, List.setIfInBounds_toArray, List.set_cons_succ, List.set_cons_zero] at hak; subst hak))
      (apply wpZ_det; (intro wq hE hG; have kk := (ExtW.trans HE.out (ExtW.of_drew hE)).cellAt HC.out; apply obl_val (by rfl); go_simp <;> rfl); (intro ak hak; simp only [Act.put, List.setIfInBounds_toArray, List.set_cons_succ, List.set_cons_zero] at hak; subst hak))
      (apply wpZ_det (c := .bool b); (intro wq hE hG; apply obl_on (by kernel_rfl); go_simp; simp only [extUpon_enter]; refine (cot_any x HX.out LA ln lc leaf D m dd y _ (HL6.out.below (ExtW.trans HE.out (ExtW.of_drew hE)) (Nat.le_refl _)) (by omega) (HRD.out.below (ExtW.trans HE.out (ExtW.of_drew hE)) (Nat.le_refl _)) (by omega)).mono ?_; rintro e w' ⟨rfl, hb⟩; exact ⟨_, rfl, hb, by rw [HB.out]⟩); (intro ak hak; simp only [Act.put, List.setIfInBounds_toArray, List.set_cons_succ, List.set_cons_zero] at hak; subst hak))
      iterate 2 (apply wpZ_det; (intro wq hE hG; first | exact obl_non (by rfl) | (apply obl_val (by rfl); go_simp <;> rfl)); (intro ak hak; simp only [Act.put, List.setIfInBounds_toArray, List.set_cons_succ, List.set_cons_zero] at hak; subst hak))
      (apply wpZ_det (c := strV leaf); (intro wq hE hG; have kk := conv_str (HL6.out.below (ExtW.trans HE.out (ExtW.of_drew hE)) (Nat.le_refl _)); apply obl_val (by rfl); go_simp <;> rfl); (intro ak hak; simp only [Act.put, List.setIfInBounds_toArray, List.set_cons_succ, List.set_cons_zero] at hak; subst hak))
      iterate 3 (apply wpZ_det; (intro wq hE hG; first | exact obl_non (by rfl) | (apply obl_val (by rfl); go_simp <;> rfl)); (intro ak hak; simp only [Act.put, List.setIfInBounds_toArray, List.set_cons_succ, List.set_cons_zero] at hak; subst hak))
      (apply wpZ_det; (intro wq hE hG; have kk := (ExtW.trans HE.out (ExtW.of_drew hE)).cellAt HCT.out; apply obl_val (by rfl); go_simp <;> rfl); (intro ak hak; simp only [Act.put, List.setIfInBounds_toArray, List.set_cons_succ, List.set_cons_zero] at hak; subst hak))
      (apply wpZ_det (c := .bool b); (intro wq hE hG; apply obl_on (by kernel_rfl); go_simp; simp only [extUpon_enter]; refine (rots_any x HX.out leaf y _ (Nat.le_trans HLE.out (by decide)) (Nat.le_trans HYL.out (by decide))).mono ?_; rintro e w' ⟨rfl, hb⟩; exact ⟨_, rfl, hb, by rw [HB.out]⟩); (intro ak hak; simp only [Act.put, List.setIfInBounds_toArray, List.set_cons_succ, List.set_cons_zero] at hak; subst hak))
      (apply wpZ_det (c := .bool false); (intro wq hE hG; exact obl_same (by rfl) (by go_simp <;> rfl) (by simp)); (intro ak hak; simp only [Act.put, List.setIfInBounds_toArray, List.set_cons_succ, List.set_cons_zero] at hak; subst hak))
      (apply wpZ_det; (intro wq hE hG; first | exact obl_non (by rfl) | (apply obl_val (by rfl); go_simp <;> rfl)); (intro ak hak; simp only [Act.put, List.setIfInBounds_toArray, List.set_cons_succ, List.set_cons_zero] at hak; subst hak))
      (apply wpZ_nil; intro wq hE hG)
      have HX2 := Lib.hid (ExtW.trans HE.out (ExtW.of_drew hE))
      clear hE hG
      go_wp2_with fail
      go_roundw
      case rel => exact ⟨j + 1, by simp, hlt, HX2⟩
      case measure => simp [intOf]; omega
    · obtain rfl : j = n := by omega
      have hli : ¬ (j : Int) < (j : Int) := by omega
      have k1 := HE.out.cellAt HT6.out
      have HLU : Hid (rl ≤ 150000000000000) := Lib.hid (by have h := HRA6.out.len; rw [bvs_len] at h; have := HPQ.out; omega)
      have HLW : Hid (rm ≤ 150000000000000) := Lib.hid (by have h := HRB6.out.len; rw [bvs_len] at h; have := HPQ.out; omega)
      go_wp2_with fail
      refine (cot_any x HX.out ra rl rc p rb rm rd q wr (HRA6.out.below HE.out (Nat.le_refl _)) HLU.out (HRB6.out.below HE.out (Nat.le_refl _)) HLW.out).mono ?_
      rintro e w7 ⟨rfl, hb⟩
      have HE7 := Lib.hid (ExtW.trans HE.out hb)
      rw [← HCB.out]
      clear hb k1
      go_wp2_with fail
      rw [HSP.out, HSQ.out]
      refine (rots_any x HX.out p q w7 (Nat.le_trans HPQ.out.1 (by decide)) (Nat.le_trans HPQ.out.2 (by decide))).mono ?_
      rintro e w8 ⟨rfl, hb⟩
      rw [← HCB.out]
      have HEZ := Lib.hid (ExtW.trans HW6.out (ExtW.trans HE7.out hb))
      clear hb
      go_wp2
      go_ret
      exact ⟨by simp, HEZ.out⟩
end Go.Proofs.Ythaoibgcgkmnbaa
