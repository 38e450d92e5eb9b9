/- Walk of ClashWhole. -/
import Derived.Test.YthaoibgcgkmnbaaCListsW
import Derived.Test.YthaoibgcgkmnbaaRB
namespace Go.Proofs.Ythaoibgcgkmnbaa
set_option maxRecDepth 100000
open Go.RowKit

theorem part_iff {s t : List (List UInt8)} {aN m : Nat} (hm : t.length = m) (hb : aN + m ≤ s.length) : (t = (s.drop aN).take m) ↔ ∀ (p : Nat) (y : List UInt8), s[p]? = some y → (aN : Int) ≤ p → (p : Int) < aN + m → t[((p : Int) - aN).toNat]? = some y := by
  constructor
  · intro h p y hp h1 h2
    rw [show ((p : Int) - aN).toNat = p - aN by omega, h, List.getElem?_take, if_pos (by omega), List.getElem?_drop, show aN + (p - aN) = p by omega]
    exact hp
  · intro h
    apply List.ext_getElem?
    intro j
    rcases Nat.lt_or_ge j m with hj | hj
    · obtain ⟨y, hy⟩ : ∃ y, s[aN + j]? = some y := ⟨_, List.getElem?_eq_getElem (by omega)⟩
      have h1 := h (aN + j) y hy (by omega) (by omega)
      rw [show (((aN + j : Nat) : Int) - aN).toNat = j by omega] at h1
      rw [h1, List.getElem?_take, if_pos hj, List.getElem?_drop, hy]
    · rw [List.getElem?_eq_none (by omega), List.getElem?_eq_none (by rw [List.length_take]; omega)]
theorem besideD_32 (B : Nat) : ∀ (N : Nat) (l : List (List UInt8)) (a b : Int), l.length < N → ∀ d ∈ T.besideD B l a b, d.length = 32 := by
  intro N
  induction N with
  | zero => intro l a b h; omega
  | succ N ih =>
    intro l a b h d hd
    by_cases hout : b ≤ 0 ∨ (l.length : Int) ≤ a
    · rw [T.besideD_out B rfl hout] at hd
      rw [List.mem_singleton.1 hd]; exact T.rootD_len _ _
    · by_cases h1 : l.length ≤ 1
      · by_cases h2 : l.length = 1
        · rw [T.besideD_one B rfl hout h2] at hd; cases hd
        · have : l = [] := List.length_eq_zero_iff.1 (by omega)
          subst this
          rw [T.besideD] at hd
          simp at hd
          rcases hd with ⟨_, rfl⟩
          exact T.rootD_len _ _
      · have hh := T.half_lt (n := l.length) (by omega)
        rw [T.besideD_more B rfl hout (by omega) rfl] at hd
        rcases List.mem_append.1 hd with hd | hd
        · exact ih _ _ _ (by rw [List.length_take]; omega) d hd
        · exact ih _ _ _ (by rw [List.length_drop]; omega) d hd

set_option maxHeartbeats 20000000 in
set_option maxRecDepth 100000 in
theorem clashWhole_walk (x : Int) (A : Option Addr) (n0 c0 : Nat) (xl : List (List UInt8)) (fr : Int) (B : Option Addr) (m0 d0 : Nat) (yl : List (List UInt8)) (PA : Option Addr) (pn pc : Nat) (pl : List (List UInt8)) (w : World) (hx : -9223372036854775808 ≤ x ∧ x ≤ 9223372036854775807) (hr : Bss w A n0 c0 xl) (_hc : c0 ≤ 140737488351232)
    (hf : -9223372036854775808 ≤ fr ∧ fr ≤ 9223372036854775807) (hs : Bss w B m0 d0 yl) (_hd : d0 ≤ 140737488351232) (hp : Dls w PA pn pc pl) :
    Calls Try.prog 8 #[.int .i64 x, .slice A n0 c0, .int .i64 fr, .slice B m0 d0, .slice PA pn pc] w fun e w' => e = .returned (.bool true) ∧ Below w.heap.size w w' := by
  have HX := Lib.hid hx
  have HF := Lib.hid hf
  have HR := Lib.hid hr
  have HS := Lib.hid hs
  have HP := Lib.hid hp
  have hbld := bldT
  clear hr hs _hc _hd hx hf hp
  go_enter Try.func8, Try.ntmps8
  go_wp2_with fail
  refine (shown6_any _).mono ?_
  rintro e w1 ⟨rfl, hb1⟩
  have HE1 := Lib.hid hb1
  clear hb1
  go_wp2_with fail
  refine (small_any A n0 c0 xl _ (HR.out.same HE1.out)).mono ?_
  rintro e w2 ⟨v, rfl, hlot, hb⟩
  have HE2 := Lib.hid (ExtW.trans HE1.out hb)
  obtain ⟨s, hs⟩ : ∃ s, s = smallL xl := ⟨_, rfl⟩
  have HLV : Hid (∀ y ∈ s, y.length ≤ 100) := Lib.hid (fun y hy => smallL_lv xl y (by rw [← hs]; exact hy))
  have hsn := smallL_len xl
  rw [← hs] at hlot hsn
  obtain ⟨A1, c1, rfl, hbs⟩ := hlot.bss
  obtain ⟨n, hn⟩ : ∃ n, n = s.length := ⟨_, rfl⟩
  rw [← hn] at hbs hsn ⊢
  have HBS := Lib.hid hbs
  have HN : Hid (s.length = n) := Lib.hid hn.symm
  clear hs hlot hn hbs hb
  go_wp2_with fail
  refine (small_any B m0 d0 yl _ (HS.out.same HE2.out)).mono ?_
  rintro e w3 ⟨v, rfl, hlot, hb⟩
  have HE3 := Lib.hid (ExtW.trans HE2.out hb)
  have HBS3 := Lib.hid (HBS.out.same hb)
  obtain ⟨t, ht⟩ : ∃ t, t = smallL yl := ⟨_, rfl⟩
  have HTV : Hid (∀ y ∈ t, y.length ≤ 100) := Lib.hid (fun y hy => smallL_lv yl y (by rw [← ht]; exact hy))
  have htn := smallL_len yl
  rw [← ht] at hlot htn
  obtain ⟨B1, d1, rfl, hbt⟩ := hlot.bss
  obtain ⟨m, hm⟩ : ∃ m, m = t.length := ⟨_, rfl⟩
  rw [← hm] at hbt htn ⊢
  have HBT3 := Lib.hid hbt
  have HM : Hid (t.length = m) := Lib.hid hm.symm
  clear ht hlot hm hbt hb HBS HR HS
  have HLVS : Hid (Lv s) := Lib.hid (fun y hy => Nat.le_trans (HLV.out y hy) (by decide))
  have HLVT : Hid (Lv t) := Lib.hid (fun y hy => Nat.le_trans (HTV.out y hy) (by decide))
  go_upto_region 5 with (fail)
  have HT4 := Lib.hid (cell_new1 w3 (.int .i64 x) 30)
  have HE4 : Hid (ExtW w3 (w3.alloc (.cells #[.int .i64 x] 30))) := Lib.hid ((Below.refl _ _).alloc (Nat.le_refl _) _)
  generalize w3.alloc (.cells #[.int .i64 x] 30) = w4 at HT4 HE4 ⊢
  obtain ⟨gt, hgt⟩ : ∃ g, g = w3.heap.size := ⟨_, rfl⟩
  rw [← hgt] at HT4 ⊢
  have HBS4 := Lib.hid (HBS3.out.same HE4.out)
  have HBT4 := Lib.hid (HBT3.out.same HE4.out)
  have HW4 := Lib.hid (ExtW.trans HE3.out HE4.out)
  have HP4 := Lib.hid (HP.out.same HW4.out)
  clear hgt HBS3 HBT3 HE3 HE4 HE1 HE2 hbld HP
  have k1 := HT4.out
  go_wp2_with fail
  refine (cofr_any x HX.out A1 n c1 s fr HF.out B1 m d1 t PA pn pc pl w4 HBS4.out HLVS.out (by omega) HBT4.out HLVT.out (by omega) HP4.out).mono ?_
  intro e w5 h
  have HT5 := Lib.hid (h.1.cellAt HT4.out)
  have HBS5 := Lib.hid (HBS4.out.same h.1)
  have HBT5 := Lib.hid (HBT4.out.same h.1)
  have HP5 := Lib.hid (HP4.out.same h.1)
  have HW5 := Lib.hid (ExtW.trans HW4.out h.1)
  obtain ⟨ra, rl, rc, rb, rm, rd, ok, rfl⟩ := h.two
  have HO := Lib.hid h
  clear h k1 HT4 HBS4 HBT4 HW4 HP4
  go_upto_region 6 with (fail)
  by_cases hck : T.checkRD (bitsN x) (T.rootD (bitsN x) s) s.length fr t pl = true
  rotate_left
  · have hck' : T.checkRD (bitsN x) (T.rootD (bitsN x) s) s.length fr t pl = false := by simpa using hck
    have HOO := Lib.hid (T.ofRD_no hck')
    rw [HN.out] at hck'
    have HCK := Lib.hid hck'
    clear hck hck'
    have HON := HO.out
    rw [HOO.out] at HON
    obtain ⟨_, h3⟩ := HON
    simp only at h3
    injection h3 with h3
    injection h3 with h3
    simp at h3
    obtain ⟨⟨rfl, rfl, rfl⟩, ⟨rfl, rfl, rfl⟩, rfl⟩ := h3
    apply wp_region_ext _ (by kernel_rfl) (by kernel_rfl)
    iterate 2 (apply wpZ_det; (intro wq hE hG; have kk := (ExtW.of_drew hE).cellAt HT5.out; apply obl_val (by rfl); go_simp <;> rfl); (intro ak hak; simp only [Act.put, List.setIfInBounds_toArray, List.set_cons_succ, List.set_cons_zero] at hak; subst hak))
    (apply wpZ_det; (intro wq hE hG; first | exact obl_non (by rfl) | (apply obl_val (by rfl); go_simp <;> rfl)); (intro ak hak; simp only [Act.put, List.setIfInBounds_toArray, List.set_cons_succ, List.set_cons_zero] at hak; subst hak))
    (apply wpZ_det; (intro wq hE hG; apply obl_on (by kernel_rfl); go_simp; simp only [extUpon_enter]; refine (root_any x HX.out (n + 1) _ n c1 _ _ (by omega) (HBS5.out.same (ExtW.of_drew hE)) HLVS.out).mono ?_; rintro e w' ⟨rfl, hb⟩; exact ⟨_, rfl, hb, rfl⟩); (intro ak hak; simp only [Act.put, List.setIfInBounds_toArray, List.set_cons_succ, List.set_cons_zero] at hak; subst hak))
    iterate 5 (apply wpZ_det; (intro wq hE hG; first | exact obl_non (by rfl) | (apply obl_val (by rfl); go_simp <;> rfl)); (intro ak hak; simp only [Act.put, List.setIfInBounds_toArray, List.set_cons_succ, List.set_cons_zero] at hak; subst hak))
    (apply wpZ_det (c := .bool false); (intro wq hE hG; apply obl_on (by kernel_rfl); go_simp; simp only [extUpon_enter]; refine (mcr_any x HX.out _ (T.rootD_len _ _) (n : Int) fr (by omega) B1 m d1 t PA pn pc pl _ (HBT5.out.same (ExtW.of_drew hE)) HLVT.out (by omega) (HP5.out.same (ExtW.of_drew hE))).mono ?_; rintro e w' ⟨rfl, hb⟩; exact ⟨_, rfl, hb, by rw [HCK.out]⟩); (intro ak hak; simp only [Act.put, List.setIfInBounds_toArray, List.set_cons_succ, List.set_cons_zero] at hak; subst hak))
    (apply wpZ_det; (intro wq hE hG; first | exact obl_non (by rfl) | (apply obl_val (by rfl); go_simp <;> rfl)); (intro ak hak; simp only [Act.put, List.setIfInBounds_toArray, List.set_cons_succ, List.set_cons_zero] at hak; subst hak))
    (apply wpZ_nil; intro wq hE hG)
    have HEQ := Lib.hid (ExtW.trans HW5.out (ExtW.of_drew hE))
    clear hE hG
    go_wp2
    go_ret
    exact ⟨rfl, HEQ.out⟩
  have HCT := Lib.hid hck
  have HIS := Lib.hid (T.checkRD_is HM.out hck)
  rw [HN.out] at hck
  have HCK := Lib.hid hck
  clear hck
  apply wp_region_ext _ (by kernel_rfl) (by kernel_rfl)
  iterate 2 (apply wpZ_det; (intro wq hE hG; have kk := (ExtW.of_drew hE).cellAt HT5.out; apply obl_val (by rfl); go_simp <;> rfl); (intro ak hak; simp only [Act.put, List.setIfInBounds_toArray, List.set_cons_succ, List.set_cons_zero] at hak; subst hak))
  (apply wpZ_det; (intro wq hE hG; first | exact obl_non (by rfl) | (apply obl_val (by rfl); go_simp <;> rfl)); (intro ak hak; simp only [Act.put, List.setIfInBounds_toArray, List.set_cons_succ, List.set_cons_zero] at hak; subst hak))
  (apply wpZ_det; (intro wq hE hG; apply obl_on (by kernel_rfl); go_simp; simp only [extUpon_enter]; refine (root_any x HX.out (n + 1) _ n c1 _ _ (by omega) (HBS5.out.same (ExtW.of_drew hE)) HLVS.out).mono ?_; rintro e w' ⟨rfl, hb⟩; exact ⟨_, rfl, hb, rfl⟩); (intro ak hak; simp only [Act.put, List.setIfInBounds_toArray, List.set_cons_succ, List.set_cons_zero] at hak; subst hak))
  iterate 5 (apply wpZ_det; (intro wq hE hG; first | exact obl_non (by rfl) | (apply obl_val (by rfl); go_simp <;> rfl)); (intro ak hak; simp only [Act.put, List.setIfInBounds_toArray, List.set_cons_succ, List.set_cons_zero] at hak; subst hak))
  (apply wpZ_det (c := .bool true); (intro wq hE hG; apply obl_on (by kernel_rfl); go_simp; simp only [extUpon_enter]; refine (mcr_any x HX.out _ (T.rootD_len _ _) (n : Int) fr (by omega) B1 m d1 t PA pn pc pl _ (HBT5.out.same (ExtW.of_drew hE)) HLVT.out (by omega) (HP5.out.same (ExtW.of_drew hE))).mono ?_; rintro e w' ⟨rfl, hb⟩; exact ⟨_, rfl, hb, by rw [HCK.out]⟩); (intro ak hak; simp only [Act.put, List.setIfInBounds_toArray, List.set_cons_succ, List.set_cons_zero] at hak; subst hak))
  (apply wpZ_det; (intro wq hE hG; first | exact obl_non (by rfl) | (apply obl_val (by rfl); go_simp <;> rfl)); (intro ak hak; simp only [Act.put, List.setIfInBounds_toArray, List.set_cons_succ, List.set_cons_zero] at hak; subst hak))
  (apply wpZ_nil; intro wq hE hG)
  have HE6 := Lib.hid (ExtW.of_drew hE)
  clear hE hG
  obtain ⟨aN, haN⟩ : ∃ k : Nat, fr = (k : Int) := ⟨fr.toNat, by have := HIS.out; omega⟩
  subst haN
  have hb0 : 0 < m ∧ aN + m ≤ n := by have h1 := HIS.out; have h2 := HN.out; omega
  have HB0 := Lib.hid hb0
  have hq1 : ¬ (aN : Int) < 0 := by omega
  have hq2 : ¬ (n : Int) < (aN : Int) := by omega
  have hq3 : IntKind.i64.wrap ((n : Int) - (aN : Int)) = ((n - aN : Nat) : Int) := by rw [IntWalk.i64_in _ (by omega)]; omega
  have hq4 : ¬ ((n - aN : Nat) : Int) < (m : Int) := by omega
  have hq5 : IntKind.i64.wrap ((aN : Int) + (m : Int)) = (aN : Int) + (m : Int) := IntWalk.i64_in _ (by omega)
  have k1 := HE6.out.cellAt HT5.out
  go_wp2_with fail
  refine (mrange_ok x HX.out A1 n c1 s (aN : Int) ((aN : Int) + (m : Int)) wq (by omega) (by omega) (by omega) (by omega) (HBS5.out.same HE6.out) HLVS.out).mono ?_
  rintro e w7 ⟨v, rfl, hown, hb⟩
  obtain ⟨bs, hbs⟩ : ∃ b, b = T.besideD (bitsN x) s (aN : Int) ((aN : Int) + (m : Int)) := ⟨_, rfl⟩
  have HB := Lib.hid hbs
  rw [← hbs] at hown
  obtain ⟨QA, qc, rfl, hdl⟩ := hown.dls (by rw [hbs]; exact besideD_32 _ (s.length + 1) s _ _ (by omega))
  have HDL := Lib.hid hdl
  have HE7 := Lib.hid (ExtW.trans HE6.out hb)
  obtain ⟨bn, hbn⟩ : ∃ k, k = bs.length := ⟨_, rfl⟩
  rw [← hbn] at HDL ⊢
  clear hbn hbs hown hdl hb k1 hq1 hq2 hq3 hq4 hq5
  go_wp2_with fail
  refine (same_any QA bn qc bs PA pn pc pl w7 HDL.out (HP5.out.same HE7.out)).mono ?_
  rintro e w8 ⟨rfl, hb⟩
  have HW8 := Lib.hid (ExtW.trans HE7.out hb)
  clear hb HDL HE6 HE7
  have HBS8 := Lib.hid (HBS5.out.same HW8.out)
  have HBT8 := Lib.hid (HBT5.out.same HW8.out)
  obtain ⟨sm0, hsm0⟩ : ∃ b, b = decide (bs = pl) := ⟨_, rfl⟩
  have HSM0 := Lib.hid hsm0
  rw [← hsm0]
  clear hsm0 hb0
  go_upto_block 0 with (fail)
  go_wp2_with fail
  go_loopw [18, 19] (fun av iv wr => ∃ (i : Nat) (al : Bool), iv = .int .i64 i ∧ av = .bool al ∧ i ≤ m ∧ Hid (al = decide (bs = pl ∧ t.take i = (s.drop aN).take i)) ∧ Hid (ExtW w8 wr)) (fun _ iv _ => m - (intOf iv).toNat)
  case atStart => exact ⟨0, sm0, rfl, rfl, Nat.zero_le _, Lib.hid (by rw [HSM0.out]; simp), Lib.hid (ExtW.refl _)⟩
  case round =>
    obtain ⟨i, al, rfl, rfl, hin, HAL, HE⟩ := hrel
    by_cases hlt : i < m
    · have hli : (i : Int) < (m : Int) := Int.ofNat_lt.mpr hlt
      have hi0 : (0 : Int) ≤ (i : Int) := Int.natCast_nonneg _
      have hin2 : aN + i < n := by have := HB0.out; omega
      obtain ⟨ai, hai⟩ : ∃ k, k = aN + i := ⟨_, rfl⟩
      have hli2 : (ai : Int) < (n : Int) := by omega
      have hi2 : (0 : Int) ≤ (ai : Int) := Int.natCast_nonneg _
      have hsum : IntKind.i64.wrap ((aN : Int) + (i : Int)) = (ai : Int) := by rw [IntWalk.i64_in _ (by omega)]; omega
      cases al with
      | true =>
        have hal : bs = pl ∧ t.take i = (s.drop aN).take i := of_decide_eq_true HAL.out.symm
        obtain ⟨a, ha⟩ : ∃ a, t[i]? = some a := ⟨_, List.getElem?_eq_getElem (by rw [HM.out]; exact hlt)⟩
        obtain ⟨b, hb⟩ : ∃ b, s[ai]? = some b := ⟨_, List.getElem?_eq_getElem (by rw [HN.out, hai]; exact hin2)⟩
        cases hA : A1 with
        | none => have h3 := HBS8.out.nil0 hA; have h4 := HBS8.out.nc; omega
        | some pa =>
        cases hB : B1 with
        | none => have h3 := HBT8.out.nil0 hB; have h4 := HBT8.out.nc; omega
        | some pb =>
        obtain ⟨D, q, dd, hcell, hrd⟩ := HBT8.out.row pb hB i a ha
        obtain ⟨F, r, ff, hcell2, hrd2⟩ := HBS8.out.row pa hA ai b hb
        subst hA hB
        have HC1 := Lib.hid (HE.out.cellAt hcell)
        have HC2 := Lib.hid (HE.out.cellAt hcell2)
        have HR1 := Lib.hid (hrd.below HE.out (Nat.le_refl _))
        have HR2 := Lib.hid (hrd2.below HE.out (Nat.le_refl _))
        have HTK : Hid ((t.take (i + 1) = (s.drop aN).take (i + 1)) ↔ a = b) := Lib.hid (take_eq_succ hal.2 ha (by rw [List.getElem?_drop, ← hai]; exact hb))
        have HBP : Hid (bs = pl) := Lib.hid hal.1
        obtain ⟨al', hal'⟩ : ∃ al' : Bool, al' = decide (a = b) := ⟨_, rfl⟩
        have HALN := Lib.hid hal'
        clear hcell hcell2 hrd hrd2 ha hb hal hal' hlt hin2 hin hai
        go_upto_region 17 with (fail)
        apply wp_region_ext_tail 16 _ (by kernel_rfl) (by kernel_rfl)
        simp only [List.take_succ_cons, List.take_zero, List.drop_succ_cons, List.drop_zero]
        iterate 5 (apply wpZ_det; (intro wq hE hG; first | exact obl_non (by rfl) | (apply obl_val (by rfl); go_simp <;> rfl)); (intro ak hak; simp only [Act.put, List.setIfInBounds_toArray, List.set_cons_succ, List.set_cons_zero] at hak; subst hak))
        (apply wpZ_det; (intro wq hE hG; have kk := (ExtW.of_drew hE).cellAt HC1.out; apply obl_val (by rfl); go_simp <;> rfl); (intro ak hak; simp only [Act.put, List.setIfInBounds_toArray, List.set_cons_succ, List.set_cons_zero] at hak; subst hak))
        (apply wpZ_det; (intro wq hE hG; have kk := conv_str (HR1.out.below (ExtW.of_drew hE) (Nat.le_refl _)); apply obl_val (by rfl); go_simp <;> rfl); (intro ak hak; simp only [Act.put, List.setIfInBounds_toArray, List.set_cons_succ, List.set_cons_zero] at hak; subst hak))
        iterate 3 (apply wpZ_det; (intro wq hE hG; first | exact obl_non (by rfl) | (apply obl_val (by rfl); go_simp <;> rfl)); (intro ak hak; simp only [Act.put, List.setIfInBounds_toArray, List.set_cons_succ, List.set_cons_zero] at hak; subst hak))
        (apply wpZ_det; (intro wq hE hG; first | exact obl_non (by rfl) | (apply obl_val (by rfl); go_simp <;> rfl)); (intro ak hak; simp only [Act.put, List.setIfInBounds_toArray, List.set_cons_succ, List.set_cons_zero] at hak; subst hak))
        (apply wpZ_det; (intro wq hE hG; first | exact obl_non (by rfl) | (apply obl_val (by rfl); go_simp <;> rfl)); (intro ak hak; simp only [Act.put, List.setIfInBounds_toArray, List.set_cons_succ, List.set_cons_zero] at hak; subst hak))
        (apply wpZ_det; (intro wq hE hG; have kk := (ExtW.of_drew hE).cellAt HC2.out; apply obl_val (by rfl); go_simp <;> rfl); (intro ak hak; simp only [Act.put, List.setIfInBounds_toArray, List.set_cons_succ, List.set_cons_zero] at hak; subst hak))
        (apply wpZ_det; (intro wq hE hG; have kk := conv_str (HR2.out.below (ExtW.of_drew hE) (Nat.le_refl _)); apply obl_val (by rfl); go_simp <;> rfl); (intro ak hak; simp only [Act.put, List.setIfInBounds_toArray, List.set_cons_succ, List.set_cons_zero] at hak; subst hak))
        (apply wpZ_det (c := .bool al'); (intro wq hE hG; exact obl_same (by rfl) (by go_simp; rfl) (by rw [HALN.out, list_beq])); (intro ak hak; simp only [Act.put, List.setIfInBounds_toArray, List.set_cons_succ, List.set_cons_zero] at hak; subst hak))
        (apply wpZ_det; (intro wq hE hG; first | exact obl_non (by rfl) | (apply obl_val (by rfl); go_simp <;> rfl)); (intro ak hak; simp only [Act.put, List.setIfInBounds_toArray, List.set_cons_succ, List.set_cons_zero] at hak; subst hak))
        (apply wpZ_nil; intro wq hE hG)
        have HEQ := Lib.hid (ExtW.trans HE.out (ExtW.of_drew hE))
        clear hE hG
        go_wp2_with fail
        go_roundw
        case rel => exact ⟨i + 1, al', by simp, rfl, Int.ofNat_lt.mp hli, Lib.hid (by
          rw [HALN.out]
          by_cases hab : a = b
          · rw [decide_eq_true hab, decide_eq_true ⟨HBP.out, HTK.out.2 hab⟩]
          · rw [decide_eq_false hab, decide_eq_false fun h => hab (HTK.out.1 h.2)]), HEQ⟩
        case measure => simp [intOf]; omega
      | false =>
        have HNX : Hid (¬ (bs = pl ∧ t.take (i + 1) = (s.drop aN).take (i + 1))) := Lib.hid fun h => of_decide_eq_false HAL.out.symm ⟨h.1, by
          have h2 := congrArg (List.take i) h.2
          rwa [List.take_take, List.take_take, Nat.min_eq_left (Nat.le_succ i)] at h2⟩
        clear hlt hin2 hin hai
        go_upto_region 17 with (fail)
        apply wp_region_ext_tail 16 _ (by kernel_rfl) (by kernel_rfl)
        simp only [List.take_succ_cons, List.take_zero, List.drop_succ_cons, List.drop_zero]
        iterate 16 (apply wpZ_det; (intro wq hE hG; first | exact obl_non (by rfl) | (apply obl_val (by rfl); go_simp <;> rfl)); (intro ak hak; simp only [Act.put, List.setIfInBounds_toArray, List.set_cons_succ, List.set_cons_zero] at hak; subst hak))
        (apply wpZ_nil; intro wq hE hG)
        have HEQ := Lib.hid (ExtW.trans HE.out (ExtW.of_drew hE))
        clear hE hG
        go_wp2_with fail
        go_roundw
        case rel => exact ⟨i + 1, false, by simp, rfl, Int.ofNat_lt.mp hli, Lib.hid (decide_eq_false HNX.out).symm, HEQ⟩
        case measure => simp [intOf]; omega
    · have hli : ¬ (i : Int) < (m : Int) := fun h => hlt (Int.ofNat_lt.mp h)
      have him : i = m := Nat.le_antisymm hin (Nat.le_of_not_lt hlt)
      have HFU : Hid (t.take i = t) := Lib.hid (List.take_of_length_le (by rw [HM.out]; exact Nat.le_of_eq him.symm))
      have HDR : Hid ((s.drop aN).take i = (s.drop aN).take m) := Lib.hid (by rw [him])
      have HPI := Lib.hid (part_iff (s := s) (t := t) (aN := aN) (m := m) HM.out (by rw [HN.out]; exact HB0.out.2))
      clear him hlt hin
      cases al with
      | true =>
        have hal := of_decide_eq_true HAL.out.symm
        rw [HFU.out, HDR.out] at hal
        have HOO : Hid (T.ofRD (bitsN x) s (aN : Int) t pl = none) := Lib.hid (by
          rw [← hal.1, HB.out]
          exact T.ofRD_real (bitsN x) HM.out HB0.out.1 (Int.natCast_nonneg _) (by rw [HN.out]; have := HB0.out.2; omega) (HPI.out.1 hal.2))
        clear hal
        have HON := HO.out
        rw [HOO.out] at HON
        obtain ⟨_, h3⟩ := HON
        simp only at h3
        injection h3 with h3
        injection h3 with h3
        simp at h3
        obtain ⟨⟨rfl, rfl, rfl⟩, ⟨rfl, rfl, rfl⟩, rfl⟩ := h3
        have HEZ := Lib.hid (ExtW.trans HW5.out (ExtW.trans HW8.out HE.out))
        go_wp2
        go_ret
        exact ⟨rfl, HEZ.out⟩
      | false =>
        have hal := of_decide_eq_false HAL.out.symm
        rw [HFU.out, HDR.out] at hal
        have hsm := T.ofRD_some HM.out HCT.out HP5.out.all (fun h => hal ⟨by rw [HB.out]; exact h.1.symm, HPI.out.2 h.2⟩)
        clear hal
        obtain ⟨u, v, huv, hne2, hcl⟩ := hsm
        have hsz := T.ofRD_small (M := 101) (by decide) (fun y hy => Nat.succ_le_succ (HTV.out y hy)) (fun y hy => Nat.succ_le_succ (HLV.out y hy)) HP5.out.all huv
        have HON := HO.out
        rw [huv] at HON
        obtain ⟨_, ra', rl', rc', rb', rm', rd', h3, hru, hrv⟩ := HON
        injection h3 with h3
        injection h3 with h3
        simp at h3
        obtain ⟨⟨rfl, rfl, rfl⟩, ⟨rfl, rfl, rfl⟩, rfl⟩ := h3
        have HRU2 := Lib.hid (hru.below (ExtW.trans HW8.out HE.out) (Nat.le_refl _))
        have HRV2 := Lib.hid (hrv.below (ExtW.trans HW8.out HE.out) (Nat.le_refl _))
        have HLU : Hid (rl ≤ 101) := Lib.hid (by have h := hru.len; rw [bvs_len] at h; omega)
        have HLW : Hid (rm ≤ 101) := Lib.hid (by have h := hrv.len; rw [bvs_len] at h; omega)
        have HNE2 := Lib.hid hne2
        have HCL := Lib.hid hcl
        clear huv hne2 hcl hsz hru hrv
        have s1 := conv_str HRU2.out
        have s2 := conv_str HRV2.out
        obtain ⟨sx, hsx⟩ : ∃ s, s = (⟨u.toArray⟩ : ByteArray) := ⟨_, rfl⟩
        obtain ⟨sy, hsy⟩ : ∃ s, s = (⟨v.toArray⟩ : ByteArray) := ⟨_, rfl⟩
        have hs2 : (sx.toList == sy.toList) = false := by
          rw [beq_eq_false_iff_ne, hsx, hsy, ByteArray.toList_eq, ByteArray.toList_eq]
          simpa using HNE2.out
        have hss : ¬ sx = sy := fun e => HNE2.out (ba_inj (by rw [← hsx, ← hsy, e]))
        rw [← hsx] at s1
        rw [← hsy] at s2
        clear hsx hsy
        have k1 := (ExtW.trans HW8.out HE.out).cellAt HT5.out
        go_wp2_with fail
        refine (cot_any x HX.out ra rl rc u rb rm rd v wr HRU2.out (Nat.le_trans HLU.out (by decide)) HRV2.out (Nat.le_trans HLW.out (by decide))).mono ?_
        rintro e w9 ⟨rfl, hb⟩
        rw [HCL.out]
        have HEZ := Lib.hid (ExtW.trans HW5.out (ExtW.trans (ExtW.trans HW8.out HE.out) hb))
        clear hb s1 s2 hs2 hss k1
        go_wp2
        go_ret
        exact ⟨rfl, HEZ.out⟩
end Go.Proofs.Ythaoibgcgkmnbaa
