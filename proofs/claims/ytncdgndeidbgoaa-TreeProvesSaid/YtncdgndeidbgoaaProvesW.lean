/- Walk of TreeProves. -/
import Derived.Test.YtncdgndeidbgoaaS5
import Derived.Test.YtncdgndeidbgoaaSmall5
import Derived.Test.YtncdgndeidbgoaaTq
import Derived.Test.YtncdgndeidbgoaaBit
namespace Go.Proofs.Ytncdgndeidbgoaa
open Go.RowKit

/-- digests appended to an empty list of the call's own -/
theorem wpList_append_dls {ops : Array Oper} {rest : List Oper} {o : Oper} {a : Act} {w : World} {Q : Exit → Act → World → Prop} (hgd : o.guard = none) (s x : Operand)
    (ho : o.op = .call { callee := .builtin .append, args := #[s, x], argTypes := #[40, 40] }) {base : Nat} {l : List (List UInt8)} {v : Value} {A : Option Addr} {m c : Nat} {ds : List (List UInt8)}
    (hs : a.eval s = v) (hx : a.eval x = .slice A m c) (h0 : OwnDs base l v w) (hd : Dls w A m c ds) (hl : l.length + m ≤ 1000000) (hb : base ≤ w.heap.size)
    (h : ∀ v' w', OwnDs base (l ++ ds) v' w' → Below base w w' → wpList Try.prog ops Q rest (a.put o.dst v') w') : wpList Try.prog ops Q (o :: rest) a w := by
  obtain ⟨i0, hi, hz0, hz1, hz2⟩ := info_parts infoD
  refine wpList_append_appd w hgd s x 40 ho base 24 i0 _ 32 32 Try.underlying40 hi hz0 hz1 hz2 rfl (by omega) v l.length (dcs l) hs (.inr h0) A m c (dcs ds) hx hd.rd (dcs_one _) (by simp [maxLen]; omega) (by omega) hb (.inl h0) ?_
  intro v' w' h1 h2 _
  refine h v' w' ?_ h2
  unfold OwnDs
  rw [dcs_app, List.length_append, hd.len]
  exact h1
theorem OwnDs.empty (w : World) (base : Nat) (hb : base ≤ w.heap.size) : OwnDs base [] (.slice (some ⟨w.heap.size, 0, none⟩) 0 0) (w.alloc (.cells #[] 24)) :=
  ⟨rfl, .inr ⟨w.heap.size, 0, #[], rfl, hb, heap_alloc_new w _, Nat.le_refl _, by simp [maxLen], rfl, rfl⟩⟩

set_option maxHeartbeats 20000000 in
set_option maxRecDepth 100000 in
theorem treeProves_walk (x : Int) (A : Option Addr) (n0 c0 : Nat) (l : List (List UInt8)) (fr tt : Int) (w : World) (hx : -9223372036854775808 ≤ x ∧ x ≤ 9223372036854775807) (hr : Bss w A n0 c0 l) (_hc : c0 ≤ 140737488351232) (_hf : -9223372036854775808 ≤ fr ∧ fr ≤ 9223372036854775807) (_ht : -9223372036854775808 ≤ tt ∧ tt ≤ 9223372036854775807) :
    Calls Try.prog 7 #[.int .i64 x, .slice A n0 c0, .int .i64 fr, .int .i64 tt] w fun e w' => e = .returned (.bool true) ∧ Below w.heap.size w w' := by
  have HX := Lib.hid hx
  have HR := Lib.hid hr
  clear hr hx _hc _hf _ht
  obtain ⟨f1, hf1, hf1b⟩ := low16 fr
  obtain ⟨f2, hf2, hf2b⟩ := low16 tt
  go_enter Try.func7, Try.ntmps7
  go_wp2_with fail
  refine (shown_any _).mono ?_
  rintro e w1 ⟨rfl, hb1⟩
  have HE1 := Lib.hid hb1
  clear hb1
  go_wp2_with fail
  refine (small_any A n0 c0 l _ (HR.out.same HE1.out)).mono ?_
  rintro e w2 ⟨v, rfl, hlot, hb⟩
  have HE2 := Lib.hid (ExtW.trans HE1.out hb)
  obtain ⟨s, hs⟩ : ∃ s, s = smallL l := ⟨_, rfl⟩
  have HLV : Hid (Lv s) := Lib.hid (fun y hy => Nat.le_trans (smallL_lv l y (by rw [← hs]; exact hy)) (by decide))
  have hsn := smallL_len l
  rw [← hs] at hlot hsn
  obtain ⟨B, c, rfl, hbs⟩ := hlot.bss
  obtain ⟨n, hn⟩ : ∃ n, n = s.length := ⟨_, rfl⟩
  rw [← hn] at hbs hsn ⊢
  have HB2 := Lib.hid hbs
  have HN : Hid (s.length = n) := Lib.hid hn.symm
  have hnc := hbs.nc
  clear hb hlot hbs hs hn HE1
  by_cases h0 : n = 0
  · have hne0 : ((n : Int) == 0) = true := by rw [beq_iff_eq]; omega
    subst h0
    go_wp2
    go_ret
    exact ⟨rfl, HE2.out⟩
  have hne0 : ((n : Int) == 0) = false := by rw [beq_eq_false_iff_ne]; omega
  have HC0 := Lib.hid (cell_new1 w2 (.int .i64 x) 30)
  have HE3 : Hid (ExtW w2 (w2.alloc (.cells #[.int .i64 x] 30))) := Lib.hid ((Below.refl _ _).alloc (Nat.le_refl _) _)
  go_upto_region 6 with (fail)
  generalize w2.alloc (.cells #[.int .i64 x] 30) = w3 at HC0 HE3 ⊢
  obtain ⟨gt, hgt⟩ : ∃ g, g = w2.heap.size := ⟨_, rfl⟩
  rw [← hgt] at HC0 ⊢
  have HE4 := Lib.hid (ExtW.trans HE2.out HE3.out)
  have HB3 := Lib.hid (HB2.out.same HE3.out)
  clear hgt HE3 HE2 HB2
  have k7 := HC0.out
  go_wp2_with fail
  refine (root_any x HX.out (n + 1) B n c s _ (by omega) HB3.out HLV.out).mono ?_
  rintro e w4 ⟨rfl, hb⟩
  have HB4 := Lib.hid hb
  clear hb k7
  obtain ⟨rt, hrt⟩ : ∃ d, d = T.rootD (bitsN x) s := ⟨_, rfl⟩
  have HRT := Lib.hid hrt
  have HRTL : Hid (rt.length = 32) := Lib.hid (by rw [hrt]; exact T.rootD_len _ _)
  rw [← hrt]
  clear hrt
  go_upto_region 7 with (first
    | (refine wpList_newD rfl rfl ?_)
    | (refine wpList_newst rfl rfl rfl HRTL.out (d0 := List.replicate 32 0) rfl rfl rfl (zDig_row _) ?_))
  have HRR := Lib.hid (stD_row w4 rt)
  have HE5 := Lib.hid (ExtW.trans HB4.out (stD_ext w4 rt))
  generalize (w4.alloc (.cells zDig 24)).setRow w4.heap.size (bvs rt).toArray = w5 at HRR HE5 ⊢
  obtain ⟨grt, hgr⟩ : ∃ g, g = w4.heap.size := ⟨_, rfl⟩
  rw [← hgr] at HRR ⊢
  have HC5 := Lib.hid (HE5.out.cellAt HC0.out)
  have HB5 := Lib.hid (HB3.out.same HE5.out)
  have HE6 := Lib.hid (ExtW.trans HE4.out HE5.out)
  clear hgr HC0 HB4 HB3 HE4 HE5
  obtain ⟨i, hi⟩ : ∃ i, i = f1 % n := ⟨_, rfl⟩
  have hin : i < n := by rw [hi]; exact Nat.mod_lt _ (by omega)
  have hm1 : (f1 : Int) % (n : Int) = (i : Int) := by rw [hi]; omega
  have hm1' : (f1 : Int).tmod (n : Int) = (i : Int) := by rw [Int.tmod_eq_emod_of_nonneg (by omega)]; exact hm1
  obtain ⟨j, hj⟩ : ∃ j, j = f2 % (n - i) := ⟨_, rfl⟩
  have hjn : j < n - i := by rw [hj]; exact Nat.mod_lt _ (by omega)
  have hsb : IntKind.i64.wrap ((n : Int) - (i : Int)) = ((n - i : Nat) : Int) := by rw [IntWalk.i64_in _ (by omega)]; omega
  have hm2 : (f2 : Int) % ((n - i : Nat) : Int) = (j : Int) := by rw [hj]; omega
  have hm2' : (f2 : Int).tmod ((n - i : Nat) : Int) = (j : Int) := by rw [Int.tmod_eq_emod_of_nonneg (by omega)]; exact hm2
  obtain ⟨k, hk⟩ : ∃ k, k = i + 1 + j := ⟨_, rfl⟩
  have hkn : k ≤ n := by omega
  have hik : i < k := by omega
  have hki : (i : Int) + 1 + (j : Int) = (k : Int) := by omega
  clear hi hj hk
  have k7 := HC5.out
  go_wp2_with fail
  refine (mpath_ok x HX.out B n c s i _ (by omega) hin HB5.out HLV.out).mono ?_
  rintro e w6 ⟨v, rfl, ho, hb⟩
  obtain ⟨P, hP⟩ : ∃ P, P = T.pathD (bitsN x) s i := ⟨_, rfl⟩
  have hPa : ∀ d ∈ P, d.length = 32 := by rw [hP]; exact T.pathD_len32 _ _ _
  rw [← hP] at ho
  obtain ⟨PA, pc, rfl, hdp⟩ := ho.dls hPa
  obtain ⟨pl, hpl⟩ : ∃ pl, pl = P.length := ⟨_, rfl⟩
  rw [← hpl] at hdp ⊢
  have hplb : pl ≤ n := by
    rw [hpl, hP]
    have h := T.pathD_le (bitsN x) s i
    rw [HN.out] at h
    exact h
  have HDP := Lib.hid hdp
  have HP := Lib.hid hP
  have HPL := Lib.hid hpl.symm
  have HE7 := Lib.hid (ExtW.trans HE6.out hb)
  have HC6 := Lib.hid (hb.cellAt HC5.out)
  have HRR6 := Lib.hid (HRR.out.ext hb)
  have HB6 := Lib.hid (HB5.out.same hb)
  clear hb ho hdp hP hpl hPa k7 HE6 HC5 HRR HB5 hf1 hf2 hm1 hm1' hm2 hm2' hsb hki
  have k7 := HC6.out
  go_wp2_with fail
  refine (mrange_ok x HX.out B n c s i k _ (by omega) (by omega) (by omega) (by omega) HB6.out HLV.out).mono ?_
  rintro e w7 ⟨v, rfl, ho, hb⟩
  obtain ⟨R, hR⟩ : ∃ R, R = T.besideD (bitsN x) s i k := ⟨_, rfl⟩
  have hRa : ∀ d ∈ R, d.length = 32 := by rw [hR]; exact T.besideD_len32 _ _ _ _
  rw [← hR] at ho
  obtain ⟨RA, rc, rfl, hdr⟩ := ho.dls hRa
  obtain ⟨rl, hrl⟩ : ∃ rl, rl = R.length := ⟨_, rfl⟩
  rw [← hrl] at hdr ⊢
  have hrlb : rl ≤ n := by
    rw [hrl, hR]
    have h := T.besideD_le (bitsN x) s i k (by rw [HN.out]; omega)
    rw [HN.out] at h
    exact h
  have HDR8 := Lib.hid hdr
  have HRD0 := Lib.hid hR
  have HRLN := Lib.hid hrl.symm
  have HE8 := Lib.hid (ExtW.trans HE7.out hb)
  have HC8 := Lib.hid (hb.cellAt HC6.out)
  have HRR8 := Lib.hid (HRR6.out.ext hb)
  have HB8 := Lib.hid (HB6.out.same hb)
  have HDP8 := Lib.hid (HDP.out.same hb)
  clear hb ho hdr hR hrl hRa k7 HE7 HC6 HRR6 HB6 HDP
  obtain ⟨y, hy⟩ : ∃ y, s[i]? = some y := ⟨_, List.getElem?_eq_getElem (by rw [HN.out]; exact hin)⟩
  cases hBB : B with
  | none => have := HB8.out.nil0 hBB; omega
  | some a =>
  obtain ⟨D, q, dd, hcell, hrd⟩ := HB8.out.row a hBB i y hy
  have HCY8 := Lib.hid hcell
  have HRD8 := Lib.hid hrd
  have HM : Hid (q ≤ 1000000) := Lib.hid (by
    have h1 := HLV.out y (List.mem_of_getElem? hy)
    have h2 := hrd.len
    rw [bvs_len] at h2
    omega)
  have HBC8 := Lib.hid (HB8.out.cutA (i := i) (k := k) (by omega) hkn)
  have HVC : Hid (Lv ((s.take k).drop i)) := Lib.hid ((HLV.out.take k).drop i)
  have hct := run_cutA B n c i k (by omega) hkn hnc
  have HCL : Hid (((s.take k).drop i).length = k - i) := Lib.hid (by rw [List.length_drop, List.length_take, HN.out]; omega)
  have HPO : Hid (R.length = T.popsD n i (k - i)) := Lib.hid (by
    have h := T.besideD_pops (bitsN x) (m := k - i) (s.length + 1) s i (by omega) (by rw [HN.out]; omega)
    rw [show (i : Int) + ((k - i : Nat) : Int) = (k : Int) by omega, ← HRD0.out, HN.out] at h
    exact h)
  have HDW : Hid (P.length = (T.downs n i).length) := Lib.hid (by rw [HP.out, T.pathD_len, HN.out])
  have C1 : Hid (T.checkD (bitsN x) rt n i y P = true) := Lib.hid (by rw [HRT.out, HP.out]; exact T.checkD_path _ HN.out hy)
  have C2 : Hid (T.checkRD (bitsN x) rt n i ((s.take k).drop i) R = true) := Lib.hid (by
    have h := T.checkRD_takes (bitsN x) (l := s) (part := (s.take k).drop i) (n := n) (m := k - i) (a := i) HN.out HCL.out (by omega) (fun p z hz h1 h2 => by
      rw [List.getElem?_drop, List.getElem?_take_of_lt (by omega), show i + ((p : Int) - (i : Int)).toNat = p by omega]
      exact hz)
    rw [show (i : Int) + ((k - i : Nat) : Int) = (k : Int) by omega, ← HRD0.out, ← HRT.out] at h
    exact h)
  have C3 : Hid (T.checkD (bitsN x) rt n i y (P ++ [rt]) = false) := Lib.hid (T.checkD_len _ _ _ (by rw [List.length_append, HDW.out]; simp))
  have C4 : Hid (T.checkRD (bitsN x) rt n i ((s.take k).drop i) (R ++ [rt]) = false) := Lib.hid (T.checkRD_many _ _ HCL.out (by rw [List.length_append, HPO.out]; simp))
  have C5 : Hid (0 < pl → T.checkD (bitsN x) rt n i y (P.drop 1) = false) := Lib.hid (fun h => T.checkD_len _ _ _ (by rw [List.length_drop, HDW.out, ← HDW.out, HPL.out]; omega))
  have C6 : Hid (0 < rl → T.checkRD (bitsN x) rt n i ((s.take k).drop i) (R.drop 1) = false) := Lib.hid (fun h => T.checkRD_few _ _ HCL.out (by rw [List.length_drop, ← HPO.out, HRLN.out]; omega))
  have C7 : Hid (T.checkD (bitsN x) rt n (-1) y P = false) := Lib.hid (by unfold T.checkD; rw [if_pos (by omega)])
  have C8 : Hid (T.checkD (bitsN x) rt n n y P = false) := Lib.hid (by unfold T.checkD; rw [if_pos (by omega)])
  have C9 : Hid (T.checkRD (bitsN x) rt n (-1) ((s.take k).drop i) R = false) := Lib.hid (T.checkRD_no HCL.out (by omega))
  have C10 : Hid (T.checkRD (bitsN x) rt n (((n - (k - i) : Nat) : Int) + 1) ((s.take k).drop i) R = false) := Lib.hid (T.checkRD_no HCL.out (by omega))
  have C11 : Hid (T.checkRD (bitsN x) rt 0 0 ((s.take k).drop i) R = false) := Lib.hid (T.checkRD_no HCL.out (by omega))
  clear hcell hrd hy
  subst hBB
  go_upto_region 12 with (fail)
  apply wp_region_ext _ (by kernel_rfl) (by kernel_rfl)
  iterate 7 (apply wpZ_det; (intro wq hE hG; first | exact obl_non (by rfl) | (apply obl_val (by rfl); go_simp; rfl)); (intro ak hak; simp only [Act.put, List.setIfInBounds_toArray, List.set_cons_succ, List.set_cons_zero] at hak; subst hak))
  (apply wpZ_det; (intro wq hE hG; have kk := (ExtW.of_drew hE).cellAt HC8.out; apply obl_val (by rfl); go_simp; rfl); (intro ak hak; simp only [Act.put, List.setIfInBounds_toArray, List.set_cons_succ, List.set_cons_zero] at hak; subst hak))
  (apply wpZ_det; (intro wq hE hG; exact obl_ldg (by rfl) rfl (by rfl) (HRR8.out.ext (ExtW.of_drew hE)) Try.underlying24 rfl (sizeD HRTL.out)); (intro ak hak; simp only [Act.put, List.setIfInBounds_toArray, List.set_cons_succ, List.set_cons_zero] at hak; subst hak))
  iterate 5 (apply wpZ_det; (intro wq hE hG; first | exact obl_non (by rfl) | (apply obl_val (by rfl); go_simp; rfl)); (intro ak hak; simp only [Act.put, List.setIfInBounds_toArray, List.set_cons_succ, List.set_cons_zero] at hak; subst hak))
  (apply wpZ_det; (intro wq hE hG; have kk := (ExtW.of_drew hE).cellAt HCY8.out; apply obl_val (by rfl); go_simp; rfl); (intro ak hak; simp only [Act.put, List.setIfInBounds_toArray, List.set_cons_succ, List.set_cons_zero] at hak; subst hak))
  (apply wpZ_det; (intro wq hE hG; first | exact obl_non (by rfl) | (apply obl_val (by rfl); go_simp; rfl)); (intro ak hak; simp only [Act.put, List.setIfInBounds_toArray, List.set_cons_succ, List.set_cons_zero] at hak; subst hak))
  (apply wpZ_det (c := .bool true); (intro wq hE hG; apply obl_on (by kernel_rfl); go_simp; simp only [extUpon_enter]; refine (mcheck_any x HX.out rt HRTL.out n i (by omega) D q dd y PA pl pc P wq (HRD8.out.below (ExtW.of_drew hE) (Nat.le_refl _)) HM.out (HDP8.out.same (ExtW.of_drew hE))).mono ?_; rintro e w' ⟨rfl, hb⟩; exact ⟨_, rfl, hb, by rw [C1.out]⟩); (intro ak hak; simp only [Act.put, List.setIfInBounds_toArray, List.set_cons_succ, List.set_cons_zero] at hak; subst hak))
  iterate 3 (apply wpZ_det; (intro wq hE hG; first | exact obl_non (by rfl) | (apply obl_val (by rfl); go_simp; rfl)); (intro ak hak; simp only [Act.put, List.setIfInBounds_toArray, List.set_cons_succ, List.set_cons_zero] at hak; subst hak))
  (apply wpZ_det; (intro wq hE hG; have kk := (ExtW.of_drew hE).cellAt HC8.out; apply obl_val (by rfl); go_simp; rfl); (intro ak hak; simp only [Act.put, List.setIfInBounds_toArray, List.set_cons_succ, List.set_cons_zero] at hak; subst hak))
  (apply wpZ_det; (intro wq hE hG; exact obl_ldg (by rfl) rfl (by rfl) (HRR8.out.ext (ExtW.of_drew hE)) Try.underlying24 rfl (sizeD HRTL.out)); (intro ak hak; simp only [Act.put, List.setIfInBounds_toArray, List.set_cons_succ, List.set_cons_zero] at hak; subst hak))
  iterate 7 (apply wpZ_det; (intro wq hE hG; first | exact obl_non (by rfl) | (apply obl_val (by rfl); go_simp; rfl)); (intro ak hak; simp only [Act.put, List.setIfInBounds_toArray, List.set_cons_succ, List.set_cons_zero] at hak; subst hak))
  (apply wpZ_det (c := .bool true); (intro wq hE hG; apply obl_on (by kernel_rfl); go_simp; simp only [extUpon_enter]; refine (mcr_any x HX.out rt HRTL.out n i (by omega) (cutA (some a) c i) (k - i) (c - i) ((s.take k).drop i) RA rl rc R wq (HBC8.out.same (ExtW.of_drew hE)) HVC.out (by omega) (HDR8.out.same (ExtW.of_drew hE))).mono ?_; rintro e w' ⟨rfl, hb⟩; exact ⟨_, rfl, hb, by rw [C2.out]⟩); (intro ak hak; simp only [Act.put, List.setIfInBounds_toArray, List.set_cons_succ, List.set_cons_zero] at hak; subst hak))
  iterate 2 (apply wpZ_det; (intro wq hE hG; first | exact obl_non (by rfl) | (apply obl_val (by rfl); go_simp; rfl)); (intro ak hak; simp only [Act.put, List.setIfInBounds_toArray, List.set_cons_succ, List.set_cons_zero] at hak; subst hak))
  (apply wpZ_nil; intro wq hE hG)
  have HX8 := Lib.hid (ExtW.of_drew hE)
  clear hE hG
  have HE9 := Lib.hid (ExtW.trans HE8.out HX8.out)
  have HC9 := Lib.hid (HX8.out.cellAt HC8.out)
  have HRR9 := Lib.hid (HRR8.out.ext HX8.out)
  have HDP9 := Lib.hid (HDP8.out.same HX8.out)
  have HDR9 := Lib.hid (HDR8.out.same HX8.out)
  have HCY9 := Lib.hid (HX8.out.cellAt HCY8.out)
  have HRD9 := Lib.hid (HRD8.out.below HX8.out (Nat.le_refl _))
  have HBC9 := Lib.hid (HBC8.out.same HX8.out)
  clear HE8 HC8 HRR8 HDP8 HDR8 HCY8 HRD8 HBC8 HX8 HB8
  have HSRT : Hid ((bvs rt).toArray.size = 32) := Lib.hid (dg_size HRTL.out)
  go_upto_region 14 with (fail)
  -- more
  have HEMP : Hid (OwnDs wq.heap.size [] (.slice (some ⟨wq.heap.size, 0, none⟩) 0 0) (wq.alloc (.cells #[] 24))) := Lib.hid (OwnDs.empty wq _ (Nat.le_refl _))
  have HXA : Hid (ExtW wq (wq.alloc (.cells #[] 24))) := Lib.hid ((Below.refl _ _).alloc (Nat.le_refl _) _)
  go_upto_region 15 with (at_builtin; generalize wq.alloc (.cells #[] 24) = wa at HEMP HXA ⊢; refine wpList_append_dls rfl _ _ rfl rfl rfl HEMP.out (HDP9.out.same HXA.out) (by simp; omega) HXA.out.size ?_; intro v1 wb hov hbv; have HO1 := Lib.hid hov; have HX1 := Lib.hid (Below.trans HXA.out hbv); clear hov hbv)
  rw [List.nil_append] at HO1
  have HRRb := Lib.hid (HRR9.out.ext HX1.out)
  have HBLD : Hid (Row (wb.alloc (.cells (bvs rt).toArray 24)) wb.heap.size 24 (bvs rt)) := Lib.hid (heap_alloc_last _ _)
  have HXB : Hid (ExtW wb (wb.alloc (.cells (bvs rt).toArray 24))) := Lib.hid ((Below.refl _ _).alloc (Nat.le_refl _) _)
  clear HEMP HXA
  go_upto_region 16 with (first
    | (refine wpList_ld rfl rfl ?_; refine ⟨grt, _, _, _, rfl, HRRb.out, Try.underlying24, rfl, by rw [HSRT.out]; kernel_rfl, ?_⟩)
    | (refine wpList_build1 rfl rfl HRTL.out rfl ?_; generalize wb.alloc (.cells (bvs rt).toArray 24) = wc1 at HBLD HXB ⊢)
    | (at_builtin; refine wpList_append_ds rfl _ _ rfl rfl HRTL.out rfl rfl (OwnDs.mono _ _ _ _ _ HO1.out HXB.out) HBLD.out (by rw [HPL.out]; omega) (ExtW.trans HX1.out HXB.out).size ?_; intro v2 wd hov hbv; have HO2 := Lib.hid hov; have HX2 : Hid (ExtW wq wd) := Lib.hid (Below.trans (ExtW.trans HX1.out HXB.out) hbv); clear hov hbv))
  clear HO1 HX1 HRRb HBLD HXB
  -- wide
  have HRRd := Lib.hid (HRR9.out.ext HX2.out)
  have HDRd := Lib.hid (HDR9.out.same HX2.out)
  have HEMP : Hid (OwnDs wd.heap.size [] (.slice (some ⟨wd.heap.size, 0, none⟩) 0 0) (wd.alloc (.cells #[] 24))) := Lib.hid (OwnDs.empty wd _ (Nat.le_refl _))
  have HXA : Hid (ExtW wd (wd.alloc (.cells #[] 24))) := Lib.hid ((Below.refl _ _).alloc (Nat.le_refl _) _)
  go_upto_region 17 with (at_builtin; generalize wd.alloc (.cells #[] 24) = wa at HEMP HXA ⊢; refine wpList_append_dls rfl _ _ rfl rfl rfl HEMP.out (HDRd.out.same HXA.out) (by simp; omega) HXA.out.size ?_; intro v3 we hov hbv; have HO3 := Lib.hid hov; have HX3 := Lib.hid (Below.trans HXA.out hbv); clear hov hbv)
  rw [List.nil_append] at HO3
  have HRRe := Lib.hid (HRRd.out.ext HX3.out)
  have HBLD : Hid (Row (we.alloc (.cells (bvs rt).toArray 24)) we.heap.size 24 (bvs rt)) := Lib.hid (heap_alloc_last _ _)
  have HXB : Hid (ExtW we (we.alloc (.cells (bvs rt).toArray 24))) := Lib.hid ((Below.refl _ _).alloc (Nat.le_refl _) _)
  clear HEMP HXA HRRd HDRd
  go_upto_region 18 with (first
    | (refine wpList_ld rfl rfl ?_; refine ⟨grt, _, _, _, rfl, HRRe.out, Try.underlying24, rfl, by rw [HSRT.out]; kernel_rfl, ?_⟩)
    | (refine wpList_build1 rfl rfl HRTL.out rfl ?_; generalize we.alloc (.cells (bvs rt).toArray 24) = wc2 at HBLD HXB ⊢)
    | (at_builtin; refine wpList_append_ds rfl _ _ rfl rfl HRTL.out rfl rfl (OwnDs.mono _ _ _ _ _ HO3.out HXB.out) HBLD.out (by rw [HRLN.out]; omega) (ExtW.trans HX3.out HXB.out).size ?_; intro v4 wf hov hbv; have HO4 := Lib.hid hov; have HX4 : Hid (ExtW wd wf) := Lib.hid (Below.trans (ExtW.trans HX3.out HXB.out) hbv); clear hov hbv))
  clear HO3 HX3 HRRe HBLD HXB
  have hpa : ∀ d ∈ P ++ [rt], d.length = 32 := by
    intro d hd
    rcases List.mem_append.1 hd with h | h
    · exact HDP9.out.all d h
    · rw [List.mem_singleton] at h; rw [h]; exact HRTL.out
  have hra : ∀ d ∈ R ++ [rt], d.length = 32 := by
    intro d hd
    rcases List.mem_append.1 hd with h | h
    · exact HDR9.out.all d h
    · rw [List.mem_singleton] at h; rw [h]; exact HRTL.out
  obtain ⟨MA, mc, rfl, hmo⟩ := (OwnDs.mono _ _ _ _ _ HO2.out HX4.out).dls hpa
  obtain ⟨WA, wc, rfl, hwi⟩ := HO4.out.dls hra
  rw [show (P ++ [rt]).length = pl + 1 by rw [List.length_append, HPL.out]; rfl] at hmo ⊢
  rw [show (R ++ [rt]).length = rl + 1 by rw [List.length_append, HRLN.out]; rfl] at hwi ⊢
  have HMO := Lib.hid hmo
  have HWI := Lib.hid hwi
  have HX5 := Lib.hid (ExtW.trans HX2.out HX4.out)
  have HE10 := Lib.hid (ExtW.trans HE9.out HX5.out)
  have HC10 := Lib.hid (HX5.out.cellAt HC9.out)
  have HRR10 := Lib.hid (HRR9.out.ext HX5.out)
  have HDP10 := Lib.hid (HDP9.out.same HX5.out)
  have HDR10 := Lib.hid (HDR9.out.same HX5.out)
  have HCY10 := Lib.hid (HX5.out.cellAt HCY9.out)
  have HRD10 := Lib.hid (HRD9.out.below HX5.out (Nat.le_refl _))
  have HBC10 := Lib.hid (HBC9.out.same HX5.out)
  have hpc := HDP10.out.rd.nc
  have hrc := HDR10.out.rd.nc
  have hplz : (pl = 0 ∧ decide (0 < pl) = false) ∨ (0 < pl ∧ decide (0 < pl) = true) := by rcases Nat.eq_zero_or_pos pl with h | h; exact .inl ⟨h, by rw [decide_eq_false_iff_not]; omega⟩; exact .inr ⟨h, by rw [decide_eq_true_eq]; omega⟩
  have hrlz : (rl = 0 ∧ decide (0 < rl) = false) ∨ (0 < rl ∧ decide (0 < rl) = true) := by rcases Nat.eq_zero_or_pos rl with h | h; exact .inl ⟨h, by rw [decide_eq_false_iff_not]; omega⟩; exact .inr ⟨h, by rw [decide_eq_true_eq]; omega⟩
  have HS3 : Hid (IntKind.i64.wrap (((n - (k - i) : Nat) : Int) + 1) = ((n - (k - i) : Nat) : Int) + 1) := Lib.hid (IntWalk.i64_in _ (by omega))
  clear HE9 HC9 HRR9 HDP9 HDR9 HCY9 HRD9 HBC9 hpa hra hmo hwi HO2 HO4 HX2 HX4 HX5
  rcases hplz with ⟨hz1, hplt⟩ | ⟨hplz, hplt⟩ <;> rcases hrlz with ⟨hz2, hrlt⟩ | ⟨hrlz, hrlt⟩
  all_goals
    (try clear hz1)
    (try clear hz2)
    first
      | (have hdp1 : ∀ W, (Instr.slice 40 (.slice PA pl pc) (some (.int .i64 1)) none none).run Try.prog W = .ok (.slice (dropD PA pc 1) (pl - 1) (pc - 1)) W := fun W => run_dropD PA pl pc 1 hplz hpc W)
      | skip
    first
      | (have hdr1 : ∀ W, (Instr.slice 40 (.slice RA rl rc) (some (.int .i64 1)) none none).run Try.prog W = .ok (.slice (dropD RA rc 1) (rl - 1) (rc - 1)) W := fun W => run_dropD RA rl rc 1 hrlz hrc W)
      | skip
    apply wp_region_ext _ (by kernel_rfl) (by kernel_rfl)
    (apply wpZ_det; (intro wq hE hG; have kk := (ExtW.of_drew hE).cellAt HC10.out; apply obl_val (by rfl); go_simp; rfl); (intro ak hak; simp only [Act.put, List.setIfInBounds_toArray, List.set_cons_succ, List.set_cons_zero] at hak; subst hak))
    (apply wpZ_det; (intro wq hE hG; exact obl_ldg (by rfl) rfl (by rfl) (HRR10.out.ext (ExtW.of_drew hE)) Try.underlying24 rfl (sizeD HRTL.out)); (intro ak hak; simp only [Act.put, List.setIfInBounds_toArray, List.set_cons_succ, List.set_cons_zero] at hak; subst hak))
    iterate 5 (apply wpZ_det; (intro wq hE hG; first | exact obl_non (by rfl) | (apply obl_val (by rfl); go_simp; rfl)); (intro ak hak; simp only [Act.put, List.setIfInBounds_toArray, List.set_cons_succ, List.set_cons_zero] at hak; subst hak))
    (apply wpZ_det; (intro wq hE hG; have kk := (ExtW.of_drew hE).cellAt HCY10.out; apply obl_val (by rfl); go_simp; rfl); (intro ak hak; simp only [Act.put, List.setIfInBounds_toArray, List.set_cons_succ, List.set_cons_zero] at hak; subst hak))
    (apply wpZ_det; (intro wq hE hG; first | exact obl_non (by rfl) | (apply obl_val (by rfl); go_simp; rfl)); (intro ak hak; simp only [Act.put, List.setIfInBounds_toArray, List.set_cons_succ, List.set_cons_zero] at hak; subst hak))
    (apply wpZ_det (c := .bool false); (intro wq hE hG; apply obl_on (by kernel_rfl); go_simp; simp only [extUpon_enter]; refine (mcheck_any x HX.out rt HRTL.out n i (by omega) D q dd y MA (pl + 1) mc (P ++ [rt]) wq (HRD10.out.below (ExtW.of_drew hE) (Nat.le_refl _)) HM.out (HMO.out.same (ExtW.of_drew hE))).mono ?_; rintro e w' ⟨rfl, hb⟩; exact ⟨_, rfl, hb, by rw [C3.out]⟩); (intro ak hak; simp only [Act.put, List.setIfInBounds_toArray, List.set_cons_succ, List.set_cons_zero] at hak; subst hak))
    (apply wpZ_det; (intro wq hE hG; first | exact obl_non (by rfl) | (apply obl_val (by rfl); go_simp; rfl)); (intro ak hak; simp only [Act.put, List.setIfInBounds_toArray, List.set_cons_succ, List.set_cons_zero] at hak; subst hak))
    (apply wpZ_det; (intro wq hE hG; have kk := (ExtW.of_drew hE).cellAt HC10.out; apply obl_val (by rfl); go_simp; rfl); (intro ak hak; simp only [Act.put, List.setIfInBounds_toArray, List.set_cons_succ, List.set_cons_zero] at hak; subst hak))
    (apply wpZ_det; (intro wq hE hG; exact obl_ldg (by rfl) rfl (by rfl) (HRR10.out.ext (ExtW.of_drew hE)) Try.underlying24 rfl (sizeD HRTL.out)); (intro ak hak; simp only [Act.put, List.setIfInBounds_toArray, List.set_cons_succ, List.set_cons_zero] at hak; subst hak))
    iterate 7 (apply wpZ_det; (intro wq hE hG; first | exact obl_non (by rfl) | (apply obl_val (by rfl); go_simp; rfl)); (intro ak hak; simp only [Act.put, List.setIfInBounds_toArray, List.set_cons_succ, List.set_cons_zero] at hak; subst hak))
    (apply wpZ_det (c := .bool false); (intro wq hE hG; apply obl_on (by kernel_rfl); go_simp; simp only [extUpon_enter]; refine (mcr_any x HX.out rt HRTL.out n i (by omega) (cutA (some a) c i) (k - i) (c - i) ((s.take k).drop i) WA (rl + 1) wc (R ++ [rt]) wq (HBC10.out.same (ExtW.of_drew hE)) HVC.out (by omega) (HWI.out.same (ExtW.of_drew hE))).mono ?_; rintro e w' ⟨rfl, hb⟩; exact ⟨_, rfl, hb, by rw [C4.out]⟩); (intro ak hak; simp only [Act.put, List.setIfInBounds_toArray, List.set_cons_succ, List.set_cons_zero] at hak; subst hak))
    iterate 2 (apply wpZ_det; (intro wq hE hG; first | exact obl_non (by rfl) | (apply obl_val (by rfl); go_simp; rfl)); (intro ak hak; simp only [Act.put, List.setIfInBounds_toArray, List.set_cons_succ, List.set_cons_zero] at hak; subst hak))
    iterate 4 (apply wpZ_det; (intro wq hE hG; first | exact obl_non (by rfl) | (apply obl_val (by rfl); go_simp; rfl)); (intro ak hak; simp only [Act.put, List.setIfInBounds_toArray, List.set_cons_succ, List.set_cons_zero] at hak; subst hak))
    (first | (apply wpZ_det; (intro wq hE hG; exact obl_non (by rfl)); (intro ak hak; simp only [Act.put, List.setIfInBounds_toArray, List.set_cons_succ, List.set_cons_zero] at hak; subst hak)) | (apply wpZ_det; (intro wq hE hG; have kk := (ExtW.of_drew hE).cellAt HC10.out; apply obl_val (by rfl); go_simp; rfl); (intro ak hak; simp only [Act.put, List.setIfInBounds_toArray, List.set_cons_succ, List.set_cons_zero] at hak; subst hak)))
    (first | (apply wpZ_det; (intro wq hE hG; exact obl_non (by rfl)); (intro ak hak; simp only [Act.put, List.setIfInBounds_toArray, List.set_cons_succ, List.set_cons_zero] at hak; subst hak)) | (apply wpZ_det; (intro wq hE hG; exact obl_ldg (by rfl) rfl (by rfl) (HRR10.out.ext (ExtW.of_drew hE)) Try.underlying24 rfl (sizeD HRTL.out)); (intro ak hak; simp only [Act.put, List.setIfInBounds_toArray, List.set_cons_succ, List.set_cons_zero] at hak; subst hak)))
    iterate 5 (apply wpZ_det; (intro wq hE hG; first | exact obl_non (by rfl) | (apply obl_val (by rfl); go_simp; rfl)); (intro ak hak; simp only [Act.put, List.setIfInBounds_toArray, List.set_cons_succ, List.set_cons_zero] at hak; subst hak))
    (first | (apply wpZ_det; (intro wq hE hG; exact obl_non (by rfl)); (intro ak hak; simp only [Act.put, List.setIfInBounds_toArray, List.set_cons_succ, List.set_cons_zero] at hak; subst hak)) | (apply wpZ_det; (intro wq hE hG; have kk := (ExtW.of_drew hE).cellAt HCY10.out; apply obl_val (by rfl); go_simp; rfl); (intro ak hak; simp only [Act.put, List.setIfInBounds_toArray, List.set_cons_succ, List.set_cons_zero] at hak; subst hak)))
    iterate 2 (apply wpZ_det; (intro wq hE hG; first | exact obl_non (by rfl) | (apply obl_val (by rfl); go_simp; rfl)); (intro ak hak; simp only [Act.put, List.setIfInBounds_toArray, List.set_cons_succ, List.set_cons_zero] at hak; subst hak))
    (first | (apply wpZ_det; (intro wq hE hG; exact obl_non (by rfl)); (intro ak hak; simp only [Act.put, List.setIfInBounds_toArray, List.set_cons_succ, List.set_cons_zero] at hak; subst hak)) | (apply wpZ_det (c := .bool false); (intro wq hE hG; apply obl_on (by kernel_rfl); go_simp; simp only [extUpon_enter]; refine (mcheck_any x HX.out rt HRTL.out n i (by omega) D q dd y (dropD PA pc 1) (pl - 1) (pc - 1) (P.drop 1) wq (HRD10.out.below (ExtW.of_drew hE) (Nat.le_refl _)) HM.out ((HDP10.out.dropD (k := 1) (by omega)).same (ExtW.of_drew hE))).mono ?_; rintro e w' ⟨rfl, hb⟩; exact ⟨_, rfl, hb, by rw [C5.out (by omega)]⟩); (intro ak hak; simp only [Act.put, List.setIfInBounds_toArray, List.set_cons_succ, List.set_cons_zero] at hak; subst hak)))
    iterate 3 (apply wpZ_det; (intro wq hE hG; first | exact obl_non (by rfl) | (apply obl_val (by rfl); go_simp; rfl)); (intro ak hak; simp only [Act.put, List.setIfInBounds_toArray, List.set_cons_succ, List.set_cons_zero] at hak; subst hak))
    iterate 4 (apply wpZ_det; (intro wq hE hG; first | exact obl_non (by rfl) | (apply obl_val (by rfl); go_simp; rfl)); (intro ak hak; simp only [Act.put, List.setIfInBounds_toArray, List.set_cons_succ, List.set_cons_zero] at hak; subst hak))
    (first | (apply wpZ_det; (intro wq hE hG; exact obl_non (by rfl)); (intro ak hak; simp only [Act.put, List.setIfInBounds_toArray, List.set_cons_succ, List.set_cons_zero] at hak; subst hak)) | (apply wpZ_det; (intro wq hE hG; have kk := (ExtW.of_drew hE).cellAt HC10.out; apply obl_val (by rfl); go_simp; rfl); (intro ak hak; simp only [Act.put, List.setIfInBounds_toArray, List.set_cons_succ, List.set_cons_zero] at hak; subst hak)))
    (first | (apply wpZ_det; (intro wq hE hG; exact obl_non (by rfl)); (intro ak hak; simp only [Act.put, List.setIfInBounds_toArray, List.set_cons_succ, List.set_cons_zero] at hak; subst hak)) | (apply wpZ_det; (intro wq hE hG; exact obl_ldg (by rfl) rfl (by rfl) (HRR10.out.ext (ExtW.of_drew hE)) Try.underlying24 rfl (sizeD HRTL.out)); (intro ak hak; simp only [Act.put, List.setIfInBounds_toArray, List.set_cons_succ, List.set_cons_zero] at hak; subst hak)))
    iterate 8 (apply wpZ_det; (intro wq hE hG; first | exact obl_non (by rfl) | (apply obl_val (by rfl); go_simp; rfl)); (intro ak hak; simp only [Act.put, List.setIfInBounds_toArray, List.set_cons_succ, List.set_cons_zero] at hak; subst hak))
    (first | (apply wpZ_det; (intro wq hE hG; exact obl_non (by rfl)); (intro ak hak; simp only [Act.put, List.setIfInBounds_toArray, List.set_cons_succ, List.set_cons_zero] at hak; subst hak)) | (apply wpZ_det (c := .bool false); (intro wq hE hG; apply obl_on (by kernel_rfl); go_simp; simp only [extUpon_enter]; refine (mcr_any x HX.out rt HRTL.out n i (by omega) (cutA (some a) c i) (k - i) (c - i) ((s.take k).drop i) (dropD RA rc 1) (rl - 1) (rc - 1) (R.drop 1) wq (HBC10.out.same (ExtW.of_drew hE)) HVC.out (by omega) ((HDR10.out.dropD (k := 1) (by omega)).same (ExtW.of_drew hE))).mono ?_; rintro e w' ⟨rfl, hb⟩; exact ⟨_, rfl, hb, by rw [C6.out (by omega)]⟩); (intro ak hak; simp only [Act.put, List.setIfInBounds_toArray, List.set_cons_succ, List.set_cons_zero] at hak; subst hak)))
    iterate 2 (apply wpZ_det; (intro wq hE hG; first | exact obl_non (by rfl) | (apply obl_val (by rfl); go_simp; rfl)); (intro ak hak; simp only [Act.put, List.setIfInBounds_toArray, List.set_cons_succ, List.set_cons_zero] at hak; subst hak))
    (apply wpZ_nil; intro wq hE hG)
    have HX8 := Lib.hid (ExtW.of_drew hE)
    clear hE hG
    have HE11 := Lib.hid (ExtW.trans HE10.out HX8.out)
    have HC11 := Lib.hid (HX8.out.cellAt HC10.out)
    have HRR11 := Lib.hid (HRR10.out.ext HX8.out)
    have HDP11 := Lib.hid (HDP10.out.same HX8.out)
    have HDR11 := Lib.hid (HDR10.out.same HX8.out)
    have HCY11 := Lib.hid (HX8.out.cellAt HCY10.out)
    have HRD11 := Lib.hid (HRD10.out.below HX8.out (Nat.le_refl _))
    have HBC11 := Lib.hid (HBC10.out.same HX8.out)
    clear HE10 HC10 HRR10 HDP10 HDR10 HCY10 HRD10 HBC10 HX8 HMO HWI
    go_upto_region 20 with (fail)
    apply wp_region_ext _ (by kernel_rfl) (by kernel_rfl)
    simp only [List.append_eq, List.cons_append, List.nil_append]
    iterate 2 (apply wpZ_det; (intro wq hE hG; first | exact obl_non (by rfl) | (apply obl_val (by rfl); go_simp; rfl)); (intro ak hak; simp only [Act.put, List.setIfInBounds_toArray, List.set_cons_succ, List.set_cons_zero] at hak; subst hak))
    (apply wpZ_det; (intro wq hE hG; have kk := (ExtW.of_drew hE).cellAt HC11.out; apply obl_val (by rfl); go_simp; rfl); (intro ak hak; simp only [Act.put, List.setIfInBounds_toArray, List.set_cons_succ, List.set_cons_zero] at hak; subst hak))
    (apply wpZ_det; (intro wq hE hG; exact obl_ldg (by rfl) rfl (by rfl) (HRR11.out.ext (ExtW.of_drew hE)) Try.underlying24 rfl (sizeD HRTL.out)); (intro ak hak; simp only [Act.put, List.setIfInBounds_toArray, List.set_cons_succ, List.set_cons_zero] at hak; subst hak))
    iterate 4 (apply wpZ_det; (intro wq hE hG; first | exact obl_non (by rfl) | (apply obl_val (by rfl); go_simp; rfl)); (intro ak hak; simp only [Act.put, List.setIfInBounds_toArray, List.set_cons_succ, List.set_cons_zero] at hak; subst hak))
    (apply wpZ_det; (intro wq hE hG; have kk := (ExtW.of_drew hE).cellAt HCY11.out; apply obl_val (by rfl); go_simp; rfl); (intro ak hak; simp only [Act.put, List.setIfInBounds_toArray, List.set_cons_succ, List.set_cons_zero] at hak; subst hak))
    (apply wpZ_det; (intro wq hE hG; first | exact obl_non (by rfl) | (apply obl_val (by rfl); go_simp; rfl)); (intro ak hak; simp only [Act.put, List.setIfInBounds_toArray, List.set_cons_succ, List.set_cons_zero] at hak; subst hak))
    (apply wpZ_det (c := .bool false); (intro wq hE hG; apply obl_on (by kernel_rfl); go_simp; simp only [extUpon_enter]; refine (mcheck_any x HX.out rt HRTL.out n (-1) (by omega) D q dd y PA pl pc P wq (HRD11.out.below (ExtW.of_drew hE) (Nat.le_refl _)) HM.out (HDP11.out.same (ExtW.of_drew hE))).mono ?_; rintro e w' ⟨rfl, hb⟩; exact ⟨_, rfl, hb, by rw [C7.out]⟩); (intro ak hak; simp only [Act.put, List.setIfInBounds_toArray, List.set_cons_succ, List.set_cons_zero] at hak; subst hak))
    iterate 3 (apply wpZ_det; (intro wq hE hG; first | exact obl_non (by rfl) | (apply obl_val (by rfl); go_simp; rfl)); (intro ak hak; simp only [Act.put, List.setIfInBounds_toArray, List.set_cons_succ, List.set_cons_zero] at hak; subst hak))
    (apply wpZ_det; (intro wq hE hG; have kk := (ExtW.of_drew hE).cellAt HC11.out; apply obl_val (by rfl); go_simp; rfl); (intro ak hak; simp only [Act.put, List.setIfInBounds_toArray, List.set_cons_succ, List.set_cons_zero] at hak; subst hak))
    (apply wpZ_det; (intro wq hE hG; exact obl_ldg (by rfl) rfl (by rfl) (HRR11.out.ext (ExtW.of_drew hE)) Try.underlying24 rfl (sizeD HRTL.out)); (intro ak hak; simp only [Act.put, List.setIfInBounds_toArray, List.set_cons_succ, List.set_cons_zero] at hak; subst hak))
    iterate 5 (apply wpZ_det; (intro wq hE hG; first | exact obl_non (by rfl) | (apply obl_val (by rfl); go_simp; rfl)); (intro ak hak; simp only [Act.put, List.setIfInBounds_toArray, List.set_cons_succ, List.set_cons_zero] at hak; subst hak))
    (apply wpZ_det; (intro wq hE hG; have kk := (ExtW.of_drew hE).cellAt HCY11.out; apply obl_val (by rfl); go_simp; rfl); (intro ak hak; simp only [Act.put, List.setIfInBounds_toArray, List.set_cons_succ, List.set_cons_zero] at hak; subst hak))
    (apply wpZ_det; (intro wq hE hG; first | exact obl_non (by rfl) | (apply obl_val (by rfl); go_simp; rfl)); (intro ak hak; simp only [Act.put, List.setIfInBounds_toArray, List.set_cons_succ, List.set_cons_zero] at hak; subst hak))
    (apply wpZ_det (c := .bool false); (intro wq hE hG; apply obl_on (by kernel_rfl); go_simp; simp only [extUpon_enter]; refine (mcheck_any x HX.out rt HRTL.out n n (by omega) D q dd y PA pl pc P wq (HRD11.out.below (ExtW.of_drew hE) (Nat.le_refl _)) HM.out (HDP11.out.same (ExtW.of_drew hE))).mono ?_; rintro e w' ⟨rfl, hb⟩; exact ⟨_, rfl, hb, by rw [C8.out]⟩); (intro ak hak; simp only [Act.put, List.setIfInBounds_toArray, List.set_cons_succ, List.set_cons_zero] at hak; subst hak))
    iterate 3 (apply wpZ_det; (intro wq hE hG; first | exact obl_non (by rfl) | (apply obl_val (by rfl); go_simp; rfl)); (intro ak hak; simp only [Act.put, List.setIfInBounds_toArray, List.set_cons_succ, List.set_cons_zero] at hak; subst hak))
    (apply wpZ_det; (intro wq hE hG; have kk := (ExtW.of_drew hE).cellAt HC11.out; apply obl_val (by rfl); go_simp; rfl); (intro ak hak; simp only [Act.put, List.setIfInBounds_toArray, List.set_cons_succ, List.set_cons_zero] at hak; subst hak))
    (apply wpZ_det; (intro wq hE hG; exact obl_ldg (by rfl) rfl (by rfl) (HRR11.out.ext (ExtW.of_drew hE)) Try.underlying24 rfl (sizeD HRTL.out)); (intro ak hak; simp only [Act.put, List.setIfInBounds_toArray, List.set_cons_succ, List.set_cons_zero] at hak; subst hak))
    iterate 6 (apply wpZ_det; (intro wq hE hG; first | exact obl_non (by rfl) | (apply obl_val (by rfl); go_simp; rfl)); (intro ak hak; simp only [Act.put, List.setIfInBounds_toArray, List.set_cons_succ, List.set_cons_zero] at hak; subst hak))
    (apply wpZ_det (c := .bool false); (intro wq hE hG; apply obl_on (by kernel_rfl); go_simp; simp only [extUpon_enter]; refine (mcr_any x HX.out rt HRTL.out n (-1) (by omega) (cutA (some a) c i) (k - i) (c - i) ((s.take k).drop i) RA rl rc R wq (HBC11.out.same (ExtW.of_drew hE)) HVC.out (by omega) (HDR11.out.same (ExtW.of_drew hE))).mono ?_; rintro e w' ⟨rfl, hb⟩; exact ⟨_, rfl, hb, by rw [C9.out]⟩); (intro ak hak; simp only [Act.put, List.setIfInBounds_toArray, List.set_cons_succ, List.set_cons_zero] at hak; subst hak))
    iterate 3 (apply wpZ_det; (intro wq hE hG; first | exact obl_non (by rfl) | (apply obl_val (by rfl); go_simp; rfl)); (intro ak hak; simp only [Act.put, List.setIfInBounds_toArray, List.set_cons_succ, List.set_cons_zero] at hak; subst hak))
    (apply wpZ_det; (intro wq hE hG; have kk := (ExtW.of_drew hE).cellAt HC11.out; apply obl_val (by rfl); go_simp; rfl); (intro ak hak; simp only [Act.put, List.setIfInBounds_toArray, List.set_cons_succ, List.set_cons_zero] at hak; subst hak))
    (apply wpZ_det; (intro wq hE hG; exact obl_ldg (by rfl) rfl (by rfl) (HRR11.out.ext (ExtW.of_drew hE)) Try.underlying24 rfl (sizeD HRTL.out)); (intro ak hak; simp only [Act.put, List.setIfInBounds_toArray, List.set_cons_succ, List.set_cons_zero] at hak; subst hak))
    iterate 4 (apply wpZ_det; (intro wq hE hG; first | exact obl_non (by rfl) | (apply obl_val (by rfl); go_simp; rfl)); (intro ak hak; simp only [Act.put, List.setIfInBounds_toArray, List.set_cons_succ, List.set_cons_zero] at hak; subst hak))
    (apply wpZ_det (c := .int .i64 ((k - i : Nat) : Int)); (intro wq hE hG; exact obl_same (by rfl) (by go_simp; rfl) (by first | rfl | (apply int_eq; omega) | (apply int_eq; rw [IntWalk.i64_in _ (by omega)]; omega) | (apply int_eq; simp; omega))); (intro ak hak; simp only [Act.put, List.setIfInBounds_toArray, List.set_cons_succ, List.set_cons_zero] at hak; subst hak))
    (apply wpZ_det (c := .int .i64 ((n - (k - i) : Nat) : Int)); (intro wq hE hG; exact obl_same (by rfl) (by go_simp; rfl) (by first | rfl | (apply int_eq; omega) | (apply int_eq; rw [IntWalk.i64_in _ (by omega)]; omega) | (apply int_eq; simp; omega))); (intro ak hak; simp only [Act.put, List.setIfInBounds_toArray, List.set_cons_succ, List.set_cons_zero] at hak; subst hak))
    (apply wpZ_det (c := .int .i64 (((n - (k - i) : Nat) : Int) + 1)); (intro wq hE hG; exact obl_same (by rfl) (by go_simp; rfl) (by rw [HS3.out])); (intro ak hak; simp only [Act.put, List.setIfInBounds_toArray, List.set_cons_succ, List.set_cons_zero] at hak; subst hak))
    iterate 5 (apply wpZ_det; (intro wq hE hG; first | exact obl_non (by rfl) | (apply obl_val (by rfl); go_simp; rfl)); (intro ak hak; simp only [Act.put, List.setIfInBounds_toArray, List.set_cons_succ, List.set_cons_zero] at hak; subst hak))
    (apply wpZ_det (c := .bool false); (intro wq hE hG; apply obl_on (by kernel_rfl); go_simp; simp only [extUpon_enter]; refine (mcr_any x HX.out rt HRTL.out n (((n - (k - i) : Nat) : Int) + 1) (by omega) (cutA (some a) c i) (k - i) (c - i) ((s.take k).drop i) RA rl rc R wq (HBC11.out.same (ExtW.of_drew hE)) HVC.out (by omega) (HDR11.out.same (ExtW.of_drew hE))).mono ?_; rintro e w' ⟨rfl, hb⟩; exact ⟨_, rfl, hb, by rw [C10.out]⟩); (intro ak hak; simp only [Act.put, List.setIfInBounds_toArray, List.set_cons_succ, List.set_cons_zero] at hak; subst hak))
    iterate 3 (apply wpZ_det; (intro wq hE hG; first | exact obl_non (by rfl) | (apply obl_val (by rfl); go_simp; rfl)); (intro ak hak; simp only [Act.put, List.setIfInBounds_toArray, List.set_cons_succ, List.set_cons_zero] at hak; subst hak))
    (apply wpZ_det; (intro wq hE hG; have kk := (ExtW.of_drew hE).cellAt HC11.out; apply obl_val (by rfl); go_simp; rfl); (intro ak hak; simp only [Act.put, List.setIfInBounds_toArray, List.set_cons_succ, List.set_cons_zero] at hak; subst hak))
    (apply wpZ_det; (intro wq hE hG; exact obl_ldg (by rfl) rfl (by rfl) (HRR11.out.ext (ExtW.of_drew hE)) Try.underlying24 rfl (sizeD HRTL.out)); (intro ak hak; simp only [Act.put, List.setIfInBounds_toArray, List.set_cons_succ, List.set_cons_zero] at hak; subst hak))
    iterate 5 (apply wpZ_det; (intro wq hE hG; first | exact obl_non (by rfl) | (apply obl_val (by rfl); go_simp; rfl)); (intro ak hak; simp only [Act.put, List.setIfInBounds_toArray, List.set_cons_succ, List.set_cons_zero] at hak; subst hak))
    (apply wpZ_det (c := .bool false); (intro wq hE hG; apply obl_on (by kernel_rfl); go_simp; simp only [extUpon_enter]; refine (mcr_any x HX.out rt HRTL.out 0 0 (by omega) (cutA (some a) c i) (k - i) (c - i) ((s.take k).drop i) RA rl rc R wq (HBC11.out.same (ExtW.of_drew hE)) HVC.out (by omega) (HDR11.out.same (ExtW.of_drew hE))).mono ?_; rintro e w' ⟨rfl, hb⟩; exact ⟨_, rfl, hb, by rw [C11.out]⟩); (intro ak hak; simp only [Act.put, List.setIfInBounds_toArray, List.set_cons_succ, List.set_cons_zero] at hak; subst hak))
    iterate 3 (apply wpZ_det; (intro wq hE hG; first | exact obl_non (by rfl) | (apply obl_val (by rfl); go_simp; rfl)); (intro ak hak; simp only [Act.put, List.setIfInBounds_toArray, List.set_cons_succ, List.set_cons_zero] at hak; subst hak))
    (apply wpZ_nil; intro wq hE hG)
    have HE12 := Lib.hid (ExtW.trans HE11.out (ExtW.of_drew hE))
    clear hE hG
    go_wp2
    go_ret
    exact ⟨rfl, HE12.out⟩
end Go.Proofs.Ytncdgndeidbgoaa
