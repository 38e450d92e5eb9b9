/- The walks of Of's loop and of Of. The nodes of OfRange, and the walk of the function that makes them. -/
import Derived.Test.YthaoibgcgkmnbaaCC
import Derived.Laws.EntriesVeiled
namespace Go.Proofs.Ythaoibgcgkmnbaa
set_option maxRecDepth 100000
set_option maxRecDepth 100000
open Go.RowKit

theorem pairs_le' (B : Nat) (leaf : List UInt8) (l : List (List UInt8)) (i : Nat) (path : List (List UInt8)) : (T.pairsD B leaf l i path).1.length ≤ l.length + 1 := pairs_le B leaf (l.length + 1) l i path (by omega)
theorem OwnCl.form {S : Nat → Prop} {base : Nat} {ps : List (List UInt8 × List UInt8)} {v : Value} {w : World} (h : OwnCl S base ps v w) : ∃ A c, v = .slice A ps.length c := by
  obtain ⟨xs, ho, _⟩ := h
  obtain ⟨A, c, e, _⟩ := Rd.of_own ho
  exact ⟨A, c, e⟩
theorem ext_setCell {a b : World} (h : ExtW a b) {g j : Nat} (hg : a.heap.size ≤ g) (v : Value) : ExtW a (b.setCell ⟨g, j, none⟩ v) :=
  Kp.below (S := fun _ => False) (Kp.setCell (Kp.of_ext _ h) (.inr hg) v) (fun _ hk => hk.elim) (Nat.le_refl _)
theorem OfPost.two {o : Option (List UInt8 × List UInt8)} {w : World} {e : Ending} {w' : World} (h : OfPost o w e w') : ∃ A n c B m d b, e = .returned (.tuple #[.slice A n c, .slice B m d, .bool b]) := by
  obtain ⟨_, h⟩ := h
  cases o with
  | none => exact ⟨_, _, _, _, _, _, _, h⟩
  | some p =>
    obtain ⟨x, y⟩ := p
    obtain ⟨A, n, c, B, m, d, h, _⟩ := h
    exact ⟨_, _, _, _, _, _, _, h⟩
theorem T.diff1_one {p : List UInt8 × List UInt8} {r : List (List UInt8 × List UInt8)} (h : T.diff1 [p] = none) : T.diff1 (p :: r) = T.diff1 r := by
  obtain ⟨a, b⟩ := p
  rw [T.diff1_cons] at h ⊢
  by_cases he : a = b
  · rw [if_pos he]
  · rw [if_neg he] at h; cases h
theorem T.diff1_two {p q : List UInt8 × List UInt8} {r : List (List UInt8 × List UInt8)} (h : T.diff1 [p] = some q) : T.diff1 (p :: r) = some q := by
  obtain ⟨a, b⟩ := p
  rw [T.diff1_cons] at h ⊢
  by_cases he : a = b
  · rw [if_pos he] at h; cases h
  · rw [if_neg he] at h ⊢; exact h

set_option maxHeartbeats 4000000 in
set_option maxRecDepth 100000 in
theorem runC_any (g base : Nat) (ps : List (List UInt8 × List UInt8)) (v : Value) (w : World) (hg : Row w g 57 [v]) (h : OwnCl (fun _ => False) base ps.reverse v w) (hl : ps.length ≤ 2000000) :
    Calls Try.prog 38 #[.pointer (some ⟨g, 0, none⟩)] w (DiffPost (T.diff1 ps) w) := by
  obtain ⟨xs, ho, hc⟩ := h
  obtain ⟨A, c, rfl, hrd, _⟩ := Rd.of_own ho
  obtain ⟨rs, hrs⟩ : ∃ r, r = ps.reverse := ⟨_, rfl⟩
  rw [← hrs] at hrd hc ho hg
  have hlr : rs.length ≤ 2000000 := by rw [hrs, List.length_reverse]; exact hl
  have HXL : Hid (xs.length = rs.length) := Lib.hid (by have := hrd.len; omega)
  have HST : Hid (T.diff1 ps = T.diff1 (rs.take rs.length).reverse) := Lib.hid (by rw [List.take_length, hrs, List.reverse_reverse])
  obtain ⟨n, hn⟩ : ∃ n, n = rs.length := ⟨_, rfl⟩
  have HN := Lib.hid hn
  have hnc : n ≤ c := by rw [hn]; exact hrd.nc
  rw [← hn] at hg hrd hlr
  have HC := Lib.hid hc
  have HRD := Lib.hid hrd
  have HGC := Lib.hid (hg.cell (j := 0) rfl)
  have k1 := HGC.out
  have hs1 : IntKind.i64.wrap ((n : Int) - 1) = (n : Int) - 1 := IntWalk.i64_in _ (by omega)
  clear hg ho hc hrd hn hrs hl
  go_enter Try.func38, Try.ntmps38
  go_upto_block 0 with (fail)
  clear k1 hs1
  go_wp2_with fail
  go_loopw [1] (fun kv wr => ∃ (j : Nat) (m : Int), kv = .int .i64 m ∧ m = (j : Int) - 1 ∧ j ≤ n ∧ Hid (T.diff1 ps = T.diff1 (rs.take j).reverse) ∧ Hid (ExtW w wr)) (fun kv _ => (intOf kv + 1).toNat)
  case atStart => exact ⟨n, _, rfl, rfl, Nat.le_refl _, Lib.hid (by rw [HN.out]; exact HST.out), Lib.hid (ExtW.refl _)⟩
  case round =>
    obtain ⟨j, m, rfl, hm, hjn, HD, HE⟩ := hrel
    cases j with
    | zero =>
      obtain rfl : m = -1 := by omega
      clear hm
      have HF : Hid (T.diff1 ps = none) := Lib.hid (by rw [HD.out]; rfl)
      go_wp2
      go_end0
      exact ⟨HE.out, by rw [HF.out]⟩
    | succ j =>
      obtain rfl : m = (j : Int) := by omega
      clear hm
      have hj0 : (0 : Int) ≤ (j : Int) := Int.natCast_nonneg _
      have hj1 : (j : Int) < (n : Int) := by omega
      obtain ⟨p, hp⟩ : ∃ p, rs[j]? = some p := ⟨_, List.getElem?_eq_getElem (by have := HN.out; omega)⟩
      obtain ⟨fv, hfv⟩ : ∃ f, xs[j]? = some f := ⟨_, List.getElem?_eq_getElem (by have := HN.out; have := HXL.out; omega)⟩
      obtain ⟨f, caps, rfl, hcf, hcl⟩ := HC.out j fv p hfv hp
      have HTK : Hid ((rs.take (j + 1)).reverse = p :: (rs.take j).reverse) := Lib.hid (by rw [List.take_add_one, hp]; simp)
      cases hA : A with
      | none => have h1 := HRD.out.nil0 hA; omega
      | some a =>
      subst hA
      have k1 := HE.out.cellAt HGC.out
      have k2 := HE.out.cellAt (HRD.out.cell a rfl j _ hfv)
      have HCL := Lib.hid hcl
      have hs2 : IntKind.i64.wrap ((j : Int) - 1) = (j : Int) - 1 := IntWalk.i64_in _ (by omega)
      clear hp hfv hcl
      go_wp2_with fail
      refine (HCL.out wr (Kp.of_ext _ HE.out)).mono ?_
      intro e w1 h
      have HE1 := Lib.hid (ExtW.trans HE.out h.1)
      rcases h.two with ⟨h1, rfl⟩ | ⟨q, ch, h1, rfl⟩
      · have HD1 : Hid (T.diff1 ps = T.diff1 (rs.take j).reverse) := Lib.hid (by rw [HD.out, HTK.out, T.diff1_one h1])
        clear h h1 k1 k2 hcf
        go_wp2_with fail
        go_roundw
        case rel => exact ⟨j, _, rfl, rfl, by omega, HD1, HE1⟩
        case measure => simp [intOf]
      · refine ⟨rfl, ?_⟩
        have h2 := h.up HE.out
        rw [h1] at h2
        rw [HD.out, HTK.out, T.diff1_two h1]
        exact h2

set_option maxHeartbeats 20000000 in
set_option maxRecDepth 100000 in
theorem cof_any (x : Int) (hx : -9223372036854775808 ≤ x ∧ x ≤ 9223372036854775807) (A : Option Addr) (n c : Nat) (real : List (List UInt8)) (i : Int) (LA : Option Addr) (ln lc : Nat) (leaf : List UInt8) (PA : Option Addr) (pn pc : Nat) (path : List (List UInt8)) (w : World)
    (hr : Bss w A n c real) (hlv : Lv real) (hn : n ≤ 1000000) (hl : Rd w LA ln lc 1 (bvs leaf)) (hln : ln ≤ 1000000) (hp : Dls w PA pn pc path) :
    Calls Try.prog 13 #[.agg #[.int .i64 x], .slice A n c, .int .i64 i, .slice LA ln lc, .slice PA pn pc] w (OfPost (T.ofD (bitsN x) real i leaf path) w) := by
  have hmf : ∀ (fn : Fn) (first cap : Array Value) (w : World), (Instr.makeFunc fn first cap).run Try.prog w = .ok (.func fn first cap) w := fun _ _ _ _ => rfl
  have HX := Lib.hid hx
  have HR := Lib.hid hr
  have HV := Lib.hid hlv
  have HN := Lib.hid hn
  have HL := Lib.hid hl
  have HLN := Lib.hid hln
  have HP := Lib.hid hp
  have HRL := Lib.hid hr.len
  have HB0 := Lib.hid (cell_new1 w (.int .i64 x) 30)
  have HE0 : Hid (ExtW w (w.alloc (.cells #[.int .i64 x] 30))) := Lib.hid ((Below.refl _ _).alloc (Nat.le_refl _) _)
  clear hx hr hlv hn hl hln hp
  go_enter Try.func13, Try.ntmps13
  go_upto_region 1 with (fail)
  have HA : Hid ((w.alloc (.cells #[.int .i64 x] 30)).heap.size = w.heap.size + 1) := Lib.hid (by simp)
  generalize w.alloc (.cells #[.int .i64 x] 30) = w1 at HB0 HE0 HA ⊢
  have HG1 : Hid (Row (w1.alloc (.cells #[.slice LA ln lc] 23)) (w.heap.size + 1) 23 [.slice LA ln lc]) := Lib.hid (by rw [← HA.out]; exact heap_alloc_last _ _)
  have HE1 : Hid (ExtW w1 (w1.alloc (.cells #[.slice LA ln lc] 23))) := Lib.hid ((Below.refl _ _).alloc (Nat.le_refl _) _)
  generalize w1.alloc (.cells #[.slice LA ln lc] 23) = w2 at HG1 HE1 ⊢
  have HB2 := Lib.hid (HE1.out.cellAt HB0.out)
  have HE2 := Lib.hid (ExtW.trans HE0.out HE1.out)
  obtain ⟨gt, hgt⟩ : ∃ g, g = w.heap.size := ⟨_, rfl⟩
  obtain ⟨gl, hgl⟩ : ∃ g, g = w.heap.size + 1 := ⟨_, rfl⟩
  rw [← hgt] at HB2
  rw [← hgl] at HG1
  rw [← hgl, ← hgt]
  clear hgt hgl HB0 HE0 HE1 HA
  have HR2 := Lib.hid (HR.out.same HE2.out)
  have HL2 := Lib.hid (HL.out.below HE2.out (Nat.le_refl _))
  have HP2 := Lib.hid (HP.out.same HE2.out)
  clear HR HL HP
  by_cases hck : T.checkD (bitsN x) (T.rootD (bitsN x) real) real.length i leaf path = true
  · have HO := Lib.hid (T.ofD_yes hck)
    obtain ⟨j, rfl, hjn, hpl, _⟩ := T.checkD_in hck
    rw [Int.toNat_natCast] at HO
    rw [HRL.out] at hck hjn hpl
    have HCK := Lib.hid hck
    have HPD := Lib.hid hpl
    clear hck hpl
    apply wp_region_ext _ (by kernel_rfl) (by kernel_rfl)
    iterate 2 (apply wpZ_det; (intro wq hE hG; have kk := (ExtW.of_drew hE).cellAt HB2.out; apply obl_val (by rfl); go_simp <;> rfl); (intro ak hak; simp only [Act.put, List.setIfInBounds_toArray, List.set_cons_succ, List.set_cons_zero] at hak; subst hak))
    (apply wpZ_det; (intro wq hE hG; first | exact obl_non (by rfl) | (apply obl_val (by rfl); go_simp <;> rfl)); (intro ak hak; simp only [Act.put, List.setIfInBounds_toArray, List.set_cons_succ, List.set_cons_zero] at hak; subst hak))
    (apply wpZ_det; (intro wq hE hG; apply obl_on (by kernel_rfl); go_simp; simp only [extUpon_enter]; refine (root_any x HX.out (n + 1) _ n c _ _ (by omega) (HR2.out.same (ExtW.of_drew hE)) HV.out).mono ?_; rintro e w' ⟨rfl, hb⟩; exact ⟨_, rfl, hb, rfl⟩); (intro ak hak; simp only [Act.put, List.setIfInBounds_toArray, List.set_cons_succ, List.set_cons_zero] at hak; subst hak))
    iterate 3 (apply wpZ_det; (intro wq hE hG; first | exact obl_non (by rfl) | (apply obl_val (by rfl); go_simp <;> rfl)); (intro ak hak; simp only [Act.put, List.setIfInBounds_toArray, List.set_cons_succ, List.set_cons_zero] at hak; subst hak))
    (apply wpZ_det; (intro wq hE hG; have kk := (ExtW.of_drew hE).cellAt (HG1.out.cell (j := 0) rfl); apply obl_val (by rfl); go_simp <;> rfl); (intro ak hak; simp only [Act.put, List.setIfInBounds_toArray, List.set_cons_succ, List.set_cons_zero] at hak; subst hak))
    (apply wpZ_det; (intro wq hE hG; first | exact obl_non (by rfl) | (apply obl_val (by rfl); go_simp <;> rfl)); (intro ak hak; simp only [Act.put, List.setIfInBounds_toArray, List.set_cons_succ, List.set_cons_zero] at hak; subst hak))
    (apply wpZ_det (c := .bool true); (intro wq hE hG; apply obl_on (by kernel_rfl); go_simp; simp only [extUpon_enter]; refine (mcheck_any x HX.out _ (T.rootD_len _ _) (n : Int) (j : Int) (by have := HN.out; omega) LA ln lc leaf PA pn pc path _ (HL2.out.below (ExtW.of_drew hE) (Nat.le_refl _)) HLN.out (HP2.out.same (ExtW.of_drew hE))).mono ?_; rintro e w' ⟨rfl, hb⟩; exact ⟨_, rfl, hb, by rw [HCK.out]⟩); (intro ak hak; simp only [Act.put, List.setIfInBounds_toArray, List.set_cons_succ, List.set_cons_zero] at hak; subst hak))
    (apply wpZ_det; (intro wq hE hG; first | exact obl_non (by rfl) | (apply obl_val (by rfl); go_simp <;> rfl)); (intro ak hak; simp only [Act.put, List.setIfInBounds_toArray, List.set_cons_succ, List.set_cons_zero] at hak; subst hak))
    (apply wpZ_nil; intro wq hE hG)
    have HEQ := Lib.hid (ExtW.trans HE2.out (ExtW.of_drew hE))
    have HB3 := Lib.hid ((ExtW.of_drew hE).cellAt HB2.out)
    have HG3 := Lib.hid (HG1.out.ext (ExtW.of_drew hE))
    have HR3 := Lib.hid (HR2.out.same (ExtW.of_drew hE))
    have HL3 := Lib.hid (HL2.out.below (ExtW.of_drew hE) (Nat.le_refl _))
    have HP3 := Lib.hid (HP2.out.same (ExtW.of_drew hE))
    clear hE hG HE2 HB2 HG1 HR2 HL2 HP2
    go_upto_region 5 with (fail)
    have HUC : Hid ((wq.alloc (.cells #[upV gt gl wq.heap.size] 56)).cell? ⟨wq.heap.size, 0, none⟩ = some (upV gt gl wq.heap.size)) := Lib.hid (cell_new1 _ _ _)
    have HE4 : Hid (ExtW wq (wq.alloc (.cells #[upV gt gl wq.heap.size] 56))) := Lib.hid ((Below.refl _ _).alloc (Nat.le_refl _) _)
    unfold upV at HUC HE4
    generalize wq.alloc (.cells #[.func (.func 27) #[] #[.pointer (some ⟨gt, 0, none⟩), .pointer (some ⟨gl, 0, none⟩), .pointer (some ⟨wq.heap.size, 0, none⟩)]] 56) = wb at HUC HE4 ⊢
    obtain ⟨gu, hgu⟩ : ∃ g, g = wq.heap.size := ⟨_, rfl⟩
    rw [← hgu] at HUC ⊢
    clear hgu
    have HB4 := Lib.hid (HE4.out.cellAt HB3.out)
    have HG4 := Lib.hid (HG3.out.ext HE4.out)
    have HR4 := Lib.hid (HR3.out.same HE4.out)
    have HL4 := Lib.hid (HL3.out.below HE4.out (Nat.le_refl _))
    have HP4 := Lib.hid (HP3.out.same HE4.out)
    have HEB := Lib.hid (ExtW.trans HEQ.out HE4.out)
    clear HB3 HG3 HR3 HL3 HP3 HE4 HEQ
    obtain ⟨ps, hps⟩ : ∃ ps, ps = T.pairsD (bitsN x) leaf real j path := ⟨_, rfl⟩
    have HPS := Lib.hid hps
    have HPL : Hid (ps.2.length = 32) := Lib.hid (by rw [hps]; exact T.pairsD_len _ _ _ _ _)
    have HPN : Hid (ps.1.length ≤ 2000000) := Lib.hid (by
      rw [hps]
      have h1 := T.checkD_in HCK.out
      have h2 := pairs_le' (bitsN x) leaf real j path
      have h3 := HN.out
      have h4 := HRL.out
      omega)
    have k1 := HUC.out
    clear hps
    go_wp2_with fail
    refine (up_any x HX.out wb gt gl gu LA ln lc leaf HB4.out HG4.out HUC.out HL4.out HLN.out (n + 1) A n c real j PA pn pc path wb (by omega) HN.out hjn HR4.out HV.out HP4.out HPD.out (ExtW.refl _)).mono ?_
    unfold UpPost
    rw [← HPS.out]
    rintro e w5 ⟨v, rfl, ho, hb⟩
    obtain ⟨VA, vc, hv⟩ := ho.form
    obtain ⟨pl, hpl⟩ : ∃ n, n = ps.1.reverse.length := ⟨_, rfl⟩
    rw [← hpl] at hv
    subst hv
    clear hpl
    have HO5 := Lib.hid (ho.sub (S := fun _ => False) (fun k hk => hk.elim))
    have HE5 := Lib.hid (ExtW.trans HEB.out hb)
    clear ho hb k1
    have HAR : Hid (Row (((w5.alloc (.cells zDig 45)).alloc (.cells #[.slice none 0 0] 57)).setRow w5.heap.size (bvs ps.2).toArray) (w5.heap.size + 1) 57 [.slice none 0 0]) := Lib.hid (by
      have h1 : Row ((w5.alloc (.cells zDig 45)).alloc (.cells #[.slice none 0 0] 57)) (w5.heap.size + 1) 57 [.slice none 0 0] := by
        have h2 := heap_alloc_last (w5.alloc (.cells zDig 45)) (.cells #[.slice none 0 0] 57)
        have h3 : (w5.alloc (.cells zDig 45)).heap.size = w5.heap.size + 1 := by simp
        rw [h3] at h2
        exact h2
      exact h1.setNew (by omega) _)
    have HE6 : Hid (ExtW w5 (((w5.alloc (.cells zDig 45)).alloc (.cells #[.slice none 0 0] 57)).setRow w5.heap.size (bvs ps.2).toArray)) := Lib.hid (below_setRow (ExtW.trans ((Below.refl _ _).alloc (Nat.le_refl _) (.cells zDig 45)) ((Below.refl _ _).alloc (Nat.le_refl _) (.cells #[.slice none 0 0] 57))) (Nat.le_refl _) _)
    go_upto_region 6 with (first
      | (refine wpList_newD rfl rfl ?_)
      | (refine wpList_newst rfl rfl rfl HPL.out (d0 := List.replicate 32 0) rfl rfl rfl ((zDig_row w5).ext ((Below.refl _ _).alloc (Nat.le_refl _) _)) ?_; generalize ((w5.alloc (.cells zDig 45)).alloc (.cells #[.slice none 0 0] 57)).setRow w5.heap.size (bvs ps.2).toArray = w6 at HAR HE6 ⊢; have k5 := HAR.out.cell (j := 0) rfl; have k6 := HAR.out.frozen 0))
    have HAR7 := Lib.hid (HAR.out.set 0 (.slice VA pl vc))
    have HE7 : Hid (ExtW w5 (w6.setCell ⟨w5.heap.size + 1, 0, none⟩ (.slice VA pl vc))) := Lib.hid (ext_setCell HE6.out (by omega) _)
    generalize w6.setCell ⟨w5.heap.size + 1, 0, none⟩ (.slice VA pl vc) = w7 at HAR7 HE7 ⊢
    have HO7 := Lib.hid (HO5.out.ext HE7.out)
    obtain ⟨ga, hga⟩ : ∃ g, g = w5.heap.size + 1 := ⟨_, rfl⟩
    rw [← hga] at HAR7 ⊢
    clear hga k5 k6 HAR HE6 HO5
    go_wp2_with fail
    refine (seek_any 38 #[.pointer (some ⟨ga, 0, none⟩)] (T.diff1 ps.1) w7 (fun _ => by kernel_rfl) (fun W hW => runC_any ga wb.heap.size ps.1 _ W (HAR7.out.ext hW) (HO7.out.ext hW) HPN.out)).mono ?_
    intro e w8 h
    have HH := Lib.hid (h.up (ExtW.trans HE5.out HE7.out))
    obtain ⟨A1, n1, c1, B1, m1, d1, b1, rfl⟩ := h.two
    clear h
    go_wp2
    go_ret3
    rw [HO.out, ← HPS.out]
    exact HH.out
  · have hck' : T.checkD (bitsN x) (T.rootD (bitsN x) real) real.length i leaf path = false := by simpa using hck
    have HO := Lib.hid (T.ofD_no hck')
    rw [HRL.out] at hck'
    have HCK := Lib.hid hck'
    clear hck hck'
    apply wp_region_ext _ (by kernel_rfl) (by kernel_rfl)
    iterate 2 (apply wpZ_det; (intro wq hE hG; have kk := (ExtW.of_drew hE).cellAt HB2.out; apply obl_val (by rfl); go_simp <;> rfl); (intro ak hak; simp only [Act.put, List.setIfInBounds_toArray, List.set_cons_succ, List.set_cons_zero] at hak; subst hak))
    (apply wpZ_det; (intro wq hE hG; first | exact obl_non (by rfl) | (apply obl_val (by rfl); go_simp <;> rfl)); (intro ak hak; simp only [Act.put, List.setIfInBounds_toArray, List.set_cons_succ, List.set_cons_zero] at hak; subst hak))
    (apply wpZ_det; (intro wq hE hG; apply obl_on (by kernel_rfl); go_simp; simp only [extUpon_enter]; refine (root_any x HX.out (n + 1) _ n c _ _ (by omega) (HR2.out.same (ExtW.of_drew hE)) HV.out).mono ?_; rintro e w' ⟨rfl, hb⟩; exact ⟨_, rfl, hb, rfl⟩); (intro ak hak; simp only [Act.put, List.setIfInBounds_toArray, List.set_cons_succ, List.set_cons_zero] at hak; subst hak))
    iterate 3 (apply wpZ_det; (intro wq hE hG; first | exact obl_non (by rfl) | (apply obl_val (by rfl); go_simp <;> rfl)); (intro ak hak; simp only [Act.put, List.setIfInBounds_toArray, List.set_cons_succ, List.set_cons_zero] at hak; subst hak))
    (apply wpZ_det; (intro wq hE hG; have kk := (ExtW.of_drew hE).cellAt (HG1.out.cell (j := 0) rfl); apply obl_val (by rfl); go_simp <;> rfl); (intro ak hak; simp only [Act.put, List.setIfInBounds_toArray, List.set_cons_succ, List.set_cons_zero] at hak; subst hak))
    (apply wpZ_det; (intro wq hE hG; first | exact obl_non (by rfl) | (apply obl_val (by rfl); go_simp <;> rfl)); (intro ak hak; simp only [Act.put, List.setIfInBounds_toArray, List.set_cons_succ, List.set_cons_zero] at hak; subst hak))
    (apply wpZ_det (c := .bool false); (intro wq hE hG; apply obl_on (by kernel_rfl); go_simp; simp only [extUpon_enter]; refine (mcheck_any x HX.out _ (T.rootD_len _ _) (n : Int) i (by have := HN.out; omega) LA ln lc leaf PA pn pc path _ (HL2.out.below (ExtW.of_drew hE) (Nat.le_refl _)) HLN.out (HP2.out.same (ExtW.of_drew hE))).mono ?_; rintro e w' ⟨rfl, hb⟩; exact ⟨_, rfl, hb, by rw [HCK.out]⟩); (intro ak hak; simp only [Act.put, List.setIfInBounds_toArray, List.set_cons_succ, List.set_cons_zero] at hak; subst hak))
    (apply wpZ_det; (intro wq hE hG; first | exact obl_non (by rfl) | (apply obl_val (by rfl); go_simp <;> rfl)); (intro ak hak; simp only [Act.put, List.setIfInBounds_toArray, List.set_cons_succ, List.set_cons_zero] at hak; subst hak))
    (apply wpZ_nil; intro wq hE hG)
    have HEQ := Lib.hid (ExtW.trans HE2.out (ExtW.of_drew hE))
    clear hE hG
    go_wp2
    go_ret3
    exact ⟨HEQ.out, by rw [HO.out]; rfl⟩
end Go.Proofs.Ythaoibgcgkmnbaa

namespace Go.Proofs.Ythaoibgcgkmnbaa
set_option maxRecDepth 100000
open Go.RowKit

inductive NT where
  | out (d : List UInt8)
  | leaf (d t : List UInt8)
  | node (d t : List UInt8) (l r : NT)
def NT.d : NT → List UInt8
  | .out d => d
  | .leaf d _ => d
  | .node d _ _ _ => d
def pairsOf (B : Nat) : NT → List (List UInt8) → List (List UInt8 × List UInt8)
  | .out _, _ => []
  | .leaf _ t, l => [(t, T.texD B l)]
  | .node _ t L R, l => (t, T.texD B l) :: (pairsOf B L (l.take (T.half l.length)) ++ pairsOf B R (l.drop (T.half l.length)))
def Sh : NT → Nat → Prop
  | .out _, _ => True
  | .leaf _ _, n => n = 1
  | .node _ _ L R, n => 2 ≤ n ∧ Sh L (T.half n) ∧ Sh R (n - T.half n)
def ndC (d : List UInt8) (s l r : Value) : List Value := bvs d ++ [s, l, r]
def NdAt (w : World) : NT → Value → Prop
  | .out d, v => d.length = 32 ∧ ∃ g, v = .pointer (some ⟨g, 0, none⟩) ∧ Row w g 77 (ndC d (.slice none 0 0) (.pointer none) (.pointer none))
  | .leaf d t, v => d.length = 32 ∧ ∃ g A n c, v = .pointer (some ⟨g, 0, none⟩) ∧ Row w g 77 (ndC d (.slice (some A) n c) (.pointer none) (.pointer none)) ∧ Rd w (some A) n c 1 (bvs t)
  | .node d t L R, v => d.length = 32 ∧ ∃ g A n c vl vr, v = .pointer (some ⟨g, 0, none⟩) ∧ Row w g 77 (ndC d (.slice (some A) n c) vl vr) ∧ Rd w (some A) n c 1 (bvs t) ∧ NdAt w L vl ∧ NdAt w R vr
theorem NdAt.dlen {w : World} {t : NT} {v : Value} (h : NdAt w t v) : t.d.length = 32 := by cases t <;> exact h.1
theorem NdAt.row {w : World} {t : NT} {v : Value} (h : NdAt w t v) : ∃ g s l r, v = .pointer (some ⟨g, 0, none⟩) ∧ Row w g 77 (ndC t.d s l r) := by
  cases t with
  | out d => obtain ⟨_, g, h1, h2⟩ := h; exact ⟨g, _, _, _, h1, h2⟩
  | leaf d t => obtain ⟨_, g, A, n, c, h1, h2, _⟩ := h; exact ⟨g, _, _, _, h1, h2⟩
  | node d t L R => obtain ⟨_, g, A, n, c, vl, vr, h1, h2, _⟩ := h; exact ⟨g, _, _, _, h1, h2⟩
theorem ndC_len {d : List UInt8} (hd : d.length = 32) (s l r : Value) : (ndC d s l r).length = 35 := by unfold ndC; rw [List.length_append, bvs_len, hd]; rfl
theorem row_apart {w : World} {g k : Nat} {e f : TypeId} {cs : List Value} {v : Value} (h : Row w g e cs) (hc : cs.length = 35) (h2 : Row w k f [v]) : g ≠ k := by
  rintro rfl
  unfold Row at h h2
  rw [h2] at h
  injection h with h
  injection h with h _ _
  have h3 := congrArg Array.size h
  simp at h3
  omega
theorem NdAt.kp {w w' : World} {gp : Nat} {e : TypeId} {sv : Value} (hs : ∀ b : Int, sv ≠ .int .u8 b) (hp : Row w gp e [sv]) (k : Kp (fun j => j = gp) w w') : ∀ (t : NT) (v : Value), NdAt w t v → NdAt w' t v := by
  have hrd : ∀ {A : Option Addr} {n c : Nat} {xs : List UInt8}, Rd w A n c 1 (bvs xs) → Rd w' A n c 1 (bvs xs) := fun h => h.kp k (by rintro g rfl; exact ⟨e, sv, hp, hs⟩)
  intro t
  induction t with
  | out d =>
    rintro v ⟨hd, g, h1, h2⟩
    exact ⟨hd, g, h1, k.row h2 (row_apart h2 (ndC_len hd _ _ _) hp)⟩
  | leaf d t =>
    rintro v ⟨hd, g, A, n, c, h1, h2, h3⟩
    exact ⟨hd, g, A, n, c, h1, k.row h2 (row_apart h2 (ndC_len hd _ _ _) hp), hrd h3⟩
  | node d t L R ihl ihr =>
    rintro v ⟨hd, g, A, n, c, vl, vr, h1, h2, h3, h4, h5⟩
    exact ⟨hd, g, A, n, c, vl, vr, h1, k.row h2 (row_apart h2 (ndC_len hd _ _ _) hp), hrd h3, ihl vl h4, ihr vr h5⟩
theorem NdAt.ext {w w' : World} (hb : ExtW w w') : ∀ (t : NT) (v : Value), NdAt w t v → NdAt w' t v := by
  intro t
  induction t with
  | out d =>
    rintro v ⟨hd, g, h1, h2⟩
    exact ⟨hd, g, h1, h2.ext hb⟩
  | leaf d t =>
    rintro v ⟨hd, g, A, n, c, h1, h2, h3⟩
    exact ⟨hd, g, A, n, c, h1, h2.ext hb, h3.below hb (Nat.le_refl _)⟩
  | node d t L R ihl ihr =>
    rintro v ⟨hd, g, A, n, c, vl, vr, h1, h2, h3, h4, h5⟩
    exact ⟨hd, g, A, n, c, vl, vr, h1, h2.ext hb, h3.below hb (Nat.le_refl _), ihl vl h4, ihr vr h5⟩
theorem Kp.cellAt {S : Nat → Prop} {a b : World} (h : Kp S a b) {p : Addr} {v : Value} (hc : a.cell? p = some v) (hp : ¬ S p.block) : b.cell? p = some v := by
  rw [World.cell?_of_block (w := a) (h.block p.block (cell_lt hc) hp)]; exact hc

theorem range32 {d : List UInt8} (hd : d.length = 32) : d = (List.range 32).map fun i => d.getD i 0 := by
  apply List.ext_getElem?
  intro i
  rcases Nat.lt_or_ge i 32 with h | h
  · rw [List.getElem?_map, List.getElem?_range h]
    simp [List.getD_eq_getElem?_getD, List.getElem?_eq_getElem (show i < d.length by omega)]
  · rw [List.getElem?_eq_none (by omega), List.getElem?_eq_none (by simp; omega)]
theorem built1 (f : Nat → UInt8) : (Try.prog).built 77 [(0, dgV ((List.range 32).map f))] = some (ndC ((List.range 32).map f) (.slice none 0 0) (.pointer none) (.pointer none)).toArray := by kernel_rfl
theorem built2 (f : Nat → UInt8) (A : Option Addr) (n c : Nat) : (Try.prog).built 77 [(0, dgV ((List.range 32).map f)), (1, .slice A n c)] = some (ndC ((List.range 32).map f) (.slice A n c) (.pointer none) (.pointer none)).toArray := by kernel_rfl
theorem built4 (f : Nat → UInt8) (A : Option Addr) (n c : Nat) (l r : Option Addr) : (Try.prog).built 77 [(0, dgV ((List.range 32).map f)), (1, .slice A n c), (2, .pointer l), (3, .pointer r)] = some (ndC ((List.range 32).map f) (.slice A n c) (.pointer l) (.pointer r)).toArray := by kernel_rfl
theorem run_nd1 {d : List UInt8} (hd : d.length = 32) (W : World) : (Instr.build 77 #[(0, dgV d)]).run Try.prog W = .ok (.agg (ndC d (.slice none 0 0) (.pointer none) (.pointer none)).toArray) W :=
  run_build W _ _ _ (by have h := built1 fun i => d.getD i 0; rw [← range32 hd] at h; exact h)
theorem run_nd2 {d : List UInt8} (hd : d.length = 32) (A : Option Addr) (n c : Nat) (W : World) : (Instr.build 77 #[(0, dgV d), (1, .slice A n c)]).run Try.prog W = .ok (.agg (ndC d (.slice A n c) (.pointer none) (.pointer none)).toArray) W :=
  run_build W _ _ _ (by have h := built2 (fun i => d.getD i 0) A n c; rw [← range32 hd] at h; exact h)
theorem run_nd4 {d : List UInt8} (hd : d.length = 32) (A : Option Addr) (n c : Nat) (l r : Option Addr) (W : World) : (Instr.build 77 #[(0, dgV d), (1, .slice A n c), (2, .pointer l), (3, .pointer r)]).run Try.prog W = .ok (.agg (ndC d (.slice A n c) (.pointer l) (.pointer r)).toArray) W :=
  run_build W _ _ _ (by have h := built4 (fun i => d.getD i 0) A n c l r; rw [← range32 hd] at h; exact h)
theorem Row.loadD {w : World} {g : Nat} {e : TypeId} {d : List UInt8} {s l r : Value} (h : Row w g e (ndC d s l r)) (hd : d.length = 32) : (loadVar 45 ⟨g, 0, none⟩).run Try.prog w = .ok (dgV d) w :=
  run_loadDg w ⟨g, 0, none⟩ hd fun j v hj => by
    rw [Addr.add_mid, Nat.zero_add]
    exact h.cell (by
      unfold ndC
      rw [List.getElem?_append_left (List.getElem?_eq_some_iff.1 hj).1]
      exact hj)
theorem ndC_at {d : List UInt8} (hd : d.length = 32) (s l r : Value) : (ndC d s l r)[32]? = some s ∧ (ndC d s l r)[33]? = some l ∧ (ndC d s l r)[34]? = some r := by
  have hb : (bvs d).length = 32 := by rw [bvs_len, hd]
  unfold ndC
  refine ⟨?_, ?_, ?_⟩ <;> (rw [List.getElem?_append_right (by omega), hb]; rfl)

theorem obl_nd2 {ops : Array Oper} {o : Oper} {a : Act} {w : World} {F : Value → World → Prop} {x0 x1 : Operand} {d : List UInt8} {A : Option Addr} {n c : Nat} (hd : d.length = 32) (hw : Region.wanted o (yielded ops a.tmps) = true) (ho : o.op = .build 77 #[(0, x0), (1, x1)])
    (h0 : a.eval x0 = dgV d) (h1 : a.eval x1 = .slice A n c) (hF : F (.agg (ndC d (.slice A n c) (.pointer none) (.pointer none)).toArray) w) : oblAt Try.prog ops o a w F := by
  have hr : (execOp a.eval o).run Try.prog w = .ok (.value (.agg (ndC d (.slice A n c) (.pointer none) (.pointer none)).toArray)) w := by
    unfold execOp
    rw [ho]
    simp only [List.map_toArray, List.map_cons, List.map_nil, h0, h1, Sem.run_bind, run_nd2 hd]
    rfl
  unfold oblAt
  rw [if_pos hw, hr]
  exact ⟨ExtW.refl _, hF⟩
theorem obl_nd4 {ops : Array Oper} {o : Oper} {a : Act} {w : World} {F : Value → World → Prop} {x0 x1 x2 x3 : Operand} {d : List UInt8} {A l r : Option Addr} {n c : Nat} (hd : d.length = 32) (hw : Region.wanted o (yielded ops a.tmps) = true) (ho : o.op = .build 77 #[(0, x0), (1, x1), (2, x2), (3, x3)])
    (h0 : a.eval x0 = dgV d) (h1 : a.eval x1 = .slice A n c) (h2 : a.eval x2 = .pointer l) (h3 : a.eval x3 = .pointer r) (hF : F (.agg (ndC d (.slice A n c) (.pointer l) (.pointer r)).toArray) w) : oblAt Try.prog ops o a w F := by
  have hr : (execOp a.eval o).run Try.prog w = .ok (.value (.agg (ndC d (.slice A n c) (.pointer l) (.pointer r)).toArray)) w := by
    unfold execOp
    rw [ho]
    simp only [List.map_toArray, List.map_cons, List.map_nil, h0, h1, h2, h3, Sem.run_bind, run_nd4 hd]
    rfl
  unfold oblAt
  rw [if_pos hw, hr]
  exact ⟨ExtW.refl _, hF⟩
theorem obl_box {ops : Array Oper} {o : Oper} {a : Act} {w : World} {F : Value → World → Prop} {x0 : Operand} {cs : Array Value} (hw : Region.wanted o (yielded ops a.tmps) = true) (ho : o.op = .box 77 x0)
    (h0 : a.eval x0 = .agg cs) (hF : F (.pointer (some ⟨w.heap.size, 0, none⟩)) (w.alloc (.cells cs 77))) : oblAt Try.prog ops o a w F := by
  have hr : (execOp a.eval o).run Try.prog w = .ok (.value (.pointer (some ⟨w.heap.size, 0, none⟩))) (w.alloc (.cells cs 77)) := by
    unfold execOp
    rw [ho]
    simp only [h0]
    simp [go_sem]
  unfold oblAt
  rw [if_pos hw, hr]
  exact ⟨(Below.refl _ _).alloc (Nat.le_refl _) _, hF⟩
/-- the text that is handed on is no nil -/
theorem BytesF.some {k : Nat} {xs : List UInt8} {v : Value} {w : World} (h : BytesF (1 + k) xs v w) : ∃ A c, v = .slice (some A) (1 + k) c ∧ Rd w (some A) (1 + k) c 1 (bvs xs) := by
  obtain ⟨A, c, e, hr⟩ := h
  cases hA : A with
  | none => have h1 := hr.nil0 hA; have h2 := hr.nc; omega
  | some A => subst hA; exact ⟨A, c, e, hr⟩
/-- a node as built, not yet laid -/
def BldF (d t : List UInt8) (l r : Option Addr) (v : Value) (w : World) : Prop := ∃ A n c, v = .agg (ndC d (.slice (some A) n c) (.pointer l) (.pointer r)).toArray ∧ Rd w (some A) n c 1 (bvs t)
theorem BldF.mono (d t : List UInt8) (l r : Option Addr) : ∀ v w w', BldF d t l r v w → ExtW w w' → BldF d t l r v w' := by
  rintro v w w' ⟨A, n, c, e, h⟩ hb
  exact ⟨A, n, c, e, h.below hb (Nat.le_refl _)⟩

def growV (gq gp gt gg : Nat) : Value := .func (.func 47) #[] #[.pointer (some ⟨gq, 0, none⟩), .pointer (some ⟨gp, 0, none⟩), .pointer (some ⟨gt, 0, none⟩), .pointer (some ⟨gg, 0, none⟩)]
/-- the path that is left: a variable's cell, its digests in memory of before -/
def PathAt (wb w : World) (gp : Nat) (ds : List (List UInt8)) : Prop := ∃ B m d, Row w gp 24 [.slice B m d] ∧ Dls wb B m d ds
theorem PathAt.ext {wb w w' : World} {gp : Nat} {ds : List (List UInt8)} (h : PathAt wb w gp ds) (hb : ExtW w w') : PathAt wb w' gp ds := by
  obtain ⟨B, m, d, h1, h2⟩ := h
  exact ⟨B, m, d, h1.ext hb, h2⟩
theorem PathAt.nd {wb w w' : World} {gp : Nat} {ds : List (List UInt8)} (h : PathAt wb w gp ds) (k : Kp (fun j => j = gp) w w') {t : NT} {v : Value} (hn : NdAt w t v) : NdAt w' t v := by
  obtain ⟨B, m, d, h1, h2⟩ := h
  exact NdAt.kp (fun b e => by cases e) h1 k t v hn
def GrPost (B : Nat) (part l : List (List UInt8)) (a : Int) (ds : List (List UInt8)) (wb : World) (gp : Nat) (w : World) (e : Ending) (w' : World) : Prop :=
  ∃ v nt, e = .returned v ∧ NdAt w' nt v ∧ Sh nt l.length ∧ nt.d = (T.spotsD B part l a ds).2.1 ∧ pairsOf B nt l = (T.spotsD B part l a ds).1 ∧ PathAt wb w' gp (T.spotsD B part l a ds).2.2 ∧ Kp (fun j => j = gp) w w'

set_option maxHeartbeats 40000000 in
set_option maxRecDepth 100000 in
theorem grown_any (x : Int) (hx : -9223372036854775808 ≤ x ∧ x ≤ 9223372036854775807) (wb wc : World) (gt gq gp gg : Nat) (A : Option Addr) (n c : Nat) (part : List (List UInt8)) (hbc : ExtW wb wc) (hgp : wb.heap.size ≤ gp) (hne : gt ≠ gp ∧ gq ≠ gp ∧ gg ≠ gp)
    (hgt : wc.cell? ⟨gt, 0, none⟩ = some (.int .i64 x)) (hgq : wc.cell? ⟨gq, 0, none⟩ = some (.slice A n c)) (hgg : wc.cell? ⟨gg, 0, none⟩ = some (growV gq gp gt gg)) (hpart : Bss wb A n c part) (hlv : Lv part) (hn : n ≤ 1000000) :
    ∀ (N : Nat) (l : List (List UInt8)) (cn : Nat) (a : Int) (ds : List (List UInt8)) (w : World), cn < N → l.length = cn → 1 ≤ cn → cn ≤ 1000000 → -9223372036854775807 ≤ a - cn → a + n ≤ 9223372036854775807 → T.popsD cn a n ≤ ds.length → Kp (fun j => j = gp) wc w → PathAt wb w gp ds →
    Calls Try.prog 47 #[.int .i64 (cn : Int), .int .i64 a, .pointer (some ⟨gq, 0, none⟩), .pointer (some ⟨gp, 0, none⟩), .pointer (some ⟨gt, 0, none⟩), .pointer (some ⟨gg, 0, none⟩)] w (GrPost (bitsN x) part l a ds wb gp w) := by
  have HX := Lib.hid hx
  have HBC := Lib.hid hbc
  have HGP := Lib.hid hgp
  have HNE := Lib.hid hne
  have HGT := Lib.hid hgt
  have HGQ := Lib.hid hgq
  have HGG := Lib.hid hgg
  have HPT := Lib.hid hpart
  have HPL := Lib.hid hpart.len
  have HPV := Lib.hid hlv
  clear hx hbc hgp hne hgt hgq hgg hpart hlv
  intro N
  induction N with
  | zero => intro l cn a ds w h; omega
  | succ N ih =>
    intro l cn a ds w hcN hll hc1 hc2 ha1 ha2 hpop hkp hpa
    have HLL := Lib.hid hll
    have HPOP := Lib.hid hpop
    have HKP := Lib.hid hkp
    have HPA := Lib.hid hpa
    have HEW : Hid (ExtW wb w) := Lib.hid (Below.trans HBC.out (hkp.below (B := wb.heap.size) (by rintro k rfl; exact HGP.out) HBC.out.size))
    obtain ⟨B, m, d, hrow, hds⟩ := hpa
    have HROW := Lib.hid hrow
    have HDS := Lib.hid hds
    have HDL := Lib.hid hds.len
    have hmd := hds.rd.nc
    have hmx := hds.rd.cm
    unfold maxLen at hmx
    have q1 := hkp.cellAt HGQ.out HNE.out.2.1
    clear hll hpop hkp hrow hds
    have hsum : IntKind.i64.wrap (a + (n : Int)) = a + (n : Int) := IntWalk.i64_in _ (by omega)
    go_enter Try.func47, Try.ntmps47
    by_cases hout : a + (n : Int) ≤ 0 ∨ (cn : Int) ≤ a
    · have HOUT := Lib.hid hout
      have hcase : (a + (n : Int) ≤ 0) ∨ (¬ a + (n : Int) ≤ 0 ∧ (cn : Int) ≤ a ∧ ¬ a < (cn : Int)) := by omega
      have hm0 : 0 < m := by
        have h1 := HPOP.out
        rw [T.popsD_out hout] at h1
        have h2 := HDL.out
        omega
      obtain ⟨y, rest, hyr⟩ : ∃ y r, ds = y :: r := by
        cases hd : ds with
        | nil => have h2 := HDL.out; rw [hd] at h2; simp at h2; omega
        | cons y r => exact ⟨y, r, rfl⟩
      have hyl : y.length = 32 := HDS.out.all y (by rw [hyr]; exact List.mem_cons_self ..)
      have HYS : Hid ((bvs y).toArray.size = 32) := Lib.hid (dg_size hyl)
      have HYL := Lib.hid hyl
      have HPO : Hid (T.spotsD (bitsN x) part l a ds = ([], y, rest)) := Lib.hid (by rw [T.spotsD_out _ ds HLL.out HPL.out hout, hyr]; rfl)
      cases hB : B with
      | none => have h3 := HDS.out.rd.nil0 hB; omega
      | some pa =>
      subst hB
      have hld := (HDS.out.same HEW.out).load (k := 0) (d := y) (by rw [hyr]; rfl)
      rw [show pa.add (0 * 32) = pa by simp [Addr.add]] at hld
      have hdr : ∀ W, (Instr.slice 24 (.slice (some pa) m d) (some (.int .i64 1)) none none).run Try.prog W = .ok (.slice (dropD (some pa) d 1) (m - 1) (d - 1)) W := fun W => run_dropD (some pa) m d 1 hm0 hmd W
      have HDR : Hid (Dls wb (dropD (some pa) d 1) (m - 1) (d - 1) rest) := Lib.hid (by have h := HDS.out.dropD (k := 1) hm0; rwa [hyr] at h)
      have c2 := HROW.out.cell (j := 0) rfl
      clear hyr hyl hout
      rcases hcase with h1 | ⟨h1, h2, h3⟩
      all_goals
        go_upto_region 3 with (first
          | (refine wpList_ldA rfl (by rfl) rfl hld ?_; unfold dgV)
          | (refine wpList_newD rfl rfl ?_)
          | (refine wpList_st rfl rfl ?_; refine ⟨w.heap.size, _, _, _, rfl, rfl, zDig_row w, by rw [HYS.out]; kernel_rfl, Eq.trans (show (bvs (List.replicate 32 0)).toArray.size = 32 from rfl) HYS.out.symm, dg_one _, ?_⟩))
        have HY2 := Lib.hid (stD_row w y)
        have HE2 := Lib.hid (stD_ext w y)
        generalize (w.alloc (.cells zDig 45)).setRow w.heap.size (bvs y).toArray = w2 at HY2 HE2 ⊢
        obtain ⟨gy, hgy⟩ : ∃ g, g = w.heap.size := ⟨_, rfl⟩
        have HNY : Hid (gy ≠ gp) := Lib.hid (by have h4 := HROW.out.lt; omega)
        rw [← hgy] at HY2 ⊢
        have HR2 := Lib.hid (HROW.out.ext HE2.out)
        clear hgy hld c2
        have c2 := HR2.out.cell (j := 0) rfl
        have f2 := HR2.out.frozen 0
        go_upto_region 4 with (fail)
        have HR3 : Hid (Row (w2.setCell ⟨gp, 0, none⟩ (.slice (dropD (some pa) d 1) (m - 1) (d - 1))) gp 24 [.slice (dropD (some pa) d 1) (m - 1) (d - 1)]) := Lib.hid (HR2.out.set 0 _)
        have HY3 : Hid (Row (w2.setCell ⟨gp, 0, none⟩ (.slice (dropD (some pa) d 1) (m - 1) (d - 1))) gy 45 (bvs y)) := Lib.hid (HY2.out.other HNY.out _)
        have HK3 : Hid (Kp (fun j => j = gp) w (w2.setCell ⟨gp, 0, none⟩ (.slice (dropD (some pa) d 1) (m - 1) (d - 1)))) := Lib.hid (Kp.setCell (S := fun j => j = gp) (Kp.of_ext _ HE2.out) (.inl rfl) _)
        generalize w2.setCell ⟨gp, 0, none⟩ (.slice (dropD (some pa) d 1) (m - 1) (d - 1)) = w3 at HR3 HY3 HK3 ⊢
        clear c2 f2 hdr
        have hbld := run_nd1 HYL.out
        go_wp2_with (first
          | (refine wpList_ld rfl rfl ?_; refine ⟨gy, _, _, _, rfl, HY3.out, Try.underlying45, rfl, by rw [HYS.out]; kernel_rfl, ?_⟩)
          | (refine wpList_bldG rfl (by rfl) ?_; refine ⟨.agg (ndC y (.slice none 0 0) (.pointer none) (.pointer none)).toArray, by unfold execOp; simp only [List.map_toArray, List.map_cons, List.map_nil, Sem.run_bind]; rw [show (Act.eval _ _ : Value) = dgV y from rfl, hbld]; rfl, ?_⟩))
        go_ret
        have hE4 : ExtW w3 (w3.alloc (.cells (ndC y (.slice none 0 0) (.pointer none) (.pointer none)).toArray 77)) := (Below.refl _ _).alloc (Nat.le_refl _) _
        unfold GrPost
        rw [HPO.out]
        exact ⟨_, .out y, rfl, ⟨HYL.out, _, rfl, heap_alloc_last _ _⟩, trivial, rfl, rfl, ⟨_, _, _, HR3.out.ext hE4, HDR.out⟩, HK3.out.ext hE4⟩
    have HOUT := Lib.hid hout
    have hn1 : ¬ a + (n : Int) ≤ 0 := by omega
    have hn2 : ¬ (cn : Int) ≤ a := by omega
    have hn3 : a < (cn : Int) := by omega
    have Q0 := Lib.hid (HKP.out.cellAt HGT.out HNE.out.1)
    have Q1 := Lib.hid q1
    by_cases h1 : cn = 1
    · have HPO := Lib.hid (T.spotsD_one (bitsN x) ds HLL.out HPL.out hout (by omega))
      subst h1
      obtain ⟨j, hj⟩ : ∃ j : Nat, -a = (j : Int) := ⟨(-a).toNat, by omega⟩
      have hjn : j < n := by omega
      have hneg : IntKind.i64.wrap (-a) = (j : Int) := by rw [IntWalk.i64_in _ (by omega)]; exact hj
      obtain ⟨y, hy⟩ : ∃ y, part[j]? = some y := ⟨_, List.getElem?_eq_getElem (by rw [HPL.out]; exact hjn)⟩
      have HGY : Hid (part.getD (-a).toNat [] = y) := Lib.hid (by rw [hj, Int.toNat_natCast, List.getD_eq_getElem?_getD, hy]; rfl)
      cases hA : A with
      | none => have h3 := HPT.out.nil0 hA; have h4 := HPT.out.nc; omega
      | some pa =>
      obtain ⟨D, q, dd, hcell, hrd⟩ := HPT.out.row pa hA j y hy
      subst hA
      have HC := Lib.hid (HEW.out.cellAt hcell)
      have HRD := Lib.hid (hrd.below HEW.out (Nat.le_refl _))
      have HM : Hid (q ≤ 1000000) := Lib.hid (by
        have h1 := HPV.out y (List.mem_of_getElem? hy)
        have h2 := hrd.len
        rw [bvs_len] at h2
        omega)
      have HLD : Hid ((T.leafD (bitsN x) y).length = 32) := Lib.hid (T.leafD_len _ _)
      clear hcell hrd hy hj hout
      go_upto_region 6 with (fail)
      clear q1
      apply wp_region_ext_tail 15 _ (by kernel_rfl) (by kernel_rfl)
      simp only [List.take_succ_cons, List.take_zero, List.drop_succ_cons, List.drop_zero]
      (apply wpZ_det; (intro wq hE hG; have kk := (ExtW.of_drew hE).cellAt Q0.out; apply obl_val (by rfl); go_simp <;> rfl); (intro ak hak; simp only [Act.put, List.setIfInBounds_toArray, List.set_cons_succ, List.set_cons_zero] at hak; subst hak))
      (apply wpZ_det; (intro wq hE hG; have kk := (ExtW.of_drew hE).cellAt Q1.out; apply obl_val (by rfl); go_simp <;> rfl); (intro ak hak; simp only [Act.put, List.setIfInBounds_toArray, List.set_cons_succ, List.set_cons_zero] at hak; subst hak))
      iterate 3 (apply wpZ_det; (intro wq hE hG; first | exact obl_non (by rfl) | (apply obl_val (by rfl); go_simp <;> rfl)); (intro ak hak; simp only [Act.put, List.setIfInBounds_toArray, List.set_cons_succ, List.set_cons_zero] at hak; subst hak))
      (apply wpZ_det; (intro wq hE hG; have kk := (ExtW.of_drew hE).cellAt HC.out; apply obl_val (by rfl); go_simp <;> rfl); (intro ak hak; simp only [Act.put, List.setIfInBounds_toArray, List.set_cons_succ, List.set_cons_zero] at hak; subst hak))
      (apply wpZ_det; (intro wq hE hG; apply obl_on (by kernel_rfl); go_simp; simp only [extUpon_enter]; refine (leaf_any x D q dd y _ (HRD.out.below (ExtW.of_drew hE) (Nat.le_refl _)) (Nat.le_trans HM.out (by decide)) HX.out).mono ?_; rintro e w' ⟨rfl, hb⟩; exact ⟨_, rfl, hb, rfl⟩); (intro ak hak; simp only [Act.put, List.setIfInBounds_toArray, List.set_cons_succ, List.set_cons_zero] at hak; subst hak))
      (apply wpZ_det; (intro wq hE hG; have kk := (ExtW.of_drew hE).cellAt Q1.out; apply obl_val (by rfl); go_simp <;> rfl); (intro ak hak; simp only [Act.put, List.setIfInBounds_toArray, List.set_cons_succ, List.set_cons_zero] at hak; subst hak))
      iterate 3 (apply wpZ_det; (intro wq hE hG; first | exact obl_non (by rfl) | (apply obl_val (by rfl); go_simp <;> rfl)); (intro ak hak; simp only [Act.put, List.setIfInBounds_toArray, List.set_cons_succ, List.set_cons_zero] at hak; subst hak))
      (apply wpZ_det; (intro wq hE hG; have kk := (ExtW.of_drew hE).cellAt HC.out; apply obl_val (by rfl); go_simp <;> rfl); (intro ak hak; simp only [Act.put, List.setIfInBounds_toArray, List.set_cons_succ, List.set_cons_zero] at hak; subst hak))
      apply wpZ_nd (BytesF (1 + q) (T.ltx y)) (BytesF.mono _ _)
      · intro wq hE hG
        apply obl_on (by kernel_rfl)
        go_simp
        simp only [extUpon_enter]
        refine (leafText_any D q dd y _ (HRD.out.below (ExtW.of_drew hE) (Nat.le_refl _)) (Nat.le_trans HM.out (by decide))).mono ?_
        rintro e w' ⟨v, rfl, ho, hb⟩
        exact ⟨v, rfl, hb, ho⟩
      (intro ut ak hak; simp only [Act.put, List.setIfInBounds_toArray, List.set_cons_succ, List.set_cons_zero] at hak; subst hak)
      apply wpZ_nd (BldF (T.leafD (bitsN x) y) (T.ltx y) none none) (BldF.mono _ _ _ _)
      · intro wq hE hG
        obtain ⟨A1, c1, rfl, hr1⟩ := BytesF.some (hG _ (List.mem_cons_self ..) (by kernel_rfl))
        exact obl_nd2 HLD.out (by kernel_rfl) rfl rfl rfl ⟨A1, _, c1, rfl, hr1⟩
      (intro ub ak hak; simp only [Act.put, List.setIfInBounds_toArray, List.set_cons_succ, List.set_cons_zero] at hak; subst hak)
      apply wpZ_nd (fun v w' => NdAt w' (.leaf (T.leafD (bitsN x) y) (T.ltx y)) v) (fun v w1 w2 h hb => NdAt.ext hb _ _ h)
      · intro wq hE hG
        obtain ⟨A1, n1, c1, rfl, hr1⟩ : BldF (T.leafD (bitsN x) y) (T.ltx y) none none ub wq := hG _ (List.mem_cons_self ..) (by kernel_rfl)
        exact obl_box (by kernel_rfl) rfl rfl ⟨HLD.out, _, A1, n1, c1, rfl, heap_alloc_last _ _, hr1.alloc _⟩
      (intro un ak hak; simp only [Act.put, List.setIfInBounds_toArray, List.set_cons_succ, List.set_cons_zero] at hak; subst hak)
      (apply wpZ_nil; intro wq hE hG)
      have HND : Hid (NdAt wq (.leaf (T.leafD (bitsN x) y) (T.ltx y)) un) := Lib.hid (hG _ (List.mem_cons_self ..))
      have HEQ := Lib.hid (ExtW.of_drew hE)
      clear hE hG
      go_wp2
      go_ret
      unfold GrPost
      rw [HPO.out, HGY.out]
      exact ⟨_, _, rfl, HND.out, HLL.out, rfl, rfl, HPA.out.ext HEQ.out, Kp.of_ext _ HEQ.out⟩
    have h2 : 2 ≤ cn := by omega
    obtain ⟨k, hk⟩ : ∃ k, k = T.half cn := ⟨_, rfl⟩
    have hhl := T.half_lt h2
    rw [← hk] at hhl
    have HPO := Lib.hid (T.spotsD_more (bitsN x) ds HLL.out HPL.out hout h2 hk)
    have HK := Lib.hid hk
    have HP2 : Hid (T.popsD cn a n = T.popsD k a n + T.popsD (cn - k) (a - (k : Int)) n) := Lib.hid (T.popsD_more hout (by omega) hk)
    have HLT : Hid ((l.take k).length = k) := Lib.hid (by rw [List.length_take, HLL.out]; omega)
    have HLD : Hid ((l.drop k).length = cn - k) := Lib.hid (by rw [List.length_drop, HLL.out])
    have q3 := HKP.out.cellAt HGG.out HNE.out.2.2
    unfold growV at q3
    have Q3 := Lib.hid q3
    clear hk hout
    go_wp2_with fail
    refine (chalf_any cn _ ⟨by omega, by omega⟩).mono ?_
    rintro e we ⟨rfl, rfl⟩
    rw [← HK.out]
    go_wp2_with fail
    refine (ih (l.take k) k a ds we (by omega) HLT.out (by omega) (by omega) (by omega) (by omega) (by have h3 := HPOP.out; rw [HP2.out] at h3; omega) HKP.out HPA.out).mono ?_
    unfold GrPost
    obtain ⟨o1, ho1⟩ : ∃ o, o = T.spotsD (bitsN x) part (l.take k) a ds := ⟨_, rfl⟩
    have HRS : Hid (o1.2.2 = ds.drop (T.popsD k a n)) := Lib.hid (by
      have h3 := T.spotsD_rest (bitsN x) (part := part) (l := l.take k) (a := a) (ds := ds) (by rw [HLT.out, HPL.out]; have h3 := HPOP.out; rw [HP2.out] at h3; omega)
      rw [HLT.out, HPL.out] at h3
      rw [ho1]; exact h3)
    rw [← ho1] at HPO ⊢
    rintro e w1 ⟨v1, t1, rfl, hnd1, hsh1, hd1, hp1, hpa1, hk1⟩
    have HND1 := Lib.hid hnd1
    have HSH1 := Lib.hid hsh1
    have HDD1 := Lib.hid hd1
    have HPP1 := Lib.hid hp1
    have HPA1 := Lib.hid hpa1
    have HK1 := Lib.hid hk1
    clear hnd1 hsh1 hd1 hp1 hpa1 hk1 ho1 q1 q3
    have hs1 : IntKind.i64.wrap ((cn : Int) - (k : Int)) = ((cn - k : Nat) : Int) := by rw [IntWalk.i64_in _ (by omega)]; omega
    have hs2 : IntKind.i64.wrap (a - (k : Int)) = a - (k : Int) := IntWalk.i64_in _ (by omega)
    have q3 := HK1.out.cellAt Q3.out HNE.out.2.2
    go_wp2_with fail
    refine (ih (l.drop k) (cn - k) (a - (k : Int)) o1.2.2 w1 (by omega) HLD.out (by omega) (by omega) (by omega) (by omega) (by rw [HRS.out, List.length_drop]; have h3 := HPOP.out; rw [HP2.out] at h3; omega) (HKP.out.trans HK1.out) HPA1.out).mono ?_
    unfold GrPost
    obtain ⟨o2, ho2⟩ : ∃ o, o = T.spotsD (bitsN x) part (l.drop k) (a - (k : Int)) o1.2.2 := ⟨_, rfl⟩
    rw [← ho2] at HPO ⊢
    rintro e w2 ⟨v2, t2, rfl, hnd2, hsh2, hd2, hp2, hpa2, hk2⟩
    have HND2 := Lib.hid hnd2
    have HSH2 := Lib.hid hsh2
    have HDD2 := Lib.hid hd2
    have HPP2 := Lib.hid hp2
    have HPA2 := Lib.hid hpa2
    have HK2 := Lib.hid (HK1.out.trans hk2)
    have HNDA := Lib.hid (HPA1.out.nd hk2 HND1.out)
    have Q02 := Lib.hid ((HK1.out.trans hk2).cellAt Q0.out HNE.out.1)
    obtain ⟨g1, s1, l1, r1, rfl, hr1⟩ := HNDA.out.row
    obtain ⟨g2, s2, l2, r2, rfl, hr2⟩ := HND2.out.row
    have HR1 := Lib.hid hr1
    have HR2 := Lib.hid hr2
    have HL1 := Lib.hid HNDA.out.dlen
    have HL2 := Lib.hid HND2.out.dlen
    have HLN : Hid ((T.nodeD (bitsN x) t1.d t2.d).length = 32) := Lib.hid (T.nodeD_len _ _ _)
    clear hnd2 hsh2 hd2 hp2 hpa2 hk2 ho2 hr1 hr2 q3 hs1 hs2
    go_upto_region 10 with (fail)
    apply wp_region_ext_tail 23 _ (by kernel_rfl) (by kernel_rfl)
    simp only [List.take_succ_cons, List.take_zero, List.drop_succ_cons, List.drop_zero]
    (apply wpZ_det; (intro wq hE hG; have kk := (ExtW.of_drew hE).cellAt Q02.out; apply obl_val (by rfl); go_simp <;> rfl); (intro ak hak; simp only [Act.put, List.setIfInBounds_toArray, List.set_cons_succ, List.set_cons_zero] at hak; subst hak))
    iterate 3 (apply wpZ_det; (intro wq hE hG; first | exact obl_non (by rfl) | (apply obl_val (by rfl); go_simp <;> rfl)); (intro ak hak; simp only [Act.put, List.setIfInBounds_toArray, List.set_cons_succ, List.set_cons_zero] at hak; subst hak))
    (apply wpZ_det; (intro wq hE hG; exact obl_ldA (by rfl) rfl (by rfl) ((HR1.out.ext (ExtW.of_drew hE)).loadD HL1.out)); (intro ak hak; simp only [Act.put, List.setIfInBounds_toArray, List.set_cons_succ, List.set_cons_zero] at hak; subst hak))
    iterate 3 (apply wpZ_det; (intro wq hE hG; first | exact obl_non (by rfl) | (apply obl_val (by rfl); go_simp <;> rfl)); (intro ak hak; simp only [Act.put, List.setIfInBounds_toArray, List.set_cons_succ, List.set_cons_zero] at hak; subst hak))
    (apply wpZ_det; (intro wq hE hG; exact obl_ldA (by rfl) rfl (by rfl) ((HR2.out.ext (ExtW.of_drew hE)).loadD HL2.out)); (intro ak hak; simp only [Act.put, List.setIfInBounds_toArray, List.set_cons_succ, List.set_cons_zero] at hak; subst hak))
    (apply wpZ_det; (intro wq hE hG; apply obl_on (by kernel_rfl); go_simp; simp only [extUpon_enter]; refine (node_any x t1.d t2.d _ HL1.out HL2.out HX.out).mono ?_; rintro e w' ⟨rfl, hb⟩; exact ⟨_, rfl, hb, rfl⟩); (intro ak hak; simp only [Act.put, List.setIfInBounds_toArray, List.set_cons_succ, List.set_cons_zero] at hak; subst hak))
    iterate 3 (apply wpZ_det; (intro wq hE hG; first | exact obl_non (by rfl) | (apply obl_val (by rfl); go_simp <;> rfl)); (intro ak hak; simp only [Act.put, List.setIfInBounds_toArray, List.set_cons_succ, List.set_cons_zero] at hak; subst hak))
    (apply wpZ_det; (intro wq hE hG; exact obl_ldA (by rfl) rfl (by rfl) ((HR1.out.ext (ExtW.of_drew hE)).loadD HL1.out)); (intro ak hak; simp only [Act.put, List.setIfInBounds_toArray, List.set_cons_succ, List.set_cons_zero] at hak; subst hak))
    iterate 3 (apply wpZ_det; (intro wq hE hG; first | exact obl_non (by rfl) | (apply obl_val (by rfl); go_simp <;> rfl)); (intro ak hak; simp only [Act.put, List.setIfInBounds_toArray, List.set_cons_succ, List.set_cons_zero] at hak; subst hak))
    (apply wpZ_det; (intro wq hE hG; exact obl_ldA (by rfl) rfl (by rfl) ((HR2.out.ext (ExtW.of_drew hE)).loadD HL2.out)); (intro ak hak; simp only [Act.put, List.setIfInBounds_toArray, List.set_cons_succ, List.set_cons_zero] at hak; subst hak))
    apply wpZ_nd (BytesF (1 + 64) (T.ntx t1.d t2.d)) (BytesF.mono _ _)
    · intro wq hE hG
      apply obl_on (by kernel_rfl)
      go_simp
      simp only [extUpon_enter]
      refine (nodeText_any t1.d t2.d _ HL1.out HL2.out).mono ?_
      rintro e w' ⟨v, rfl, ho, hb⟩
      exact ⟨v, rfl, hb, ho⟩
    (intro ut ak hak; simp only [Act.put, List.setIfInBounds_toArray, List.set_cons_succ, List.set_cons_zero] at hak; subst hak)
    iterate 2 (apply wpZ_det; (intro wq hE hG; first | exact obl_non (by rfl) | (apply obl_val (by rfl); go_simp <;> rfl)); (intro ak hak; simp only [Act.put, List.setIfInBounds_toArray, List.set_cons_succ, List.set_cons_zero] at hak; subst hak))
    apply wpZ_nd (BldF (T.nodeD (bitsN x) t1.d t2.d) (T.ntx t1.d t2.d) (some ⟨g1, 0, none⟩) (some ⟨g2, 0, none⟩)) (BldF.mono _ _ _ _)
    · intro wq hE hG
      obtain ⟨A1, c1, rfl, hr1⟩ := BytesF.some (hG _ (List.mem_cons_self ..) (by kernel_rfl))
      exact obl_nd4 HLN.out (by kernel_rfl) rfl rfl rfl rfl rfl ⟨A1, _, c1, rfl, hr1⟩
    (intro ub ak hak; simp only [Act.put, List.setIfInBounds_toArray, List.set_cons_succ, List.set_cons_zero] at hak; subst hak)
    apply wpZ_nd (fun v w' => NdAt w' (.node (T.nodeD (bitsN x) t1.d t2.d) (T.ntx t1.d t2.d) t1 t2) v) (fun v w1 w2 h hb => NdAt.ext hb _ _ h)
    · intro wq hE hG
      obtain ⟨A1, n1, c1, rfl, hr1⟩ : BldF (T.nodeD (bitsN x) t1.d t2.d) (T.ntx t1.d t2.d) (some ⟨g1, 0, none⟩) (some ⟨g2, 0, none⟩) ub wq := hG _ (List.mem_cons_self ..) (by kernel_rfl)
      have hE2 : ExtW wq (wq.alloc (.cells (ndC (T.nodeD (bitsN x) t1.d t2.d) (.slice (some A1) n1 c1) (.pointer (some ⟨g1, 0, none⟩)) (.pointer (some ⟨g2, 0, none⟩))).toArray 77)) := (Below.refl _ _).alloc (Nat.le_refl _) _
      exact obl_box (by kernel_rfl) rfl rfl ⟨HLN.out, _, A1, n1, c1, _, _, rfl, heap_alloc_last _ _, hr1.alloc _, NdAt.ext (ExtW.trans (ExtW.of_drew hE) hE2) _ _ HNDA.out, NdAt.ext (ExtW.trans (ExtW.of_drew hE) hE2) _ _ HND2.out⟩
    (intro un ak hak; simp only [Act.put, List.setIfInBounds_toArray, List.set_cons_succ, List.set_cons_zero] at hak; subst hak)
    (apply wpZ_nil; intro wq hE hG)
    have HND : Hid (NdAt wq (.node (T.nodeD (bitsN x) t1.d t2.d) (T.ntx t1.d t2.d) t1 t2) un) := Lib.hid (hG _ (List.mem_cons_self ..))
    have HEQ := Lib.hid (ExtW.of_drew hE)
    clear hE hG
    go_wp2
    go_ret
    unfold GrPost
    rw [HPO.out]
    refine ⟨_, _, rfl, HND.out, ?_, ?_, ?_, HPA2.out.ext HEQ.out, HK2.out.ext HEQ.out⟩
    · have h3 := HSH1.out
      have h4 := HSH2.out
      rw [HLT.out] at h3
      rw [HLD.out] at h4
      rw [HLL.out]
      unfold Sh
      rw [← HK.out]
      exact ⟨h2, h3, h4⟩
    · show T.nodeD (bitsN x) t1.d t2.d = T.nodeD (bitsN x) o1.2.1 o2.2.1
      rw [HDD1.out, HDD2.out]
    · unfold pairsOf
      rw [HLL.out, ← HK.out, HPP1.out, HPP2.out, HDD1.out, HDD2.out]
end Go.Proofs.Ythaoibgcgkmnbaa
