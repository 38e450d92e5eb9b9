/- Walks of CheckRange and of the package's Check and CheckRange. -/
import Derived.Test.YthaoibgcgkmnbaaT9
namespace Go.Proofs.Ythaoibgcgkmnbaa
set_option maxRecDepth 100000
open Go.RowKit

theorem T.checkRD_no {B : Nat} {root : List UInt8} {cn a : Int} {part path : List (List UInt8)} {n : Nat} (hn : part.length = n) (h : n = 0 ∨ a < 0 ∨ cn < n ∨ cn - n < a) : T.checkRD B root cn a part path = false := by
  unfold T.checkRD; rw [hn, if_pos h]
theorem T.checkRD_in {B : Nat} {root : List UInt8} {cn : Nat} {a : Int} {part path : List (List UInt8)} {n : Nat} (hn : part.length = n) (h : ¬ (n = 0 ∨ a < 0 ∨ (cn : Int) < n ∨ (cn : Int) - n < a)) {o : List UInt8 × List (List UInt8) × Bool} (ho : o = T.openD B part cn a path false) :
    T.checkRD B root cn a part path = (!o.2.2 && decide (o.2.1 = []) && decide (o.1 = root)) := by
  unfold T.checkRD; rw [hn, if_neg h, Int.toNat_natCast, ← ho]

set_option maxHeartbeats 4000000 in
set_option maxRecDepth 100000 in
theorem mcr_no (x : Int) (root : List UInt8) (cn a : Int) (hcn : cn ≤ 9223372036854775807) (A : Option Addr) (n c : Nat) (vp : Value) (w : World) (h : n = 0 ∨ a < 0 ∨ cn < n ∨ cn - n < a) :
    Calls Try.prog 25 #[.agg #[.int .i64 x], dgV root, .int .i64 cn, .int .i64 a, .slice A n c, vp] w fun e w' => e = .returned (.bool false) ∧ ExtW w w' := by
  have HE0 : Hid (ExtW w ((w.alloc (.cells #[.int .i64 x] 30)).alloc (.cells (bvs root).toArray 45))) := Lib.hid (((Below.refl _ _).alloc (Nat.le_refl _) _).alloc (by simp) _)
  unfold dgV
  by_cases h0 : n = 0
  · subst h0
    clear h
    go_enter Try.func25, Try.ntmps25
    go_wp2
    go_ret
    exact ⟨rfl, HE0.out⟩
  have hne0 : ((n : Int) == 0) = false := by rw [beq_eq_false_iff_ne]; omega
  have hc : a < 0 ∨ (¬ a < 0 ∧ cn < n ∧ ¬ (n : Int) ≤ cn) ∨ (¬ a < 0 ∧ ¬ cn < n ∧ cn - n < a ∧ ¬ a ≤ cn - n) := by omega
  clear h h0
  rcases hc with h1 | ⟨h1, h2, h3⟩ | ⟨h1, h2, h3, h4⟩
  · go_enter Try.func25, Try.ntmps25
    go_wp2
    go_ret
    exact ⟨rfl, HE0.out⟩
  · go_enter Try.func25, Try.ntmps25
    go_wp2
    go_ret
    exact ⟨rfl, HE0.out⟩
  · have hs : IntKind.i64.wrap (cn - (n : Int)) = cn - (n : Int) := IntWalk.i64_in _ (by omega)
    go_enter Try.func25, Try.ntmps25
    go_wp2
    go_ret
    exact ⟨rfl, HE0.out⟩

set_option maxHeartbeats 4000000 in
set_option maxRecDepth 100000 in
theorem mcr_in (x : Int) (hx : -9223372036854775808 ≤ x ∧ x ≤ 9223372036854775807) (root : List UInt8) (hroot : root.length = 32) (cn : Nat) (a : Int) (hcn : cn < 9223372036854775808)
    (A : Option Addr) (n c : Nat) (part : List (List UInt8)) (PA : Option Addr) (pn pc : Nat) (path : List (List UInt8)) (w : World) (hpart : Bss w A n c part) (hlv : Lv part) (hn : n ≤ 1000000) (hp : Dls w PA pn pc path)
    (hin : ¬ (n = 0 ∨ a < 0 ∨ (cn : Int) < n ∨ (cn : Int) - n < a)) :
    Calls Try.prog 25 #[.agg #[.int .i64 x], dgV root, .int .i64 (cn : Int), .int .i64 a, .slice A n c, .slice PA pn pc] w fun e w' => e = .returned (.bool (T.checkRD (bitsN x) root cn a part path)) ∧ ExtW w w' := by
  have HX := Lib.hid hx
  have HRL := Lib.hid hroot
  have HSR : Hid ((bvs root).toArray.size = 32) := Lib.hid (dg_size hroot)
  have HP := Lib.hid hp
  have HB := Lib.hid hpart
  have HV := Lib.hid hlv
  obtain ⟨o, ho⟩ : ∃ o, o = T.openD (bitsN x) part cn a path false := ⟨_, rfl⟩
  have HRES := Lib.hid (T.checkRD_in (B := bitsN x) (root := root) (cn := cn) (a := a) (part := part) (path := path) hpart.len hin ho)
  have HOL : Hid (o.1.length = 32) := Lib.hid (by rw [ho]; exact (T.openD_len _ _ _ _ _ _ hp.all).1)
  have HO := Lib.hid ho
  have hne0 : ((n : Int) == 0) = false := by rw [beq_eq_false_iff_ne]; omega
  have h1 : ¬ a < 0 := by omega
  have h2 : decide (cn < n) = false := by rw [decide_eq_false_iff_not]; omega
  have h3 : ¬ (cn : Int) - n < a := by omega
  have h4 : a ≤ (cn : Int) - n := by omega
  have h5 : (n : Int) ≤ cn := by omega
  have hs : IntKind.i64.wrap ((cn : Int) - (n : Int)) = (cn : Int) - (n : Int) := IntWalk.i64_in _ (by omega)
  have hc1 : 1 ≤ cn := by omega
  clear hx hroot hp hpart hlv ho hin
  have HB0 := Lib.hid (cell_new1 w (.int .i64 x) 30)
  have HE0 : Hid (ExtW w (w.alloc (.cells #[.int .i64 x] 30))) := Lib.hid ((Below.refl _ _).alloc (Nat.le_refl _) _)
  unfold dgV
  go_enter Try.func25, Try.ntmps25
  go_upto_region 1 with (fail)
  have HA : Hid ((w.alloc (.cells #[.int .i64 x] 30)).heap.size = w.heap.size + 1) := Lib.hid (by simp)
  generalize w.alloc (.cells #[.int .i64 x] 30) = w1 at HB0 HE0 HA ⊢
  have HR1 : Hid (Row (w1.alloc (.cells (bvs root).toArray 45)) (w.heap.size + 1) 45 (bvs root)) := Lib.hid (by rw [← HA.out]; exact heap_alloc_last _ _)
  have HE1 : Hid (ExtW w1 (w1.alloc (.cells (bvs root).toArray 45))) := Lib.hid ((Below.refl _ _).alloc (Nat.le_refl _) _)
  generalize w1.alloc (.cells (bvs root).toArray 45) = w2 at HR1 HE1 ⊢
  have HB2 := Lib.hid (HE1.out.cellAt HB0.out)
  have HE2 := Lib.hid (ExtW.trans HE0.out HE1.out)
  obtain ⟨gb, hgb⟩ : ∃ g, g = w.heap.size := ⟨_, rfl⟩
  obtain ⟨gr, hgr⟩ : ∃ g, g = w.heap.size + 1 := ⟨_, rfl⟩
  rw [← hgb] at HB2
  rw [← hgr] at HR1
  rw [← hgr, ← hgb]
  clear hgb hgr HB0 HE0 HE1 HA
  have k7 := HB2.out
  go_upto_region 4 with (refine wpList_bldG rfl (by rfl) ?_; refine ⟨.agg (opV x A n c PA pn pc false).toArray, by kernel_rfl, ?_⟩)
  have HR3 : Hid (Row (w2.alloc (.cells (opV x A n c PA pn pc false).toArray 90)) w2.heap.size 90 (opV x A n c PA pn pc false)) := Lib.hid (heap_alloc_last _ _)
  have HE3 : Hid (ExtW w2 (w2.alloc (.cells (opV x A n c PA pn pc false).toArray 90))) := Lib.hid ((Below.refl _ _).alloc (Nat.le_refl _) _)
  generalize w2.alloc (.cells (opV x A n c PA pn pc false).toArray 90) = w3 at HR3 HE3 ⊢
  obtain ⟨g, hg⟩ : ∃ g, g = w2.heap.size := ⟨_, rfl⟩
  have HGG := Lib.hid hg
  rw [← hg] at HR3 ⊢
  have HNR : Hid (gr ≠ g) := Lib.hid (by have := HR1.out.lt; omega)
  have HR4 := Lib.hid (HR1.out.ext HE3.out)
  clear hg k7
  go_wp2_with fail
  refine (oroot_any x HX.out w2 A n c part (HB.out.same HE2.out) HV.out hn g (Nat.le_of_eq HGG.out.symm) (cn + 1) cn a path false w3 (by omega) hc1 (by omega) (by omega) hcn HE3.out ⟨PA, pn, pc, HR3.out, HP.out.same HE2.out⟩).mono ?_
  unfold RootPost
  rintro e w4 ⟨rfl, hg4, hop4⟩
  rw [← HO.out] at hop4 ⊢
  obtain ⟨d1, p1, b1⟩ := o
  simp only at hop4 HRES HOL ⊢
  obtain ⟨B', m', d', hrow4, hds4⟩ := hop4
  have HROW4 := Lib.hid hrow4
  have HPL4 := Lib.hid hds4.len
  have HR5 := Lib.hid (grown_row hg4 HR4.out HNR.out)
  have HE4 : Hid (ExtW w w4) := Lib.hid (ext_of_grown (ExtW.trans HE2.out HE3.out) (by rw [HGG.out]; exact HE2.out.size) hg4)
  have HS1 : Hid ((bvs d1).toArray.size = 32) := Lib.hid (dg_size HOL.out)
  clear hg4 hrow4 hds4 HO HR4 HR3
  unfold dgV
  go_upto_region 5 with (first
    | (refine wpList_newD rfl rfl ?_)
    | (refine wpList_st rfl rfl ?_; refine ⟨w4.heap.size, _, _, _, rfl, rfl, zDig_row w4, by rw [HS1.out]; kernel_rfl, Eq.trans (show (bvs (List.replicate 32 0)).toArray.size = 32 from rfl) HS1.out.symm, dg_one _, ?_⟩))
  have HY5 : Hid (Row ((w4.alloc (.cells zDig 45)).setRow w4.heap.size (bvs d1).toArray) w4.heap.size 45 (bvs d1)) := Lib.hid ((zDig_row w4).setRow _)
  have HE5 : Hid (ExtW w4 ((w4.alloc (.cells zDig 45)).setRow w4.heap.size (bvs d1).toArray)) := Lib.hid (below_setRow ((Below.refl _ _).alloc (Nat.le_refl _) _) (Nat.le_refl _) _)
  generalize (w4.alloc (.cells zDig 45)).setRow w4.heap.size (bvs d1).toArray = w5 at HY5 HE5 ⊢
  obtain ⟨gy, hgy⟩ : ∃ g, g = w4.heap.size := ⟨_, rfl⟩
  rw [← hgy] at HY5 ⊢
  have HROW5 := Lib.hid (HROW4.out.ext HE5.out)
  have HR6 := Lib.hid (HR5.out.ext HE5.out)
  have HE6 := Lib.hid (ExtW.trans HE4.out HE5.out)
  have c2 := HROW5.out.cell (j := 2) (v := .slice B' m' d') rfl
  have c3 := HROW5.out.cell (j := 3) (v := .bool b1) rfl
  clear hgy HROW4 HR5
  cases b1 with
  | true =>
    go_wp2
    go_ret
    exact ⟨by rw [HRES.out]; rfl, HE6.out⟩
  | false =>
    by_cases hm : m' = 0
    · have hli : ((m' : Int) == 0) = true := by rw [beq_iff_eq]; omega
      have hp1 : p1 = [] := List.length_eq_zero_iff.1 (by rw [HPL4.out]; exact hm)
      have HP1 := Lib.hid hp1
      have heq := eq_dg d1 root HOL.out HRL.out
      subst hm
      clear hp1
      go_wp2_with (refine wpList_ldG rfl (by rfl) ?_; first | refine ⟨gy, 0, _, _, rfl, HY5.out.range, Try.underlying45, rfl, sizeD HOL.out, ?_⟩ | refine ⟨gr, 0, _, _, rfl, HR6.out.range, Try.underlying45, rfl, sizeD HRL.out, ?_⟩)
      go_ret
      exact ⟨by rw [HRES.out, HP1.out]; simp, HE6.out⟩
    · have hli : ((m' : Int) == 0) = false := by rw [beq_eq_false_iff_ne]; omega
      have HP1 : Hid (decide (p1 = []) = false) := Lib.hid (by
        rw [decide_eq_false_iff_not]
        intro h
        have := HPL4.out
        rw [h] at this
        exact hm this.symm)
      clear hm
      go_wp2
      go_ret
      exact ⟨by rw [HRES.out, HP1.out]; simp, HE6.out⟩

/-- any answer of CheckRange -/
theorem mcr_any (x : Int) (hx : -9223372036854775808 ≤ x ∧ x ≤ 9223372036854775807) (root : List UInt8) (hroot : root.length = 32) (cn a : Int) (hcn : cn ≤ 9223372036854775807)
    (A : Option Addr) (n c : Nat) (part : List (List UInt8)) (PA : Option Addr) (pn pc : Nat) (path : List (List UInt8)) (w : World) (hpart : Bss w A n c part) (hlv : Lv part) (hn : n ≤ 1000000) (hp : Dls w PA pn pc path) :
    Calls Try.prog 25 #[.agg #[.int .i64 x], dgV root, .int .i64 cn, .int .i64 a, .slice A n c, .slice PA pn pc] w fun e w' => e = .returned (.bool (T.checkRD (bitsN x) root cn a part path)) ∧ ExtW w w' := by
  by_cases h : n = 0 ∨ a < 0 ∨ cn < n ∨ cn - n < a
  · rw [T.checkRD_no hpart.len h]
    exact mcr_no x root cn a hcn A n c _ w h
  · obtain ⟨k, rfl⟩ : ∃ k : Nat, cn = (k : Int) := ⟨cn.toNat, by omega⟩
    exact mcr_in x hx root hroot k a (by omega) A n c part PA pn pc path w hpart hlv hn hp h
/-- any answer of Check -/
theorem mcheck_any (x : Int) (hx : -9223372036854775808 ≤ x ∧ x ≤ 9223372036854775807) (root : List UInt8) (hroot : root.length = 32) (cn i : Int) (hcn : cn ≤ 9223372036854775807)
    (LA : Option Addr) (ln lc : Nat) (leaf : List UInt8) (PA : Option Addr) (pn pc : Nat) (path : List (List UInt8)) (w : World) (hl : Rd w LA ln lc 1 (bvs leaf)) (hln : ln ≤ 1000000) (hp : Dls w PA pn pc path) :
    Calls Try.prog 23 #[.agg #[.int .i64 x], dgV root, .int .i64 cn, .int .i64 i, .slice LA ln lc, .slice PA pn pc] w fun e w' => e = .returned (.bool (T.checkD (bitsN x) root cn i leaf path)) ∧ ExtW w w' := by
  by_cases h : i < 0 ∨ cn ≤ i
  · have e : T.checkD (bitsN x) root cn i leaf path = false := by unfold T.checkD; rw [if_pos h]
    rw [e]
    exact mcheck_no x root hroot cn i _ _ w h
  · obtain ⟨k, rfl⟩ : ∃ k : Nat, cn = (k : Int) := ⟨cn.toNat, by omega⟩
    obtain ⟨j, rfl⟩ : ∃ j : Nat, i = (j : Int) := ⟨i.toNat, by omega⟩
    have e : T.checkD (bitsN x) root (k : Int) (j : Int) leaf path = T.takesD (bitsN x) root k j leaf path := by unfold T.checkD T.takesD; rw [if_neg h, Int.toNat_natCast, Int.toNat_natCast]
    rw [e]
    exact mcheck_in x hx root hroot k j (by omega) (by omega) LA ln lc leaf PA pn pc path w hl hln hp

end Go.Proofs.Ythaoibgcgkmnbaa
