/- Walk of FrameTurned. -/
import Derived.Test.YtegkcbkgoncnbaaShown8
import Derived.Test.YtegkcbkgoncnbaaTold
namespace Go.Proofs.Ytegkcbkgoncnbaa
open Go.RowKit

theorem bvs_set (xs : List UInt8) (j : Nat) (x : UInt8) : (bvs xs).set j (.int .u8 (x.toNat : Int)) = bvs (xs.set j x) := by simp [bvs, List.map_set]

theorem tmod_nat (y d : Nat) : Int.tmod (y : Int) (d : Int) = ((y % d : Nat) : Int) := by rw [Int.tmod_eq_emod_of_nonneg (by omega)]; simp

theorem wrap64_small {n : Int} (h1 : 0 ≤ n) (h2 : n < 9223372036854775808) : wrap64 n = n := by unfold wrap64; omega

structure Place (k1 d y j q : Nat) : Prop where
  neg : wrap64 (-(y : Int)) = -(y : Int)
  pos : wrap64 (y : Int) = (y : Int)
  rem : (y : Int).tmod (d : Int) = (j : Int)
  mod : (y : Int) % (d : Int) = (j : Int)
  at' : wrap64 ((k1 : Int) + (j : Int)) = (q : Int)
  sum : q = k1 + j
  lt : j < d

theorem place_nat (y k1 d : Nat) (hy : y < 9223372036854775808) (hd0 : 0 < d) (hk : k1 + d < 1000000000) : ∃ j q, Place k1 d y j q := by
  have hlt := Nat.mod_lt y hd0
  have h1 : (y : Int) % (d : Int) = ((y % d : Nat) : Int) := by simp
  have h2 : (y : Int).tmod (d : Int) = ((y % d : Nat) : Int) := by rw [Int.tmod_eq_emod_of_nonneg (by omega), h1]
  generalize y % d = j at hlt h1 h2
  refine ⟨j, k1 + j, ?_, wrap64_small (by omega) (by omega), h2, h1, ?_, rfl, hlt⟩
  · clear h1 h2; unfold wrap64; omega
  · clear h1 h2; rw [wrap64_small (by omega) (by omega)]; omega

/-- the place that a statement makes of any number -/
theorem place_of (x : Int) (k1 d : Nat) (hx : -9223372036854775808 ≤ x ∧ x ≤ 9223372036854775807) (hd0 : 0 < d) (hk : k1 + d < 1000000000) (P : Prop)
    (h1 : ∀ (y j q : Nat), x + 1 = -(y : Int) → x < 0 → Place k1 d y j q → P)
    (h2 : ∀ (y j q : Nat), x = (y : Int) → Place k1 d y j q → P) : P := by
  rcases (by omega : x < 0 ∨ 0 ≤ x) with hx0 | hx0
  · obtain ⟨j, q, e⟩ := place_nat (-(x + 1)).toNat k1 d (by omega) hd0 hk
    exact h1 _ j q (by omega) hx0 e
  · obtain ⟨j, q, e⟩ := place_nat x.toNat k1 d (by omega) hd0 hk
    exact h2 _ j q (by omega) e

theorem turned_at {a b : List UInt8} {k1 d j q : Nat} (ha : (frameOf a).length = k1) (hb : (frameOf b).length = d) (hj : j < d) (hq : q = k1 + j) :
    ∃ z, (frameOf b)[j]? = some z ∧ (frameOf a ++ frameOf b)[q]? = some z ∧ ∀ u, (frameOf a ++ frameOf b).set q u = frameOf a ++ (frameOf b).set j u := by
  refine ⟨(frameOf b)[j], List.getElem?_eq_getElem (by omega), ?_, fun u => ?_⟩
  · rw [hq, List.getElem?_append_right (by omega), ha, Nat.add_sub_cancel_left]; exact List.getElem?_eq_getElem (by omega)
  · rw [List.set_append_right _ _ (by omega), ha, hq, Nat.add_sub_cancel_left]

theorem xor_u8 (z : UInt8) {t : Nat} (ht : t < 256) : bits .xor .u8 (z.toNat : Int) (t : Int) = ((z ^^^ UInt8.ofNat t).toNat : Int) := by
  rw [u8_xor_nat _ _ z.toNat_lt ht, UInt8.toNat_xor, UInt8.toNat_ofNat', Nat.mod_eq_of_lt ht]
theorem ofNat_ne {t : Nat} (ht : t < 256) (h0 : 0 < t) : UInt8.ofNat t ≠ 0 := by
  intro h
  have := congrArg UInt8.toNat h
  rw [UInt8.toNat_ofNat', Nat.mod_eq_of_lt ht] at this
  have h3 : (0 : UInt8).toNat = 0 := rfl
  omega

theorem row_at {w : World} {base e g n c i : Nat} {vs : List Value} {x : Value} (h : w.ownsRow base e 1 (.slice (some ⟨g, 0, none⟩) n c) n vs) (hx : vs[i]? = some x) : w.cell? ⟨g, i, none⟩ = some x := by
  have hi := (List.getElem?_eq_some_iff.1 hx).1
  have hl := h.1
  rw [h.cellAt i (by omega), hx]

set_option maxHeartbeats 8000000 in
set_option maxRecDepth 100000 in
theorem frameTurned_walk (A : Option Addr) (n c : Nat) (xs : List UInt8) (A2 : Option Addr) (n2 c2 : Nat) (ys : List UInt8) (x : Int) (t : Nat) (w : World)
    (hr : Rd w A n c 1 (bvs xs)) (_hc : c ≤ 140737488351232) (hr2 : Rd w A2 n2 c2 1 (bvs ys)) (_hc2 : c2 ≤ 140737488351232) (hx : -9223372036854775808 ≤ x ∧ x ≤ 9223372036854775807) (ht : t < 256) :
    Calls Try.prog 6 #[.slice A n c, .slice A2 n2 c2, .int .i64 x, .int .u8 t] w fun e w' => e = .returned (.bool true) ∧ Below w.heap.size w w' := by
  obtain ⟨i0, hi, hz0, hz1, hz2⟩ := info_parts infoB
  have HS := Lib.hid fun w => shown_any w
  obtain ⟨m, hm⟩ : ∃ m, m = min n 3000 := ⟨_, rfl⟩
  have hm1 : m ≤ 3000 := by omega
  have hm2 : m ≤ n := by omega
  have hmm : (if 3000 < (n : Int) then (3000 : Int) else (n : Int)) = (m : Int) := by split <;> omega
  obtain ⟨p, hp⟩ : ∃ p, p = min n2 3000 := ⟨_, rfl⟩
  have hp1 : p ≤ 3000 := by omega
  have hp2 : p ≤ n2 := by omega
  have hpp : (if 3000 < (n2 : Int) then (3000 : Int) else (n2 : Int)) = (p : Int) := by split <;> omega
  clear hm hp
  have hnc := hr.nc
  have hnc2 := hr2.nc
  have hrm := hr.take m hm2
  rw [Nat.mul_one, bvs_take] at hrm
  have hrp := hr2.take p hp2
  rw [Nat.mul_one, bvs_take] at hrp
  clear hr hr2
  obtain ⟨a, ha⟩ : ∃ a, a = xs.take m := ⟨_, rfl⟩
  obtain ⟨b, hb⟩ : ∃ b, b = ys.take p := ⟨_, rfl⟩
  rw [← ha] at hrm
  rw [← hb] at hrp
  clear ha hb
  have hal : a.length = m := by have := hrm.len; rw [bvs_len] at this; omega
  have hbl : b.length = p := by have := hrp.len; rw [bvs_len] at this; omega
  have HR := Lib.hid hrm
  have HR2 := Lib.hid hrp
  have HAL := Lib.hid hal
  have HBL := Lib.hid hbl
  clear hrm hrp hal hbl
  go_enter Try.func6, Try.ntmps6
  go_wp2_with fail
  refine (HS.out _).mono ?_
  rintro e w1 ⟨rfl, hb1⟩
  have HB1 := Lib.hid hb1
  have HR1 := Lib.hid (HR.out.below hb1 (Nat.le_refl _))
  have HR21 := Lib.hid (HR2.out.below hb1 (Nat.le_refl _))
  clear hb1
  go_wp2_with fail
  refine (framePut_any none 0 0 [] A m c a _ (Rd.nil _ 1) HR1.out (by omega) (by omega)).mono ?_
  rintro e w2 ⟨r, rfl, hown, hb2⟩
  have HB2 := Lib.hid (HB1.out.trans (hb2.mono HB1.out.size))
  rw [Nat.zero_add, List.nil_append] at hown
  obtain ⟨k1, hk1⟩ : ∃ k1, k1 = m + 8 := ⟨_, rfl⟩
  rw [← hk1] at hown
  obtain ⟨A3, c3, rfl, hr3, _⟩ := own_rd hown
  have HR3 := Lib.hid hr3
  have HR22 := Lib.hid (HR21.out.below hb2 (Nat.le_refl _))
  have HR12 := Lib.hid (HR1.out.below hb2 (Nat.le_refl _))
  have hk1b : k1 ≤ 3008 := by omega
  clear hown hb2 hr3
  have HK1 := Lib.hid hk1
  clear hk1
  go_wp2_with fail
  refine (framePut_any A3 k1 c3 (frameOf a) A2 p c2 b _ HR3.out HR22.out (by omega) (by omega)).mono ?_
  rintro e w3 ⟨r, rfl, hown, hb3⟩
  have HB3 := Lib.hid (HB2.out.trans (hb3.mono HB2.out.size))
  obtain ⟨k3, hk3⟩ : ∃ k3, k3 = k1 + (p + 8) := ⟨_, rfl⟩
  rw [← hk3] at hown
  obtain ⟨g, c4, rfl, hgb, hgl⟩ := own_form hown (by omega)
  have HR13 := Lib.hid (HR12.out.below hb3 (Nat.le_refl _))
  have HR23 := Lib.hid (HR22.out.below hb3 (Nat.le_refl _))
  have HG : Hid (w2.heap.size ≤ g) := Lib.hid hgb
  have HO := Lib.hid hown
  have HK3 := Lib.hid hk3
  have hk3b : k3 ≤ 6016 := by omega
  have hk31 : k1 < k3 := by omega
  clear hown hb3 hgb hgl hk3
  by_cases ht0 : t = 0
  · subst ht0
    go_wp2
    go_ret
    exact ⟨rfl, HB3.out⟩
  · have hti : ¬ (t : Int) = 0 := by omega
    have htb : ((t : Int) == 0) = false := by simp; omega
    have hle : ¬ k3 ≤ k1 := by omega
    have HX : Hid (0 < t) := Lib.hid (by omega)
    clear hti ht0
    obtain ⟨d, hd⟩ : ∃ d, d = p + 8 := ⟨_, rfl⟩
    have hdk : (k3 : Int) - (k1 : Int) = (d : Int) := by have := HK3.out; omega
    have hdk2 : k3 = k1 + d := by have := HK3.out; omega
    have HD := Lib.hid hd
    have HDK := Lib.hid hdk2
    have hd0 : 0 < d := by omega
    clear hd hdk2
    have hwd : wrap64 (d : Int) = (d : Int) := wrap64_small (by omega) (by omega)
    have hal : (frameOf a).length = k1 := by rw [frameOf_len, HAL.out, HK1.out]
    have hbl : (frameOf b).length = d := by rw [frameOf_len, HBL.out, HD.out]
    clear hnc hnc2 hm2 hp2 hk1b hz0 hz2 _hc _hc2
    have hm1' := hm1
    apply place_of x k1 d hx hd0 (by rw [← HDK.out]; exact Nat.lt_of_le_of_lt hk3b (by decide))
    · intro y j q hy hx0 hpl
      obtain ⟨hyn, hyy, htm, hmod, hw, hq, hjd⟩ := hpl
      subst hq
      have hqk : k1 + j < k3 := by rw [HDK.out]; exact Nat.add_lt_add_left hjd _
      have hqi : (k1 : Int) + (j : Int) < (k3 : Int) := by clear hmm hpp hx hyn hyy htm hmod hw; omega
      obtain ⟨z, hz, hzq, hset⟩ := turned_at hal hbl hjd rfl
      have hcell : w3.cell? ⟨g, k1 + j, none⟩ = some (.int .u8 (z.toNat : Int)) := by
        rw [HO.out.cellAt (k1 + j) (by rw [Nat.mul_one]; exact hqk), bvs, List.getElem?_map, hzq]; rfl
      have hfr := HO.out.frozenAt (k1 + j)
      have hxor := xor_u8 z ht
      have hst := (HO.out.stored (k1 + j) (.int .u8 ((z ^^^ UInt8.ofNat t).toNat : Int))).1
      rw [bvs_set, hset] at hst
      have HTOLD := Lib.hid (turned_told (ofNat_ne ht HX.out) hz)
      have HST := Lib.hid hst
      have HAL1 := Lib.hid hal
      clear hw hal hbl hzq hset hst hz ht hmm hpp hm1 hp1 hd0 hx
      generalize z ^^^ UInt8.ofNat t = u at hxor HTOLD HST
      go_wp2_with fail
      obtain ⟨A5, c5, hv5, hr5, _⟩ := own_rd HST.out
      cases hv5
      have HB4 : Hid (Below w.heap.size w (w3.setCell ⟨g, k1 + j, none⟩ (.int .u8 (u.toNat : Int)))) := Lib.hid (HB3.out.setCell (p := ⟨g, k1 + j, none⟩) (Nat.le_trans HB2.out.size HG.out) _)
      have HRA : Hid (Rd (w3.setCell ⟨g, k1 + j, none⟩ (.int .u8 (u.toNat : Int))) A m c 1 (bvs a)) := Lib.hid (HR.out.below HB4.out (Nat.le_refl _))
      have HRB : Hid (Rd (w3.setCell ⟨g, k1 + j, none⟩ (.int .u8 (u.toNat : Int))) A2 p c2 1 (bvs b)) := Lib.hid (HR2.out.below HB4.out (Nat.le_refl _))
      refine (all_any (some ⟨g, 0, none⟩) k3 c4 (frameOf a ++ (frameOf b).set j u) _ hr5 (Nat.le_trans hk3b (by decide))).mono ?_
      rintro e w5 ⟨v, xf, rfl, hall, _, hown, hrows, _, hb5⟩
      have HB5 := Lib.hid (HB4.out.trans (hb5.mono HB4.out.size))
      have HRA5 := Lib.hid (HRA.out.below hb5 (Nat.le_refl _))
      have HRB5 := Lib.hid (HRB.out.below hb5 (Nat.le_refl _))
      obtain ⟨x0, yf, hxf, hbody0, hlast, hsecond⟩ := allF_first hall (by rw [HAL.out]; exact Nat.le_trans hm1' (by decide))
      rw [← frameOf_len, HAL1.out] at hlast
      obtain ⟨L, hL⟩ : ∃ L, L = lastAt xf := ⟨_, rfl⟩
      rw [← hL] at hlast ⊢
      obtain ⟨N, hN⟩ : ∃ N, N = xf.length := ⟨_, rfl⟩
      rw [← hN] at hown
      have hN1 : 1 ≤ N := by rw [hN, hxf]; simp
      obtain ⟨g2, c6, rfl, _, _⟩ := own_form hown hN1
      have hcl0 := row_at (i := 0) (x := x0.v) hown (by rw [hxf]; rfl)
      obtain ⟨A7, c7, hv7, hr7, _⟩ := own_rd (hrows x0 (by rw [hxf]; simp))
      rw [hv7] at hcl0
      rw [hbody0] at hr7 hcl0
      rw [HAL.out] at hr7 hcl0
      generalize (if L = (frameOf a ++ (frameOf b).set j u).length then 0 else (nextF ((frameOf a ++ (frameOf b).set j u).drop L)).2.2 : Nat) = er
      have hcw : ∀ wq, ExtW w5.drew wq → wq.cell? ⟨g2, 0, none⟩ = some (.slice A7 m c7) := fun wq h => (ExtW.of_drew h).cellAt hcl0
      have hs0 : ∀ wq, ExtW w5.drew wq → (convert 22 9 (.slice A7 m c7)).run Try.prog wq = .ok (.string ⟨a.toArray⟩) wq := fun wq h => conv_str (hr7.below (ExtW.of_drew h) (Nat.le_refl _))
      have hsa : ∀ wq, ExtW w5.drew wq → (convert 22 9 (.slice A m c)).run Try.prog wq = .ok (.string ⟨a.toArray⟩) wq := fun wq h => conv_str (HRA5.out.below (ExtW.of_drew h) (Nat.le_refl _))
      have hd1 : decide ((N : Int) < 1) = false := decide_eq_false (fun h => by have := Int.ofNat_le.2 hN1; exact absurd h (Int.not_lt.2 this))
      have hN0 : 0 < N := hN1
      have hd2 : decide (L < k1) = false := decide_eq_false (Nat.not_lt.2 hlast)
      have HOWN := Lib.hid hown
      have HROWS := Lib.hid hrows
      have HSEC := Lib.hid hsecond
      have HXF := Lib.hid hxf
      have HNN := Lib.hid hN
      clear hown hrows hall hxf hL hN hsecond hr5 hb5 hbody0 hcl0 hr7 hv7 hcell hfr hxor hlast htm hmod hyn hyy hqi hqk hwd
      go_wp2_with fail
      apply wp_region_ext _ (by kernel_rfl) (by kernel_rfl)
      iterate 18 (apply wpZ_det; (intro wq hE hG; first | exact obl_non (by rfl) | (apply obl_val (by rfl); go_simp; rfl)); (intro ak hak; simp only [Act.put, List.setIfInBounds_toArray, List.set_cons_succ, List.set_cons_zero] at hak; subst hak))
      (apply wpZ_nil; intro wk hE hG)
      have HE := Lib.hid (ExtW.of_drew hE)
      clear hE hG hcw hs0 hsa hd1 hd2
      cases yf with
      | nil =>
        have hN1e : N = 1 := by rw [HNN.out, HXF.out]; rfl
        have hdn : ((N : Int) == 1) = true := by rw [hN1e]; rfl
        clear hN1e hN0 hN1
        go_wp2_with fail
        apply wp_region_ext _ (by kernel_rfl) (by kernel_rfl)
        iterate 16 (apply wpZ_det; (intro wq hE hG; first | exact obl_non (by rfl) | (apply obl_val (by rfl); go_simp; rfl)); (intro ak hak; simp only [Act.put, List.setIfInBounds_toArray, List.set_cons_succ, List.set_cons_zero] at hak; subst hak))
        (apply wpZ_nil; intro wl hE hG)
        go_wp2
        go_ret
        exact ⟨rfl, HB5.out.trans ((HE.out.trans (ExtW.of_drew hE)).mono HB5.out.size)⟩
      | cons y1 zs =>
        have hN2 : 1 < N := by rw [HNN.out, HXF.out]; simp
        have hdn : ((N : Int) == 1) = false := by
          rw [beq_eq_false_iff_ne]
          intro h
          have := Int.ofNat_lt.2 hN2
          omega
        have hN2i : (1 : Int) < (N : Int) := Int.ofNat_lt.2 hN2
        have hcl1 := row_at (i := 1) (x := y1.v) HOWN.out (by rw [HXF.out]; rfl)
        obtain ⟨A8, c8, hv8, hr8, _⟩ := own_rd (HROWS.out y1 (by rw [HXF.out]; simp))
        rw [hv8] at hcl1
        obtain ⟨kk, hkk⟩ := HSEC.out y1 zs rfl
        have hne : y1.body ≠ b := fun e => HTOLD.out kk (by rw [hkk, e])
        have hneb : (y1.body == b) = false := by simp [hne]
        have HC1 := Lib.hid hcl1
        have HR8 := Lib.hid hr8
        clear hcl1 hv8 hkk hr8 hne
        generalize y1.body = bo at hneb HC1 HR8
        generalize hbol : bo.length = nb at HC1 HR8
        clear hbol hN1
        go_wp2_with fail
        have hcw : ∀ wq, ExtW wk.drew wq → wq.cell? ⟨g2, 1, none⟩ = some (.slice A8 nb c8) := fun wq h => (HE.out.trans (ExtW.of_drew h)).cellAt HC1.out
        have hs1 : ∀ wq, ExtW wk.drew wq → (convert 22 9 (.slice A8 nb c8)).run Try.prog wq = .ok (.string ⟨bo.toArray⟩) wq := fun wq h => conv_str (HR8.out.below (HE.out.trans (ExtW.of_drew h)) (Nat.le_refl _))
        have hsb : ∀ wq, ExtW wk.drew wq → (convert 22 9 (.slice A2 p c2)).run Try.prog wq = .ok (.string ⟨b.toArray⟩) wq := fun wq h => conv_str (HRB5.out.below (HE.out.trans (ExtW.of_drew h)) (Nat.le_refl _))
        apply wp_region_ext _ (by kernel_rfl) (by kernel_rfl)
        iterate 16 (apply wpZ_det; (intro wq hE hG; first | exact obl_non (by rfl) | (apply obl_val (by rfl); go_simp; rfl)); (intro ak hak; simp only [Act.put, List.setIfInBounds_toArray, List.set_cons_succ, List.set_cons_zero] at hak; subst hak))
        (apply wpZ_nil; intro wl hE hG)
        go_wp2
        go_ret
        exact ⟨rfl, HB5.out.trans ((HE.out.trans (ExtW.of_drew hE)).mono HB5.out.size)⟩
    · intro y j q hy hpl
      subst hy
      obtain ⟨hyn, hyy, htm, hmod, hw, hq, hjd⟩ := hpl
      subst hq
      have hqk : k1 + j < k3 := by rw [HDK.out]; exact Nat.add_lt_add_left hjd _
      have hqi : (k1 : Int) + (j : Int) < (k3 : Int) := by clear hmm hpp hx hyn hyy htm hmod hw; omega
      obtain ⟨z, hz, hzq, hset⟩ := turned_at hal hbl hjd rfl
      have hcell : w3.cell? ⟨g, k1 + j, none⟩ = some (.int .u8 (z.toNat : Int)) := by
        rw [HO.out.cellAt (k1 + j) (by rw [Nat.mul_one]; exact hqk), bvs, List.getElem?_map, hzq]; rfl
      have hfr := HO.out.frozenAt (k1 + j)
      have hxor := xor_u8 z ht
      have hst := (HO.out.stored (k1 + j) (.int .u8 ((z ^^^ UInt8.ofNat t).toNat : Int))).1
      rw [bvs_set, hset] at hst
      have HTOLD := Lib.hid (turned_told (ofNat_ne ht HX.out) hz)
      have HST := Lib.hid hst
      have HAL1 := Lib.hid hal
      clear hw hal hbl hzq hset hst hz ht hmm hpp hm1 hp1 hd0 hx
      generalize z ^^^ UInt8.ofNat t = u at hxor HTOLD HST
      go_wp2_with fail
      obtain ⟨A5, c5, hv5, hr5, _⟩ := own_rd HST.out
      cases hv5
      have HB4 : Hid (Below w.heap.size w (w3.setCell ⟨g, k1 + j, none⟩ (.int .u8 (u.toNat : Int)))) := Lib.hid (HB3.out.setCell (p := ⟨g, k1 + j, none⟩) (Nat.le_trans HB2.out.size HG.out) _)
      have HRA : Hid (Rd (w3.setCell ⟨g, k1 + j, none⟩ (.int .u8 (u.toNat : Int))) A m c 1 (bvs a)) := Lib.hid (HR.out.below HB4.out (Nat.le_refl _))
      have HRB : Hid (Rd (w3.setCell ⟨g, k1 + j, none⟩ (.int .u8 (u.toNat : Int))) A2 p c2 1 (bvs b)) := Lib.hid (HR2.out.below HB4.out (Nat.le_refl _))
      refine (all_any (some ⟨g, 0, none⟩) k3 c4 (frameOf a ++ (frameOf b).set j u) _ hr5 (Nat.le_trans hk3b (by decide))).mono ?_
      rintro e w5 ⟨v, xf, rfl, hall, _, hown, hrows, _, hb5⟩
      have HB5 := Lib.hid (HB4.out.trans (hb5.mono HB4.out.size))
      have HRA5 := Lib.hid (HRA.out.below hb5 (Nat.le_refl _))
      have HRB5 := Lib.hid (HRB.out.below hb5 (Nat.le_refl _))
      obtain ⟨x0, yf, hxf, hbody0, hlast, hsecond⟩ := allF_first hall (by rw [HAL.out]; exact Nat.le_trans hm1' (by decide))
      rw [← frameOf_len, HAL1.out] at hlast
      obtain ⟨L, hL⟩ : ∃ L, L = lastAt xf := ⟨_, rfl⟩
      rw [← hL] at hlast ⊢
      obtain ⟨N, hN⟩ : ∃ N, N = xf.length := ⟨_, rfl⟩
      rw [← hN] at hown
      have hN1 : 1 ≤ N := by rw [hN, hxf]; simp
      obtain ⟨g2, c6, rfl, _, _⟩ := own_form hown hN1
      have hcl0 := row_at (i := 0) (x := x0.v) hown (by rw [hxf]; rfl)
      obtain ⟨A7, c7, hv7, hr7, _⟩ := own_rd (hrows x0 (by rw [hxf]; simp))
      rw [hv7] at hcl0
      rw [hbody0] at hr7 hcl0
      rw [HAL.out] at hr7 hcl0
      generalize (if L = (frameOf a ++ (frameOf b).set j u).length then 0 else (nextF ((frameOf a ++ (frameOf b).set j u).drop L)).2.2 : Nat) = er
      have hcw : ∀ wq, ExtW w5.drew wq → wq.cell? ⟨g2, 0, none⟩ = some (.slice A7 m c7) := fun wq h => (ExtW.of_drew h).cellAt hcl0
      have hs0 : ∀ wq, ExtW w5.drew wq → (convert 22 9 (.slice A7 m c7)).run Try.prog wq = .ok (.string ⟨a.toArray⟩) wq := fun wq h => conv_str (hr7.below (ExtW.of_drew h) (Nat.le_refl _))
      have hsa : ∀ wq, ExtW w5.drew wq → (convert 22 9 (.slice A m c)).run Try.prog wq = .ok (.string ⟨a.toArray⟩) wq := fun wq h => conv_str (HRA5.out.below (ExtW.of_drew h) (Nat.le_refl _))
      have hd1 : decide ((N : Int) < 1) = false := decide_eq_false (fun h => by have := Int.ofNat_le.2 hN1; exact absurd h (Int.not_lt.2 this))
      have hN0 : 0 < N := hN1
      have hd2 : decide (L < k1) = false := decide_eq_false (Nat.not_lt.2 hlast)
      have HOWN := Lib.hid hown
      have HROWS := Lib.hid hrows
      have HSEC := Lib.hid hsecond
      have HXF := Lib.hid hxf
      have HNN := Lib.hid hN
      clear hown hrows hall hxf hL hN hsecond hr5 hb5 hbody0 hcl0 hr7 hv7 hcell hfr hxor hlast htm hmod hyn hyy hqi hqk hwd
      go_wp2_with fail
      apply wp_region_ext _ (by kernel_rfl) (by kernel_rfl)
      iterate 18 (apply wpZ_det; (intro wq hE hG; first | exact obl_non (by rfl) | (apply obl_val (by rfl); go_simp; rfl)); (intro ak hak; simp only [Act.put, List.setIfInBounds_toArray, List.set_cons_succ, List.set_cons_zero] at hak; subst hak))
      (apply wpZ_nil; intro wk hE hG)
      have HE := Lib.hid (ExtW.of_drew hE)
      clear hE hG hcw hs0 hsa hd1 hd2
      cases yf with
      | nil =>
        have hN1e : N = 1 := by rw [HNN.out, HXF.out]; rfl
        have hdn : ((N : Int) == 1) = true := by rw [hN1e]; rfl
        clear hN1e hN0 hN1
        go_wp2_with fail
        apply wp_region_ext _ (by kernel_rfl) (by kernel_rfl)
        iterate 16 (apply wpZ_det; (intro wq hE hG; first | exact obl_non (by rfl) | (apply obl_val (by rfl); go_simp; rfl)); (intro ak hak; simp only [Act.put, List.setIfInBounds_toArray, List.set_cons_succ, List.set_cons_zero] at hak; subst hak))
        (apply wpZ_nil; intro wl hE hG)
        go_wp2
        go_ret
        exact ⟨rfl, HB5.out.trans ((HE.out.trans (ExtW.of_drew hE)).mono HB5.out.size)⟩
      | cons y1 zs =>
        have hN2 : 1 < N := by rw [HNN.out, HXF.out]; simp
        have hdn : ((N : Int) == 1) = false := by
          rw [beq_eq_false_iff_ne]
          intro h
          have := Int.ofNat_lt.2 hN2
          omega
        have hN2i : (1 : Int) < (N : Int) := Int.ofNat_lt.2 hN2
        have hcl1 := row_at (i := 1) (x := y1.v) HOWN.out (by rw [HXF.out]; rfl)
        obtain ⟨A8, c8, hv8, hr8, _⟩ := own_rd (HROWS.out y1 (by rw [HXF.out]; simp))
        rw [hv8] at hcl1
        obtain ⟨kk, hkk⟩ := HSEC.out y1 zs rfl
        have hne : y1.body ≠ b := fun e => HTOLD.out kk (by rw [hkk, e])
        have hneb : (y1.body == b) = false := by simp [hne]
        have HC1 := Lib.hid hcl1
        have HR8 := Lib.hid hr8
        clear hcl1 hv8 hkk hr8 hne
        generalize y1.body = bo at hneb HC1 HR8
        generalize hbol : bo.length = nb at HC1 HR8
        clear hbol hN1
        go_wp2_with fail
        have hcw : ∀ wq, ExtW wk.drew wq → wq.cell? ⟨g2, 1, none⟩ = some (.slice A8 nb c8) := fun wq h => (HE.out.trans (ExtW.of_drew h)).cellAt HC1.out
        have hs1 : ∀ wq, ExtW wk.drew wq → (convert 22 9 (.slice A8 nb c8)).run Try.prog wq = .ok (.string ⟨bo.toArray⟩) wq := fun wq h => conv_str (HR8.out.below (HE.out.trans (ExtW.of_drew h)) (Nat.le_refl _))
        have hsb : ∀ wq, ExtW wk.drew wq → (convert 22 9 (.slice A2 p c2)).run Try.prog wq = .ok (.string ⟨b.toArray⟩) wq := fun wq h => conv_str (HRB5.out.below (HE.out.trans (ExtW.of_drew h)) (Nat.le_refl _))
        apply wp_region_ext _ (by kernel_rfl) (by kernel_rfl)
        iterate 16 (apply wpZ_det; (intro wq hE hG; first | exact obl_non (by rfl) | (apply obl_val (by rfl); go_simp; rfl)); (intro ak hak; simp only [Act.put, List.setIfInBounds_toArray, List.set_cons_succ, List.set_cons_zero] at hak; subst hak))
        (apply wpZ_nil; intro wl hE hG)
        go_wp2
        go_ret
        exact ⟨rfl, HB5.out.trans ((HE.out.trans (ExtW.of_drew hE)).mono HB5.out.size)⟩
end Go.Proofs.Ytegkcbkgoncnbaa
