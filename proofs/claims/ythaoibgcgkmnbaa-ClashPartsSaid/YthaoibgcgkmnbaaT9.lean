/- Walks of opening.root and CheckRange. -/
import Derived.Test.YthaoibgcgkmnbaaT8
namespace Go.Proofs.Ythaoibgcgkmnbaa
set_option maxRecDepth 100000
open Go.RowKit

theorem grown_ext {a c c' : World} {row : Option Nat} (h : a.grownBy c row) (hb : ExtW c c') : a.grownBy c' row :=
  ⟨hb.os.trans h.os, hb.tape.trans h.tape, hb.output.trans h.output, Nat.le_trans h.size hb.size, fun k hk hne => (hb.block k (Nat.lt_of_lt_of_le hk h.size)).trans (h.block k hk hne)⟩
theorem grown_newRow {a c : World} {row : Option Nat} (h : a.grownBy c row) {gd : Nat} (hg : a.heap.size ≤ gd) (cs : Array Value) : a.grownBy (c.setRow gd cs) row :=
  ⟨h.os, h.tape, h.output, by rw [setRow_size]; exact h.size, fun k hk hne => (setRow_other c gd k cs (by omega)).trans (h.block k hk hne)⟩
theorem grown_row {a c : World} {g k : Nat} {e : TypeId} {cs : List Value} (h : a.grownBy c (some g)) (hr : Row a k e cs) (hne : k ≠ g) : Row c k e cs := (h.block k hr.lt (fun e => hne (Option.some.inj e))).trans hr
theorem ext_of_grown {a b c : World} {g : Nat} (h : ExtW a b) (hg : a.heap.size ≤ g) (k : b.grownBy c (some g)) : ExtW a c := Below.trans h (grown_below k hg h.size)
theorem Row.setNew {w : World} {g k : Nat} {e : TypeId} {cs : List Value} (h : Row w g e cs) (hne : g ≠ k) (ds : Array Value) : Row (w.setRow k ds) g e cs := (setRow_other w k g ds hne).trans h

/-- p[k:] of digests, written out -/
def dropD (A : Option Addr) (c k : Nat) : Option Addr := if c = k then A else A.map (·.add (k * 32))
theorem run_dropD (A : Option Addr) (n c : Nat) (k : Nat) (h1 : k ≤ n) (_h3 : n ≤ c) (W : World) : (Instr.slice 24 (.slice A n c) (some (.int .i64 (k : Int))) none none).run Try.prog W = .ok (.slice (dropD A c k) (n - k) (c - k)) W := by
  obtain ⟨i1, hi, _, hz1, _⟩ := info_parts infoD
  have hel : (Try.prog).elem 24 = 45 := by simp [Program.elem, Try.underlying24]
  have hu : (Try.prog).underlying 24 = some (.slice ((Try.prog).elem 24)) := by rw [hel]; exact Try.underlying24
  rw [run_slice_l W _ A n c hu .i64 _ (by omega) (by omega), hel]
  simp [sizeOf, typeInfo, hi, hz1, sliced, Result.andThen, dropD]
theorem Dls.dropD {w : World} {A : Option Addr} {n c : Nat} {l : List (List UInt8)} (h : Dls w A n c l) {k : Nat} (hk : k ≤ n) : Dls w (dropD A c k) (n - k) (c - k) (l.drop k) := by
  have hnc := h.rd.nc
  have h1 := h.rd.sub (lo := k) (hi := n) (mx := c) hk (Nat.le_refl _) hnc (Nat.le_refl _)
  have h2 : ((dcs l).drop (k * 32)).take ((n - k) * 32) = dcs (l.drop k) := by
    rw [dcs_drop h.all, List.take_of_length_le]
    rw [dcs_len fun d hd => h.all d (List.mem_of_mem_drop hd), List.length_drop, h.len]
    exact Nat.le_refl _
  rw [h2] at h1
  exact ⟨by rw [List.length_drop, h.len], fun d hd => h.all d (List.mem_of_mem_drop hd), h1⟩

/-- the cells of an opening -/
def opV (x : Int) (A : Option Addr) (n c : Nat) (B : Option Addr) (m d : Nat) (bad : Bool) : List Value := [.int .i64 x, .slice A n c, .slice B m d, .bool bad]
/-- the opening behind a call: the path that is left, in memory of before -/
def OpAt (wb w : World) (g : Nat) (x : Int) (A : Option Addr) (n c : Nat) (o : List (List UInt8) × Bool) : Prop :=
  ∃ B m d, Row w g 90 (opV x A n c B m d o.2) ∧ Dls wb B m d o.1
theorem OpAt.ext {wb w w' : World} {g : Nat} {x : Int} {A : Option Addr} {n c : Nat} {o : List (List UInt8) × Bool} (h : OpAt wb w g x A n c o) (hb : ExtW w w') : OpAt wb w' g x A n c o := by
  obtain ⟨B, m, d, h1, h2⟩ := h
  exact ⟨B, m, d, h1.ext hb, h2⟩
theorem OpAt.newRow {wb w : World} {g gd : Nat} {x : Int} {A : Option Addr} {n c : Nat} {o : List (List UInt8) × Bool} (h : OpAt wb w g x A n c o) (hne : g ≠ gd) (cs : Array Value) : OpAt wb (w.setRow gd cs) g x A n c o := by
  obtain ⟨B, m, d, h1, h2⟩ := h
  exact ⟨B, m, d, h1.setNew hne cs, h2⟩
/-- what a call of root does -/
def RootPost (wb : World) (x : Int) (A : Option Addr) (n c : Nat) (part : List (List UInt8)) (g : Nat) (cn : Nat) (a : Int) (ds : List (List UInt8)) (bad : Bool) (w : World) (e : Ending) (w' : World) : Prop :=
  e = .returned (dgV (T.openD (bitsN x) part cn a ds bad).1) ∧ w.grownBy w' (some g) ∧ OpAt wb w' g x A n c (T.openD (bitsN x) part cn a ds bad).2

namespace T
theorem openD_nil {B : Nat} {part : List (List UInt8)} {n : Nat} {a : Int} {bad : Bool} {pn : Nat} (hp : part.length = pn) (h : a + pn ≤ 0 ∨ (n : Int) ≤ a) : openD B part n a [] bad = (List.replicate 32 0, [], true) := by
  rw [openD.eq_def, hp, if_pos h]
theorem openD_take {B : Nat} {part : List (List UInt8)} {n : Nat} {a : Int} {d : List UInt8} {r : List (List UInt8)} {bad : Bool} {pn : Nat} (hp : part.length = pn) (h : a + pn ≤ 0 ∨ (n : Int) ≤ a) : openD B part n a (d :: r) bad = (d, r, bad) := by
  rw [openD.eq_def, hp, if_pos h]
theorem openD_leaf {B : Nat} {part : List (List UInt8)} {n : Nat} {a : Int} {ds : List (List UInt8)} {bad : Bool} {pn : Nat} (hp : part.length = pn) (h : ¬ (a + pn ≤ 0 ∨ (n : Int) ≤ a)) (h1 : n ≤ 1) : openD B part n a ds bad = (leafD B (part.getD (-a).toNat []), ds, bad) := by
  rw [openD.eq_def, hp, if_neg h, if_pos h1]
theorem openD_more {B : Nat} {part : List (List UInt8)} {n k : Nat} {a : Int} {ds : List (List UInt8)} {bad : Bool} {pn : Nat} (hp : part.length = pn) (h : ¬ (a + pn ≤ 0 ∨ (n : Int) ≤ a)) (h1 : ¬ n ≤ 1) (hk : k = half n) :
    openD B part n a ds bad = (nodeD B (openD B part k a ds bad).1 (openD B part (n - k) (a - k) (openD B part k a ds bad).2.1 (openD B part k a ds bad).2.2).1,
      (openD B part (n - k) (a - k) (openD B part k a ds bad).2.1 (openD B part k a ds bad).2.2).2) := by
  rw [openD.eq_def, hp, if_neg h, if_neg h1, ← hk]
theorem openD_len (B : Nat) (part : List (List UInt8)) (n : Nat) (a : Int) (ds : List (List UInt8)) (bad : Bool) : (∀ d ∈ ds, d.length = 32) → (openD B part n a ds bad).1.length = 32 ∧ ∀ d ∈ (openD B part n a ds bad).2.1, d.length = 32 := by
  induction n, a, ds, bad using openD.induct B part with
  | case1 n a bad h => intro _; rw [openD_nil rfl h]; exact ⟨rfl, fun d hd => by cases hd⟩
  | case2 n a bad h d r => intro hd; rw [openD_take rfl h]; exact ⟨hd d (by simp), fun y hy => hd y (by simp [hy])⟩
  | case3 n a ds bad h h1 => intro hd; rw [openD_leaf rfl h h1]; exact ⟨leafD_len _ _, hd⟩
  | case4 n a ds bad h h1 l ih1 ih2 =>
    intro hd
    rw [openD_more rfl h h1 rfl]
    exact ⟨nodeD_len _ _ _, (ih2 (ih1 hd).2).2⟩
end T

set_option maxHeartbeats 4000000 in
set_option maxRecDepth 100000 in
theorem oroot_any (x : Int) (hx : -9223372036854775808 ≤ x ∧ x ≤ 9223372036854775807) (wb : World) (A : Option Addr) (n c : Nat) (part : List (List UInt8)) (hpart : Bss wb A n c part) (hlv : Lv part) (hn : n ≤ 1000000) (g : Nat) (hg : wb.heap.size ≤ g) :
    ∀ (N : Nat) (cn : Nat) (a : Int) (ds : List (List UInt8)) (bad : Bool) (w : World), cn < N → 1 ≤ cn → -9223372036854775807 ≤ a - cn → a + n ≤ 9223372036854775807 → cn < 9223372036854775808 → ExtW wb w → OpAt wb w g x A n c (ds, bad) →
    Calls Try.prog 55 #[.pointer (some ⟨g, 0, none⟩), .int .i64 (cn : Int), .int .i64 a] w (RootPost wb x A n c part g cn a ds bad w) := by
  have HX := Lib.hid hx
  have HPT := Lib.hid hpart
  have HPL := Lib.hid hpart.len
  have HPV := Lib.hid hlv
  have HGB := Lib.hid hg
  clear hx hpart hlv hg
  intro N
  induction N with
  | zero => intro cn a ds bad w h; omega
  | succ N ih =>
    intro cn a ds bad w hcN hc1 ha1 ha2 hc2 hew hop
    have HEW := Lib.hid hew
    obtain ⟨B, m, d, hrow, hds⟩ := hop
    have HROW := Lib.hid hrow
    have HDS := Lib.hid hds
    have HDL := Lib.hid hds.len
    have hmd := hds.rd.nc
    have hmx := hds.rd.cm
    unfold maxLen at hmx
    have HGW : Hid (g < w.heap.size) := Lib.hid hrow.lt
    have HD1 := Lib.hid (zDig_row w)
    have HE1 : Hid (ExtW w (w.alloc (.cells zDig 45))) := Lib.hid ((Below.refl _ _).alloc (Nat.le_refl _) _)
    clear hew hrow hds
    go_enter Try.func55, Try.ntmps55
    go_upto_region 1 with (refine wpList_newD rfl rfl ?_)
    obtain ⟨gd, hgd⟩ : ∃ g, g = w.heap.size := ⟨_, rfl⟩
    have HGD : Hid (gd = w.heap.size) := Lib.hid hgd
    have HNE : Hid (g ≠ gd) := Lib.hid (by have := HGW.out; omega)
    rw [← hgd] at HD1
    rw [← hgd]
    clear hgd
    generalize w.alloc (.cells zDig 45) = w1 at HD1 HE1 ⊢
    have HR1 := Lib.hid (HROW.out.ext HE1.out)
    have HG1 : Hid (w.grownBy w1 (some g)) := Lib.hid (grown_ext (World.grownBy.refl w _) HE1.out)
    have c0 := HR1.out.cell (j := 0) (v := .int .i64 x) rfl
    have c1 := HR1.out.cell (j := 1) (v := .slice A n c) rfl
    have c2 := HR1.out.cell (j := 2) (v := .slice B m d) rfl
    have c3 := HR1.out.cell (j := 3) (v := .bool bad) rfl
    have f2 := HR1.out.frozen 2
    have f3 := HR1.out.frozen 3
    have hsum : IntKind.i64.wrap (a + (n : Int)) = a + (n : Int) := IntWalk.i64_in _ (by omega)
    by_cases hout : a + (n : Int) ≤ 0 ∨ (cn : Int) ≤ a
    · have HOUT := Lib.hid hout
      have hcase : (a + (n : Int) ≤ 0) ∨ (¬ a + (n : Int) ≤ 0 ∧ (cn : Int) ≤ a ∧ ¬ a < (cn : Int)) := by omega
      clear hout
      by_cases hm : m = 0
      · subst hm
        have hds0 : ds = [] := List.length_eq_zero_iff.1 HDL.out
        have HDS0 := Lib.hid hds0
        clear hds0
        rcases hcase with h1 | ⟨h1, h2, h3⟩
        all_goals
          go_upto_region 4 with (fail)
          have HD2 : Hid (Row (w1.setCell ⟨g, 3, none⟩ (.bool true)) gd 45 (bvs (List.replicate 32 0))) := Lib.hid (HD1.out.other (fun e => HNE.out e.symm) _)
          have HR2 : Hid (Row (w1.setCell ⟨g, 3, none⟩ (.bool true)) g 90 (opV x A n c B 0 d true)) := Lib.hid (HR1.out.set 3 _)
          have HG2 : Hid (w.grownBy (w1.setCell ⟨g, 3, none⟩ (.bool true)) (some g)) := Lib.hid (grown_set HG1.out _ _)
          have HPO := Lib.hid (T.openD_nil (B := bitsN x) (part := part) (n := cn) (a := a) (bad := bad) HPL.out HOUT.out)
          generalize w1.setCell ⟨g, 3, none⟩ (.bool true) = w2 at HD2 HR2 HG2 ⊢
          clear c0 c1 c2 c3 f2 f3
          go_wp2_with (first
            | (refine wpList_bldG rfl (by rfl) ?_; refine ⟨.agg (bvs (List.replicate 32 0)).toArray, by kernel_rfl, ?_⟩)
            | (refine wpList_st rfl rfl ?_; refine ⟨gd, _, _, _, rfl, rfl, HD2.out, by kernel_rfl, rfl, dg_one _, ?_⟩))
          (try simp only [Exit.inBlock, Exit.then])
          refine bodyPost_ret (v := dgV (List.replicate 32 0)) ?_ rfl ?_
          · have h := run_loadVar_row (P := Try.prog) (w2.setRow gd (bvs (List.replicate 32 0)).toArray) gd 45 45 (bvs (List.replicate 32 0)).toArray (0, 0) _ (Row.setRow HD2.out (bvs (List.replicate 32 0))) Try.underlying45 rfl (by kernel_rfl)
            simpa [results, Try.f55, Act.put, asAddr, dgV] using h
          · unfold RootPost
            rw [HDS0.out, HPO.out]
            refine ⟨rfl, grown_newRow HG2.out (Nat.le_of_eq HGD.out.symm) _, B, 0, d, HR2.out.setNew HNE.out _, ?_⟩
            have h := HDS.out
            rwa [HDS0.out] at h
      · obtain ⟨y, rest, hyr⟩ : ∃ y r, ds = y :: r := by
          cases hd : ds with
          | nil => exact absurd (by have := HDL.out; rw [hd] at this; exact this.symm) hm
          | cons y r => exact ⟨y, r, rfl⟩
        have hyl : y.length = 32 := HDS.out.all y (by rw [hyr]; exact List.mem_cons_self ..)
        have HYS : Hid ((bvs y).toArray.size = 32) := Lib.hid (dg_size hyl)
        have HYL := Lib.hid hyl
        have HYR := Lib.hid hyr
        have HPO := Lib.hid (T.openD_take (B := bitsN x) (part := part) (n := cn) (a := a) (d := y) (r := rest) (bad := bad) HPL.out HOUT.out)
        cases hB : B with
        | none => have h3 := HDS.out.rd.nil0 hB; omega
        | some pa =>
        subst hB
        have hm0 : 0 < m := by omega
        have hne0 : ((m : Int) == 0) = false := by rw [beq_eq_false_iff_ne]; omega
        have hld := (HDS.out.same (ExtW.trans HEW.out HE1.out)).load (k := 0) (d := y) (by rw [hyr]; rfl)
        rw [show pa.add (0 * 32) = pa by simp [Addr.add]] at hld
        have hdr : ∀ W, (Instr.slice 24 (.slice (some pa) m d) (some (.int .i64 1)) none none).run Try.prog W = .ok (.slice (dropD (some pa) d 1) (m - 1) (d - 1)) W := fun W => run_dropD (some pa) m d 1 hm0 hmd W
        have HDR := Lib.hid (HDS.out.dropD (k := 1) hm0)
        clear hyr hyl
        rcases hcase with h1 | ⟨h1, h2, h3⟩
        all_goals
          go_upto_region 6 with (first
            | (refine wpList_ldA rfl (by rfl) rfl hld ?_; unfold dgV)
            | (refine wpList_newD rfl rfl ?_)
            | (refine wpList_st rfl rfl ?_; refine ⟨w1.heap.size, _, _, _, rfl, rfl, zDig_row w1, by rw [HYS.out]; kernel_rfl, Eq.trans (show (bvs (List.replicate 32 0)).toArray.size = 32 from rfl) HYS.out.symm, dg_one _, ?_⟩))
          have HY2 : Hid (Row ((w1.alloc (.cells zDig 45)).setRow w1.heap.size (bvs y).toArray) w1.heap.size 45 (bvs y)) := Lib.hid ((zDig_row w1).setRow _)
          have HE2 : Hid (ExtW w1 ((w1.alloc (.cells zDig 45)).setRow w1.heap.size (bvs y).toArray)) := Lib.hid (below_setRow ((Below.refl _ _).alloc (Nat.le_refl _) _) (Nat.le_refl _) _)
          generalize (w1.alloc (.cells zDig 45)).setRow w1.heap.size (bvs y).toArray = w2 at HY2 HE2 ⊢
          obtain ⟨gy, hgy⟩ : ∃ g, g = w1.heap.size := ⟨_, rfl⟩
          have HNY : Hid (gy ≠ g ∧ gy ≠ gd) := Lib.hid (by have h4 := HR1.out.lt; have h5 := HD1.out.lt; omega)
          rw [← hgy] at HY2 ⊢
          have HR2 := Lib.hid (HR1.out.ext HE2.out)
          have HD2 := Lib.hid (HD1.out.ext HE2.out)
          have HG2 := Lib.hid (grown_ext HG1.out HE2.out)
          clear hgy hld c0 c1 c2 c3 f2 f3 HR1 HD1 HG1
          have c2 := HR2.out.cell (j := 2) (v := .slice (some pa) m d) rfl
          have f2 := HR2.out.frozen 2
          go_upto_region 7 with (fail)
          have HR3 : Hid (Row (w2.setCell ⟨g, 2, none⟩ (.slice (dropD (some pa) d 1) (m - 1) (d - 1))) g 90 (opV x A n c (dropD (some pa) d 1) (m - 1) (d - 1) bad)) := Lib.hid (HR2.out.set 2 _)
          have HY3 : Hid (Row (w2.setCell ⟨g, 2, none⟩ (.slice (dropD (some pa) d 1) (m - 1) (d - 1))) gy 45 (bvs y)) := Lib.hid (HY2.out.other HNY.out.1 _)
          have HD3 : Hid (Row (w2.setCell ⟨g, 2, none⟩ (.slice (dropD (some pa) d 1) (m - 1) (d - 1))) gd 45 (bvs (List.replicate 32 0))) := Lib.hid (HD2.out.other (fun e => HNE.out e.symm) _)
          have HG3 : Hid (w.grownBy (w2.setCell ⟨g, 2, none⟩ (.slice (dropD (some pa) d 1) (m - 1) (d - 1))) (some g)) := Lib.hid (grown_set HG2.out _ _)
          generalize w2.setCell ⟨g, 2, none⟩ (.slice (dropD (some pa) d 1) (m - 1) (d - 1)) = w3 at HR3 HY3 HD3 HG3 ⊢
          clear c2 f2 hdr
          go_wp2_with (first
            | (refine wpList_ld rfl rfl ?_; refine ⟨gy, _, _, _, rfl, HY3.out, Try.underlying45, rfl, by rw [HYS.out]; kernel_rfl, ?_⟩)
            | (refine wpList_st rfl rfl ?_; refine ⟨gd, _, _, _, rfl, rfl, HD3.out, by rw [HYS.out]; kernel_rfl, Eq.trans (show (bvs (List.replicate 32 0)).toArray.size = 32 from rfl) HYS.out.symm, dg_one _, ?_⟩))
          (try simp only [Exit.inBlock, Exit.then])
          refine bodyPost_ret (v := dgV y) ?_ rfl ?_
          · have h := run_loadVar_row (P := Try.prog) (w3.setRow gd (bvs y).toArray) gd 45 45 (bvs y).toArray (0, 0) _ (Row.setRow HD3.out (bvs y)) Try.underlying45 rfl (by rw [HYS.out]; kernel_rfl)
            simpa [results, Try.f55, Act.put, asAddr, dgV] using h
          · unfold RootPost
            rw [HYR.out, HPO.out]
            refine ⟨rfl, grown_newRow HG3.out (Nat.le_of_eq HGD.out.symm) _, _, _, _, HR3.out.setNew HNE.out _, ?_⟩
            have h := HDR.out
            rwa [HYR.out] at h
    have HOUT := Lib.hid hout
    have hn1 : ¬ a + (n : Int) ≤ 0 := by omega
    have hn2 : ¬ (cn : Int) ≤ a := by omega
    have hn3 : a < (cn : Int) := by omega
    by_cases h1 : cn = 1
    · have HPO := Lib.hid (T.openD_leaf (B := bitsN x) (part := part) (n := cn) (a := a) (ds := ds) (bad := bad) HPL.out hout (by omega))
      subst h1
      obtain ⟨j, hj⟩ : ∃ j : Nat, -a = (j : Int) := ⟨(-a).toNat, by omega⟩
      have hjn : j < n := by omega
      have hneg : IntKind.i64.wrap (-a) = (j : Int) := by rw [IntWalk.i64_in _ (by omega)]; exact hj
      obtain ⟨y, hy⟩ : ∃ y, part[j]? = some y := ⟨_, List.getElem?_eq_getElem (by rw [HPL.out]; exact hjn)⟩
      have HGT : Hid (part.getD (-a).toNat [] = y) := Lib.hid (by rw [hj, Int.toNat_natCast, List.getD_eq_getElem?_getD, hy]; rfl)
      cases hA : A with
      | none => have h3 := HPT.out.nil0 hA; have h4 := HPT.out.nc; omega
      | some pa =>
      obtain ⟨D, q, dd, hcell, hrd⟩ := HPT.out.row pa hA j y hy
      subst hA
      have HC := Lib.hid hcell
      have HRD := Lib.hid hrd
      have HM : Hid (q ≤ 1000000) := Lib.hid (by
        have h1 := HPV.out y (List.mem_of_getElem? hy)
        have h2 := hrd.len
        rw [bvs_len] at h2
        omega)
      clear hcell hrd hy hj
      go_upto_region 9 with (fail)
      apply wp_region_ext_tail 13 _ (by kernel_rfl) (by kernel_rfl)
      simp only [List.take_succ_cons, List.take_zero, List.drop_succ_cons, List.drop_zero]
      iterate 3 (apply wpZ_det; (intro wq hE hG; first | exact obl_non (by rfl) | (apply obl_val (by rfl); go_simp; rfl)); (intro ak hak; simp only [Act.put, List.setIfInBounds_toArray, List.set_cons_succ, List.set_cons_zero] at hak; subst hak))
      (apply wpZ_det; (intro wq hE hG; have kk := (HR1.out.ext (ExtW.of_drew hE)).cell (j := 0) (v := .int .i64 x) rfl; apply obl_val (by rfl); go_simp; rfl); (intro ak hak; simp only [Act.put, List.setIfInBounds_toArray, List.set_cons_succ, List.set_cons_zero] at hak; subst hak))
      iterate 3 (apply wpZ_det; (intro wq hE hG; first | exact obl_non (by rfl) | (apply obl_val (by rfl); go_simp; rfl)); (intro ak hak; simp only [Act.put, List.setIfInBounds_toArray, List.set_cons_succ, List.set_cons_zero] at hak; subst hak))
      (apply wpZ_det; (intro wq hE hG; have kk := (HR1.out.ext (ExtW.of_drew hE)).cell (j := 1) (v := .slice (some pa) n c) rfl; apply obl_val (by rfl); go_simp; rfl); (intro ak hak; simp only [Act.put, List.setIfInBounds_toArray, List.set_cons_succ, List.set_cons_zero] at hak; subst hak))
      (apply wpZ_det; (intro wq hE hG; first | exact obl_non (by rfl) | (apply obl_val (by rfl); go_simp; rfl)); (intro ak hak; simp only [Act.put, List.setIfInBounds_toArray, List.set_cons_succ, List.set_cons_zero] at hak; subst hak))
      (apply wpZ_det; (intro wq hE hG; first | exact obl_non (by rfl) | (apply obl_val (by rfl); go_simp; rfl)); (intro ak hak; simp only [Act.put, List.setIfInBounds_toArray, List.set_cons_succ, List.set_cons_zero] at hak; subst hak))
      (apply wpZ_det; (intro wq hE hG; first | exact obl_non (by rfl) | (apply obl_val (by rfl); go_simp; rfl)); (intro ak hak; simp only [Act.put, List.setIfInBounds_toArray, List.set_cons_succ, List.set_cons_zero] at hak; subst hak))
      (apply wpZ_det; (intro wq hE hG; have kk := (ExtW.of_drew hE).cellAt (HE1.out.cellAt (HEW.out.cellAt HC.out)); apply obl_val (by rfl); go_simp; rfl); (intro ak hak; simp only [Act.put, List.setIfInBounds_toArray, List.set_cons_succ, List.set_cons_zero] at hak; subst hak))
      (apply wpZ_det; (intro wq hE hG; apply obl_on (by kernel_rfl); go_simp; simp only [extUpon_enter]; refine (leaf_any x D q dd y _ (HRD.out.below (ExtW.trans HEW.out (ExtW.trans HE1.out (ExtW.of_drew hE))) (Nat.le_refl _)) (Nat.le_trans HM.out (by decide)) HX.out).mono ?_; rintro e w' ⟨rfl, hb⟩; exact ⟨_, rfl, hb, rfl⟩); (intro ak hak; simp only [Act.put, List.setIfInBounds_toArray, List.set_cons_succ, List.set_cons_zero] at hak; subst hak))
      (apply wpZ_nil; intro wq hE hG)
      have HDE := Lib.hid (HD1.out.ext (ExtW.of_drew hE))
      have HRE := Lib.hid (HR1.out.ext (ExtW.of_drew hE))
      have HGE := Lib.hid (grown_ext HG1.out (ExtW.of_drew hE))
      clear hE hG
      obtain ⟨d, hd⟩ : ∃ d, d = T.leafD (bitsN x) y := ⟨_, rfl⟩
      have HS : Hid ((bvs d).toArray.size = 32) := Lib.hid (dg_size (by rw [hd]; exact T.leafD_len _ _))
      have HDL : Hid (d = T.leafD (bitsN x) y) := Lib.hid hd
      rw [← hd]
      clear hd
      unfold dgV
      go_wp2_with (refine wpList_st rfl rfl ?_; refine ⟨gd, _, _, _, rfl, rfl, HDE.out, by rw [HS.out]; kernel_rfl, Eq.trans (show (bvs (List.replicate 32 0)).toArray.size = 32 from rfl) HS.out.symm, dg_one _, ?_⟩)
      (try simp only [Exit.inBlock, Exit.then])
      refine bodyPost_ret (v := dgV d) ?_ rfl (by unfold RootPost; rw [HPO.out, HGT.out, ← HDL.out]; exact ⟨rfl, grown_newRow HGE.out (Nat.le_of_eq HGD.out.symm) _, _, _, _, HRE.out.setNew HNE.out _, HDS.out⟩)
      have h := run_loadVar_row (P := Try.prog) (wq.setRow gd (bvs d).toArray) gd 45 45 (bvs d).toArray (0, 0) _ (Row.setRow HDE.out (bvs d)) Try.underlying45 rfl (by rw [HS.out]; kernel_rfl)
      simpa [results, Try.f55, Act.put, asAddr, dgV] using h
    have h2 : 2 ≤ cn := by omega
    obtain ⟨k, hk⟩ : ∃ k, k = T.half cn := ⟨_, rfl⟩
    have hhl := T.half_lt h2
    rw [← hk] at hhl
    have HPO := Lib.hid (T.openD_more (B := bitsN x) (part := part) (n := cn) (a := a) (ds := ds) (bad := bad) HPL.out hout (by omega) hk)
    have HK := Lib.hid hk
    clear hk hout
    go_wp2_with fail
    refine (half_any cn _ ⟨by omega, by omega⟩).mono ?_
    rintro e we ⟨rfl, rfl⟩
    rw [← HK.out]
    go_wp2_with fail
    refine (ih k a ds bad we (by omega) (by omega) (by omega) (by omega) (by omega) (ExtW.trans HEW.out HE1.out) ⟨B, m, d, HR1.out, HDS.out⟩).mono ?_
    unfold RootPost
    rintro e w2 ⟨rfl, hg2, hop2⟩
    obtain ⟨o1, ho1⟩ : ∃ o, o = T.openD (bitsN x) part k a ds bad := ⟨_, rfl⟩
    have hln := T.openD_len (bitsN x) part k a ds bad HDS.out.all
    rw [← ho1] at hop2 hln HPO
    rw [← ho1]
    have HOL := Lib.hid hln
    have HO1 := Lib.hid ho1
    obtain ⟨d1, p1, b1⟩ := o1
    simp only at hop2 hln HPO HOL ⊢
    have HS1 : Hid ((bvs d1).toArray.size = 32) := Lib.hid (dg_size HOL.out.1)
    have HOP := Lib.hid hop2
    have HG2 : Hid (w.grownBy w2 (some g)) := Lib.hid (World.grownBy.trans HG1.out hg2)
    have HD2 := Lib.hid (grown_row hg2 HD1.out (fun e => HNE.out e.symm))
    have HEW2 : Hid (ExtW wb w2) := Lib.hid (ext_of_grown (ExtW.trans HEW.out HE1.out) HGB.out hg2)
    clear hg2 hop2 hln ho1 c0 c1 c2 c3 f2 f3 HR1 HD1 HG1
    unfold dgV
    go_upto_region 12 with (first
      | (refine wpList_newD rfl rfl ?_)
      | (refine wpList_st rfl rfl ?_; refine ⟨w2.heap.size, _, _, _, rfl, rfl, zDig_row w2, by rw [HS1.out]; kernel_rfl, Eq.trans (show (bvs (List.replicate 32 0)).toArray.size = 32 from rfl) HS1.out.symm, dg_one _, ?_⟩))
    have HY3 : Hid (Row ((w2.alloc (.cells zDig 45)).setRow w2.heap.size (bvs d1).toArray) w2.heap.size 45 (bvs d1)) := Lib.hid ((zDig_row w2).setRow _)
    have HE3 : Hid (ExtW w2 ((w2.alloc (.cells zDig 45)).setRow w2.heap.size (bvs d1).toArray)) := Lib.hid (below_setRow ((Below.refl _ _).alloc (Nat.le_refl _) _) (Nat.le_refl _) _)
    generalize (w2.alloc (.cells zDig 45)).setRow w2.heap.size (bvs d1).toArray = w3 at HY3 HE3 ⊢
    obtain ⟨gl, hgl⟩ : ∃ g, g = w2.heap.size := ⟨_, rfl⟩
    rw [← hgl] at HY3 ⊢
    have HOP3 := Lib.hid (HOP.out.ext HE3.out)
    have HD3 := Lib.hid (HD2.out.ext HE3.out)
    have HG3 := Lib.hid (grown_ext HG2.out HE3.out)
    have HEW3 := Lib.hid (ExtW.trans HEW2.out HE3.out)
    have HNL : Hid (gl ≠ g) := Lib.hid (by obtain ⟨B', m', d', h4, _⟩ := HOP.out; have h5 := h4.lt; omega)
    clear hgl HOP HD2 HG2 HEW2 HE3
    have hs1 : IntKind.i64.wrap ((cn : Int) - (k : Int)) = ((cn - k : Nat) : Int) := by rw [IntWalk.i64_in _ (by omega)]; omega
    have hs2 : IntKind.i64.wrap (a - (k : Int)) = a - (k : Int) := IntWalk.i64_in _ (by omega)
    obtain ⟨o2, ho2⟩ : ∃ o, o = T.openD (bitsN x) part (cn - k) (a - (k : Int)) p1 b1 := ⟨_, rfl⟩
    have hl2 := (T.openD_len (bitsN x) part (cn - k) (a - (k : Int)) p1 b1 HOL.out.2).1
    rw [← ho2] at hl2 HPO
    have HO2 := Lib.hid ho2
    have HL2 := Lib.hid hl2
    have HLD1 := Lib.hid HOL.out.1
    clear ho2 hl2
    apply wp_region_mut 14 12 (fun b W => w3.grownBy W (some g) ∧ W.cell? ⟨g, 0, none⟩ = some (.int .i64 x) ∧ (b = false → ExtW w3 W)) _ (by kernel_rfl) (by kernel_rfl) (by decide)
      (fun b W W' h1 h2 => ⟨grown_ext h1.1 h2, h2.cellAt h1.2.1, fun hb => ExtW.trans (h1.2.2 hb) h2⟩)
      ⟨grown_ext (World.grownBy.refl w3 _) (Below.refl _ _).drew, by obtain ⟨B', m', d', h4, _⟩ := HOP3.out; exact h4.cell (j := 0) (v := .int .i64 x) rfl, fun _ => (Below.refl _ _).drew⟩
    simp only [List.take_succ_cons, List.take_zero, List.drop_succ_cons, List.drop_zero]
    iterate 3 (apply wpM_det (by decide); (intro bq wq hJ hG; first | exact obl_non (by rfl) | (apply obl_val (by rfl); go_simp; rfl)); (intro ak hak; simp only [Act.put, List.setIfInBounds_toArray, List.set_cons_succ, List.set_cons_zero] at hak; subst hak))
    (apply wpM_det (by decide); (intro bq wq hJ hG; have kk := hJ.2.1; apply obl_val (by rfl); go_simp; rfl); (intro ak hak; simp only [Act.put, List.setIfInBounds_toArray, List.set_cons_succ, List.set_cons_zero] at hak; subst hak))
    (apply wpM_det (by decide); (intro bq wq hJ hG; exact obl_ldg (by rfl) rfl (by rfl) (grown_row hJ.1 HY3.out HNL.out) Try.underlying45 rfl (sizeD HLD1.out)); (intro ak hak; simp only [Act.put, List.setIfInBounds_toArray, List.set_cons_succ, List.set_cons_zero] at hak; subst hak))
    iterate 7 (apply wpM_det (by decide); (intro bq wq hJ hG; first | exact obl_non (by rfl) | (apply obl_val (by rfl); go_simp; rfl)); (intro ak hak; simp only [Act.put, List.setIfInBounds_toArray, List.set_cons_succ, List.set_cons_zero] at hak; subst hak))
    apply wpM_nd (fun v W => v = dgV o2.1 ∧ OpAt wb W g x A n c o2.2) rfl (fun v W W' h1 h2 => ⟨h1.1, h1.2.ext h2⟩)
    · intro wq hJ
      apply oblMut_on (by kernel_rfl)
      go_simp
      simp only [mutUpon_enter]
      refine (ih (cn - k) (a - (k : Int)) p1 b1 wq (by omega) (by omega) (by omega) (by omega) (by omega) (ExtW.trans HEW3.out (hJ.2.2 rfl)) (HOP3.out.ext (hJ.2.2 rfl))).mono ?_
      unfold RootPost
      rintro e w' ⟨rfl, hg', hop'⟩
      rw [← HO2.out] at hop' ⊢
      refine ⟨_, rfl, ⟨World.grownBy.trans hJ.1 hg', ?_⟩, rfl, hop'⟩
      obtain ⟨B', m', d', h4, _⟩ := hop'
      exact h4.cell (j := 0) (v := .int .i64 x) rfl
    (intro u12 ak hak; simp only [Act.put, List.setIfInBounds_toArray, List.set_cons_succ, List.set_cons_zero] at hak; subst hak)
    apply wpM_det (by decide)
    · intro bq wq hJ hG
      obtain ⟨rfl, _⟩ : u12 = dgV o2.1 ∧ OpAt wb wq g x A n c o2.2 := hG _ (List.mem_cons_self ..) (by kernel_rfl)
      apply obl_on (by kernel_rfl)
      go_simp
      simp only [extUpon_enter]
      refine (node_any x d1 o2.1 wq HLD1.out HL2.out HX.out).mono ?_
      rintro e w' ⟨rfl, hb⟩
      exact ⟨_, rfl, hb, rfl⟩
    (intro ak hak; simp only [Act.put, List.setIfInBounds_toArray, List.set_cons_succ, List.set_cons_zero] at hak; subst hak)
    (apply wpM_nil; intro wq hJ hG)
    obtain ⟨rfl, hop4⟩ : u12 = dgV o2.1 ∧ OpAt wb wq g x A n c o2.2 := hG _ (List.mem_cons_self ..)
    have HOP4 := Lib.hid hop4
    have HDE := Lib.hid (grown_row hJ.1 HD3.out (fun e => HNE.out e.symm))
    have HGE := Lib.hid (World.grownBy.trans HG3.out hJ.1)
    clear hJ hG hop4
    obtain ⟨d, hd⟩ : ∃ d, d = T.nodeD (bitsN x) d1 o2.1 := ⟨_, rfl⟩
    have HS : Hid ((bvs d).toArray.size = 32) := Lib.hid (dg_size (by rw [hd]; exact T.nodeD_len _ _ _))
    have HDL : Hid (d = T.nodeD (bitsN x) d1 o2.1) := Lib.hid hd
    rw [← hd]
    clear hd
    unfold dgV
    go_wp2_with (refine wpList_st rfl rfl ?_; refine ⟨gd, _, _, _, rfl, rfl, HDE.out, by rw [HS.out]; kernel_rfl, Eq.trans (show (bvs (List.replicate 32 0)).toArray.size = 32 from rfl) HS.out.symm, dg_one _, ?_⟩)
    (try simp only [Exit.inBlock, Exit.then])
    refine bodyPost_ret (v := dgV d) ?_ rfl (by unfold RootPost; rw [HPO.out, ← HDL.out]; exact ⟨rfl, grown_newRow HGE.out (Nat.le_of_eq HGD.out.symm) _, HOP4.out.newRow HNE.out _⟩)
    have h := run_loadVar_row (P := Try.prog) (wq.setRow gd (bvs d).toArray) gd 45 45 (bvs d).toArray (0, 0) _ (Row.setRow HDE.out (bvs d)) Try.underlying45 rfl (by rw [HS.out]; kernel_rfl)
    simpa [results, Try.f55, Act.put, asAddr, dgV] using h
end Go.Proofs.Ythaoibgcgkmnbaa
