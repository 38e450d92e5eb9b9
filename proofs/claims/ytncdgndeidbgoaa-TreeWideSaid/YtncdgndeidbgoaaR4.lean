/- Walks of the document's Above, Check. -/
import Derived.Test.YtncdgndeidbgoaaR3
import Derived.Test.YtncdgndeidbgoaaTq
namespace Go.Proofs.Ytncdgndeidbgoaa
open Go.RowKit

theorem results_ct {fn : Func} {p u : Tmp} {ty : TypeId} (h : fn.results = #[.cell p ty, .tmp u]) (tmps : Array Value) (P : Program) (w : World) {ad : Addr} {v : Value}
    (h1 : tmps.getD p undef = .pointer (some ad)) (h2 : (loadVar ty ad).run P w = .ok v w) : (results fn tmps).run P w = .ok (.tuple #[v, tmps.getD u undef]) w := by
  have h1' : tmps[p]?.getD undef = .pointer (some ad) := by simpa using h1
  simp only [results, h]
  simp [Result.andThen, h1', asAddr, h2]
theorem results_ctt {fn : Func} {p u s : Tmp} {ty : TypeId} (h : fn.results = #[.cell p ty, .tmp u, .tmp s]) (tmps : Array Value) (P : Program) (w : World) {ad : Addr} {v : Value}
    (h1 : tmps.getD p undef = .pointer (some ad)) (h2 : (loadVar ty ad).run P w = .ok v w) : (results fn tmps).run P w = .ok (.tuple #[v, tmps.getD u undef, tmps.getD s undef]) w := by
  have h1' : tmps[p]?.getD undef = .pointer (some ad) := by simpa using h1
  simp only [results, h]
  simp [Result.andThen, h1', asAddr, h2]
theorem Dls.take {w : World} {A : Option Addr} {n c : Nat} {l : List (List UInt8)} (h : Dls w A n c l) {k : Nat} (hk : k ≤ n) : Dls w A k c (l.take k) := by
  refine ⟨by rw [List.length_take, h.len]; omega, fun d hd => h.all d (List.mem_of_mem_take hd), ?_⟩
  have := h.rd.take k hk
  rwa [dcs_take h.all] at this
theorem Dls.addr {w : World} {A : Option Addr} {n c : Nat} {l : List (List UInt8)} (h : Dls w A n c l) (h0 : 0 < n) : ∃ a, A = some a := by
  cases hA : A with
  | none => have := h.rd.nil0 hA; have := h.rd.nc; omega
  | some a => exact ⟨a, rfl⟩
theorem run_takeD (A : Option Addr) (n c : Nat) (k : Nat) (h1 : k ≤ n) (h3 : n ≤ c) (W : World) : (Instr.slice 40 (.slice A n c) none (some (.int .i64 (k : Int))) none).run Try.prog W = .ok (.slice A k c) W := by
  obtain ⟨i1, hi, _, hz1, _⟩ := info_parts infoD
  have hel : (Try.prog).elem 40 = 24 := by simp [Program.elem, Try.underlying40]
  have hu : (Try.prog).underlying 40 = some (.slice ((Try.prog).elem 40)) := by rw [hel]; exact Try.underlying40
  rw [run_slice_h W _ A n c hu .i64 _ (by omega) (by omega), hel]
  cases A <;> simp [sizeOf, typeInfo, hi, hz1, sliced, Result.andThen, Addr.add]

namespace T
theorem climb_nil (B : Nat) (xs : List (List UInt8)) (d : List UInt8) : climb B [] xs d = d := by cases xs <;> simp [climb]
theorem last_split {path : List (List UInt8)} {n : Nat} {y : List UInt8} (hl : path.length = n) (hn : 0 < n) (hy : path[n - 1]? = some y) : path = path.take (n - 1) ++ [y] := by
  have h := List.take_add_one (l := path) (i := n - 1)
  rw [hy, show n - 1 + 1 = n by omega, List.take_of_length_le (by omega)] at h
  exact h
theorem above_lo {B cn j k n : Nat} {path : List (List UInt8)} {y d leaf : List UInt8} (h : 1 < cn) (hk : k = half cn) (hj : j < k) (hl : path.length = n) (hn : 0 < n) (hy : path[n - 1]? = some y)
    (hd : (path.take (n - 1)).length = (downs k j).length → d = climb B (downs k j).reverse (path.take (n - 1)) (leafD B leaf)) :
    decide ((path.take (n - 1)).length = (downs k j).length) = decide (path.length = (downs cn j).length) ∧ (path.length = (downs cn j).length → nodeD B d y = climb B (downs cn j).reverse path (leafD B leaf)) := by
  have hs := last_split hl hn hy
  have ht : (path.take (n - 1)).length = n - 1 := by rw [List.length_take, hl]; omega
  rw [downs_lo h hk hj, List.length_cons]
  refine ⟨decide_eq_decide.2 (by rw [ht, hl]; omega), fun he => ?_⟩
  have h2 := hd (by rw [ht]; rw [hl] at he; omega)
  have h3 : climb B ((downs k j).reverse ++ [true]) path (leafD B leaf) = climb B ((downs k j).reverse ++ [true]) (path.take (n - 1) ++ [y]) (leafD B leaf) := congrArg (fun p => climb B ((downs k j).reverse ++ [true]) p (leafD B leaf)) hs
  rw [h2, List.reverse_cons, h3, climb_snoc _ _ _ _ _ _ (by rw [List.length_reverse, ht]; rw [hl] at he; omega)]
  rfl
theorem above_hi {B cn j k n : Nat} {path : List (List UInt8)} {y d leaf : List UInt8} (h : 1 < cn) (hk : k = half cn) (hj : ¬ j < k) (hl : path.length = n) (hn : 0 < n) (hy : path[n - 1]? = some y)
    (hd : (path.take (n - 1)).length = (downs (cn - k) (j - k)).length → d = climb B (downs (cn - k) (j - k)).reverse (path.take (n - 1)) (leafD B leaf)) :
    decide ((path.take (n - 1)).length = (downs (cn - k) (j - k)).length) = decide (path.length = (downs cn j).length) ∧ (path.length = (downs cn j).length → nodeD B y d = climb B (downs cn j).reverse path (leafD B leaf)) := by
  have hs := last_split hl hn hy
  have ht : (path.take (n - 1)).length = n - 1 := by rw [List.length_take, hl]; omega
  rw [downs_hi h hk hj, List.length_cons]
  refine ⟨decide_eq_decide.2 (by rw [ht, hl]; omega), fun he => ?_⟩
  have h2 := hd (by rw [ht]; rw [hl] at he; omega)
  have h3 : climb B ((downs (cn - k) (j - k)).reverse ++ [false]) path (leafD B leaf) = climb B ((downs (cn - k) (j - k)).reverse ++ [false]) (path.take (n - 1) ++ [y]) (leafD B leaf) := congrArg (fun p => climb B ((downs (cn - k) (j - k)).reverse ++ [false]) p (leafD B leaf)) hs
  rw [h2, List.reverse_cons, h3, climb_snoc _ _ _ _ _ _ (by rw [List.length_reverse, ht]; rw [hl] at he; omega)]
  rfl
theorem downs_pos {n i : Nat} (h : 1 < n) : 0 < (downs n i).length := by
  rw [downs, if_neg (by omega)]
  split <;> simp
end T

/-- what a call of Above does -/
def AbovePost (B cn j : Nat) (leaf : List UInt8) (path : List (List UInt8)) (w : World) (e : Ending) (w' : World) : Prop :=
  ∃ d ok, e = .returned (.tuple #[dgV d, .bool ok]) ∧ d.length = 32 ∧ ok = decide (path.length = (T.downs cn j).length) ∧ (path.length = (T.downs cn j).length → d = T.climb B (T.downs cn j).reverse path (T.leafD B leaf)) ∧ ExtW w w'

set_option maxHeartbeats 4000000 in
set_option maxRecDepth 100000 in
theorem rabove_any (x : Int) (hx : -9223372036854775808 ≤ x ∧ x ≤ 9223372036854775807) (leaf : List UInt8) (hlf : leaf.length ≤ 1000000) : ∀ (N cn j : Nat) (A : Option Addr) (n c : Nat) (path : List (List UInt8)) (w : World), cn < N → cn < 9223372036854775808 → j < cn → Dls w A n c path →
    Calls Try.prog 51 #[.int .i64 x, .int .i64 (cn : Int), .int .i64 (j : Int), strV leaf, .slice A n c] w (AbovePost (bitsN x) cn j leaf path w) := by
  have HX := Lib.hid hx
  clear hx
  intro N
  induction N with
  | zero => intro cn j A n c path w h; omega
  | succ N ih =>
    intro cn j A n c path w hcN hc63 hj hp
    have hnc := hp.rd.nc
    have hcm := hp.rd.cm
    unfold maxLen at hcm
    have HP := Lib.hid hp
    have HPL := Lib.hid hp.len
    clear hp
    go_enter Try.func51, Try.ntmps51
    go_upto_region 1 with (refine wpList_newD rfl rfl ?_)
    have HD1 := Lib.hid (zDig_row w)
    have HE1 : Hid (ExtW w (w.alloc (.cells zDig 24))) := Lib.hid ((Below.refl _ _).alloc (Nat.le_refl _) _)
    obtain ⟨gd, hgd⟩ : ∃ g, g = w.heap.size := ⟨_, rfl⟩
    have HGD : Hid (w.heap.size ≤ gd) := Lib.hid (by omega)
    rw [← hgd] at HD1
    rw [← hgd]
    clear hgd
    generalize w.alloc (.cells zDig 24) = w1 at HD1 HE1 ⊢
    have HP1 := Lib.hid (HP.out.same HE1.out)
    by_cases h1 : cn = 1
    · subst h1
      have HDN : Hid (T.downs 1 j = []) := Lib.hid (T.downs_one (by decide))
      go_wp2_with fail
      refine (rleaf_any x HX.out leaf _ hlf).mono ?_
      rintro e we ⟨rfl, hbe⟩
      have HDE := Lib.hid (HD1.out.ext hbe)
      have HEE := Lib.hid (ExtW.trans HE1.out hbe)
      clear hbe
      by_cases hn0 : n = 0
      · subst hn0
        obtain ⟨d, hd⟩ : ∃ d, d = T.leafD (bitsN x) leaf := ⟨_, rfl⟩
        have HS : Hid ((bvs d).toArray.size = 32) := Lib.hid (dg_size (by rw [hd]; exact T.leafD_len _ _))
        have HDL : Hid (d = T.leafD (bitsN x) leaf) := Lib.hid hd
        rw [← hd]
        clear hd
        unfold dgV
        go_wp2_with (refine wpList_st rfl rfl ?_; refine ⟨gd, _, _, _, rfl, rfl, HDE.out, by rw [HS.out]; kernel_rfl, Eq.trans (show (bvs (List.replicate 32 0)).toArray.size = 32 from rfl) HS.out.symm, dg_one _, ?_⟩)
        (try simp only [Exit.inBlock, Exit.then])
        have hld := run_loadVar_row (P := Try.prog) (we.setRow gd (bvs d).toArray) gd 24 24 (bvs d).toArray (0, 0) _ (Row.setRow HDE.out (bvs d)) Try.underlying24 rfl (by rw [HS.out]; kernel_rfl)
        refine bodyPost_ret (results_ct rfl _ _ _ rfl hld) rfl ?_
        exact ⟨d, _, rfl, by rw [HDL.out]; exact T.leafD_len _ _, by rw [HDN.out, HPL.out]; try rfl, fun _ => by rw [HDN.out, HDL.out, List.reverse_nil, T.climb_nil], below_setRow HEE.out HGD.out _⟩
      · have hne0 : ((n : Int) == 0) = false := by rw [beq_eq_false_iff_ne]; omega
        have HN0 : Hid (decide (path.length = ([] : List Bool).length) = false) := Lib.hid (by rw [HPL.out, decide_eq_false_iff_not]; exact hn0)
        clear hn0
        obtain ⟨d, hd⟩ : ∃ d, d = T.leafD (bitsN x) leaf := ⟨_, rfl⟩
        have HS : Hid ((bvs d).toArray.size = 32) := Lib.hid (dg_size (by rw [hd]; exact T.leafD_len _ _))
        have HDL : Hid (d = T.leafD (bitsN x) leaf) := Lib.hid hd
        rw [← hd]
        clear hd
        unfold dgV
        go_wp2_with (refine wpList_st rfl rfl ?_; refine ⟨gd, _, _, _, rfl, rfl, HDE.out, by rw [HS.out]; kernel_rfl, Eq.trans (show (bvs (List.replicate 32 0)).toArray.size = 32 from rfl) HS.out.symm, dg_one _, ?_⟩)
        (try simp only [Exit.inBlock, Exit.then])
        have hld := run_loadVar_row (P := Try.prog) (we.setRow gd (bvs d).toArray) gd 24 24 (bvs d).toArray (0, 0) _ (Row.setRow HDE.out (bvs d)) Try.underlying24 rfl (by rw [HS.out]; kernel_rfl)
        refine bodyPost_ret (results_ct rfl _ _ _ rfl hld) rfl ?_
        exact ⟨d, _, rfl, by rw [HDL.out]; exact T.leafD_len _ _, by rw [HDN.out, HN0.out]; try rfl, fun _ => by rw [HDN.out, HDL.out, List.reverse_nil, T.climb_nil], below_setRow HEE.out HGD.out _⟩
    have h2 : 2 ≤ cn := by omega
    have hne1 : ((cn : Int) == 1) = false := by rw [beq_eq_false_iff_ne]; omega
    by_cases hn0 : n = 0
    · subst hn0
      have HN0 : Hid (decide (path.length = (T.downs cn j).length) = false ∧ path.length ≠ (T.downs cn j).length) := Lib.hid (by
        have h3 := T.downs_pos (n := cn) (i := j) (by omega)
        have h4 : path.length ≠ (T.downs cn j).length := by rw [HPL.out]; omega
        exact ⟨by rw [decide_eq_false_iff_not]; exact h4, h4⟩)
      go_wp2_with (first
        | (refine wpList_bldG rfl (by rfl) ?_; refine ⟨.agg (bvs (List.replicate 32 0)).toArray, by kernel_rfl, ?_⟩)
        | (refine wpList_st rfl rfl ?_; refine ⟨gd, _, _, _, rfl, rfl, HD1.out, by kernel_rfl, rfl, dg_one _, ?_⟩))
      (try simp only [Exit.inBlock, Exit.then])
      have hld := run_loadVar_row (P := Try.prog) (w1.setRow gd (bvs (List.replicate 32 0)).toArray) gd 24 24 (bvs (List.replicate 32 0)).toArray (0, 0) _ (Row.setRow HD1.out (bvs (List.replicate 32 0))) Try.underlying24 rfl (by kernel_rfl)
      refine bodyPost_ret (results_ct rfl _ _ _ rfl hld) rfl ?_
      exact ⟨List.replicate 32 0, _, rfl, rfl, by rw [HN0.out.1]; try rfl, fun h => absurd h HN0.out.2, below_setRow HE1.out HGD.out _⟩
    have hn1 : 0 < n := by omega
    have hneq : ((n : Int) == 0) = false := by rw [beq_eq_false_iff_ne]; omega
    obtain ⟨pa, hpa⟩ := HP.out.addr hn1
    subst hpa
    obtain ⟨y, hy⟩ : ∃ y, path[n - 1]? = some y := ⟨_, List.getElem?_eq_getElem (by rw [HPL.out]; omega)⟩
    have HYL : Hid (y.length = 32) := Lib.hid (HP.out.all y (List.mem_of_getElem? hy))
    have HY := Lib.hid hy
    have hld := HP1.out.load hy
    have hs1 : IntKind.i64.wrap ((n : Int) - 1) = ((n - 1 : Nat) : Int) := by rw [IntWalk.i64_in _ (by omega)]; omega
    have hb1 : ((n - 1 : Nat) : Int) < (n : Int) := by omega
    obtain ⟨k, hk⟩ : ∃ k, k = T.half cn := ⟨_, rfl⟩
    have hhl := T.half_lt h2
    rw [← hk] at hhl
    have HK := Lib.hid hk
    clear hk hy hn0
    go_upto_region 6 with (first
      | (refine wpList_ldA rfl (by rfl) rfl hld ?_)
      | (refine wpList_newD rfl rfl ?_)
      | (refine wpList_newst rfl rfl rfl HYL.out (d0 := List.replicate 32 0) rfl rfl rfl (zDig_row _) ?_))
    have HY2 := Lib.hid (stD_row w1 y)
    have HE2 := Lib.hid (ExtW.trans HE1.out (stD_ext w1 y))
    have HD2 := Lib.hid (HD1.out.ext (stD_ext w1 y))
    have HP2 := Lib.hid (HP1.out.same (stD_ext w1 y))
    generalize (w1.alloc (.cells zDig 24)).setRow w1.heap.size (bvs y).toArray = w2 at HY2 HE2 HD2 HP2 ⊢
    obtain ⟨gy, hgy⟩ : ∃ g, g = w1.heap.size := ⟨_, rfl⟩
    rw [← hgy] at HY2 ⊢
    clear hgy hld HD1 HE1 HP1
    go_wp2_with fail
    refine (rhalf_any cn _ ⟨by omega, by omega⟩).mono ?_
    rintro e we ⟨rfl, rfl⟩
    rw [← HK.out]
    have hrt := run_takeD (some pa) n c (n - 1) (by omega) hnc
    have HPT := Lib.hid (HP2.out.take (k := n - 1) (by omega))
    by_cases hjk : j < k
    · have hjki : (j : Int) < (k : Int) := by omega
      go_wp2_with fail
      refine (ih k j (some pa) (n - 1) c _ we (by omega) (by omega) hjk HPT.out).mono ?_
      rintro e w3 ⟨d1, ok, rfl, hdl, hok, hcl, hb⟩
      have HPO := Lib.hid (T.above_lo (B := bitsN x) (leaf := leaf) h2 HK.out hjk HPL.out hn1 HY.out hcl)
      have HOK := Lib.hid hok
      have HDL1 := Lib.hid hdl
      have HE3 := Lib.hid (ExtW.trans HE2.out hb)
      have HD3 := Lib.hid (HD2.out.ext hb)
      have HY3 := Lib.hid (HY2.out.ext hb)
      clear hdl hok hcl hb HD2 HY2 HE2
      go_upto_region 9 with (first
        | (refine wpList_newD rfl rfl ?_)
        | (refine wpList_newst rfl rfl rfl HDL1.out (d0 := List.replicate 32 0) rfl rfl rfl (zDig_row _) ?_))
      have HA4 := Lib.hid (stD_row w3 d1)
      have HE4 := Lib.hid (ExtW.trans HE3.out (stD_ext w3 d1))
      have HD4 := Lib.hid (HD3.out.ext (stD_ext w3 d1))
      have HY4 := Lib.hid (HY3.out.ext (stD_ext w3 d1))
      generalize (w3.alloc (.cells zDig 24)).setRow w3.heap.size (bvs d1).toArray = w4 at HA4 HE4 HD4 HY4 ⊢
      obtain ⟨ga, hga⟩ : ∃ g, g = w3.heap.size := ⟨_, rfl⟩
      rw [← hga] at HA4 ⊢
      clear hga HE3 HD3 HY3
      have HSA : Hid ((bvs d1).toArray.size = 32) := Lib.hid (dg_size HDL1.out)
      have HSY : Hid ((bvs y).toArray.size = 32) := Lib.hid (dg_size HYL.out)
      go_wp2_with (refine wpList_ld rfl rfl ?_; first | refine ⟨ga, _, _, _, rfl, HA4.out, Try.underlying24, rfl, by rw [HSA.out]; kernel_rfl, ?_⟩ | refine ⟨gy, _, _, _, rfl, HY4.out, Try.underlying24, rfl, by rw [HSY.out]; kernel_rfl, ?_⟩)
      refine (rnode_any x HX.out d1 y _ HDL1.out HYL.out).mono ?_
      rintro e w5 ⟨rfl, hb⟩
      have HDE := Lib.hid (HD4.out.ext hb)
      have HEE := Lib.hid (ExtW.trans HE4.out hb)
      clear hb HD4 HE4
      obtain ⟨d, hd⟩ : ∃ d, d = T.nodeD (bitsN x) d1 y := ⟨_, rfl⟩
      have HS : Hid ((bvs d).toArray.size = 32) := Lib.hid (dg_size (by rw [hd]; exact T.nodeD_len _ _ _))
      have HDL : Hid (d = T.nodeD (bitsN x) d1 y) := Lib.hid hd
      rw [← hd]
      clear hd
      unfold dgV
      go_wp2_with (refine wpList_st rfl rfl ?_; refine ⟨gd, _, _, _, rfl, rfl, HDE.out, by rw [HS.out]; kernel_rfl, Eq.trans (show (bvs (List.replicate 32 0)).toArray.size = 32 from rfl) HS.out.symm, dg_one _, ?_⟩)
      (try simp only [Exit.inBlock, Exit.then])
      have hld := run_loadVar_row (P := Try.prog) (w5.setRow gd (bvs d).toArray) gd 24 24 (bvs d).toArray (0, 0) _ (Row.setRow HDE.out (bvs d)) Try.underlying24 rfl (by rw [HS.out]; kernel_rfl)
      refine bodyPost_ret (results_ct rfl _ _ _ rfl hld) rfl ?_
      exact ⟨d, _, rfl, by rw [HDL.out]; exact T.nodeD_len _ _ _, by rw [← HPO.out.1, ← HOK.out]; try rfl, fun h => by rw [HDL.out]; exact HPO.out.2 h, below_setRow HEE.out HGD.out _⟩
    · have hjki : ¬ (j : Int) < (k : Int) := by omega
      have hs2 : IntKind.i64.wrap ((cn : Int) - (k : Int)) = ((cn - k : Nat) : Int) := by rw [IntWalk.i64_in _ (by omega)]; omega
      have hs3 : IntKind.i64.wrap ((j : Int) - (k : Int)) = ((j - k : Nat) : Int) := by rw [IntWalk.i64_in _ (by omega)]; omega
      go_wp2_with fail
      refine (ih (cn - k) (j - k) (some pa) (n - 1) c _ we (by omega) (by omega) (by omega) HPT.out).mono ?_
      rintro e w3 ⟨d1, ok, rfl, hdl, hok, hcl, hb⟩
      have HPO := Lib.hid (T.above_hi (B := bitsN x) (leaf := leaf) h2 HK.out hjk HPL.out hn1 HY.out hcl)
      have HOK := Lib.hid hok
      have HDL1 := Lib.hid hdl
      have HE3 := Lib.hid (ExtW.trans HE2.out hb)
      have HD3 := Lib.hid (HD2.out.ext hb)
      have HY3 := Lib.hid (HY2.out.ext hb)
      clear hdl hok hcl hb HD2 HY2 HE2 hs2 hs3
      go_upto_region 11 with (first
        | (refine wpList_newD rfl rfl ?_)
        | (refine wpList_newst rfl rfl rfl HDL1.out (d0 := List.replicate 32 0) rfl rfl rfl (zDig_row _) ?_))
      have HA4 := Lib.hid (stD_row w3 d1)
      have HE4 := Lib.hid (ExtW.trans HE3.out (stD_ext w3 d1))
      have HD4 := Lib.hid (HD3.out.ext (stD_ext w3 d1))
      have HY4 := Lib.hid (HY3.out.ext (stD_ext w3 d1))
      generalize (w3.alloc (.cells zDig 24)).setRow w3.heap.size (bvs d1).toArray = w4 at HA4 HE4 HD4 HY4 ⊢
      obtain ⟨ga, hga⟩ : ∃ g, g = w3.heap.size := ⟨_, rfl⟩
      rw [← hga] at HA4 ⊢
      clear hga HE3 HD3 HY3
      have HSA : Hid ((bvs d1).toArray.size = 32) := Lib.hid (dg_size HDL1.out)
      have HSY : Hid ((bvs y).toArray.size = 32) := Lib.hid (dg_size HYL.out)
      go_wp2_with (refine wpList_ld rfl rfl ?_; first | refine ⟨ga, _, _, _, rfl, HA4.out, Try.underlying24, rfl, by rw [HSA.out]; kernel_rfl, ?_⟩ | refine ⟨gy, _, _, _, rfl, HY4.out, Try.underlying24, rfl, by rw [HSY.out]; kernel_rfl, ?_⟩)
      refine (rnode_any x HX.out y d1 _ HYL.out HDL1.out).mono ?_
      rintro e w5 ⟨rfl, hb⟩
      have HDE := Lib.hid (HD4.out.ext hb)
      have HEE := Lib.hid (ExtW.trans HE4.out hb)
      clear hb HD4 HE4
      obtain ⟨d, hd⟩ : ∃ d, d = T.nodeD (bitsN x) y d1 := ⟨_, rfl⟩
      have HS : Hid ((bvs d).toArray.size = 32) := Lib.hid (dg_size (by rw [hd]; exact T.nodeD_len _ _ _))
      have HDL : Hid (d = T.nodeD (bitsN x) y d1) := Lib.hid hd
      rw [← hd]
      clear hd
      unfold dgV
      go_wp2_with (refine wpList_st rfl rfl ?_; refine ⟨gd, _, _, _, rfl, rfl, HDE.out, by rw [HS.out]; kernel_rfl, Eq.trans (show (bvs (List.replicate 32 0)).toArray.size = 32 from rfl) HS.out.symm, dg_one _, ?_⟩)
      (try simp only [Exit.inBlock, Exit.then])
      have hld := run_loadVar_row (P := Try.prog) (w5.setRow gd (bvs d).toArray) gd 24 24 (bvs d).toArray (0, 0) _ (Row.setRow HDE.out (bvs d)) Try.underlying24 rfl (by rw [HS.out]; kernel_rfl)
      refine bodyPost_ret (results_ct rfl _ _ _ rfl hld) rfl ?_
      exact ⟨d, _, rfl, by rw [HDL.out]; exact T.nodeD_len _ _ _, by rw [← HPO.out.1, ← HOK.out]; try rfl, fun h => by rw [HDL.out]; exact HPO.out.2 h, below_setRow HEE.out HGD.out _⟩

set_option maxHeartbeats 4000000 in
set_option maxRecDepth 100000 in
theorem rcheck_any (x : Int) (hx : -9223372036854775808 ≤ x ∧ x ≤ 9223372036854775807) (root : List UInt8) (hroot : root.length = 32) (cn i : Int) (hcn : cn ≤ 9223372036854775807) (leaf : List UInt8) (hlf : leaf.length ≤ 1000000)
    (A : Option Addr) (n c : Nat) (path : List (List UInt8)) (w : World) (hp : Dls w A n c path) :
    Calls Try.prog 35 #[.int .i64 x, dgV root, .int .i64 cn, .int .i64 i, strV leaf, .slice A n c] w fun e w' => e = .returned (.bool (T.checkD (bitsN x) root cn i leaf path)) ∧ ExtW w w' := by
  have HX := Lib.hid hx
  have HRL := Lib.hid hroot
  have HSR : Hid ((bvs root).toArray.size = 32) := Lib.hid (dg_size hroot)
  have HP := Lib.hid hp
  have HC := Lib.hid hcn
  have HR1 : Hid (Row (w.alloc (.cells (bvs root).toArray 24)) w.heap.size 24 (bvs root)) := Lib.hid (heap_alloc_last _ _)
  have HE1 : Hid (ExtW w (w.alloc (.cells (bvs root).toArray 24))) := Lib.hid ((Below.refl _ _).alloc (Nat.le_refl _) _)
  clear hx hroot hp hcn
  by_cases hout : i < 0 ∨ cn ≤ i
  · have HNO : Hid (T.checkD (bitsN x) root cn i leaf path = false) := Lib.hid (by unfold T.checkD; rw [if_pos hout])
    have hcase : i < 0 ∨ (¬ i < 0 ∧ cn ≤ i ∧ ¬ i < cn) := by omega
    clear hout
    unfold dgV
    rcases hcase with h1 | ⟨h1, h2, h3⟩
    all_goals
      go_enter Try.func35, Try.ntmps35
      go_wp2
      go_ret
      exact ⟨by rw [HNO.out]; rfl, HE1.out⟩
  obtain ⟨k, rfl⟩ : ∃ k : Nat, cn = (k : Int) := ⟨cn.toNat, by omega⟩
  obtain ⟨j, rfl⟩ : ∃ j : Nat, i = (j : Int) := ⟨i.toNat, by omega⟩
  have HYES : Hid (T.checkD (bitsN x) root (k : Int) (j : Int) leaf path = (decide (path.length = (T.downs k j).length) && decide (T.climb (bitsN x) (T.downs k j).reverse path (T.leafD (bitsN x) leaf) = root))) := Lib.hid (by unfold T.checkD; rw [if_neg hout, Int.toNat_natCast, Int.toNat_natCast])
  have h1 : ¬ (j : Int) < 0 := by omega
  have h2 : ¬ (k : Int) ≤ (j : Int) := by omega
  have h3 : (j : Int) < (k : Int) := by omega
  have h4 : j < k := by omega
  clear hout
  unfold dgV
  go_enter Try.func35, Try.ntmps35
  go_upto_region 1 with (fail)
  generalize w.alloc (.cells (bvs root).toArray 24) = w1 at HR1 HE1 ⊢
  obtain ⟨gr, hgr⟩ : ∃ g, g = w.heap.size := ⟨_, rfl⟩
  rw [← hgr] at HR1 ⊢
  clear hgr
  go_wp2_with fail
  refine (rabove_any x HX.out leaf hlf (k + 1) k j A n c path _ (by omega) (by have := HC.out; omega) h4 (HP.out.same HE1.out)).mono ?_
  rintro e w2 ⟨d1, ok, rfl, hdl, hok, hcl, hb⟩
  have HDL := Lib.hid hdl
  have HOK := Lib.hid hok
  have HCL := Lib.hid hcl
  have HR2 := Lib.hid (HR1.out.ext hb)
  have HE2 := Lib.hid (ExtW.trans HE1.out hb)
  clear hdl hok hcl hb HR1 HE1
  go_upto_region 4 with (first
    | (refine wpList_newD rfl rfl ?_)
    | (refine wpList_newst rfl rfl rfl HDL.out (d0 := List.replicate 32 0) rfl rfl rfl (zDig_row _) ?_))
  have HA3 := Lib.hid (stD_row w2 d1)
  have HE3 := Lib.hid (ExtW.trans HE2.out (stD_ext w2 d1))
  have HR3 := Lib.hid (HR2.out.ext (stD_ext w2 d1))
  generalize (w2.alloc (.cells zDig 24)).setRow w2.heap.size (bvs d1).toArray = w3 at HA3 HE3 HR3 ⊢
  obtain ⟨ga, hga⟩ : ∃ g, g = w2.heap.size := ⟨_, rfl⟩
  rw [← hga] at HA3 ⊢
  clear hga
  cases ok with
  | false =>
    have HF : Hid (decide (path.length = (T.downs k j).length) = false) := Lib.hid HOK.out.symm
    clear HOK
    go_wp2
    go_ret
    exact ⟨by rw [HYES.out, HF.out]; rfl, HE3.out⟩
  | true =>
    have HT : Hid (path.length = (T.downs k j).length) := Lib.hid (of_decide_eq_true HOK.out.symm)
    have HV := Lib.hid (HCL.out HT.out)
    have heq := eq_dg d1 root HDL.out HRL.out
    clear HOK
    go_wp2_with (refine wpList_ldG rfl (by rfl) ?_; first | refine ⟨ga, 0, _, _, rfl, HA3.out.range, Try.underlying24, rfl, sizeD HDL.out, ?_⟩ | refine ⟨gr, 0, _, _, rfl, HR3.out.range, Try.underlying24, rfl, sizeD HRL.out, ?_⟩)
    go_ret
    exact ⟨by rw [HYES.out, ← HV.out, decide_eq_true HT.out]; rfl, HE3.out⟩
end Go.Proofs.Ytncdgndeidbgoaa
