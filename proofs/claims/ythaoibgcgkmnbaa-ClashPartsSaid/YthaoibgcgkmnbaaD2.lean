/- Walk of the document's opened. -/
import Derived.Test.YthaoibgcgkmnbaaD1
namespace Go.Proofs.Ythaoibgcgkmnbaa
set_option maxRecDepth 100000
open Go.RowKit

theorem results_tc {fn : Func} {p u : Tmp} {ty : TypeId} (h : fn.results = #[.tmp u, .cell p ty]) (tmps : Array Value) (P : Program) (w : World) {ad : Addr} {v : Value}
    (h1 : tmps.getD p undef = .pointer (some ad)) (h2 : (loadVar ty ad).run P w = .ok v w) : (results fn tmps).run P w = .ok (.tuple #[tmps.getD u undef, v]) w := by
  have h1' : tmps[p]?.getD undef = .pointer (some ad) := by simpa using h1
  simp only [results, h]
  simp [Result.andThen, h1', asAddr, h2]
/-- texts appended to a list of the call's own -/
theorem wpList_append_sts {ops : Array Oper} {rest : List Oper} {o : Oper} {a : Act} {w : World} {Q : Exit → Act → World → Prop} (hgd : o.guard = none) (s x : Operand)
    (ho : o.op = .call { callee := .builtin .append, args := #[s, x], argTypes := #[27, 27] }) {base : Nat} {l : List (List UInt8)} {v : Value} {A : Option Addr} {m c : Nat} {ds : List (List UInt8)}
    (hs : a.eval s = v) (hx : a.eval x = .slice A m c) (h0 : OwnSts base l v w) (hd : Sts w A m c ds) (hl : l.length + m ≤ 1000000) (hb : base ≤ w.heap.size)
    (h : ∀ v' w', OwnSts base (l ++ ds) v' w' → Below base w w' → wpList Try.prog ops Q rest (a.put o.dst v') w') : wpList Try.prog ops Q (o :: rest) a w := by
  obtain ⟨i0, hi, hz0, hz1, hz2⟩ := info_parts infoStr
  refine wpList_append_appd w hgd s x 27 ho base 9 i0 _ 1 16 Try.underlying27 hi hz0 hz1 hz2 rfl (by omega) v l.length (l.map strV) hs (.inr h0) A m c (ds.map strV) hx hd.2 (str_one _) (by simp [maxLen]; omega) (by omega) hb (.inl h0) ?_
  intro v' w' h1 h2 _
  refine h v' w' ?_ h2
  unfold OwnSts
  rw [List.length_append, List.map_append, hd.1]
  exact h1
theorem OwnSts.one (w : World) (y : List UInt8) (base : Nat) (hb : base ≤ w.heap.size) : OwnSts base [y] (.slice (some ⟨w.heap.size, 0, none⟩) 1 1) (w.alloc (.cells #[strV y] 9)) :=
  ⟨rfl, .inr ⟨w.heap.size, 1, #[strV y], rfl, hb, heap_alloc_new w _, Nat.le_refl _, by simp [maxLen], rfl, rfl⟩⟩
theorem OwnSts.set {base : Nat} {l : List (List UInt8)} {v : Value} {w : World} (h : OwnSts base l v w) {g : Nat} (hg : g < base) (cs : Array Value) : OwnSts base l v (w.setRow g cs) := by
  refine ⟨h.1, ?_⟩
  rcases h.2 with hn | ⟨k, cap, cur, hv, hb, hc, hr⟩
  · exact .inl hn
  · exact .inr ⟨k, cap, cur, hv, hb, (setRow_other w g k cs (by omega)).trans hc, hr⟩

/-- the texts of an opening -/
def T.topsD (B : Nat) (leaf : List UInt8) (l : List (List UInt8)) (i : Nat) (path : List (List UInt8)) : List (List UInt8) := (T.pairsD B leaf l i path).1.map (·.1)
theorem T.topsD_len (B : Nat) (leaf : List UInt8) : ∀ (N : Nat) (l : List (List UInt8)) (i : Nat) (path : List (List UInt8)), l.length < N → (T.topsD B leaf l i path).length ≤ l.length + 1 := by
  intro N
  induction N with
  | zero => intro l i path h; omega
  | succ N ih =>
    intro l i path hN
    unfold T.topsD
    rw [T.pairsD]
    split
    · simp
    · rename_i h1
      have hh := T.half_lt (n := l.length) (by omega)
      split
      · have := ih (l.take (T.half l.length)) i (path.take (path.length - 1)) (by rw [List.length_take]; omega)
        unfold T.topsD at this
        rw [List.length_map, List.length_take] at this
        simp only [List.map_cons, List.length_cons, List.length_map]
        omega
      · have := ih (l.drop (T.half l.length)) (i - T.half l.length) (path.take (path.length - 1)) (by rw [List.length_drop]; omega)
        unfold T.topsD at this
        rw [List.length_map, List.length_drop] at this
        simp only [List.map_cons, List.length_cons, List.length_map]
        omega

/-- what a call of opened does -/
def OpenedPost (B : Nat) (leaf : List UInt8) (l : List (List UInt8)) (i : Nat) (path : List (List UInt8)) (w : World) (e : Ending) (w' : World) : Prop :=
  ∃ v, e = .returned (.tuple #[v, dgV (T.pairsD B leaf l i path).2]) ∧ OwnSts (w.heap.size + 1) (T.topsD B leaf l i path) v w' ∧ ExtW w w'

set_option maxHeartbeats 20000000 in
set_option maxRecDepth 100000 in
theorem ropened_any (x : Int) (hx : -9223372036854775808 ≤ x ∧ x ≤ 9223372036854775807) (leaf : List UInt8) (hlf : leaf.length ≤ 1000000) : ∀ (N cn j : Nat) (l : List (List UInt8)) (A : Option Addr) (n c : Nat) (path : List (List UInt8)) (w : World), cn < N → cn ≤ 900000 → l.length = cn → j < cn → n = (T.downs cn j).length → Dls w A n c path →
    Calls Try.prog 41 #[.int .i64 x, .int .i64 (cn : Int), .int .i64 (j : Int), strV leaf, .slice A n c] w (OpenedPost (bitsN x) leaf l j path w) := by
  have HX := Lib.hid hx
  clear hx
  intro N
  induction N with
  | zero => intro cn j l A n c path w h; omega
  | succ N ih =>
    intro cn j l A n c path w hcN hc63 hln hj hnd hp
    have hnc := hp.rd.nc
    have hcm := hp.rd.cm
    unfold maxLen at hcm
    have HP := Lib.hid hp
    have HPL := Lib.hid hp.len
    have HLN := Lib.hid hln
    have HND := Lib.hid hnd
    clear hp hln hnd
    go_enter Try.func41, Try.ntmps41
    go_upto_region 1 with (refine wpList_newD rfl rfl ?_)
    have HD1 := Lib.hid (zDig_row w)
    have HE1 : Hid (ExtW w (w.alloc (.cells zDig 45))) := Lib.hid ((Below.refl _ _).alloc (Nat.le_refl _) _)
    have HZ1 : Hid (w.heap.size + 1 ≤ (w.alloc (.cells zDig 45)).heap.size) := Lib.hid (by simp)
    obtain ⟨gd, hgd⟩ : ∃ g, g = w.heap.size := ⟨_, rfl⟩
    have HGD : Hid (w.heap.size ≤ gd) := Lib.hid (by omega)
    have HGD2 : Hid (gd < w.heap.size + 1) := Lib.hid (by omega)
    rw [← hgd] at HD1
    rw [← hgd]
    clear hgd
    generalize w.alloc (.cells zDig 45) = w1 at HD1 HE1 HZ1 ⊢
    have HP1 := Lib.hid (HP.out.same HE1.out)
    by_cases h1 : cn = 1
    · subst h1
      have HPD := Lib.hid (T.pairsD_one (bitsN x) leaf (l := l) (by rw [HLN.out]; exact Nat.le_refl _) j path)
      have HTP : Hid (T.topsD (bitsN x) leaf l j path = [T.ltx leaf]) := Lib.hid (by unfold T.topsD; rw [HPD.out]; rfl)
      go_wp2_with fail
      refine (rleafText_any leaf _ hlf).mono ?_
      rintro e we ⟨rfl, rfl⟩
      have HO := Lib.hid (OwnSts.one we (0 :: leaf) (w.heap.size + 1) HZ1.out)
      have HXB : Hid (ExtW we (we.alloc (.cells #[strV (0 :: leaf)] 9))) := Lib.hid ((Below.refl _ _).alloc (Nat.le_refl _) _)
      have HS : Hid (strV (0 :: leaf) = .string ⟨(0 :: leaf).toArray⟩) := Lib.hid rfl
      rw [HS.out] at HO HXB ⊢
      go_wp2_with fail
      generalize we.alloc (.cells #[.string ⟨(0 :: leaf).toArray⟩] 9) = wf at HO HXB ⊢
      refine (rleaf_any x HX.out leaf _ hlf).mono ?_
      rintro e w3 ⟨rfl, hb⟩
      have HO3 := Lib.hid (OwnSts.mono _ _ _ _ _ HO.out hb)
      have HDE := Lib.hid (HD1.out.ext (ExtW.trans HXB.out hb))
      have HEE := Lib.hid (ExtW.trans HE1.out (ExtW.trans HXB.out hb))
      clear hb HO HXB HD1 HE1 HP1
      obtain ⟨d, hd⟩ : ∃ d, d = T.leafD (bitsN x) leaf := ⟨_, rfl⟩
      have HS : Hid ((bvs d).toArray.size = 32) := Lib.hid (dg_size (by rw [hd]; exact T.leafD_len _ _))
      have HDL : Hid (d = T.leafD (bitsN x) leaf) := Lib.hid hd
      rw [← hd]
      clear hd
      unfold dgV
      go_wp2_with (refine wpList_st rfl rfl ?_; refine ⟨gd, _, _, _, rfl, rfl, HDE.out, by rw [HS.out]; kernel_rfl, Eq.trans (show (bvs (List.replicate 32 0)).toArray.size = 32 from rfl) HS.out.symm, dg_one _, ?_⟩)
      (try simp only [Exit.inBlock, Exit.then])
      have hld := run_loadVar_row (P := Try.prog) (w3.setRow gd (bvs d).toArray) gd 45 45 (bvs d).toArray (0, 0) _ (Row.setRow HDE.out (bvs d)) Try.underlying45 rfl (by rw [HS.out]; kernel_rfl)
      refine bodyPost_ret (results_tc rfl _ _ _ rfl hld) rfl ?_
      exact ⟨_, by rw [HPD.out, ← HDL.out]; rfl, by rw [HTP.out]; exact HO3.out.set HGD2.out _, below_setRow HEE.out HGD.out _⟩
    have h2 : 2 ≤ cn := by omega
    have hne1 : ((cn : Int) == 1) = false := by rw [beq_eq_false_iff_ne]; omega
    have hn1 : 0 < n := by rw [HND.out]; exact T.downs_pos (by omega)
    obtain ⟨pa, hpa⟩ := HP.out.addr hn1
    subst hpa
    obtain ⟨y, hy⟩ : ∃ y, path[n - 1]? = some y := ⟨_, List.getElem?_eq_getElem (by rw [HPL.out]; omega)⟩
    have HYL : Hid (y.length = 32) := Lib.hid (HP.out.all y (List.mem_of_getElem? hy))
    have HY := Lib.hid hy
    have hld := HP1.out.load hy
    have hs1 : IntKind.i64.wrap ((n : Int) - 1) = ((n - 1 : Nat) : Int) := by rw [IntWalk.i64_in _ (by omega)]; omega
    have hb1 : ((n - 1 : Nat) : Int) < (n : Int) := by omega
    obtain ⟨k, hk⟩ : ∃ k, k = T.half cn := ⟨_, rfl⟩
    have hhl := T.half_lt h2
    rw [← hk] at hhl
    have HK := Lib.hid hk
    clear hk hy
    go_wp2_with fail
    refine (rhalf_any cn _ ⟨by omega, by omega⟩).mono ?_
    rintro e we ⟨rfl, rfl⟩
    rw [← HK.out]
    have hrt := run_takeD (some pa) n c (n - 1) (by omega) hnc
    go_upto_region 5 with (first
      | (refine wpList_ldA rfl (by rfl) rfl hld ?_)
      | (refine wpList_newD rfl rfl ?_)
      | (refine wpList_newst rfl rfl rfl HYL.out (d0 := List.replicate 32 0) rfl rfl rfl (zDig_row _) ?_))
    have HY2 := Lib.hid (stD_row we y)
    have HX2 := Lib.hid (stD_ext we y)
    have HE2 := Lib.hid (ExtW.trans HE1.out (stD_ext we y))
    have HD2 := Lib.hid (HD1.out.ext (stD_ext we y))
    have HP2 := Lib.hid (HP1.out.same (stD_ext we y))
    generalize (we.alloc (.cells zDig 45)).setRow we.heap.size (bvs y).toArray = w2 at HY2 HX2 HE2 HD2 HP2 ⊢
    obtain ⟨gy, hgy⟩ : ∃ g, g = we.heap.size := ⟨_, rfl⟩
    rw [← hgy] at HY2 ⊢
    have HZ2 : Hid (w.heap.size + 1 ≤ w2.heap.size) := Lib.hid (Nat.le_trans HZ1.out HX2.out.size)
    clear hgy hld HD1 HE1 HP1 HX2
    have HPT := Lib.hid (HP2.out.take (k := n - 1) (by omega))
    go_upto_region 8 with (fail)
    by_cases hjk : j < k
    · have hjki : (j : Int) < (k : Int) := by omega
      go_wp2_with fail
      refine (ih k j (l.take k) (some pa) (n - 1) c _ w2 (by omega) (by omega) (by rw [List.length_take, HLN.out]; omega) hjk (by rw [HND.out, T.downs_lo (by omega) HK.out hjk]; rfl) HPT.out).mono ?_
      rintro e w3 ⟨v, rfl, ho, hb⟩
      have HPD := Lib.hid (T.pairsD_lo (bitsN x) leaf HLN.out h2 HK.out HPL.out HY.out hjk)
      obtain ⟨d1, hd1⟩ : ∃ d, d = (T.pairsD (bitsN x) leaf (l.take k) j (path.take (n - 1))).2 := ⟨_, rfl⟩
      have HDL1 : Hid (d1.length = 32) := Lib.hid (by rw [hd1]; exact T.pairsD_len _ _ _ _ _)
      rw [← hd1] at HPD ⊢
      have HTP : Hid (T.topsD (bitsN x) leaf l j path = T.ntx d1 y :: T.topsD (bitsN x) leaf (l.take k) j (path.take (n - 1))) := Lib.hid (by unfold T.topsD; rw [HPD.out]; rfl)
      have HP2D : Hid ((T.pairsD (bitsN x) leaf l j path).2 = T.nodeD (bitsN x) d1 y) := Lib.hid (by rw [HPD.out])
      have HTL := Lib.hid (T.topsD_len (bitsN x) leaf (k + 1) (l.take k) j (path.take (n - 1)) (by rw [List.length_take]; omega))
      have HTL2 : Hid ((T.topsD (bitsN x) leaf (l.take k) j (path.take (n - 1))).length ≤ 900000) := Lib.hid (by have h3 := HTL.out; rw [List.length_take] at h3; omega)
      have HO3 := Lib.hid ho
      have HE3 := Lib.hid (ExtW.trans HE2.out hb)
      have HZ3 : Hid (w.heap.size + 1 ≤ w3.heap.size) := Lib.hid (Nat.le_trans HZ2.out hb.size)
      have HD3 := Lib.hid (HD2.out.ext hb)
      have HY3 := Lib.hid (HY2.out.ext hb)
      clear hd1 ho hb HD2 HY2 HE2 HPD HTL
      go_upto_region 10 with (first
        | (refine wpList_newD rfl rfl ?_)
        | (refine wpList_newst rfl rfl rfl HDL1.out (d0 := List.replicate 32 0) rfl rfl rfl (zDig_row _) ?_))
      have HA4 := Lib.hid (stD_row w3 d1)
      have HX4 := Lib.hid (stD_ext w3 d1)
      have HE4 := Lib.hid (ExtW.trans HE3.out HX4.out)
      have HD4 := Lib.hid (HD3.out.ext HX4.out)
      have HY4 := Lib.hid (HY3.out.ext HX4.out)
      have HO4 := Lib.hid (OwnSts.mono _ _ _ _ _ HO3.out HX4.out)
      generalize (w3.alloc (.cells zDig 45)).setRow w3.heap.size (bvs d1).toArray = w4 at HA4 HX4 HE4 HD4 HY4 HO4 ⊢
      obtain ⟨ga, hga⟩ : ∃ g, g = w3.heap.size := ⟨_, rfl⟩
      rw [← hga] at HA4 ⊢
      have HZ4 : Hid (w.heap.size + 1 ≤ w4.heap.size) := Lib.hid (Nat.le_trans HZ3.out HX4.out.size)
      clear hga HE3 HD3 HY3 HO3 HX4
      have HSA : Hid ((bvs d1).toArray.size = 32) := Lib.hid (dg_size HDL1.out)
      have HSY : Hid ((bvs y).toArray.size = 32) := Lib.hid (dg_size HYL.out)
      go_wp2_with (refine wpList_ld rfl rfl ?_; first | refine ⟨ga, _, _, _, rfl, HA4.out, Try.underlying45, rfl, by rw [HSA.out]; kernel_rfl, ?_⟩ | refine ⟨gy, _, _, _, rfl, HY4.out, Try.underlying45, rfl, by rw [HSY.out]; kernel_rfl, ?_⟩)
      refine (rnodeText_any d1 y _ HDL1.out HYL.out).mono ?_
      rintro e w5 ⟨rfl, hb⟩
      obtain ⟨tx, htx⟩ : ∃ t, t = T.ntx d1 y := ⟨_, rfl⟩
      have HTX : Hid (1 :: (d1 ++ y) = tx) := Lib.hid (by rw [htx]; rfl)
      have HTX2 := Lib.hid htx
      have HTXL : Hid (tx.length = 65) := Lib.hid (by rw [htx]; unfold T.ntx; rw [List.length_cons, List.length_append, HYL.out, HDL1.out])
      rw [HTX.out]
      have HD5 := Lib.hid (HD4.out.ext hb)
      have HE5 := Lib.hid (ExtW.trans HE4.out hb)
      have HZ5 : Hid (w.heap.size + 1 ≤ w5.heap.size) := Lib.hid (Nat.le_trans HZ4.out hb.size)
      have HO5 := Lib.hid (OwnSts.mono _ _ _ _ _ HO4.out hb)
      clear hb htx HD4 HE4 HO4 HA4 HY4
      obtain ⟨vA, vc, rfl, hsts⟩ := HO5.out.sts
      have HV5 := Lib.hid hsts
      clear hsts
      obtain ⟨vn, hvn⟩ : ∃ q, q = (T.topsD (bitsN x) leaf (l.take k) j (path.take (n - 1))).length := ⟨_, rfl⟩
      rw [← hvn] at HV5 HTL2 ⊢
      clear hvn
      have HW := Lib.hid (OwnSts.one w5 tx (w.heap.size + 1) HZ5.out)
      have HXB : Hid (ExtW w5 (w5.alloc (.cells #[strV tx] 9))) := Lib.hid ((Below.refl _ _).alloc (Nat.le_refl _) _)
      have HS : Hid (strV tx = .string ⟨tx.toArray⟩) := Lib.hid rfl
      have HSZ : Hid ((⟨tx.toArray⟩ : ByteArray).size ≤ 1000000000) := Lib.hid (by rw [str_size, HTXL.out]; decide)
      rw [HS.out] at HW HXB ⊢
      go_wp2_with (at_builtin; generalize w5.alloc (.cells #[.string ⟨tx.toArray⟩] 9) = wf at HW HXB ⊢; refine wpList_append_sts rfl _ _ rfl rfl rfl HW.out (HV5.out.same HXB.out) (by have h3 := HTL2.out; simp; omega) (Nat.le_trans HZ5.out HXB.out.size) ?_; intro v' w' ho' hb'; have HO' := Lib.hid ho'; have HB' := Lib.hid (Below.trans ((ExtW.trans HE5.out HXB.out)) (Below.mono hb' (Nat.le_succ _))); have HD' : Hid (Row w' gd 45 (bvs (List.replicate 32 0))) := Lib.hid ((hb'.block gd HGD2.out).trans (HD5.out.ext HXB.out)); clear ho' hb' HW HXB)
      refine (refKept_any _ x _ HSZ.out HX.out).mono ?_
      rintro e w7 ⟨rfl, hb⟩
      rw [str_bytes]
      have HO7 := Lib.hid (OwnSts.mono _ _ _ _ _ HO'.out hb)
      have HDE := Lib.hid (HD'.out.ext hb)
      have HEE := Lib.hid (ExtW.trans HB'.out hb)
      clear hb HO' HD' HB' HD5 HE5
      obtain ⟨d, hd⟩ : ∃ d, d = keep (S.sha tx) (bitsN x) := ⟨_, rfl⟩
      have HS : Hid ((bvs d).toArray.size = 32) := Lib.hid (dg_size (by rw [hd]; exact (by rw [keep_len]; rfl)))
      have HDL : Hid (d = keep (S.sha tx) (bitsN x)) := Lib.hid hd
      rw [← hd]
      clear hd
      unfold dgV
      go_wp2_with (refine wpList_st rfl rfl ?_; refine ⟨gd, _, _, _, rfl, rfl, HDE.out, by rw [HS.out]; kernel_rfl, Eq.trans (show (bvs (List.replicate 32 0)).toArray.size = 32 from rfl) HS.out.symm, dg_one _, ?_⟩)
      (try simp only [Exit.inBlock, Exit.then])
      have hld := run_loadVar_row (P := Try.prog) (w7.setRow gd (bvs d).toArray) gd 45 45 (bvs d).toArray (0, 0) _ (Row.setRow HDE.out (bvs d)) Try.underlying45 rfl (by rw [HS.out]; kernel_rfl)
      refine bodyPost_ret (results_tc rfl _ _ _ rfl hld) rfl ?_
      exact ⟨_, by rw [HP2D.out, T.nodeD_tx, ← HTX2.out, show T.sumD (bitsN x) tx = d from HDL.out.symm]; rfl, by rw [HTP.out, ← HTX2.out]; exact HO7.out.set HGD2.out _, below_setRow HEE.out HGD.out _⟩
    · have hjki : ¬ (j : Int) < (k : Int) := by omega
      have hs2 : IntKind.i64.wrap ((cn : Int) - (k : Int)) = ((cn - k : Nat) : Int) := by rw [IntWalk.i64_in _ (by omega)]; omega
      have hs3 : IntKind.i64.wrap ((j : Int) - (k : Int)) = ((j - k : Nat) : Int) := by rw [IntWalk.i64_in _ (by omega)]; omega
      go_wp2_with fail
      refine (ih (cn - k) (j - k) (l.drop k) (some pa) (n - 1) c _ w2 (by omega) (by omega) (by rw [List.length_drop, HLN.out]) (by omega) (by rw [HND.out, T.downs_hi (by omega) HK.out hjk]; rfl) HPT.out).mono ?_
      rintro e w3 ⟨v, rfl, ho, hb⟩
      have HPD := Lib.hid (T.pairsD_hi (bitsN x) leaf HLN.out h2 HK.out HPL.out HY.out hjk)
      obtain ⟨d1, hd1⟩ : ∃ d, d = (T.pairsD (bitsN x) leaf (l.drop k) (j - k) (path.take (n - 1))).2 := ⟨_, rfl⟩
      have HDL1 : Hid (d1.length = 32) := Lib.hid (by rw [hd1]; exact T.pairsD_len _ _ _ _ _)
      rw [← hd1] at HPD ⊢
      have HTP : Hid (T.topsD (bitsN x) leaf l j path = T.ntx y d1 :: T.topsD (bitsN x) leaf (l.drop k) (j - k) (path.take (n - 1))) := Lib.hid (by unfold T.topsD; rw [HPD.out]; rfl)
      have HP2D : Hid ((T.pairsD (bitsN x) leaf l j path).2 = T.nodeD (bitsN x) y d1) := Lib.hid (by rw [HPD.out])
      have HTL := Lib.hid (T.topsD_len (bitsN x) leaf (cn + 1) (l.drop k) (j - k) (path.take (n - 1)) (by rw [List.length_drop, HLN.out]; omega))
      have HTL2 : Hid ((T.topsD (bitsN x) leaf (l.drop k) (j - k) (path.take (n - 1))).length ≤ 900000) := Lib.hid (by have h3 := HTL.out; rw [List.length_drop, HLN.out] at h3; omega)
      have HO3 := Lib.hid ho
      have HE3 := Lib.hid (ExtW.trans HE2.out hb)
      have HZ3 : Hid (w.heap.size + 1 ≤ w3.heap.size) := Lib.hid (Nat.le_trans HZ2.out hb.size)
      have HD3 := Lib.hid (HD2.out.ext hb)
      have HY3 := Lib.hid (HY2.out.ext hb)
      clear hd1 ho hb HD2 HY2 HE2 HPD HTL hs2 hs3
      go_upto_region 13 with (first
        | (refine wpList_newD rfl rfl ?_)
        | (refine wpList_newst rfl rfl rfl HDL1.out (d0 := List.replicate 32 0) rfl rfl rfl (zDig_row _) ?_))
      have HA4 := Lib.hid (stD_row w3 d1)
      have HX4 := Lib.hid (stD_ext w3 d1)
      have HE4 := Lib.hid (ExtW.trans HE3.out HX4.out)
      have HD4 := Lib.hid (HD3.out.ext HX4.out)
      have HY4 := Lib.hid (HY3.out.ext HX4.out)
      have HO4 := Lib.hid (OwnSts.mono _ _ _ _ _ HO3.out HX4.out)
      generalize (w3.alloc (.cells zDig 45)).setRow w3.heap.size (bvs d1).toArray = w4 at HA4 HX4 HE4 HD4 HY4 HO4 ⊢
      obtain ⟨ga, hga⟩ : ∃ g, g = w3.heap.size := ⟨_, rfl⟩
      rw [← hga] at HA4 ⊢
      have HZ4 : Hid (w.heap.size + 1 ≤ w4.heap.size) := Lib.hid (Nat.le_trans HZ3.out HX4.out.size)
      clear hga HE3 HD3 HY3 HO3 HX4
      have HSA : Hid ((bvs d1).toArray.size = 32) := Lib.hid (dg_size HDL1.out)
      have HSY : Hid ((bvs y).toArray.size = 32) := Lib.hid (dg_size HYL.out)
      go_wp2_with (refine wpList_ld rfl rfl ?_; first | refine ⟨ga, _, _, _, rfl, HA4.out, Try.underlying45, rfl, by rw [HSA.out]; kernel_rfl, ?_⟩ | refine ⟨gy, _, _, _, rfl, HY4.out, Try.underlying45, rfl, by rw [HSY.out]; kernel_rfl, ?_⟩)
      refine (rnodeText_any y d1 _ HYL.out HDL1.out).mono ?_
      rintro e w5 ⟨rfl, hb⟩
      obtain ⟨tx, htx⟩ : ∃ t, t = T.ntx y d1 := ⟨_, rfl⟩
      have HTX : Hid (1 :: (y ++ d1) = tx) := Lib.hid (by rw [htx]; rfl)
      have HTX2 := Lib.hid htx
      have HTXL : Hid (tx.length = 65) := Lib.hid (by rw [htx]; unfold T.ntx; rw [List.length_cons, List.length_append, HYL.out, HDL1.out])
      rw [HTX.out]
      have HD5 := Lib.hid (HD4.out.ext hb)
      have HE5 := Lib.hid (ExtW.trans HE4.out hb)
      have HZ5 : Hid (w.heap.size + 1 ≤ w5.heap.size) := Lib.hid (Nat.le_trans HZ4.out hb.size)
      have HO5 := Lib.hid (OwnSts.mono _ _ _ _ _ HO4.out hb)
      clear hb htx HD4 HE4 HO4 HA4 HY4
      obtain ⟨vA, vc, rfl, hsts⟩ := HO5.out.sts
      have HV5 := Lib.hid hsts
      clear hsts
      obtain ⟨vn, hvn⟩ : ∃ q, q = (T.topsD (bitsN x) leaf (l.drop k) (j - k) (path.take (n - 1))).length := ⟨_, rfl⟩
      rw [← hvn] at HV5 HTL2 ⊢
      clear hvn
      have HW := Lib.hid (OwnSts.one w5 tx (w.heap.size + 1) HZ5.out)
      have HXB : Hid (ExtW w5 (w5.alloc (.cells #[strV tx] 9))) := Lib.hid ((Below.refl _ _).alloc (Nat.le_refl _) _)
      have HS : Hid (strV tx = .string ⟨tx.toArray⟩) := Lib.hid rfl
      have HSZ : Hid ((⟨tx.toArray⟩ : ByteArray).size ≤ 1000000000) := Lib.hid (by rw [str_size, HTXL.out]; decide)
      rw [HS.out] at HW HXB ⊢
      go_wp2_with (at_builtin; generalize w5.alloc (.cells #[.string ⟨tx.toArray⟩] 9) = wf at HW HXB ⊢; refine wpList_append_sts rfl _ _ rfl rfl rfl HW.out (HV5.out.same HXB.out) (by have h3 := HTL2.out; simp; omega) (Nat.le_trans HZ5.out HXB.out.size) ?_; intro v' w' ho' hb'; have HO' := Lib.hid ho'; have HB' := Lib.hid (Below.trans ((ExtW.trans HE5.out HXB.out)) (Below.mono hb' (Nat.le_succ _))); have HD' : Hid (Row w' gd 45 (bvs (List.replicate 32 0))) := Lib.hid ((hb'.block gd HGD2.out).trans (HD5.out.ext HXB.out)); clear ho' hb' HW HXB)
      refine (refKept_any _ x _ HSZ.out HX.out).mono ?_
      rintro e w7 ⟨rfl, hb⟩
      rw [str_bytes]
      have HO7 := Lib.hid (OwnSts.mono _ _ _ _ _ HO'.out hb)
      have HDE := Lib.hid (HD'.out.ext hb)
      have HEE := Lib.hid (ExtW.trans HB'.out hb)
      clear hb HO' HD' HB' HD5 HE5
      obtain ⟨d, hd⟩ : ∃ d, d = keep (S.sha tx) (bitsN x) := ⟨_, rfl⟩
      have HS : Hid ((bvs d).toArray.size = 32) := Lib.hid (dg_size (by rw [hd]; exact (by rw [keep_len]; rfl)))
      have HDL : Hid (d = keep (S.sha tx) (bitsN x)) := Lib.hid hd
      rw [← hd]
      clear hd
      unfold dgV
      go_wp2_with (refine wpList_st rfl rfl ?_; refine ⟨gd, _, _, _, rfl, rfl, HDE.out, by rw [HS.out]; kernel_rfl, Eq.trans (show (bvs (List.replicate 32 0)).toArray.size = 32 from rfl) HS.out.symm, dg_one _, ?_⟩)
      (try simp only [Exit.inBlock, Exit.then])
      have hld := run_loadVar_row (P := Try.prog) (w7.setRow gd (bvs d).toArray) gd 45 45 (bvs d).toArray (0, 0) _ (Row.setRow HDE.out (bvs d)) Try.underlying45 rfl (by rw [HS.out]; kernel_rfl)
      refine bodyPost_ret (results_tc rfl _ _ _ rfl hld) rfl ?_
      exact ⟨_, by rw [HP2D.out, T.nodeD_tx, ← HTX2.out, show T.sumD (bitsN x) tx = d from HDL.out.symm]; rfl, by rw [HTP.out, ← HTX2.out]; exact HO7.out.set HGD2.out _, below_setRow HEE.out HGD.out _⟩
end Go.Proofs.Ythaoibgcgkmnbaa
