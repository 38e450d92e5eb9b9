/- Walk of the document's spots. -/
import Derived.Test.YthaoibgcgkmnbaaD1
import Derived.Test.YthaoibgcgkmnbaaCC
namespace Go.Proofs.Ythaoibgcgkmnbaa
set_option maxRecDepth 100000
open Go.RowKit

theorem results_tct {fn : Func} {p u s : Tmp} {ty : TypeId} (h : fn.results = #[.tmp u, .cell p ty, .tmp s]) (tmps : Array Value) (P : Program) (w : World) {ad : Addr} {v : Value}
    (h1 : tmps.getD p undef = .pointer (some ad)) (h2 : (loadVar ty ad).run P w = .ok v w) : (results fn tmps).run P w = .ok (.tuple #[tmps.getD u undef, v, tmps.getD s undef]) w := by
  have h1' : tmps[p]?.getD undef = .pointer (some ad) := by simpa using h1
  simp only [results, h]
  simp [Result.andThen, h1', asAddr, h2]
/-- spots in memory -/
def spC (l : List (List UInt8 × List UInt8)) : List Value := l.flatMap fun p => [strV p.1, strV p.2]
theorem spC_len (l : List (List UInt8 × List UInt8)) : (spC l).length = l.length * 2 := by
  unfold spC
  induction l with
  | nil => rfl
  | cons p l ih => rw [List.flatMap_cons, List.length_append, ih, List.length_cons]; simp; omega
theorem spC_app (l m : List (List UInt8 × List UInt8)) : spC (l ++ m) = spC l ++ spC m := by unfold spC; rw [List.flatMap_append]
theorem spC_one (l : List (List UInt8 × List UInt8)) : ∀ u ∈ spC l, u.oneCell' = true := by
  intro u hu
  unfold spC at hu
  obtain ⟨p, _, hp⟩ := List.mem_flatMap.1 hu
  simp only [List.mem_cons, List.not_mem_nil, or_false] at hp
  rcases hp with rfl | rfl <;> rfl
theorem spC_get {l : List (List UInt8 × List UInt8)} : ∀ {i : Nat} {p : List UInt8 × List UInt8}, l[i]? = some p → (spC l)[i * 2]? = some (strV p.1) ∧ (spC l)[i * 2 + 1]? = some (strV p.2) := by
  induction l with
  | nil => intro i p h; cases h
  | cons q l ih =>
    intro i p h
    have e : spC (q :: l) = strV q.1 :: strV q.2 :: spC l := rfl
    cases i with
    | zero =>
      simp only [List.getElem?_cons_zero, Option.some.injEq] at h
      subst h
      rw [e]
      exact ⟨rfl, rfl⟩
    | succ i =>
      rw [List.getElem?_cons_succ] at h
      rw [e, show (i + 1) * 2 = i * 2 + 1 + 1 by omega, show i * 2 + 1 + 1 + 1 = (i * 2 + 1) + 1 + 1 by omega]
      simp only [List.getElem?_cons_succ]
      exact ih h
def OwnSp (base : Nat) (l : List (List UInt8 × List UInt8)) (v : Value) (w : World) : Prop := w.ownsRow base 84 2 v l.length (spC l)
theorem OwnSp.mono {base : Nat} {l : List (List UInt8 × List UInt8)} {v : Value} {w w' : World} (h : OwnSp base l v w) (hb : ExtW w w') : OwnSp base l v w' := own_extG h hb
theorem OwnSp.le {base base' : Nat} {l : List (List UInt8 × List UInt8)} {v : Value} {w : World} (h : OwnSp base l v w) (hb : base' ≤ base) : OwnSp base' l v w := own_mono h hb
theorem OwnSp.nil (base : Nat) (w : World) : OwnSp base [] (.slice none 0 0) w := ⟨rfl, .inl ⟨rfl, rfl⟩⟩
theorem OwnSp.one (w : World) (y z : List UInt8) (base : Nat) (hb : base ≤ w.heap.size) : OwnSp base [(y, z)] (.slice (some ⟨w.heap.size, 0, none⟩) 1 1) (w.alloc (.cells #[strV y, strV z] 84)) :=
  ⟨rfl, .inr ⟨w.heap.size, 1, #[strV y, strV z], rfl, hb, heap_alloc_new w _, Nat.le_refl _, by simp [maxLen], rfl, rfl⟩⟩
theorem OwnSp.rd {base : Nat} {l : List (List UInt8 × List UInt8)} {v : Value} {w : World} (h : OwnSp base l v w) : ∃ A c, v = .slice A l.length c ∧ Rd w A l.length c 2 (spC l) := by
  obtain ⟨A, c, hv, hr, _⟩ := Rd.of_own h
  exact ⟨A, c, hv, hr⟩
theorem OwnSp.rd2 {base : Nat} {l : List (List UInt8 × List UInt8)} {v : Value} {w : World} (h : OwnSp base l v w) : ∃ A c, v = .slice A l.length c ∧ Rd w A l.length c 2 (spC l) ∧ ∀ a, A = some a → ∃ g, a = ⟨g, 0, none⟩ := by
  obtain ⟨A, c, hv, hr⟩ := h.rd
  refine ⟨A, c, hv, hr, fun a ha => ?_⟩
  rcases h.2 with ⟨hn, _⟩ | ⟨k, cap, cur, hw, _⟩
  · rw [hv, ha] at hn; cases hn
  · rw [hv, ha] at hw
    injection hw with hw
    exact ⟨k, Option.some.inj hw⟩
theorem OwnSp.set {base : Nat} {l : List (List UInt8 × List UInt8)} {v : Value} {w : World} (h : OwnSp base l v w) {g : Nat} (hg : v.ownBlock ≠ some g) (cs : Array Value) : OwnSp base l v (w.setRow g cs) := by
  refine ⟨h.1, ?_⟩
  rcases h.2 with hn | ⟨k, cap, cur, hv, hb, hc, hr⟩
  · exact .inl hn
  · refine .inr ⟨k, cap, cur, hv, hb, (setRow_other w g k cs (fun e => hg ?_)).trans hc, hr⟩
    rw [hv, e]; rfl
theorem OwnSp.own {base : Nat} {l : List (List UInt8 × List UInt8)} {v : Value} {w : World} (h : OwnSp base l v w) : ∀ k, v.ownBlock = some k → base ≤ k ∧ k < w.heap.size := World.ownsRow.lt h
theorem infoSp : (Try.prog.info? 84).map (fun i => (i.zero, i.size, i.bytes)) = some (some (.agg #[.string ByteArray.empty, .string ByteArray.empty]), 2, 32) := by kernel_rfl
/-- spots appended to a list of the call's own -/
theorem wpList_append_sp {ops : Array Oper} {rest : List Oper} {o : Oper} {a : Act} {w : World} {Q : Exit → Act → World → Prop} (hgd : o.guard = none) (s x : Operand)
    (ho : o.op = .call { callee := .builtin .append, args := #[s, x], argTypes := #[80, 80] }) {base : Nat} {l : List (List UInt8 × List UInt8)} {v : Value} {A : Option Addr} {m c : Nat} {ds : List (List UInt8 × List UInt8)}
    (hs : a.eval s = v) (hx : a.eval x = .slice A m c) (h0 : OwnSp base l v w) (hm : m = ds.length) (hd : Rd w A m c 2 (spC ds)) (hl : l.length + m ≤ 1000000) (hb : base ≤ w.heap.size)
    (h : ∀ v' w', OwnSp base (l ++ ds) v' w' → Below base w w' → wpList Try.prog ops Q rest (a.put o.dst v') w') : wpList Try.prog ops Q (o :: rest) a w := by
  obtain ⟨i0, hi, hz0, hz1, hz2⟩ := info_parts infoSp
  refine wpList_append_appd w hgd s x 80 ho base 84 i0 _ 2 32 Try.underlying80 hi hz0 hz1 hz2 rfl (by omega) v l.length (spC l) hs (.inr h0) A m c (spC ds) hx hd (spC_one _) (by simp [maxLen]; omega) (by omega) hb (.inl h0) ?_
  intro v' w' h1 h2 _
  refine h v' w' ?_ h2
  unfold OwnSp
  rw [List.length_append, spC_app, ← hm]
  exact h1
theorem T.spots_le (B : Nat) (part : List (List UInt8)) : ∀ (N : Nat) (l : List (List UInt8)) (a : Int) (ds : List (List UInt8)), l.length < N → 1 ≤ l.length → (T.spotsD B part l a ds).1.length + 1 ≤ 2 * l.length := by
  intro N
  induction N with
  | zero => intro l a ds h; omega
  | succ N ih =>
    intro l a ds hN h1
    by_cases hout : a + part.length ≤ 0 ∨ (l.length : Int) ≤ a
    · rw [T.spotsD_out B ds rfl rfl hout]; simp; omega
    · by_cases h2 : l.length ≤ 1
      · rw [T.spotsD_one B ds rfl rfl hout h2]; simp; omega
      · have hh := T.half_lt (n := l.length) (by omega)
        have e1 : (l.take (T.half l.length)).length = T.half l.length := by rw [List.length_take]; omega
        have e2 : (l.drop (T.half l.length)).length = l.length - T.half l.length := List.length_drop
        have i1 := ih (l.take (T.half l.length)) a ds (by omega) (by omega)
        have i2 := ih (l.drop (T.half l.length)) (a - (T.half l.length : Nat)) (T.spotsD B part (l.take (T.half l.length)) a ds).2.2 (by omega) (by omega)
        rw [T.spotsD_more B ds rfl rfl hout (by omega) rfl, List.length_cons, List.length_append]
        omega

/-- what a call of spots does -/
def SpotsPost (o : List (List UInt8 × List UInt8) × List UInt8 × List (List UInt8)) (u : Nat) (w : World) (e : Ending) (w' : World) : Prop :=
  ∃ v, e = .returned (.tuple #[v, dgV o.2.1, .int .i64 (u : Int)]) ∧ OwnSp (w.heap.size + 1) o.1 v w' ∧ ExtW w w'
/-- the call among the operations that are drawn -/
def SpF (base : Nat) (ps : List (List UInt8 × List UInt8)) (d : List UInt8) (u : Nat) (v : Value) (w : World) : Prop := ∃ s, v = .tuple #[s, dgV d, .int .i64 (u : Int)] ∧ OwnSp base ps s w
def SpR (base : Nat) (ps : List (List UInt8 × List UInt8)) (d : List UInt8) (u : Nat) (v z : Value) (w : World) : Prop := ∃ s g, v = .tuple #[s, dgV d, .int .i64 (u : Int)] ∧ z = .pointer (some ⟨g, 0, none⟩) ∧ s.ownBlock ≠ some g ∧ OwnSp base ps s w
theorem SpF.mono (base : Nat) (ps : List (List UInt8 × List UInt8)) (d : List UInt8) (u : Nat) : ∀ v w w', SpF base ps d u v w → ExtW w w' → SpF base ps d u v w' := by
  rintro v w w' ⟨s, h1, h2⟩ hb
  exact ⟨s, h1, h2.mono hb⟩
theorem SpR.mono (base : Nat) (ps : List (List UInt8 × List UInt8)) (d : List UInt8) (u : Nat) : ∀ v z w w', SpR base ps d u v z w → ExtW w w' → SpR base ps d u v z w' := by
  rintro v z w w' ⟨s, g, h1, h2, h3, h4⟩ hb
  exact ⟨s, g, h1, h2, h3, h4.mono hb⟩
theorem link_assign {P : Program} {ops : Array Oper} {o : Oper} {a : Act} {w : World} {F : Value → World → Prop} {t : Tmp} {x : Value} (hg : o.guard = none) (ho : o.op = .assign (.tmp t)) (hx : a.tmps[t]? = some x) (h : oblAt P ops o a w F) : oblAt P ops o a w fun v w' => F v w' ∧ v = x := by
  have hw : Region.wanted o (yielded ops a.tmps) = true := by unfold Region.wanted; rw [hg]
  have hr : (execOp a.eval o).run P w = .ok (.value x) w := by
    unfold execOp
    rw [ho]
    simp [Act.eval, hx]
  unfold oblAt at h ⊢
  rw [if_pos hw, hr] at h ⊢
  rw [extUpon_value] at h ⊢
  exact ⟨h.1, h.2, rfl⟩

theorem bldSp (s r : ByteArray) (W : World) : (Instr.build 84 #[(0, .string s), (1, .string r)]).run Try.prog W = .ok (.agg #[.string s, .string r]) W := run_build W _ _ _ (by kernel_rfl)

set_option maxHeartbeats 20000000 in
set_option maxRecDepth 100000 in
theorem rspots_any (x : Int) (hx : -9223372036854775808 ≤ x ∧ x ≤ 9223372036854775807) (part : List (List UInt8)) (hlvp : Lv part) (m : Nat) (hm : part.length = m) (hmb : m ≤ 1000000) :
    ∀ (N : Nat) (A : Option Addr) (n c : Nat) (real : List (List UInt8)) (a : Int) (LA : Option Addr) (lc : Nat) (PA : Option Addr) (pn pc : Nat) (ds : List (List UInt8)) (w : World), n < N → 1 ≤ n → n ≤ 400000 → -4000000 ≤ a - n → a ≤ 4000000 → Sts w A n c real → Lv real → Sts w LA m lc part → Dls w PA pn pc ds → T.popsD n a m ≤ pn →
    Calls Try.prog 51 #[.int .i64 x, .slice A n c, .int .i64 a, .slice LA m lc, .slice PA pn pc] w (SpotsPost (T.spotsD (bitsN x) part real a ds) (T.popsD n a m) w) := by
  have HX := Lib.hid hx
  have HV := Lib.hid hlvp
  have HML := Lib.hid hm
  clear hx hlvp hm
  intro N
  induction N with
  | zero => intro A n c real a LA lc PA pn pc ds w h; omega
  | succ N ih =>
    intro A n c real a LA lc PA pn pc ds w hnN hn1 hnb ha1 ha2 hr hlv hl hp hpop
    have hnc := hr.2.nc
    have hpc := hp.rd.nc
    have hpm := hp.rd.cm
    unfold maxLen at hpm
    have HR0 := Lib.hid hr
    have HVR := Lib.hid hlv
    have HL0 := Lib.hid hl
    have HP0 := Lib.hid hp
    have HRN := Lib.hid hr.1
    have HPN := Lib.hid hp.len
    have HPOP := Lib.hid hpop
    clear hr hlv hl hp hpop
    go_enter Try.func51, Try.ntmps51
    go_upto_region 1 with (refine wpList_newD rfl rfl ?_)
    have HD1 := Lib.hid (zDig_row w)
    have HE1 : Hid (ExtW w (w.alloc (.cells zDig 45))) := Lib.hid ((Below.refl _ _).alloc (Nat.le_refl _) _)
    have HZ1 : Hid (w.heap.size + 1 ≤ (w.alloc (.cells zDig 45)).heap.size) := Lib.hid (by simp)
    obtain ⟨gd, hgd⟩ : ∃ g, g = w.heap.size := ⟨_, rfl⟩
    have HGD : Hid (w.heap.size ≤ gd) := Lib.hid (by omega)
    have HGD2 : Hid (gd < w.heap.size + 1) := Lib.hid (by omega)
    rw [← hgd] at HD1
    rw [← hgd]
    clear hgd
    generalize w.alloc (.cells zDig 45) = w1 at HD1 HE1 HZ1 ⊢
    have HP1 := Lib.hid (HP0.out.same HE1.out)
    have HL1 := Lib.hid (HL0.out.same HE1.out)
    have HR1 := Lib.hid (HR0.out.same HE1.out)
    have hsum : IntKind.i64.wrap (a + (m : Int)) = a + (m : Int) := IntWalk.i64_in _ (by omega)
    by_cases hout : a + (m : Int) ≤ 0 ∨ (n : Int) ≤ a
    · have HPP := Lib.hid (T.popsD_out (n := n) (a := a) (m := m) hout)
      have HSO := Lib.hid (T.spotsD_out (bitsN x) (part := part) (l := real) (a := a) ds HRN.out HML.out hout)
      have hcase : (a + (m : Int) ≤ 0) ∨ (¬ a + (m : Int) ≤ 0 ∧ (n : Int) ≤ a ∧ ¬ a < (n : Int)) := by omega
      have hm0 : 0 < pn := by have := HPOP.out; rw [HPP.out] at this; omega
      clear hout
      obtain ⟨y, rest, hyr⟩ : ∃ y r, ds = y :: r := by
        cases hd : ds with
        | nil => have := HPN.out; rw [hd] at this; simp at this; omega
        | cons y r => exact ⟨y, r, rfl⟩
      have HYL : Hid (y.length = 32) := Lib.hid (HP1.out.all y (by rw [hyr]; exact List.mem_cons_self ..))
      have HYS : Hid ((bvs y).toArray.size = 32) := Lib.hid (dg_size HYL.out)
      have HSY : Hid (T.spotsD (bitsN x) part real a ds = ([], y, rest)) := Lib.hid (by rw [HSO.out, hyr]; rfl)
      have HY0 : Hid (ds[0]? = some y) := Lib.hid (by rw [hyr]; rfl)
      obtain ⟨pa, hpa⟩ := HP1.out.addr hm0
      subst hpa
      clear hyr
      rcases hcase with h1 | ⟨h1, h2, h3⟩
      all_goals
        go_upto_region 2 with (fail)
        apply wp_region_ext_tail 4 _ (by kernel_rfl) (by kernel_rfl)
        simp only [List.take_succ_cons, List.take_zero, List.drop_succ_cons, List.drop_zero]
        iterate 2 (apply wpZ_det; (intro wq hE hG; first | exact obl_non (by rfl) | (apply obl_val (by rfl); go_simp <;> rfl)); (intro ak hak; simp only [Act.put, List.setIfInBounds_toArray, List.set_cons_succ, List.set_cons_zero] at hak; subst hak))
        (apply wpZ_det; (intro wq hE hG; exact obl_ldA (by rfl) rfl (by rfl) (((HP1.out.same (ExtW.of_drew hE)).load HY0.out))); (intro ak hak; simp only [Act.put, List.setIfInBounds_toArray, List.set_cons_succ, List.set_cons_zero] at hak; subst hak))
        (apply wpZ_det; (intro wq hE hG; first | exact obl_non (by rfl) | (apply obl_val (by rfl); go_simp <;> rfl)); (intro ak hak; simp only [Act.put, List.setIfInBounds_toArray, List.set_cons_succ, List.set_cons_zero] at hak; subst hak))
        (apply wpZ_nil; intro wq hE hG)
        have HDQ := Lib.hid (HD1.out.ext (ExtW.of_drew hE))
        have HEQ := Lib.hid (ExtW.trans HE1.out (ExtW.of_drew hE))
        clear hE hG
        unfold dgV
        go_wp2_with (refine wpList_st rfl rfl ?_; refine ⟨gd, _, _, _, rfl, rfl, HDQ.out, by rw [HYS.out]; kernel_rfl, Eq.trans (show (bvs (List.replicate 32 0)).toArray.size = 32 from rfl) HYS.out.symm, dg_one _, ?_⟩)
        (try simp only [Exit.inBlock, Exit.then])
        have hlr := run_loadVar_row (P := Try.prog) (wq.setRow gd (bvs y).toArray) gd 45 45 (bvs y).toArray (0, 0) _ (Row.setRow HDQ.out (bvs y)) Try.underlying45 rfl (by rw [HYS.out]; kernel_rfl)
        refine bodyPost_ret (results_tct rfl _ _ _ rfl hlr) rfl ?_
        exact ⟨.slice none 0 0, by rw [HSY.out, HPP.out]; rfl, by rw [HSY.out]; exact OwnSp.nil _ _, below_setRow HEQ.out HGD.out _⟩
    have HOUT := Lib.hid hout
    have hq1 : ¬ a + (m : Int) ≤ 0 := by omega
    have hq2 : ¬ (n : Int) ≤ a := by omega
    have hq3 : a < (n : Int) := by omega
    obtain ⟨ownt, hownt⟩ : ∃ t, t = T.texD (bitsN x) real := ⟨_, rfl⟩
    have HOT := Lib.hid hownt
    go_wp2_with fail
    refine (rtext_any x HX.out A n c real _ hn1 HR1.out HVR.out).mono ?_
    rintro e w2 ⟨rfl, hb⟩
    rw [← hownt]
    have HD2 := Lib.hid (HD1.out.ext hb)
    have HE2 := Lib.hid (ExtW.trans HE1.out hb)
    have HZ2 : Hid (w.heap.size + 1 ≤ w2.heap.size) := Lib.hid (Nat.le_trans HZ1.out hb.size)
    have HP2 := Lib.hid (HP1.out.same hb)
    have HL2 := Lib.hid (HL1.out.same hb)
    have HR2 := Lib.hid (HR1.out.same hb)
    have HOV : Hid (strV ownt = .string ⟨ownt.toArray⟩) := Lib.hid rfl
    rw [HOV.out]
    clear hb hownt HD1 HE1 HZ1 HP1 HL1 HR1 hsum hq1 hq2 hq3
    by_cases h1 : n = 1
    · have HSO := Lib.hid (T.spotsD_one (bitsN x) (part := part) (l := real) (a := a) ds HRN.out HML.out hout (by omega))
      have HPP := Lib.hid (T.popsD_one (n := n) (a := a) (m := m) hout (by omega))
      subst h1
      obtain ⟨j, hj⟩ : ∃ j : Nat, -a = (j : Int) := ⟨(-a).toNat, by omega⟩
      have hjn : j < m := by omega
      have hjni : (j : Int) < (m : Int) := by omega
      have hneg : IntKind.i64.wrap (-a) = (j : Int) := by rw [IntWalk.i64_in _ (by omega)]; exact hj
      obtain ⟨y, hy⟩ : ∃ y, part[j]? = some y := ⟨_, List.getElem?_eq_getElem (by rw [HML.out]; exact hjn)⟩
      have HGT : Hid (part.getD (-a).toNat [] = y) := Lib.hid (by rw [hj, Int.toNat_natCast, List.getD_eq_getElem?_getD, hy]; rfl)
      obtain ⟨sa, hsa⟩ := HL2.out.addr (by omega)
      subst hsa
      have hc0 := HL2.out.at hy
      have HYL : Hid (y.length ≤ 1000000) := Lib.hid (HV.out y (List.mem_of_getElem? hy))
      clear hy hj hout
      go_wp2_with fail
      refine (rleafText_any y _ HYL.out).mono ?_
      rintro e w3 ⟨rfl, rfl⟩
      obtain ⟨tx, htx⟩ : ∃ t, t = T.ltx y := ⟨_, rfl⟩
      have HTX : Hid (0 :: y = tx) := Lib.hid (by rw [htx]; rfl)
      have HSZ : Hid ((⟨tx.toArray⟩ : ByteArray).size ≤ 1000000000) := Lib.hid (by rw [str_size, htx]; unfold T.ltx; rw [List.length_cons]; have := HYL.out; omega)
      have HSQ : Hid (T.spotsD (bitsN x) part real a ds = ([(tx, ownt)], keep (S.sha tx) (bitsN x), ds)) := Lib.hid (by rw [HSO.out, HGT.out, HOT.out, htx]; rfl)
      rw [HTX.out]
      clear hc0 htx
      go_upto_region 6 with (fail)
      have HTV : Hid (strV tx = .string ⟨tx.toArray⟩) := Lib.hid rfl
      have HO := Lib.hid (OwnSp.one w3 tx ownt (w.heap.size + 1) HZ2.out)
      have HXB : Hid (ExtW w3 (w3.alloc (.cells #[strV tx, strV ownt] 84))) := Lib.hid ((Below.refl _ _).alloc (Nat.le_refl _) _)
      rw [HTV.out, HOV.out] at HO HXB
      rw [HTV.out]
      have hbld := bldSp
      go_wp2_with fail
      generalize w3.alloc (.cells #[.string ⟨tx.toArray⟩, .string ⟨ownt.toArray⟩] 84) = w4 at HO HXB ⊢
      refine (refKept_any _ x _ HSZ.out HX.out).mono ?_
      rintro e w7 ⟨rfl, hb⟩
      rw [str_bytes]
      have HO7 := Lib.hid (HO.out.mono hb)
      have HDE := Lib.hid (HD2.out.ext (ExtW.trans HXB.out hb))
      have HEE := Lib.hid (ExtW.trans HE2.out (ExtW.trans HXB.out hb))
      clear hb HO HXB HD2 HE2 hbld
      obtain ⟨d, hd⟩ : ∃ d, d = keep (S.sha tx) (bitsN x) := ⟨_, rfl⟩
      have HS : Hid ((bvs d).toArray.size = 32) := Lib.hid (dg_size (by rw [hd]; exact (by rw [keep_len]; rfl)))
      have HDL : Hid (d = keep (S.sha tx) (bitsN x)) := Lib.hid hd
      rw [← hd]
      clear hd
      unfold dgV
      go_wp2_with (refine wpList_st rfl rfl ?_; refine ⟨gd, _, _, _, rfl, rfl, HDE.out, by rw [HS.out]; kernel_rfl, Eq.trans (show (bvs (List.replicate 32 0)).toArray.size = 32 from rfl) HS.out.symm, dg_one _, ?_⟩)
      (try simp only [Exit.inBlock, Exit.then])
      have hld := run_loadVar_row (P := Try.prog) (w7.setRow gd (bvs d).toArray) gd 45 45 (bvs d).toArray (0, 0) _ (Row.setRow HDE.out (bvs d)) Try.underlying45 rfl (by rw [HS.out]; kernel_rfl)
      refine bodyPost_ret (results_tct rfl _ _ _ rfl hld) rfl ?_
      exact ⟨_, by rw [HSQ.out, HPP.out, ← HDL.out]; rfl, by rw [HSQ.out]; exact HO7.out.set (fun e => by have h3 := HO7.out.own _ e; have h4 := HGD2.out; omega) _, below_setRow HEE.out HGD.out _⟩
    have h2 : 2 ≤ n := by omega
    have hne1 : ((n : Int) == 1) = false := by rw [beq_eq_false_iff_ne]; omega
    obtain ⟨k, hk⟩ : ∃ k, k = T.half n := ⟨_, rfl⟩
    have hhl := T.half_lt h2
    rw [← hk] at hhl
    have HSO := Lib.hid (T.spotsD_more (bitsN x) (part := part) (l := real) (a := a) ds HRN.out HML.out hout h2 hk)
    have HPP := Lib.hid (T.popsD_more (n := n) (a := a) (m := m) hout (by omega) hk)
    have HK := Lib.hid hk
    clear hk hout
    go_wp2_with fail
    refine (rhalf_any n _ ⟨by omega, by omega⟩).mono ?_
    rintro e we ⟨rfl, rfl⟩
    rw [← HK.out]
    have hcl : k ≤ n := by omega
    have hrt := run_takeT A n c k hcl hnc
    have hrd := run_dropT A n c k hcl hnc
    obtain ⟨u1, hu1⟩ : ∃ u, u = T.popsD k a m := ⟨_, rfl⟩
    obtain ⟨u2, hu2⟩ : ∃ u, u = T.popsD (n - k) (a - (k : Int)) m := ⟨_, rfl⟩
    have huu : u1 + u2 ≤ pn := by rw [hu1, hu2, ← HPP.out]; exact HPOP.out
    have HU1 := Lib.hid hu1
    have HU2 := Lib.hid hu2
    have HUU : Hid (T.popsD n a m = u1 + u2) := Lib.hid (by rw [HPP.out, hu1, hu2])
    obtain ⟨sl, hsl⟩ : ∃ s, s = T.spotsD (bitsN x) part (real.take k) a ds := ⟨_, rfl⟩
    have HSL := Lib.hid hsl
    have HREST : Hid (sl.2.2 = ds.drop u1) := Lib.hid (by
      have h := T.spotsD_rest (bitsN x) (part := part) (l := real.take k) (a := a) (ds := ds) (by rw [HML.out, List.length_take, HRN.out, Nat.min_eq_left hcl, ← hu1, HPN.out]; omega)
      rw [HML.out, List.length_take, HRN.out, Nat.min_eq_left hcl, ← hu1] at h
      rw [hsl]; exact h)
    have HLL : Hid (sl.2.1.length = 32) := Lib.hid (by rw [hsl]; exact (T.spotsD_len (bitsN x) part (real.take k) a HP2.out.all).1)
    have HLB : Hid (sl.1.length + 1 ≤ 2 * k) := Lib.hid (by
      have h := T.spots_le (bitsN x) part (n + 1) (real.take k) a ds (by rw [List.length_take, HRN.out]; omega) (by rw [List.length_take, HRN.out]; omega)
      rw [List.length_take, HRN.out, Nat.min_eq_left hcl, ← hsl] at h
      exact h)
    rw [← hsl, HREST.out] at HSO
    obtain ⟨sr, hsr⟩ : ∃ s, s = T.spotsD (bitsN x) part (real.drop k) (a - (k : Int)) (ds.drop u1) := ⟨_, rfl⟩
    have HSR := Lib.hid hsr
    have HRL : Hid (sr.2.1.length = 32) := Lib.hid (by rw [hsr]; exact (T.spotsD_len (bitsN x) part (real.drop k) _ (fun d hd => HP2.out.all d (List.mem_of_mem_drop hd))).1)
    have HRB : Hid (sr.1.length + 1 ≤ 2 * (n - k)) := Lib.hid (by
      have h := T.spots_le (bitsN x) part (n + 1) (real.drop k) (a - (k : Int)) (ds.drop u1) (by rw [List.length_drop, HRN.out]; omega) (by rw [List.length_drop, HRN.out]; omega)
      rw [List.length_drop, HRN.out, ← hsr] at h
      exact h)
    rw [← hsr] at HSO
    obtain ⟨ls, ld, lr⟩ := sl
    obtain ⟨rs, rd, rr⟩ := sr
    simp only at HREST HLL HLB HRL HRB HSO
    clear hu1 hu2 hsl hsr HPP
    go_wp2_with fail
    refine (ih A k c (real.take k) a LA lc PA pn pc ds we (by omega) (by omega) (by omega) (by omega) ha2 (HR2.out.take hcl) (HVR.out.take k) HL2.out HP2.out (by rw [← HU1.out]; omega)).mono ?_
    unfold SpotsPost
    rintro e w3 ⟨v1, rfl, ho, hb⟩
    rw [← HSL.out] at ho ⊢
    rw [← HU1.out]
    simp only at ho ⊢
    have HO3 := Lib.hid (ho.le (base' := w.heap.size + 1) (by have h3 := HZ2.out; omega))
    have HD3 := Lib.hid (HD2.out.ext hb)
    have HE3 := Lib.hid (ExtW.trans HE2.out hb)
    have HZ3 : Hid (w.heap.size + 1 ≤ w3.heap.size) := Lib.hid (Nat.le_trans HZ2.out hb.size)
    have HP3 := Lib.hid (HP2.out.same hb)
    have HL3 := Lib.hid (HL2.out.same hb)
    have HR3 := Lib.hid (HR2.out.same hb)
    clear ho hb HD2 HE2 HZ2 HP2 HL2 HR2
    go_upto_region 9 with (first
      | (refine wpList_newD rfl rfl ?_)
      | (refine wpList_newst rfl rfl rfl HLL.out (d0 := List.replicate 32 0) rfl rfl rfl (zDig_row _) ?_))
    have HA4 := Lib.hid (stD_row w3 ld)
    have HX4 := Lib.hid (stD_ext w3 ld)
    have HE4 := Lib.hid (ExtW.trans HE3.out HX4.out)
    have HD4 := Lib.hid (HD3.out.ext HX4.out)
    have HP4 := Lib.hid (HP3.out.same HX4.out)
    have HL4 := Lib.hid (HL3.out.same HX4.out)
    have HR4 := Lib.hid (HR3.out.same HX4.out)
    have HO4 := Lib.hid (HO3.out.mono HX4.out)
    generalize (w3.alloc (.cells zDig 45)).setRow w3.heap.size (bvs ld).toArray = w4 at HA4 HX4 HE4 HD4 HP4 HL4 HR4 HO4 ⊢
    obtain ⟨ga, hga⟩ : ∃ g, g = w3.heap.size := ⟨_, rfl⟩
    rw [← hga] at HA4 ⊢
    have HZ4 : Hid (w.heap.size + 1 ≤ w4.heap.size) := Lib.hid (Nat.le_trans HZ3.out HX4.out.size)
    have HGA : Hid (ga < w4.heap.size) := Lib.hid HA4.out.lt
    clear hga HE3 HD3 HP3 HL3 HR3 HO3 HX4 HZ3
    have hs2 : IntKind.i64.wrap (a - (k : Int)) = a - (k : Int) := IntWalk.i64_in _ (by omega)
    have hdr := run_dropD PA pn pc u1 (by omega) hpc
    apply wp_region_ext_tail4 18 11 16 15 (SpR (w.heap.size + 1) rs rd u2) [(12, 11, fun x v => v = x), (13, 12, fun x v => ∃ xs : Array Value, x = .tuple xs ∧ xs[0]? = some v), (17, 13, fun x v => v = x)] _ (by kernel_rfl) (by kernel_rfl) (fun o ho c a w v h => by cases ho; exact h) (fun o ho a w F h => by cases ho; exact yields_extract rfl rfl a w F h)
    · simp only [List.take_succ_cons, List.take_zero, List.drop_succ_cons, List.drop_zero]
      iterate 11 (apply wpZ_det; (intro wq hE hG; first | exact obl_non (by rfl) | (apply obl_val (by rfl); go_simp <;> rfl)); (intro ak hak; simp only [Act.put, List.setIfInBounds_toArray, List.set_cons_succ, List.set_cons_zero] at hak; subst hak))
      apply wpZ_nd (SpF (w.heap.size + 1) rs rd u2) (SpF.mono _ _ _ _)
      · intro wq hE hG
        apply obl_on (by kernel_rfl)
        go_simp
        simp only [extUpon_enter]
        refine (ih (dropA A c k) (n - k) (c - k) (real.drop k) (a - (k : Int)) LA lc (dropD PA pc u1) (pn - u1) (pc - u1) (ds.drop u1) wq (by omega) (by omega) (by omega) (by omega) (by omega) ((HR4.out.dropA hcl).same (ExtW.of_drew hE)) (HVR.out.drop k) (HL4.out.same (ExtW.of_drew hE)) ((HP4.out.dropD (by omega)).same (ExtW.of_drew hE)) (by rw [← HU2.out]; omega)).mono ?_
        unfold SpotsPost
        rintro e w' ⟨v, rfl, ho, hb⟩
        rw [← HSR.out] at ho ⊢
        rw [← HU2.out]
        simp only at ho ⊢
        exact ⟨_, rfl, hb, v, rfl, ho.le (by have h3 := HZ4.out; have h4 := (ExtW.of_drew hE).size; omega)⟩
      (intro uc ak hak; simp only [Act.put, List.setIfInBounds_toArray, List.set_cons_succ, List.set_cons_zero] at hak; subst hak)
      apply wpZ_nd (SpF (w.heap.size + 1) rs rd u2) (SpF.mono _ _ _ _)
      · intro wq hE hG
        have h7 : SpF (w.heap.size + 1) rs rd u2 uc wq := hG _ (List.mem_cons_self ..) (by kernel_rfl)
        apply obl_on (by kernel_rfl)
        go_simp
        simp only [extUpon_value]
        exact ⟨ExtW.refl _, h7⟩
      (intro um ak hak; simp only [Act.put, List.setIfInBounds_toArray, List.set_cons_succ, List.set_cons_zero] at hak; subst hak)
      apply wpZ_nd (fun _ _ => True) (fun _ _ _ _ _ => trivial)
      · intro wq hE hG
        obtain ⟨v, rfl, _⟩ : SpF (w.heap.size + 1) rs rd u2 um wq := hG _ (List.mem_cons_self ..) (by kernel_rfl)
        apply obl_on (by kernel_rfl)
        go_simp
        simp only [extUpon_value]
        exact ⟨ExtW.refl _, trivial⟩
      (intro ux ak hak; simp only [Act.put, List.setIfInBounds_toArray, List.set_cons_succ, List.set_cons_zero] at hak; subst hak)
      apply wpZ_det (c := dgV rd)
      · intro wq hE hG
        obtain ⟨v, rfl, _⟩ : SpF (w.heap.size + 1) rs rd u2 um wq := hG _ (List.mem_cons_of_mem _ (List.mem_cons_self ..)) (by kernel_rfl)
        exact obl_same (by rfl) (by go_simp <;> rfl) rfl
      (intro ak hak; simp only [Act.put, List.setIfInBounds_toArray, List.set_cons_succ, List.set_cons_zero] at hak; subst hak)
      apply wpZ_det (c := .int .i64 (u2 : Int))
      · intro wq hE hG
        obtain ⟨v, rfl, _⟩ : SpF (w.heap.size + 1) rs rd u2 um wq := hG _ (List.mem_cons_of_mem _ (List.mem_cons_self ..)) (by kernel_rfl)
        exact obl_same (by rfl) (by go_simp <;> rfl) rfl
      (intro ak hak; simp only [Act.put, List.setIfInBounds_toArray, List.set_cons_succ, List.set_cons_zero] at hak; subst hak)
      (apply wpZ_nd (NewD w4.heap.size) (NewD.mono _); (intro wq hE hG; exact obl_newD (by kernel_rfl) rfl (ExtW.of_drew hE).size); (intro ud ak hak; simp only [Act.put, List.setIfInBounds_toArray, List.set_cons_succ, List.set_cons_zero] at hak; subst hak))
      apply wpZ_nd (fun _ _ => True) (fun _ _ _ _ _ => trivial)
      · intro wq hE hG
        apply obl_on (by kernel_rfl)
        go_simp
        simp only [extUpon_value]
        exact ⟨ExtW.refl _, trivial⟩
      (intro uy ak hak; simp only [Act.put, List.setIfInBounds_toArray, List.set_cons_succ, List.set_cons_zero] at hak; subst hak)
      (apply wpZ_nil; intro wq hE hG)
      intro hfin
      have hR : SpR (w.heap.size + 1) rs rd u2 uc ud wq := hfin.1 _ _ _ _ _ _ rfl rfl rfl rfl rfl rfl
      have h7 : um = uc := hfin.2 _ (List.mem_cons_self ..) _ _ _ _ _ _ rfl rfl rfl rfl rfl rfl
      have h9 : ∃ xs : Array Value, um = .tuple xs ∧ xs[0]? = some ux := hfin.2 _ (List.mem_cons_of_mem _ (List.mem_cons_self ..)) _ _ _ _ _ _ rfl rfl rfl rfl rfl rfl
      have h10 : uy = ux := hfin.2 _ (List.mem_cons_of_mem _ (List.mem_cons_of_mem _ (List.mem_cons_self ..))) _ _ _ _ _ _ rfl rfl rfl rfl rfl rfl
      have hnd : NewD w4.heap.size ud wq := hG _ (List.mem_cons_of_mem _ (List.mem_cons_self ..))
      have HEQ := Lib.hid (ExtW.of_drew hE)
      clear hfin hG hE
      subst h7 h10
      obtain ⟨v2, gb, rfl, rfl, hne, hown⟩ := hR
      obtain ⟨xs, hxs, hx1⟩ := h9
      injection hxs with hxs
      subst hxs
      have hx1 : v2 = uy := by simpa using hx1
      subst hx1
      obtain ⟨g16, hg16, hge, hrow⟩ := hnd
      injection hg16 with hg16
      injection hg16 with hg16
      injection hg16 with hg16
      subst hg16
      have HNE := Lib.hid hne
      have HOW := Lib.hid hown
      have HGE := Lib.hid hge
      have HRW := Lib.hid hrow
      clear hne hown hge hrow
      go_upto_region 10 with (refine wpList_newst rfl rfl rfl HRL.out (d0 := List.replicate 32 0) rfl rfl rfl HRW.out ?_)
      have HB6 : Hid (Row (wq.setRow gb (bvs rd).toArray) gb 45 (bvs rd)) := Lib.hid (HRW.out.setRow _)
      have HX6 : Hid (ExtW w4 (wq.setRow gb (bvs rd).toArray)) := Lib.hid (below_setRow HEQ.out HGE.out _)
      have HV6 := Lib.hid (HOW.out.set HNE.out (bvs rd).toArray)
      generalize wq.setRow gb (bvs rd).toArray = w6 at HB6 HX6 HV6 ⊢
      have HA6 := Lib.hid (HA4.out.ext HX6.out)
      have HE6 := Lib.hid (ExtW.trans HE4.out HX6.out)
      have HD6 := Lib.hid (HD4.out.ext HX6.out)
      have HO6 := Lib.hid (HO4.out.mono HX6.out)
      have HZ6 : Hid (w.heap.size + 1 ≤ w6.heap.size) := Lib.hid (Nat.le_trans HZ4.out HX6.out.size)
      clear HRW HEQ HOW HGE HNE HX6 HA4 HE4 HD4 HO4 HZ4
      have HSA : Hid ((bvs ld).toArray.size = 32) := Lib.hid (dg_size HLL.out)
      have HSB : Hid ((bvs rd).toArray.size = 32) := Lib.hid (dg_size HRL.out)
      go_wp2_with (refine wpList_ld rfl rfl ?_; first | refine ⟨ga, _, _, _, rfl, HA6.out, Try.underlying45, rfl, by rw [HSA.out]; kernel_rfl, ?_⟩ | refine ⟨gb, _, _, _, rfl, HB6.out, Try.underlying45, rfl, by rw [HSB.out]; kernel_rfl, ?_⟩)
      refine (rnodeText_any ld rd _ HLL.out HRL.out).mono ?_
      rintro e w7 ⟨rfl, hb⟩
      obtain ⟨tx, htx⟩ : ∃ t, t = T.ntx ld rd := ⟨_, rfl⟩
      have HTX : Hid (1 :: (ld ++ rd) = tx) := Lib.hid (by rw [htx]; rfl)
      have HTXL : Hid (tx.length = 65) := Lib.hid (by rw [htx]; unfold T.ntx; rw [List.length_cons, List.length_append, HLL.out, HRL.out])
      have HSZ : Hid ((⟨tx.toArray⟩ : ByteArray).size ≤ 1000000000) := Lib.hid (by rw [str_size, HTXL.out]; decide)
      have HSQ : Hid (T.spotsD (bitsN x) part real a ds = ((tx, ownt) :: (ls ++ rs), keep (S.sha tx) (bitsN x), rr)) := Lib.hid (by rw [HSO.out, HOT.out, htx]; rfl)
      rw [HTX.out]
      have HD7 := Lib.hid (HD6.out.ext hb)
      have HE7 := Lib.hid (ExtW.trans HE6.out hb)
      have HZ7 : Hid (w.heap.size + 1 ≤ w7.heap.size) := Lib.hid (Nat.le_trans HZ6.out hb.size)
      obtain ⟨A1, c1, rfl, hr1⟩ := (HO6.out.mono hb).rd
      obtain ⟨A2, c2, rfl, hr2⟩ := (HV6.out.mono hb).rd
      have HR1 := Lib.hid hr1
      have HR2 := Lib.hid hr2
      obtain ⟨m1, hm1⟩ : ∃ q, q = ls.length := ⟨_, rfl⟩
      obtain ⟨m2, hm2⟩ : ∃ q, q = rs.length := ⟨_, rfl⟩
      have HM1 := Lib.hid hm1
      have HM2 := Lib.hid hm2
      have hmm : m1 + m2 ≤ 800000 := by have h3 := HLB.out; have h4 := HRB.out; omega
      rw [← hm1] at HR1 ⊢
      rw [← hm2] at HR2 ⊢
      clear hb htx hr1 hr2 hm1 hm2 HO6 HV6 HD6 HE6 HA6 HB6
      have HTV : Hid (strV tx = .string ⟨tx.toArray⟩) := Lib.hid rfl
      rw [HTV.out]
      have HO := Lib.hid (OwnSp.one w7 tx ownt w7.heap.size (Nat.le_refl _))
      have HXB : Hid (ExtW w7 (w7.alloc (.cells #[strV tx, strV ownt] 84))) := Lib.hid ((Below.refl _ _).alloc (Nat.le_refl _) _)
      rw [HTV.out, HOV.out] at HO HXB
      have hbld := bldSp
      go_upto_region 12 with (fail)
      clear hbld
      generalize w7.alloc (.cells #[.string ⟨tx.toArray⟩, .string ⟨ownt.toArray⟩] 84) = w8 at HO HXB ⊢
      go_upto_region 13 with (at_builtin; refine wpList_append_sp rfl _ _ rfl rfl rfl HO.out HM1.out (HR1.out.below HXB.out (Nat.le_refl _)) (by simp; omega) HXB.out.size ?_; intro v' w' ho' hb'; have HO' := Lib.hid ho'; have HX' : Hid (ExtW w7 w') := Lib.hid (Below.trans HXB.out hb'); clear ho' hb')
      go_upto_region 14 with (at_builtin; refine wpList_append_sp rfl _ _ rfl rfl rfl HO'.out HM2.out (HR2.out.below HX'.out (Nat.le_refl _)) (by rw [List.length_append, ← HM1.out]; simp; omega) HX'.out.size ?_; intro v'' w'' ho'' hb''; have HO'' := Lib.hid ho''; have HX'' : Hid (ExtW w7 w'') := Lib.hid (Below.trans HX'.out hb''); clear ho'' hb'')
      go_wp2_with fail
      refine (refKept_any _ x _ HSZ.out HX.out).mono ?_
      rintro e w9 ⟨rfl, hb⟩
      rw [str_bytes]
      have HO9 := Lib.hid ((HO''.out.mono hb).le HZ7.out)
      have HDE := Lib.hid (HD7.out.ext (ExtW.trans HX''.out hb))
      have HEE := Lib.hid (ExtW.trans HE7.out (ExtW.trans HX''.out hb))
      have hs3 : IntKind.i64.wrap ((u1 : Int) + (u2 : Int)) = ((u1 + u2 : Nat) : Int) := by rw [IntWalk.i64_in _ (by omega)]; omega
      clear hb HO HXB HO' HX' HO'' HX'' HD7 HE7
      obtain ⟨d, hd⟩ : ∃ d, d = keep (S.sha tx) (bitsN x) := ⟨_, rfl⟩
      have HS : Hid ((bvs d).toArray.size = 32) := Lib.hid (dg_size (by rw [hd]; exact (by rw [keep_len]; rfl)))
      have HDL : Hid (d = keep (S.sha tx) (bitsN x)) := Lib.hid hd
      rw [← hd]
      clear hd
      unfold dgV
      go_wp2_with (refine wpList_st rfl rfl ?_; refine ⟨gd, _, _, _, rfl, rfl, HDE.out, by rw [HS.out]; kernel_rfl, Eq.trans (show (bvs (List.replicate 32 0)).toArray.size = 32 from rfl) HS.out.symm, dg_one _, ?_⟩)
      (try simp only [Exit.inBlock, Exit.then])
      have hld := run_loadVar_row (P := Try.prog) (w9.setRow gd (bvs d).toArray) gd 45 45 (bvs d).toArray (0, 0) _ (Row.setRow HDE.out (bvs d)) Try.underlying45 rfl (by rw [HS.out]; kernel_rfl)
      refine bodyPost_ret (results_tct rfl _ _ _ rfl hld) rfl ?_
      exact ⟨v'', by rw [HSQ.out, HUU.out, ← HDL.out]; simp [hs3]; rfl, by rw [HSQ.out]; have h3 := HO9.out.set (fun e => by have h3 := HO9.out.own _ e; have h4 := HGD2.out; omega) (bvs d).toArray (g := gd); simpa using h3, below_setRow HEE.out HGD.out _⟩
    · refine ⟨by decide, by decide, by decide, ?_, fun x z w w' h hb => SpR.mono _ _ _ _ _ _ _ _ h hb, ?_, ?_⟩
      · intro o ho
        cases ho
        exact ⟨rfl, fun a w => ⟨w.alloc (.cells zDig 45), by unfold execOp; kernel_rfl⟩⟩
      · refine ⟨_, _, fun wz => SpF wz.heap.size rs rd u2, rfl, rfl, ?_, ?_, fun wz hz => ?_⟩
        · rintro x w w' ⟨s, h1, h2⟩ hb
          exact ⟨s, _, h1, rfl, fun e => by have h3 := h2.own _ e; omega, h2.mono hb⟩
        · rintro z wz x w' ⟨g, rfl, hg, hr⟩ hb ⟨s, h1, h2⟩
          exact ⟨s, g, h1, rfl, fun e => by have h3 := h2.own _ e; have h4 := hr.lt; omega, h2.le (by have h4 := hr.lt; have h5 := HZ4.out; omega)⟩
        · simp only [List.take_succ_cons, List.take_zero, List.cons_append, List.nil_append]
          iterate 11 (apply wpZ_det; (intro wq hE hG; first | exact obl_non (by rfl) | (apply obl_val (by rfl); go_simp <;> rfl)); (intro ak hak; simp only [Act.put, List.setIfInBounds_toArray, List.set_cons_succ, List.set_cons_zero] at hak; subst hak))
          apply wpZ_nd (fun v w' => SpF (w.heap.size + 1) rs rd u2 v w' ∧ SpF wz.heap.size rs rd u2 v w') (fun v w1 w2 h hb => ⟨SpF.mono _ _ _ _ _ _ _ h.1 hb, SpF.mono _ _ _ _ _ _ _ h.2 hb⟩)
          · intro wq hE hG
            apply obl_on (by kernel_rfl)
            go_simp
            simp only [extUpon_enter]
            refine (ih (dropA A c k) (n - k) (c - k) (real.drop k) (a - (k : Int)) LA lc (dropD PA pc u1) (pn - u1) (pc - u1) (ds.drop u1) wq (by omega) (by omega) (by omega) (by omega) (by omega) ((HR4.out.dropA hcl).same (ExtW.trans (ExtW.of_drew hz) hE)) (HVR.out.drop k) (HL4.out.same (ExtW.trans (ExtW.of_drew hz) hE)) ((HP4.out.dropD (by omega)).same (ExtW.trans (ExtW.of_drew hz) hE)) (by rw [← HU2.out]; omega)).mono ?_
            unfold SpotsPost
            rintro e w' ⟨v, rfl, ho, hb⟩
            rw [← HSR.out] at ho ⊢
            rw [← HU2.out]
            simp only at ho ⊢
            exact ⟨_, rfl, hb, ⟨v, rfl, ho.le (by have h3 := HZ4.out; have h4 := (ExtW.trans (ExtW.of_drew hz) hE).size; omega)⟩, v, rfl, ho.le (by have h4 := hE.size; omega)⟩
          (intro uc ak hak; simp only [Act.put, List.setIfInBounds_toArray, List.set_cons_succ, List.set_cons_zero] at hak; subst hak)
          (apply wpZ_nil; intro wq hE hG)
          trivial
      · intro l hl
        simp only [List.mem_cons, List.not_mem_nil, or_false] at hl
        rcases hl with rfl | rfl | rfl
        · exact ⟨by decide, by decide, fun o ho => by cases ho; kernel_rfl, fun ok op h1 h2 => by cases h1; cases h2; exact ⟨84, _, rfl, rfl, fun a w F x hx ho => link_move rfl rfl hx ho⟩⟩
        · exact ⟨by decide, by decide, fun o ho => by cases ho; kernel_rfl, fun ok op h1 h2 => by cases h1; cases h2; exact ⟨72, _, rfl, rfl, fun a w F x hx ho => link_extract rfl rfl hx ho⟩⟩
        · exact ⟨by decide, by decide, fun o ho => by cases ho; kernel_rfl, fun ok op h1 h2 => by cases h1; cases h2; exact ⟨85, _, rfl, rfl, fun a w F x hx ho => link_assign rfl rfl hx ho⟩⟩
end Go.Proofs.Ythaoibgcgkmnbaa
