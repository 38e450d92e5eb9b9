/- Walks of path and Path. -/
import Derived.Test.YthaoibgcgkmnbaaT3
import Derived.Great.BuildSlice
namespace Go.Proofs.Ythaoibgcgkmnbaa
set_option maxRecDepth 100000
open Go.RowKit

/-- a list of digests in memory of the call's own -/
def OwnDs (base : Nat) (l : List (List UInt8)) (v : Value) (w : World) : Prop := w.ownsRow base 45 32 v l.length (dcs l)
theorem own_extG {w w' : World} {base e sz n : Nat} {v : Value} {xs : List Value} (h : w.ownsRow base e sz v n xs) (hb : ExtW w w') : w'.ownsRow base e sz v n xs := by
  refine ⟨h.1, ?_⟩
  rcases h.2 with h2 | ⟨g, cap, cur, hv, hbg, hg, rest⟩
  · exact .inl h2
  · refine .inr ⟨g, cap, cur, hv, hbg, ?_, rest⟩
    have : g < w.heap.size := by
      rcases Nat.lt_or_ge g w.heap.size with h1 | h1
      · exact h1
      · rw [Array.getElem?_eq_none h1] at hg; cases hg
    rw [hb.block g this]; exact hg
theorem OwnDs.mono (base : Nat) (l : List (List UInt8)) : ∀ v w w', OwnDs base l v w → ExtW w w' → OwnDs base l v w' := fun _ _ _ h hb => own_extG h hb
theorem OwnDs.nil (base : Nat) (w : World) : OwnDs base [] (.slice none 0 0) w := ⟨rfl, .inl ⟨rfl, rfl⟩⟩
theorem OwnDs.le {base base' : Nat} {l : List (List UInt8)} {v : Value} {w : World} (h : OwnDs base l v w) (hb : base' ≤ base) : OwnDs base' l v w := own_mono h hb
theorem OwnDs.dls {base : Nat} {l : List (List UInt8)} {v : Value} {w : World} (h : OwnDs base l v w) (hl : ∀ d ∈ l, d.length = 32) : ∃ A c, v = .slice A l.length c ∧ Dls w A l.length c l := by
  exact Dls.own h hl
/-- a digest in a new row of its own -/
def One32 (d : List UInt8) (v : Value) (w : World) : Prop := ∃ g, v = .slice (some ⟨g, 0, none⟩) 1 1 ∧ Row w g 45 (bvs d)
theorem One32.mono (d : List UInt8) : ∀ v w w', One32 d v w → ExtW w w' → One32 d v w' := by
  rintro v w w' ⟨g, e, h⟩ hb
  exact ⟨g, e, h.ext hb⟩
theorem run_build1 (d : List UInt8) (hd : d.length = 32) (W : World) : (Instr.buildSlice 24 1 #[(0, dgV d)]).run Try.prog W = .ok (.slice (some ⟨W.heap.size, 0, none⟩) 1 1) (W.alloc (.cells (bvs d).toArray 45)) := by
  obtain ⟨i0, hi, hz0, hz1, _⟩ := info_parts infoD
  refine run_buildSlice W _ 45 1 _ _ i0 _ Try.underlying24 hi hz0 (by rw [hz1]; decide) (by rw [hz1]; decide) ?_
  rw [hz1]
  have h := Great.fill_whole (s := 32) (by decide) [dgV d] ((Array.range (1 * 32)).map (((Value.agg zDig).cells)[· % ((Value.agg zDig).cells).size]!)) (fun v hv => by rw [List.mem_singleton] at hv; subst hv; simp [dgV, Value.cells, bvs_len, hd]) (by simp)
  rw [show ([dgV d].flatMap fun v => v.cells.toList).toArray = (bvs d).toArray by simp [dgV, Value.cells]] at h
  exact h
theorem obl_build1 {ops : Array Oper} {o : Oper} {a : Act} {w : World} {x : Operand} {d : List UInt8} (hd : d.length = 32) (hw : Region.wanted o (yielded ops a.tmps) = true) (ho : o.op = .buildSlice 24 1 #[(0, x)]) (hx : a.eval x = dgV d) : oblAt Try.prog ops o a w (One32 d) :=
  obl_on hw (by
    have h := run_build1 d hd w
    unfold execOp
    rw [ho]
    simp only [List.map_toArray, List.map_cons, List.map_nil, hx, Sem.run_bind, h, Result.andThen_ok, Sem.run_pure]
    rw [extUpon_value]
    exact ⟨(Below.refl _ _).alloc (Nat.le_refl _) _, _, rfl, heap_alloc_last _ _⟩)
theorem append_ds {base : Nat} {l : List (List UInt8)} {v : Value} {W : World} {d : List UInt8} {g : Nat} (hd : d.length = 32) (h : OwnDs base l v W) (hg : Row W g 45 (bvs d)) (hl : l.length ≤ 1000000) (hb : base ≤ W.heap.size) :
    ∃ v' W', (Builtin.append_ #[24, 24] 24 #[v, .slice (some ⟨g, 0, none⟩) 1 1]).run Try.prog W = .ok v' W' ∧ OwnDs base (l ++ [d]) v' W' ∧ Below base W W' := by
  obtain ⟨i0, hi, hz0, hz1, hz2⟩ := info_parts infoD
  have hr : Rd W (some ⟨g, 0, none⟩) 1 1 32 (bvs d) := ⟨by rw [bvs_len, hd], Nat.le_refl _, by decide, (fun h => by cases h), fun a ha j u hj => by cases ha; rw [Addr.add_mid, Nat.zero_add]; exact hg.cell hj⟩
  obtain ⟨v', W', h1, h2, h3, _⟩ := run_append_appd (P := Try.prog) W base 24 24 45 i0 _ 32 32 Try.underlying24 hi hz0 hz1 hz2 rfl (by omega) v l.length (dcs l) (.inr h) (some ⟨g, 0, none⟩) 1 1 (bvs d) hr (bvs_one _) (by simp [maxLen]; omega) (by omega) hb (.inl h)
  refine ⟨v', W', h1, ?_, h3⟩
  unfold OwnDs
  rw [dcs_app, List.length_append]
  have : dcs [d] = bvs d := by simp [dcs]
  rw [this]
  exact h2
theorem wpList_append_ds {ops : Array Oper} {rest : List Oper} {o : Oper} {a : Act} {w : World} {Q : Exit → Act → World → Prop} (hgd : o.guard = none) (s x : Operand)
    (ho : o.op = .call { callee := .builtin .append, args := #[s, x], argTypes := #[24, 24] }) (hty : o.type = 24) {base : Nat} {l : List (List UInt8)} {v : Value} {d : List UInt8} {g : Nat} (hd : d.length = 32)
    (hs : a.eval s = v) (hx : a.eval x = .slice (some ⟨g, 0, none⟩) 1 1) (h0 : OwnDs base l v w) (hg : Row w g 45 (bvs d)) (hl : l.length ≤ 1000000) (hb : base ≤ w.heap.size)
    (h : ∀ v' w', OwnDs base (l ++ [d]) v' w' → Below base w w' → wpList Try.prog ops Q rest (a.put o.dst v') w') : wpList Try.prog ops Q (o :: rest) a w := by
  refine wpList_plain hgd fun K hK => ?_
  obtain ⟨v', w', hrun, h2, h3⟩ := append_ds hd h0 hg hl hb
  unfold Oper.wp execOp
  rw [← hty] at hrun
  simp only [ho, resolve, invoke, builtin, Sem.run_bind, Sem.run_pure, Result.andThen_ok, List.map_toArray, List.map_cons, List.map_nil, hs, hx]
  rw [hty] at hrun ⊢
  simp only [hrun]
  exact hK _ _ (h v' w' h2 h3)

theorem T.pathD_le (B : Nat) (l : List (List UInt8)) (i : Nat) : (T.pathD B l i).length ≤ l.length := by
  induction l, i using T.pathD.induct with
  | case1 l i h => rw [T.pathD, if_pos h]; exact Nat.zero_le _
  | case2 l i h h2 ih =>
    have hh := T.half_lt (n := l.length) (by omega)
    rw [T.pathD, if_neg h, if_pos h2, List.length_append]
    rw [List.length_take] at ih
    simp only [List.length_cons, List.length_nil]
    omega
  | case3 l i h h2 ih =>
    have hh := T.half_lt (n := l.length) (by omega)
    rw [T.pathD, if_neg h, if_neg h2, List.length_append]
    rw [List.length_drop] at ih
    simp only [List.length_cons, List.length_nil]
    omega
theorem T.pathD_one (B : Nat) {l : List (List UInt8)} (h : l.length = 1) (i : Nat) : T.pathD B l i = [] := by rw [T.pathD, if_pos (by omega)]
theorem T.pathD_lo (B : Nat) {l : List (List UInt8)} {n k i : Nat} (hn : l.length = n) (h : 2 ≤ n) (hk : k = T.half n) (hi : i < k) : T.pathD B l i = T.pathD B (l.take k) i ++ [T.rootD B (l.drop k)] := by
  rw [T.pathD, if_neg (by omega), hn, ← hk, if_pos hi]
theorem T.pathD_hi (B : Nat) {l : List (List UInt8)} {n k i : Nat} (hn : l.length = n) (h : 2 ≤ n) (hk : k = T.half n) (hi : ¬ i < k) : T.pathD B l i = T.pathD B (l.drop k) (i - k) ++ [T.rootD B (l.take k)] := by
  rw [T.pathD, if_neg (by omega), hn, ← hk, if_neg hi]

set_option maxHeartbeats 4000000 in
set_option maxRecDepth 100000 in
theorem path_any (x : Int) (hx : -9223372036854775808 ≤ x ∧ x ≤ 9223372036854775807) : ∀ (N : Nat) (A : Option Addr) (n c : Nat) (l : List (List UInt8)) (i : Nat) (w : World), n < N → n ≤ 1000000 → i < n → Bss w A n c l → Lv l →
    Calls Try.prog 54 #[.agg #[.int .i64 x], .slice A n c, .int .i64 (i : Int)] w fun e w' => ∃ v, e = .returned v ∧ OwnDs w.heap.size (T.pathD (bitsN x) l i) v w' ∧ ExtW w w' := by
  have HX := Lib.hid hx
  clear hx
  intro N
  induction N with
  | zero => intro A n c l i w h; omega
  | succ N ih =>
    intro A n c l i w hnN hnb hin hr hlv
    have hnc := hr.nc
    have HR := Lib.hid hr
    have HV := Lib.hid hlv
    have HLN := Lib.hid hr.len
    have HB0 := Lib.hid (cell_new1 w (.int .i64 x) 30)
    have HE0 : Hid (ExtW w (w.alloc (.cells #[.int .i64 x] 30))) := Lib.hid ((Below.refl _ _).alloc (Nat.le_refl _) _)
    clear hr hlv
    go_enter Try.func54, Try.ntmps54
    go_upto_region 1 with (fail)
    generalize w.alloc (.cells #[.int .i64 x] 30) = w1 at HB0 HE0 ⊢
    have HR2 := Lib.hid (HR.out.same HE0.out)
    obtain ⟨gb, hgb⟩ : ∃ g, g = w.heap.size := ⟨_, rfl⟩
    rw [← hgb] at HB0
    rw [← hgb]
    clear hgb HR
    by_cases h1 : n = 1
    · subst h1
      have HP := Lib.hid (T.pathD_one (bitsN x) HLN.out i)
      go_wp2_with fail
      go_ret
      exact ⟨_, rfl, by rw [HP.out]; exact OwnDs.nil _ _, HE0.out⟩
    have h2 : 2 ≤ n := by omega
    obtain ⟨k, hk⟩ : ∃ k, k = T.half n := ⟨_, rfl⟩
    have hhl := T.half_lt h2
    rw [← hk] at hhl
    have HK := Lib.hid hk
    clear hk
    go_wp2_with fail
    refine (half_any n _ ⟨by omega, by omega⟩).mono ?_
    rintro e we ⟨rfl, rfl⟩
    rw [← HK.out]
    have hcl : k ≤ n := by omega
    have hrt := run_takeA A n c k hcl hnc
    have hrd := run_dropA A n c k hcl hnc
    have HBT := Lib.hid (HR2.out.take hcl)
    have HBD := Lib.hid (HR2.out.dropA hcl)
    by_cases hik : i < k
    · have hiki : (i : Int) < (k : Int) := by omega
      have HP := Lib.hid (T.pathD_lo (bitsN x) HLN.out h2 HK.out hik)
      have HPL := Lib.hid (T.pathD_le (bitsN x) (l.take k) i)
      go_upto_region 5 with (fail)
      apply wp_region_ext_tail 12 _ (by kernel_rfl) (by kernel_rfl)
      simp only [List.take_succ_cons, List.take_zero, List.drop_succ_cons, List.drop_zero]
      (apply wpZ_det; (intro wq hE hG; have kk := (ExtW.of_drew hE).cellAt HB0.out; apply obl_val (by rfl); go_simp; rfl); (intro ak hak; simp only [Act.put, List.setIfInBounds_toArray, List.set_cons_succ, List.set_cons_zero] at hak; subst hak))
      iterate 4 (apply wpZ_det; (intro wq hE hG; first | exact obl_non (by rfl) | (apply obl_val (by rfl); go_simp; rfl)); (intro ak hak; simp only [Act.put, List.setIfInBounds_toArray, List.set_cons_succ, List.set_cons_zero] at hak; subst hak))
      apply wpZ_nd (OwnDs we.heap.size (T.pathD (bitsN x) (l.take k) i)) (OwnDs.mono _ _)
      · intro wq hE hG
        apply obl_on (by kernel_rfl)
        go_simp
        simp only [extUpon_enter]
        refine (ih A k c _ i _ (by omega) (by omega) hik (HBT.out.same (ExtW.of_drew hE)) (HV.out.take k)).mono ?_
        rintro e w' ⟨v, rfl, ho, hb⟩
        exact ⟨v, rfl, hb, ho.le (ExtW.of_drew hE).size⟩
      (intro u5 ak hak; simp only [Act.put, List.setIfInBounds_toArray, List.set_cons_succ, List.set_cons_zero] at hak; subst hak)
      (apply wpZ_det; (intro wq hE hG; have kk := (ExtW.of_drew hE).cellAt HB0.out; apply obl_val (by rfl); go_simp; rfl); (intro ak hak; simp only [Act.put, List.setIfInBounds_toArray, List.set_cons_succ, List.set_cons_zero] at hak; subst hak))
      iterate 3 (apply wpZ_det; (intro wq hE hG; first | exact obl_non (by rfl) | (apply obl_val (by rfl); go_simp; rfl)); (intro ak hak; simp only [Act.put, List.setIfInBounds_toArray, List.set_cons_succ, List.set_cons_zero] at hak; subst hak))
      (apply wpZ_det; (intro wq hE hG; apply obl_on (by kernel_rfl); go_simp; simp only [extUpon_enter]; refine (root_any x HX.out (n + 1) _ (n - k) (c - k) _ _ (by omega) (HBD.out.same (ExtW.of_drew hE)) (HV.out.drop k)).mono ?_; rintro e w' ⟨rfl, hb⟩; exact ⟨_, rfl, hb, rfl⟩); (intro ak hak; simp only [Act.put, List.setIfInBounds_toArray, List.set_cons_succ, List.set_cons_zero] at hak; subst hak))
      apply wpZ_nd (One32 (T.rootD (bitsN x) (l.drop k))) (One32.mono _)
      · intro wq hE hG
        exact obl_build1 (T.rootD_len _ _) (by kernel_rfl) rfl rfl
      (intro u11 ak hak; simp only [Act.put, List.setIfInBounds_toArray, List.set_cons_succ, List.set_cons_zero] at hak; subst hak)
      (apply wpZ_nil; intro wq hE hG)
      have ho : OwnDs we.heap.size (T.pathD (bitsN x) (l.take k) i) u5 wq := hG _ (List.mem_cons_of_mem _ (List.mem_cons_self ..))
      obtain ⟨g, rfl, hg⟩ : One32 (T.rootD (bitsN x) (l.drop k)) u11 wq := hG _ (List.mem_cons_self ..)
      have HO := Lib.hid ho
      have HG := Lib.hid hg
      have HEQ := Lib.hid (ExtW.of_drew hE)
      clear hE hG ho hg
      refine wpList_append_ds rfl _ _ rfl rfl (T.rootD_len (bitsN x) (l.drop k)) rfl rfl HO.out HG.out (by have := HPL.out; rw [List.length_take] at this; omega) HEQ.out.size ?_
      intro v' w' ho' hb'
      have HO' := Lib.hid ho'
      have HE' := Lib.hid (ExtW.trans HE0.out (Below.trans HEQ.out hb'))
      clear ho' hb'
      go_wp2
      go_ret
      exact ⟨_, rfl, by rw [HP.out]; exact HO'.out.le HE0.out.size, HE'.out⟩
    · have hiki : ¬ (i : Int) < (k : Int) := by omega
      have HP := Lib.hid (T.pathD_hi (bitsN x) HLN.out h2 HK.out hik)
      have HPL := Lib.hid (T.pathD_le (bitsN x) (l.drop k) (i - k))
      go_upto_region 6 with (fail)
      apply wp_region_ext_tail 14 _ (by kernel_rfl) (by kernel_rfl)
      simp only [List.take_succ_cons, List.take_zero, List.drop_succ_cons, List.drop_zero]
      (apply wpZ_det; (intro wq hE hG; have kk := (ExtW.of_drew hE).cellAt HB0.out; apply obl_val (by rfl); go_simp; rfl); (intro ak hak; simp only [Act.put, List.setIfInBounds_toArray, List.set_cons_succ, List.set_cons_zero] at hak; subst hak))
      iterate 5 (apply wpZ_det; (intro wq hE hG; first | exact obl_non (by rfl) | (apply obl_val (by rfl); go_simp; rfl)); (intro ak hak; simp only [Act.put, List.setIfInBounds_toArray, List.set_cons_succ, List.set_cons_zero] at hak; subst hak))
      (apply wpZ_det (c := .int .i64 ((i - k : Nat) : Int)); (intro wq hE hG; exact obl_same (by rfl) (by go_simp; rfl) (by first | rfl | (apply int_eq; omega) | (apply int_eq; rw [IntWalk.i64_in _ (by omega)]; omega) | (apply int_eq; simp; omega))); (intro ak hak; simp only [Act.put, List.setIfInBounds_toArray, List.set_cons_succ, List.set_cons_zero] at hak; subst hak))
      apply wpZ_nd (OwnDs we.heap.size (T.pathD (bitsN x) (l.drop k) (i - k))) (OwnDs.mono _ _)
      · intro wq hE hG
        apply obl_on (by kernel_rfl)
        go_simp
        simp only [extUpon_enter]
        refine (ih _ (n - k) (c - k) _ (i - k) _ (by omega) (by omega) (by omega) (HBD.out.same (ExtW.of_drew hE)) (HV.out.drop k)).mono ?_
        rintro e w' ⟨v, rfl, ho, hb⟩
        exact ⟨v, rfl, hb, ho.le (ExtW.of_drew hE).size⟩
      (intro u5 ak hak; simp only [Act.put, List.setIfInBounds_toArray, List.set_cons_succ, List.set_cons_zero] at hak; subst hak)
      (apply wpZ_det; (intro wq hE hG; have kk := (ExtW.of_drew hE).cellAt HB0.out; apply obl_val (by rfl); go_simp; rfl); (intro ak hak; simp only [Act.put, List.setIfInBounds_toArray, List.set_cons_succ, List.set_cons_zero] at hak; subst hak))
      iterate 3 (apply wpZ_det; (intro wq hE hG; first | exact obl_non (by rfl) | (apply obl_val (by rfl); go_simp; rfl)); (intro ak hak; simp only [Act.put, List.setIfInBounds_toArray, List.set_cons_succ, List.set_cons_zero] at hak; subst hak))
      (apply wpZ_det; (intro wq hE hG; apply obl_on (by kernel_rfl); go_simp; simp only [extUpon_enter]; refine (root_any x HX.out (n + 1) _ k c _ _ (by omega) (HBT.out.same (ExtW.of_drew hE)) (HV.out.take k)).mono ?_; rintro e w' ⟨rfl, hb⟩; exact ⟨_, rfl, hb, rfl⟩); (intro ak hak; simp only [Act.put, List.setIfInBounds_toArray, List.set_cons_succ, List.set_cons_zero] at hak; subst hak))
      apply wpZ_nd (One32 (T.rootD (bitsN x) (l.take k))) (One32.mono _)
      · intro wq hE hG
        exact obl_build1 (T.rootD_len _ _) (by kernel_rfl) rfl rfl
      (intro u11 ak hak; simp only [Act.put, List.setIfInBounds_toArray, List.set_cons_succ, List.set_cons_zero] at hak; subst hak)
      (apply wpZ_nil; intro wq hE hG)
      have ho : OwnDs we.heap.size (T.pathD (bitsN x) (l.drop k) (i - k)) u5 wq := hG _ (List.mem_cons_of_mem _ (List.mem_cons_self ..))
      obtain ⟨g, rfl, hg⟩ : One32 (T.rootD (bitsN x) (l.take k)) u11 wq := hG _ (List.mem_cons_self ..)
      have HO := Lib.hid ho
      have HG := Lib.hid hg
      have HEQ := Lib.hid (ExtW.of_drew hE)
      clear hE hG ho hg
      refine wpList_append_ds rfl _ _ rfl rfl (T.rootD_len (bitsN x) (l.take k)) rfl rfl HO.out HG.out (by have := HPL.out; rw [List.length_drop] at this; have := HLN.out; omega) HEQ.out.size ?_
      intro v' w' ho' hb'
      have HO' := Lib.hid ho'
      have HE' := Lib.hid (ExtW.trans HE0.out (Below.trans HEQ.out hb'))
      clear ho' hb'
      go_wp2
      go_ret
      exact ⟨_, rfl, by rw [HP.out]; exact HO'.out.le HE0.out.size, HE'.out⟩
end Go.Proofs.Ythaoibgcgkmnbaa
