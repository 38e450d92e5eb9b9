/- Walks of beside and Range. -/
import Derived.Test.YthaoibgcgkmnbaaT5
import Derived.StillTailTactics
namespace Go.Proofs.Ythaoibgcgkmnbaa
set_option maxRecDepth 100000
open Go.RowKit

/-- only the row of v has changed, and v' lies in it or in a new one -/
structure Gr (w w' : World) (v v' : Value) : Prop where
  grown : w.grownBy w' v.ownBlock
  own : v'.ownBlock = v.ownBlock ∨ ∀ k, v'.ownBlock = some k → w.heap.size ≤ k
theorem Gr.refl (w : World) (v : Value) : Gr w w v v := ⟨World.grownBy.refl w _, .inl rfl⟩
theorem Gr.trans {a b c : World} {v v1 v2 : Value} (h : Gr a b v v1) (k : Gr b c v1 v2) : Gr a c v v2 := by
  refine ⟨⟨k.grown.os.trans h.grown.os, k.grown.tape.trans h.grown.tape, k.grown.output.trans h.grown.output, Nat.le_trans h.grown.size k.grown.size, fun j hj hne => ?_⟩, ?_⟩
  · refine (k.grown.block j (Nat.lt_of_lt_of_le hj h.grown.size) fun e => ?_).trans (h.grown.block j hj hne)
    rcases h.own with h1 | h1
    · exact hne (e.trans h1)
    · have := h1 j e.symm; omega
  · rcases k.own with h2 | h2
    · rw [h2]; exact h.own
    · exact .inr fun j hj => Nat.le_trans h.grown.size (h2 j hj)
theorem Gr.ext {w w' : World} (h : ExtW w w') (v : Value) : Gr w w' v v := ⟨⟨h.os, h.tape, h.output, h.size, fun k hk _ => h.block k hk⟩, .inl rfl⟩
theorem Gr.below {w w' : World} {v v' : Value} {B : Nat} (h : Gr w w' v v') (hB : B ≤ w.heap.size) (hv : ∀ k, v.ownBlock = some k → B ≤ k) : Below B w w' := (Below.refl B w).grown h.grown hB hv
theorem Gr.cellAt {w w' : World} {v v' : Value} {p : Addr} {u : Value} (h : Gr w w' v v') (hc : w.cell? p = some u) (hne : some p.block ≠ v.ownBlock) : w'.cell? p = some u := h.grown.cell hc hne
theorem OwnDs.ge {base : Nat} {l : List (List UInt8)} {v : Value} {w : World} (h : OwnDs base l v w) : ∀ k, v.ownBlock = some k → base ≤ k ∧ k < w.heap.size := fun k hk => World.ownsRow.lt h k hk

theorem append_ds2 {base : Nat} {l : List (List UInt8)} {v : Value} {W : World} {d : List UInt8} {g : Nat} (hd : d.length = 32) (h : OwnDs base l v W) (hg : Row W g 45 (bvs d)) (hl : l.length ≤ 1000000) (hb : base ≤ W.heap.size) :
    ∃ v' W', (Builtin.append_ #[24, 24] 24 #[v, .slice (some ⟨g, 0, none⟩) 1 1]).run Try.prog W = .ok v' W' ∧ OwnDs base (l ++ [d]) v' W' ∧ Gr W W' v v' := by
  obtain ⟨i0, hi, hz0, hz1, hz2⟩ := info_parts infoD
  have hr : ∀ j u, (bvs d)[j]? = some u → W.cell? ((⟨g, 0, none⟩ : Addr).add j) = some u := fun j u hj => by rw [Addr.add_mid, Nat.zero_add]; exact hg.cell hj
  obtain ⟨v', W', h1, h2, h3, _, h5⟩ := run_append_own_at (P := Try.prog) (w := W) base 24 24 45 i0 _ 32 32 Try.underlying24 hi hz0 hz1 hz2 rfl (by omega) v l.length (dcs l) h ⟨g, 0, none⟩ 1 1 (bvs d) (by rw [bvs_len, hd]) hr (bvs_one _) (by simp [maxLen]; omega) (by omega) hb
  refine ⟨v', W', h1, ?_, h3, ?_⟩
  · unfold OwnDs
    rw [dcs_app, List.length_append]
    have : dcs [d] = bvs d := by simp [dcs]
    rw [this]
    exact h2
  · rcases h5 with h5 | h5
    · exact .inl h5
    · exact .inr fun k hk => by rw [h5] at hk; exact Nat.le_of_eq (Option.some.inj hk)
theorem wpList_append_ds2 {ops : Array Oper} {rest : List Oper} {o : Oper} {a : Act} {w : World} {Q : Exit → Act → World → Prop} (hgd : o.guard = none) (s x : Operand)
    (ho : o.op = .call { callee := .builtin .append, args := #[s, x], argTypes := #[24, 24] }) (hty : o.type = 24) {base : Nat} {l : List (List UInt8)} {v : Value} {d : List UInt8} {g : Nat} (hd : d.length = 32)
    (hs : a.eval s = v) (hx : a.eval x = .slice (some ⟨g, 0, none⟩) 1 1) (h0 : OwnDs base l v w) (hg : Row w g 45 (bvs d)) (hl : l.length ≤ 1000000) (hb : base ≤ w.heap.size)
    (h : ∀ v' w', OwnDs base (l ++ [d]) v' w' → Gr w w' v v' → wpList Try.prog ops Q rest (a.put o.dst v') w') : wpList Try.prog ops Q (o :: rest) a w := by
  refine wpList_plain hgd fun K hK => ?_
  obtain ⟨v', w', hrun, h2, h3⟩ := append_ds2 hd h0 hg hl hb
  unfold Oper.wp execOp
  rw [← hty] at hrun
  simp only [ho, resolve, invoke, builtin, Sem.run_bind, Sem.run_pure, Result.andThen_ok, List.map_toArray, List.map_cons, List.map_nil, hs, hx]
  rw [hty] at hrun ⊢
  simp only [hrun]
  exact hK _ _ (h v' w' h2 h3)
theorem wpList_build1 {ops : Array Oper} {rest : List Oper} {o : Oper} {a : Act} {w : World} {Q : Exit → Act → World → Prop} (hgd : o.guard = none) {x : Operand} (ho : o.op = .buildSlice 24 1 #[(0, x)]) {d : List UInt8} (hd : d.length = 32) (hx : a.eval x = dgV d)
    (h : wpList Try.prog ops Q rest (a.put o.dst (.slice (some ⟨w.heap.size, 0, none⟩) 1 1)) (w.alloc (.cells (bvs d).toArray 45))) : wpList Try.prog ops Q (o :: rest) a w := by
  refine wpList_plain hgd fun K hK => ?_
  have hr := run_build1 d hd w
  unfold Oper.wp execOp
  rw [ho]
  simp only [List.map_toArray, List.map_cons, List.map_nil, hx, Sem.run_bind, hr, Result.andThen_ok, Sem.run_pure]
  exact hK _ _ h

theorem T.besideD_out (B : Nat) {l : List (List UInt8)} {n : Nat} {a b : Int} (hn : l.length = n) (h : b ≤ 0 ∨ (n : Int) ≤ a) : T.besideD B l a b = [T.rootD B l] := by
  rw [T.besideD, hn, if_pos h]
theorem T.besideD_one (B : Nat) {l : List (List UInt8)} {n : Nat} {a b : Int} (hn : l.length = n) (h : ¬ (b ≤ 0 ∨ (n : Int) ≤ a)) (h1 : n = 1) : T.besideD B l a b = [] := by
  rw [T.besideD, hn, if_neg h, if_pos (by omega)]
theorem T.besideD_more (B : Nat) {l : List (List UInt8)} {n k : Nat} {a b : Int} (hn : l.length = n) (h : ¬ (b ≤ 0 ∨ (n : Int) ≤ a)) (h2 : 2 ≤ n) (hk : k = T.half n) : T.besideD B l a b = T.besideD B (l.take k) a b ++ T.besideD B (l.drop k) (a - k) (b - k) := by
  rw [T.besideD, hn, if_neg h, if_neg (by omega), hk]
theorem T.besideD_le (B : Nat) (l : List (List UInt8)) (a b : Int) : 1 ≤ l.length → (T.besideD B l a b).length ≤ l.length := by
  induction l, a, b using T.besideD.induct with
  | case1 l a b h => intro h1; rw [T.besideD, if_pos h]; exact h1
  | case2 l a b h h2 => intro _; rw [T.besideD, if_neg h, if_pos h2]; exact Nat.zero_le _
  | case3 l a b h h2 ih1 ih2 =>
    intro _
    have hh := T.half_lt (n := l.length) (by omega)
    rw [List.length_take] at ih1
    rw [List.length_drop] at ih2
    rw [T.besideD, if_neg h, if_neg h2, List.length_append]
    have := ih1 (by omega)
    have := ih2 (by omega)
    omega

set_option maxHeartbeats 4000000 in
set_option maxRecDepth 100000 in
theorem beside_any (x : Int) (hx : -9223372036854775808 ≤ x ∧ x ≤ 9223372036854775807) (wb : World) : ∀ (N : Nat) (A : Option Addr) (n c : Nat) (l o : List (List UInt8)) (a b : Int) (v : Value) (w : World), n < N → 1 ≤ n → o.length + n ≤ 1000000 →
    -4000000 ≤ a - n → a ≤ 4000000 → -4000000 ≤ b - n → b ≤ 4000000 → Bss wb A n c l → Lv l → ExtW wb w → OwnDs wb.heap.size o v w →
    Calls Try.prog 56 #[.agg #[.int .i64 x], v, .slice A n c, .int .i64 a, .int .i64 b] w fun e w' => ∃ v', e = .returned v' ∧ OwnDs wb.heap.size (o ++ T.besideD (bitsN x) l a b) v' w' ∧ Gr w w' v v' := by
  have HX := Lib.hid hx
  clear hx
  intro N
  induction N with
  | zero => intro A n c l o a b v w h; omega
  | succ N ih =>
    intro A n c l o a b v w hnN hn1 hon ha1 ha2 hb1 hb2 hr hlv hew hov
    have hnc := hr.nc
    have HR := Lib.hid hr
    have HV := Lib.hid hlv
    have HLN := Lib.hid hr.len
    have HEW := Lib.hid hew
    have HB0 := Lib.hid (cell_new1 w (.int .i64 x) 30)
    have HE0 : Hid (ExtW w (w.alloc (.cells #[.int .i64 x] 30))) := Lib.hid ((Below.refl _ _).alloc (Nat.le_refl _) _)
    have HG0 := Lib.hid (Gr.ext HE0.out v)
    have HO0 := Lib.hid (OwnDs.mono _ _ _ _ _ hov HE0.out)
    have HNE : Hid (some w.heap.size ≠ v.ownBlock) := Lib.hid (fun e => by have := (OwnDs.ge hov _ e.symm).2; omega)
    clear hr hlv hew hov
    go_enter Try.func56, Try.ntmps56
    go_upto_region 1 with (fail)
    generalize w.alloc (.cells #[.int .i64 x] 30) = w1 at HB0 HE0 HG0 HO0 ⊢
    have HEB := Lib.hid (ExtW.trans HEW.out HE0.out)
    obtain ⟨gb, hgb⟩ : ∃ g, g = w.heap.size := ⟨_, rfl⟩
    rw [← hgb] at HB0 HNE
    rw [← hgb]
    have HGB : Hid (gb = w.heap.size) := Lib.hid hgb
    clear hgb
    by_cases hout : b ≤ 0 ∨ (n : Int) ≤ a
    · have HP := Lib.hid (T.besideD_out (bitsN x) HLN.out hout)
      have k7 := HB0.out
      have hcase : (b ≤ 0) ∨ (¬ b ≤ 0 ∧ (n : Int) ≤ a ∧ ¬ a < (n : Int)) := by omega
      clear hout
      rcases hcase with hb0 | ⟨hb0, ha0, ha0'⟩
      all_goals
        go_wp2_with fail
        refine (root_any x HX.out (n + 1) A n c l _ (by omega) (HR.out.same HEB.out) HV.out).mono ?_
        rintro e w2 ⟨rfl, hb⟩
        have HB2 := Lib.hid hb
        clear hb
        obtain ⟨d, hd⟩ : ∃ d, d = T.rootD (bitsN x) l := ⟨_, rfl⟩
        have hdl : d.length = 32 := by rw [hd]; exact T.rootD_len _ _
        have HDD := Lib.hid hd
        have HDL := Lib.hid hdl
        rw [← hd]
        clear hd hdl
        have HR3 : Hid (Row (w2.alloc (.cells (bvs d).toArray 45)) w2.heap.size 45 (bvs d)) := Lib.hid (heap_alloc_last _ _)
        have HE3 : Hid (ExtW w1 (w2.alloc (.cells (bvs d).toArray 45))) := Lib.hid (ExtW.trans HB2.out ((Below.refl _ _).alloc (Nat.le_refl _) _))
        go_wp2_with (first
          | (refine wpList_build1 rfl rfl HDL.out rfl ?_; generalize w2.alloc (.cells (bvs d).toArray 45) = w3 at HR3 HE3 ⊢)
          | (at_builtin; refine wpList_append_ds2 rfl _ _ rfl rfl HDL.out rfl rfl (OwnDs.mono _ _ _ _ _ HO0.out HE3.out) HR3.out (by omega) (ExtW.trans HEB.out HE3.out).size ?_; intro v' w' ho' hg'; have HO' := Lib.hid ho'; have HG' := Lib.hid (Gr.trans HG0.out (Gr.trans (Gr.ext HE3.out v) hg')); clear ho' hg'))
        go_ret
        exact ⟨_, rfl, by rw [HP.out, ← HDD.out]; exact HO'.out, HG'.out⟩
    have hb0 : ¬ b ≤ 0 := by omega
    have ha0 : ¬ (n : Int) ≤ a := by omega
    have ha0' : a < (n : Int) := by omega
    by_cases h1 : n = 1
    · have HP := Lib.hid (T.besideD_one (bitsN x) HLN.out hout h1)
      subst h1
      clear hout
      go_wp2_with fail
      go_ret
      exact ⟨_, rfl, by rw [HP.out, List.append_nil]; exact HO0.out, HG0.out⟩
    have h2 : 2 ≤ n := by omega
    obtain ⟨k, hk⟩ : ∃ k, k = T.half n := ⟨_, rfl⟩
    have hhl := T.half_lt h2
    rw [← hk] at hhl
    have HP := Lib.hid (T.besideD_more (bitsN x) HLN.out hout h2 hk)
    have HK := Lib.hid hk
    have HPL := Lib.hid (T.besideD_le (bitsN x) (l.take k) a b)
    clear hk hout
    go_wp2_with fail
    refine (half_any n _ ⟨by omega, by omega⟩).mono ?_
    rintro e we ⟨rfl, rfl⟩
    rw [← HK.out]
    have hcl : k ≤ n := by omega
    have hrt := run_takeA A n c k hcl hnc
    have hrd := run_dropA A n c k hcl hnc
    have k7 := HB0.out
    go_upto_region 6 with (fail)
    go_still_tail 7, (by kernel_rfl)
    change wpList _ _ _ _ _ we.drew
    have HED : Hid (ExtW we we.drew) := Lib.hid (Below.refl _ _).drew
    have HBD : Hid (we.drew.cell? ⟨gb, 0, none⟩ = some (.int .i64 x)) := Lib.hid k7
    generalize we.drew = wd at HED HBD ⊢
    clear k7
    go_wp2_with fail
    refine (ih A k c (l.take k) o a b v wd (by omega) (by omega) (by omega) (by omega) ha2 (by omega) hb2 (HR.out.take hcl) (HV.out.take k) (ExtW.trans HEB.out HED.out) (OwnDs.mono _ _ _ _ _ HO0.out HED.out)).mono ?_
    rintro e w3 ⟨v3, rfl, ho3, hg3⟩
    have HO3 := Lib.hid ho3
    have HG3 := Lib.hid (Gr.trans HG0.out (Gr.trans (Gr.ext HED.out v) hg3))
    have HE3 : Hid (ExtW wb w3) := Lib.hid (Below.trans (ExtW.trans HEB.out HED.out) (hg3.below (ExtW.trans HEB.out HED.out).size fun k hk => (HO0.out.ge k hk).1))
    have k8 := hg3.cellAt HBD.out HNE.out
    clear ho3 hg3
    have hsa : IntKind.i64.wrap (a - (k : Int)) = a - (k : Int) := IntWalk.i64_in _ (by omega)
    have hsb : IntKind.i64.wrap (b - (k : Int)) = b - (k : Int) := IntWalk.i64_in _ (by omega)
    go_upto_region 7 with (fail)
    go_still_tail 11, (by kernel_rfl)
    change wpList _ _ _ _ _ w3.drew
    have HED3 : Hid (ExtW w3 w3.drew) := Lib.hid (Below.refl _ _).drew
    generalize w3.drew = wd3 at HED3 ⊢
    clear k8 hsa hsb
    go_wp2_with fail
    refine (ih _ (n - k) (c - k) (l.drop k) (o ++ T.besideD (bitsN x) (l.take k) a b) (a - k) (b - k) v3 wd3 (by omega) (by omega) (by have := HPL.out (by rw [List.length_take, HLN.out]; omega); rw [List.length_take] at this; rw [List.length_append]; omega) (by omega) (by omega) (by omega) (by omega) (HR.out.dropA hcl) (HV.out.drop k) (ExtW.trans HE3.out HED3.out) (OwnDs.mono _ _ _ _ _ HO3.out HED3.out)).mono ?_
    rintro e w4 ⟨v4, rfl, ho4, hg4⟩
    have HO4 := Lib.hid ho4
    have HG4 := Lib.hid (Gr.trans HG3.out (Gr.trans (Gr.ext HED3.out v3) hg4))
    clear ho4 hg4
    go_wp2
    go_ret
    exact ⟨_, rfl, by rw [HP.out, ← List.append_assoc]; exact HO4.out, HG4.out⟩
end Go.Proofs.Ythaoibgcgkmnbaa
