/- Walk of TreeDepth. -/
import Derived.Test.YtncdgndeidbgoaaS5
import Derived.Test.YtncdgndeidbgoaaLot
import Derived.Test.YtncdgndeidbgoaaTq
import Derived.Test.YtncdgndeidbgoaaBit
namespace Go.Proofs.Ytncdgndeidbgoaa
open Go.RowKit

theorem append_one2 (g : Nat) (b : UInt8) (D : Option Addr) (q dd : Nat) (z : List UInt8) (W : World) (base : Nat) (hb : base ≤ W.heap.size) (hgb : base ≤ g) (hg : W.cell? ⟨g, 0, none⟩ = some (.int .u8 (b.toNat : Int))) (hr : Rd W D q dd 1 (bvs z)) (hq : q ≤ 100000000000000) :
    ∃ v' W', (Builtin.append_ #[36, 36] 36 #[.slice (some ⟨g, 0, none⟩) 1 1, .slice D q dd]).run Try.prog W = .ok v' W' ∧ ExtW W W' ∧ ∃ A c, v' = .slice A (1 + q) c ∧ Rd W' A (1 + q) c 1 (bvs (b :: z)) ∧ ∀ a, A = some a → base ≤ a.block := by
  obtain ⟨i0, hi, hz0, hz1, hz2⟩ := info_parts infoB
  have hy : Rd W (some ⟨g, 0, none⟩) 1 1 1 (bvs [b]) := ⟨rfl, Nat.le_refl _, by decide, (fun h => by cases h), fun a ha j u hj => by
    cases ha
    cases j with
    | zero => simp [bvs] at hj; subst hj; rw [Addr.add_mid]; exact hg
    | succ j => simp [bvs] at hj⟩
  by_cases h0 : 0 < q
  · obtain ⟨v', W', h1, h2, h3, _⟩ := run_append_appd (P := Try.prog) W W.heap.size 36 36 5 i0 _ 1 1 Try.underlying36 hi hz0 hz1 hz2 rfl (by omega) (.slice (some ⟨g, 0, none⟩) 1 1) 1 (bvs [b])
      (.inl ⟨some ⟨g, 0, none⟩, rfl, hy⟩) D q dd (bvs z) hr (bvs_one _) (by simp [maxLen]; omega) (by omega) (Nat.le_refl _) (.inr h0)
    obtain ⟨A', c', e, hrd, hge⟩ := Rd.of_own h2
    rw [← bvs_app] at hrd
    exact ⟨v', W', h1, h3, A', c', e, hrd, fun a ha => Nat.le_trans hb (hge a ha)⟩
  · obtain rfl : q = 0 := by omega
    have hz : z = [] := by have := hr.len; rw [bvs_len] at this; exact List.length_eq_zero_iff.1 (by omega)
    subst hz
    refine ⟨.slice (some ⟨g, 0, none⟩) 1 1, W, ?_, ExtW.refl _, some ⟨g, 0, none⟩, 1, rfl, hy, fun a ha => by cases ha; exact hgb⟩
    cases D with
    | none =>
      have hd := hr.nil0 rfl
      subst hd
      simp [Builtin.append_, run_underlying Try.underlying36, Builtin.lenOf, Builtin.firstCells, sizeOf, typeInfo, hi, loadCells, storeCells]
    | some a => simp [Builtin.append_, run_underlying Try.underlying36, Builtin.lenOf, Builtin.firstCells, sizeOf, typeInfo, hi, loadCells, loadCellsFrom, storeCells]
theorem wpList_append_one {ops : Array Oper} {rest : List Oper} {o : Oper} {a : Act} {w : World} {Q : Exit → Act → World → Prop} (hgd : o.guard = none) (s x : Operand)
    (ho : o.op = .call { callee := .builtin .append, args := #[s, x], argTypes := #[36, 36] }) (hty : o.type = 36) {g : Nat} {b : UInt8} {D : Option Addr} {q dd : Nat} {z : List UInt8} {base : Nat}
    (hs : a.eval s = .slice (some ⟨g, 0, none⟩) 1 1) (hx : a.eval x = .slice D q dd) (hb : base ≤ w.heap.size) (hgb : base ≤ g) (hg : w.cell? ⟨g, 0, none⟩ = some (.int .u8 (b.toNat : Int))) (hr : Rd w D q dd 1 (bvs z)) (hq : q ≤ 100000000000000)
    (h : ∀ A c w', ExtW w w' → Rd w' A (1 + q) c 1 (bvs (b :: z)) → (∀ a, A = some a → base ≤ a.block) → wpList Try.prog ops Q rest (a.put o.dst (.slice A (1 + q) c)) w') : wpList Try.prog ops Q (o :: rest) a w := by
  refine wpList_plain hgd fun K hK => ?_
  obtain ⟨v', w', hrun, h2, A, c, rfl, h3, h4⟩ := append_one2 g b D q dd z w base hb hgb hg hr hq
  unfold Oper.wp execOp
  rw [← hty] at hrun
  simp only [ho, resolve, invoke, builtin, Sem.run_bind, Sem.run_pure, Result.andThen_ok, List.map_toArray, List.map_cons, List.map_nil, hs, hx]
  rw [hty] at hrun ⊢
  simp only [hrun]
  exact hK _ _ (h A c w' h2 h3 h4)

set_option maxHeartbeats 4000000 in
set_option maxRecDepth 100000 in
theorem treeDepth_walk (k0 : Int) (A : Option Addr) (n0 c0 : Nat) (fl : List UInt8) (w : World) (_hk : -9223372036854775808 ≤ k0 ∧ k0 ≤ 9223372036854775807) (hr : Rd w A n0 c0 1 (bvs fl)) (hc : c0 ≤ 140737488351232) :
    Calls Try.prog 12 #[.int .i64 k0, .slice A n0 c0] w fun e w' => e = .returned (.bool true) ∧ Below w.heap.size w w' := by
  obtain ⟨i0, hi, hz0, hz1, hz2⟩ := info_parts infoB
  have HR := Lib.hid hr
  have hnb : n0 ≤ 140737488351232 := Nat.le_trans hr.nc hc
  have hnc := hr.nc
  clear hr _hk hc
  obtain ⟨f1, hf1, hf1b⟩ := low16 k0
  obtain ⟨k, hk⟩ : ∃ k, k = f1 % 7 := ⟨_, rfl⟩
  have hk7 : k < 7 := by rw [hk]; exact Nat.mod_lt _ (by omega)
  have hm1 : (f1 : Int) % 7 = (k : Int) := by rw [hk]; omega
  have hm1' : (f1 : Int).tmod 7 = (k : Int) := by rw [Int.tmod_eq_emod_of_nonneg (by omega)]; exact hm1
  clear hk
  go_enter Try.func12, Try.ntmps12
  go_wp2_with fail
  refine (shown_any _).mono ?_
  rintro e w1 ⟨rfl, hb1⟩
  have HE1 := Lib.hid hb1
  clear hb1
  obtain ⟨p, hp⟩ : ∃ p, p = 2 ^ k := ⟨_, rfl⟩
  have hp64 : 1 ≤ p ∧ p ≤ 64 := by
    rw [hp]
    rcases (by omega : k = 0 ∨ k = 1 ∨ k = 2 ∨ k = 3 ∨ k = 4 ∨ k = 5 ∨ k = 6) with rfl | rfl | rfl | rfl | rfl | rfl | rfl <;> decide
  obtain ⟨hp1, hp64⟩ := hp64
  have hpw : IntKind.i64.wrap ((2 : Int) ^ k) = (p : Int) := by
    rw [hp]
    rcases (by omega : k = 0 ∨ k = 1 ∨ k = 2 ∨ k = 3 ∨ k = 4 ∨ k = 5 ∨ k = 6) with rfl | rfl | rfl | rfl | rfl | rfl | rfl <;> rfl
  have HP := Lib.hid hp
  obtain ⟨q, hq⟩ : ∃ q, q = min n0 50 := ⟨_, rfl⟩
  have hq1 : q ≤ 50 := by omega
  have hq2 : q ≤ n0 := by omega
  have hqq : min (n0 : Int) 50 = (q : Int) := by omega
  clear hp hq
  obtain ⟨hsl, hslr⟩ := cut_h (P := Try.prog) Try.underlying36 hi hz1 A n0 c0 .i64 (q : Int) q rfl hq2 hnc
  have hrq := hslr _ _ HR.out
  rw [Nat.mul_one, bvs_take] at hrq
  have HRQ := Lib.hid hrq
  clear hslr hrq
  go_upto_region 4 with (fail)
  clear hf1 hm1 hm1' hpw
  go_upto_block 0 with (fail)
  go_wp2_with fail
  go_loopw [7, 8] (fun v i wr => ∃ (j : Nat) (l : List (List UInt8)), i = .int .i64 j ∧ j ≤ p ∧ Hid (l.length = j) ∧ Hid (Lv l) ∧ Hid (Lot w1.heap.size l v wr) ∧ Hid (ExtW w1 wr)) (fun _ i _ => p - (intOf i).toNat)
  case atStart => exact ⟨0, [], rfl, Nat.zero_le _, Lib.hid rfl, Lib.hid (fun y hy => by cases hy), Lib.hid (Lot.nil _ _), Lib.hid (ExtW.refl _)⟩
  case round =>
    obtain ⟨j, l, rfl, hjp, HLL, HLV, HL, HX⟩ := hrel
    by_cases hlt : j < p
    · have hji : (j : Int) < (p : Int) := by omega
      have HJU : Hid (((UInt8.ofNat j).toNat : Int) = (j : Int)) := Lib.hid (by rw [UInt8.toNat_ofNat']; omega)
      have HCB := Lib.hid (cell_new1 wr (.int .u8 (j : Int)) 5)
      have HXB : Hid (ExtW wr (wr.alloc (.cells #[.int .u8 (j : Int)] 5))) := Lib.hid ((Below.refl _ _).alloc (Nat.le_refl _) _)
      have hlq : l.length ≤ 1000000 := by rw [HLL.out]; omega
      have HLQ := Lib.hid hlq
      clear hlq
      go_wp2_with (first
        | (at_builtin; generalize wr.alloc (.cells #[.int .u8 (j : Int)] 5) = wa at HCB HXB ⊢; refine wpList_append_one rfl _ _ rfl rfl (b := UInt8.ofNat j) rfl rfl (base := wr.heap.size) HXB.out.size (Nat.le_refl _) (by rw [HJU.out]; exact HCB.out) (HRQ.out.below (ExtW.trans HE1.out (ExtW.trans HX.out HXB.out)) (Nat.le_refl _)) (by omega) ?_; intro A1 c1 wb hx1 hr1 hge1; have HX1 := Lib.hid (ExtW.trans HXB.out hx1); have HR1 := Lib.hid hr1; have HG1 := Lib.hid hge1; clear hx1 hr1 hge1)
        | (at_builtin; refine wpList_append_lot rfl _ _ rfl rfl rfl rfl (Lot.mono _ _ _ _ _ HL.out (ExtW.trans HX1.out ((Below.refl _ _).alloc (Nat.le_refl _) _))) (HR1.out.below (B := wb.heap.size) ((Below.refl _ _).alloc (Nat.le_refl _) _) (Nat.le_refl _)) (fun a ha _ e => by have h1 := HG1.out a ha; have h2 := (HL.out.own _ e.symm).2; omega) (cell_new1 _ _ _) HLQ.out (Nat.le_trans (Nat.le_trans HX.out.size HX1.out.size) (by simp)) ?_; intro v' w' ho' hg'; have HO' := Lib.hid ho'; have HG' := Lib.hid hg'; clear ho' hg'))
      have HXN : Hid (ExtW w1 w') := Lib.hid (Below.trans (ExtW.trans HX.out (ExtW.trans HX1.out ((Below.refl _ _).alloc (Nat.le_refl _) _))) (HG'.out.below (Nat.le_trans (Nat.le_trans HX.out.size HX1.out.size) (by simp)) fun kk hkk => (HL.out.own kk hkk).1))
      have HZL : Hid (((UInt8.ofNat j) :: fl.take q).length ≤ 1000000) := Lib.hid (by rw [List.length_cons, List.length_take]; omega)
      go_roundw
      case rel => exact ⟨j + 1, l ++ [(UInt8.ofNat j) :: fl.take q], by simp, hlt, Lib.hid (by rw [List.length_append, HLL.out]; rfl), Lib.hid (fun y hy => by
        rcases List.mem_append.1 hy with h | h
        · exact HLV.out y h
        · rw [List.mem_singleton] at h; rw [h]; exact HZL.out), HO', HXN⟩
      case measure => simp [intOf]; omega
    · obtain rfl : j = p := by omega
      have hji : ¬ (j : Int) < (j : Int) := by omega
      obtain ⟨B, c, hv, hbs⟩ := HL.out.bss
      rw [HLL.out] at hv hbs
      have HBS := Lib.hid hbs
      have HV := Lib.hid hv
      subst hv
      have HEW := Lib.hid (ExtW.trans HE1.out HX.out)
      clear hbs
      go_upto_block 2 with (fail)
      have HL0 := Lib.hid HL.out
      have HXR := Lib.hid HX.out
      have HEW1 := Lib.hid HE1.out
      clear HX HL HV HE1
      go_wp2_with fail
      go_loopw [9] (fun i wl => ∃ t : Nat, i = .int .i64 t ∧ t ≤ j ∧ Hid (ExtW wr wl)) (fun i _ => j - (intOf i).toNat)
      case atStart => exact ⟨0, rfl, Nat.zero_le _, Lib.hid (ExtW.refl _)⟩
      case round =>
        obtain ⟨t, rfl, htj, HXL⟩ := hrel
        by_cases hlt2 : t < j
        · have hti : (t : Int) < (j : Int) := by omega
          go_wp2_with fail
          have HLEN : Hid ((T.pathD 256 l t).length = k) := Lib.hid (by rw [T.pathD_len, HLL.out, HP.out]; exact T.downs_two k t (by rw [← HP.out]; exact hlt2))
          refine (ppath_ok B j c l t _ (by omega) hlt2 (HBS.out.same HXL.out) HLV.out).mono ?_
          rintro e w5 ⟨v, rfl, ho, hb⟩
          obtain ⟨PA, pc, rfl, hdp⟩ := ho.dls (T.pathD_len32 _ _ _)
          rw [HLEN.out]
          have HXN := Lib.hid (ExtW.trans HXL.out hb)
          clear ho hb hdp
          go_wp2_with fail
          go_roundw
          case rel => exact ⟨t + 1, by simp, hlt2, HXN⟩
          case measure => simp [intOf]; omega
        · obtain rfl : t = j := by omega
          have hti : ¬ (t : Int) < (t : Int) := by omega
          have HLW := Lib.hid (HBS.out.same HXL.out)
          have HLQ : Hid (l.length ≤ 1000000) := Lib.hid (by rw [HLL.out]; omega)
          have HAB : Hid (∀ a, A = some a → 0 < (fl.take q).length → a.block < w1.heap.size) := Lib.hid (fun a ha h0 => Nat.lt_of_lt_of_le ((ha ▸ HRQ.out).blk (by rw [bvs_len]; exact h0)) HEW1.out.size)
          go_upto_region 16 with (at_builtin; refine wpList_append_lot rfl _ _ rfl rfl rfl rfl (Lot.mono _ _ _ _ _ HL0.out (ExtW.trans HXL.out ((Below.refl _ _).alloc (Nat.le_refl _) _))) (HRQ.out.below (ExtW.trans HEW.out (ExtW.trans HXL.out ((Below.refl _ _).alloc (Nat.le_refl _) _))) (Nat.le_refl _)) (fun a ha h0 e => by have h1 := HAB.out a ha h0; have h2 := (HL0.out.own _ e.symm).1; omega) (cell_new1 _ _ _) HLQ.out (Nat.le_trans (Nat.le_trans HXR.out.size HXL.out.size) (by simp)) ?_; intro v' w' ho' hg'; have HO' := Lib.hid ho'; have HG' := Lib.hid hg'; clear ho' hg')
          have HXN : Hid (ExtW w1 w') := Lib.hid (Below.trans (ExtW.trans HXR.out (ExtW.trans HXL.out ((Below.refl _ _).alloc (Nat.le_refl _) _))) (HG'.out.below (Nat.le_trans (Nat.le_trans HXR.out.size HXL.out.size) (by simp)) fun kk hkk => (HL0.out.own kk hkk).1))
          obtain ⟨l2, hl2⟩ : ∃ l2, l2 = l ++ [fl.take q] := ⟨_, rfl⟩
          have HL2 : Hid (l2.length = t + 1) := Lib.hid (by rw [hl2, List.length_append, HLL.out]; rfl)
          have HV2 : Hid (Lv l2) := Lib.hid (fun y hy => by
            rw [hl2] at hy
            rcases List.mem_append.1 hy with h | h
            · exact HLV.out y h
            · rw [List.mem_singleton] at h; rw [h, List.length_take]; omega)
          rw [← hl2] at HO'
          clear hl2
          obtain ⟨B2, c2, hv2, hbs2⟩ := HO'.out.bss
          rw [HL2.out] at hv2 hbs2
          have HB2 := Lib.hid hbs2
          subst hv2
          clear hbs2 HG'
          go_upto_block 4 with (fail)
          go_wp2_with fail
          go_loopw [12] (fun i wl => ∃ s : Nat, i = .int .i64 s ∧ s ≤ t + 1 ∧ Hid (ExtW w' wl)) (fun i _ => t + 1 - (intOf i).toNat)
          case atStart => exact ⟨0, rfl, Nat.zero_le _, Lib.hid (ExtW.refl _)⟩
          case round =>
            obtain ⟨s, rfl, hst, HXS⟩ := hrel
            by_cases hlt3 : s ≤ t
            · have hsi : (s : Int) ≤ (t : Int) := by omega
              have HLEN : Hid ((T.pathD 256 l2 s).length = if s = t then 1 else k + 1) := Lib.hid (by rw [T.pathD_len, HL2.out, HP.out]; exact T.downs_two1 k s (by rw [← HP.out]; exact hlt3))
              go_wp2_with fail
              refine (ppath_ok B2 (t + 1) c2 l2 s _ (by omega) (by omega) (HB2.out.same HXS.out) HV2.out).mono ?_
              rintro e w5 ⟨v, rfl, ho, hb⟩
              obtain ⟨PA, pc, rfl, hdp⟩ := ho.dls (T.pathD_len32 _ _ _)
              rw [HLEN.out]
              have HXN2 := Lib.hid (ExtW.trans HXS.out hb)
              clear ho hb hdp
              by_cases hse : s = t
              · subst hse
                simp only [if_true]
                go_wp2_with fail
                go_roundw
                case rel => exact ⟨s + 1, by simp, by omega, HXN2⟩
                case measure => simp [intOf] <;> omega
              · have hne : ((s : Int) == (t : Int)) = false := by rw [beq_eq_false_iff_ne]; omega
                simp only [if_neg hse]
                go_wp2_with fail
                go_roundw
                case rel => exact ⟨s + 1, by simp, by omega, HXN2⟩
                case measure => simp [intOf] <;> omega
            · have hsi : ¬ (s : Int) ≤ (t : Int) := by omega
              go_wp2
              go_ret
              exact ⟨rfl, ExtW.trans HEW1.out (ExtW.trans HXN.out HXS.out)⟩
end Go.Proofs.Ytncdgndeidbgoaa
