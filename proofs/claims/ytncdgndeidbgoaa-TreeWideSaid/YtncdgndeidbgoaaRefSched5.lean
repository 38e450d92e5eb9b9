/- Walk of the document's schedule. -/
import Derived.Test.YtncdgndeidbgoaaRefPad5
import Derived.Test.YtncdgndeidbgoaaExtT
namespace Go.Proofs.Ytncdgndeidbgoaa
open Go.RowKit

theorem infoU : (Try.prog.info? 86).map (fun i => (i.zero, i.size, i.bytes)) = some (some (.int .u32 0), 1, 4) := by kernel_rfl
theorem own_emptyU (w : World) (base : Nat) (hb : base ≤ w.heap.size) : (w.alloc (.cells #[] 86)).ownsRow base 86 1 (.slice (some ⟨w.heap.size, 0, none⟩) 0 0) 0 [] := by
  refine ⟨rfl, .inr ⟨w.heap.size, 0, #[], rfl, hb, heap_alloc_new w _, Nat.le_refl _, by simp [maxLen], rfl, rfl⟩⟩
theorem news_one {w : World} {g : Nat} {v : Value} (h : w.cell? ⟨g, 0, none⟩ = some v) : ∀ j u, [v][j]? = some u → w.cell? ((⟨g, 0, none⟩ : Addr).add j) = some u := by
  intro j u hj
  cases j with
  | zero => simp at hj; subst hj; rw [Addr.add_mid]; exact h
  | succ j => simp at hj
theorem turn7 (x : UInt32) (w : World) : Calls Try.prog 63 #[.int .u32 (un x : Nat), .int .i64 7] w fun e w' => e = .returned (.int .u32 (un (S.rotr x 7) : Nat)) ∧ w' = w := turned_any x 7 7 (by decide) rfl w
theorem turn18 (x : UInt32) (w : World) : Calls Try.prog 63 #[.int .u32 (un x : Nat), .int .i64 18] w fun e w' => e = .returned (.int .u32 (un (S.rotr x 18) : Nat)) ∧ w' = w := turned_any x 18 18 (by decide) rfl w
theorem turn17 (x : UInt32) (w : World) : Calls Try.prog 63 #[.int .u32 (un x : Nat), .int .i64 17] w fun e w' => e = .returned (.int .u32 (un (S.rotr x 17) : Nat)) ∧ w' = w := turned_any x 17 17 (by decide) rfl w
theorem turn19 (x : UInt32) (w : World) : Calls Try.prog 63 #[.int .u32 (un x : Nat), .int .i64 19] w fun e w' => e = .returned (.int .u32 (un (S.rotr x 19) : Nat)) ∧ w' = w := turned_any x 19 19 (by decide) rfl w
theorem sched_cell {w : World} {base n c : Nat} {A : Option Addr} {g : Nat} {b : List UInt8} (h : w.ownsRow base 86 1 (.slice A n c) n ((S.sched b n).map uv)) (hA : A = some ⟨g, 0, none⟩) {j : Nat} (hj : j < n) :
    w.cell? ⟨g, j, none⟩ = some (.int .u32 (un ((S.sched b n).getD j 0) : Nat)) := by
  obtain ⟨A', c', e, hr, _⟩ := Rd.of_own h
  cases e
  have := hr.cell _ hA j (uv ((S.sched b n).getD j 0)) (by rw [List.getElem?_map, List.getD_eq_getElem?_getD, List.getElem?_eq_getElem (by rw [S.sched_len]; exact hj)]; rfl)
  rw [Addr.add_mid, Nat.zero_add] at this
  exact this
def val4 (b : List UInt8) (t : Nat) : Nat → Nat
  | 0 => 0
  | k + 1 => val4 b t k * 256 + (b.getD (4 * t + k) 0).toNat
theorem val4_lt (b : List UInt8) (t : Nat) : ∀ k, val4 b t k < 256 ^ k
  | 0 => by simp [val4]
  | k + 1 => by
    have h1 := val4_lt b t k
    have h2 := (b.getD (4 * t + k) 0).toNat_lt
    simp only [val4, Nat.pow_succ]
    omega
theorem val4_all (b : List UInt8) (t : Nat) : UInt32.ofNat (val4 b t 4) = S.word b t := by
  unfold S.word S.be32
  simp [val4]

set_option maxHeartbeats 4000000 in
set_option maxRecDepth 100000 in
theorem schedule_any (b : List UInt8) (a : Addr) (c0 : Nat) (w : World) (hr : Rd w (some a) 64 c0 1 (bvs b)) :
    Calls Try.prog 62 #[.slice (some a) 64 c0] w fun e w' => ∃ v, e = .returned v ∧ w'.ownsRow w.heap.size 86 1 v 64 ((S.sched b 64).map uv) ∧ ExtW w w' := by
  obtain ⟨i0, hi, hz0, hz1, hz2⟩ := info_parts infoU
  have HR := Lib.hid hr
  have HBL : Hid (b.length = 64) := Lib.hid (by have := hr.len; rw [bvs_len] at this; omega)
  have HO := Lib.hid (own_emptyU w w.heap.size (Nat.le_refl _))
  have HE : Hid (ExtW w (w.alloc (.cells #[] 86))) := Lib.hid ((Below.refl _ _).alloc (Nat.le_refl _) _)
  clear hr
  go_enter Try.func62, Try.ntmps62
  go_wp2_with fail
  go_loopw [3, 4] (fun v i wr => ∃ (t : Nat) (A : Option Addr) (c : Nat), v = .slice A t c ∧ i = .int .i64 t ∧ t ≤ 16 ∧ Hid (wr.ownsRow w.heap.size 86 1 (.slice A t c) t ((S.sched b t).map uv)) ∧ Hid (ExtW w wr)) (fun _ i _ => 16 - (intOf i).toNat)
  case atStart => exact ⟨0, _, _, rfl, rfl, Nat.zero_le _, HO, HE⟩
  case round =>
    clear HO HE
    obtain ⟨t, A, c, rfl, rfl, ht, HO, HE⟩ := hrel
    by_cases hlt : t < 16
    · -- devbegin
      have hti : (t : Int) < 16 := by omega
      go_wp2_with fail
      obtain ⟨wo, rfl⟩ : ∃ wo, wo = wr := ⟨_, rfl⟩
      go_loopw [5, 6] (fun x i wn => ∃ (k m : Nat), x = .int .u32 m ∧ i = .int .i64 k ∧ k ≤ 4 ∧ Hid (m = val4 b t k) ∧ Hid (wn = wo)) (fun _ i _ => 4 - (intOf i).toNat)
      case atStart => exact ⟨0, 0, rfl, rfl, Nat.zero_le _, Lib.hid rfl, Lib.hid rfl⟩
      case round =>
        obtain ⟨k, m, rfl, rfl, hk, HM, HW⟩ := hrel
        obtain rfl := HW.out
        by_cases hlt2 : k < 4
        · have hki : (k : Int) < 4 := by omega
          obtain ⟨p, hp⟩ : ∃ p, p = 4 * t + k := ⟨_, rfl⟩
          have hpi : 4 * (t : Int) + (k : Int) = (p : Int) := by omega
          have hp64 : (p : Int) < 64 := by omega
          obtain ⟨x, hx⟩ : ∃ x, x = b.getD p 0 := ⟨_, rfl⟩
          have hcell : wr.cell? (a.add p) = some (.int .u8 (x.toNat : Int)) := by
            have := (HR.out.below HE.out (Nat.le_refl _)).cell a rfl p _ (bvs_get b p (by rw [HBL.out]; omega))
            rw [this, hx, List.getD_eq_getElem?_getD, List.getElem?_eq_getElem (by rw [HBL.out]; omega)]; rfl
          have hm : m * 256 + x.toNat < 4294967296 := by
            have h1 := val4_lt b t k
            rw [← HM.out] at h1
            have h2 := x.toNat_lt
            have h3 : 256 ^ k ≤ 256 ^ 3 := Nat.pow_le_pow_right (by decide) (by omega)
            omega
          obtain ⟨m1, hm1⟩ : ∃ m1, m1 = m * 256 := ⟨_, rfl⟩
          obtain ⟨m2, hm2⟩ : ∃ m2, m2 = m1 + x.toNat := ⟨_, rfl⟩
          have hx256 := x.toNat_lt
          have e1 : (m : Int) * 256 % 4294967296 = (m1 : Int) := by omega
          have e3 : (m1 : Int) + (x.toNat : Int) = (m2 : Int) := by omega
          have HM2 : Hid (m2 = val4 b t (k + 1)) := Lib.hid (by simp only [val4]; rw [hm2, hm1, HM.out, hx, hp])
          clear hm hm1 hm2 hx hp
          go_wp2_with fail
          go_roundw
          case rel => exact ⟨k + 1, m2, rfl, by simp, hlt2, HM2, by first | exact Lib.hid rfl | exact Lib.hid trivial⟩
          case measure => simp [intOf]; omega
        · obtain rfl : k = 4 := by omega
          have hki : ¬ ((4 : Nat) : Int) < 4 := by omega
          have hmu : (m : Int) = (un (S.word b t) : Int) := by
            rw [← val4_all, un_of _ (val4_lt b t 4), HM.out]
          rw [hmu]
          have HNX : Hid ((S.sched b (t + 1)).map uv = (S.sched b t).map uv ++ [.int .u32 (un (S.word b t) : Int)]) := Lib.hid (by simp only [S.sched, hlt, if_true, List.map_append]; rfl)
          clear hmu
          go_wp2_with (at_builtin; refine wpList_append_own _ rfl _ _ _ rfl w.heap.size 86 i0 _ 1 4 Try.underlying94 hi hz0 hz1 hz2 rfl (by decide) _ _ _ rfl (own_ext HO.out (show ExtW _ _ from (Below.refl _ _).alloc (Nat.le_refl _) _)) ⟨wr.heap.size, 0, none⟩ 1 1 [.int .u32 (un (S.word b t) : Int)] rfl rfl (cell_one_new _ _ _) (by simp [Value.oneCell']) (by simp [maxLen]; omega) (by omega) (by simp; exact Nat.le_succ_of_le HE.out.size) ?_; intro v4 w4 hown4 hgrow4 _; have HO4 := Lib.hid hown4; have HE4 := Lib.hid (((Below.refl w.heap.size wr).alloc HE.out.size _).grown hgrow4 (by simp; exact Nat.le_succ_of_le HE.out.size) (fun k hk => own_ge HO.out k hk)); clear hown4 hgrow4; obtain ⟨A4, c4, hv4⟩ := own_slice' HO4.out; subst hv4)
          go_roundw
          case rel =>
            refine ⟨t + 1, A4, c4, rfl, by simp, hlt, Lib.hid ?_, Lib.hid (Below.trans HE.out HE4.out)⟩
            have h := HO4.out
            rw [HNX.out]
            exact h
          case measure => simp [intOf]; omega
      -- devend
    · obtain rfl : t = 16 := by omega
      have hti : ¬ ((16 : Nat) : Int) < 16 := by omega
      go_wp2_with fail
      go_loopw [3, 7] (fun v i wr => ∃ (t : Nat) (A : Option Addr) (c : Nat), v = .slice A t c ∧ i = .int .i64 t ∧ 16 ≤ t ∧ t ≤ 64 ∧ Hid (wr.ownsRow w.heap.size 86 1 (.slice A t c) t ((S.sched b t).map uv)) ∧ Hid (ExtW w wr)) (fun _ i _ => 64 - (intOf i).toNat)
      case atStart => exact ⟨16, _, _, rfl, rfl, Nat.le_refl _, by decide, HO, HE⟩
      case round =>
        clear HO HE
        obtain ⟨t, A, c, rfl, rfl, ht1, ht2, HO, HE⟩ := hrel
        by_cases hlt2 : t < 64
        · -- devbegin
          have hti2 : (t : Int) < 64 := by omega
          obtain ⟨g, c', hv, hg1, hg2⟩ := own_form HO.out (by omega)
          cases hv
          obtain ⟨i15, hi15⟩ : ∃ k, k = t - 15 := ⟨_, rfl⟩
          obtain ⟨i2, hi2⟩ : ∃ k, k = t - 2 := ⟨_, rfl⟩
          obtain ⟨i7, hi7⟩ : ∃ k, k = t - 7 := ⟨_, rfl⟩
          obtain ⟨i16, hi16⟩ : ∃ k, k = t - 16 := ⟨_, rfl⟩
          have p15 : (t : Int) - 15 = (i15 : Int) := by omega
          have p2 : (t : Int) - 2 = (i2 : Int) := by omega
          have q7 : IntKind.i64.wrap ((t : Int) - 7) = (i7 : Int) := by rw [IntWalk.i64_in _ (by omega)]; omega
          have q16 : IntKind.i64.wrap ((t : Int) - 16) = (i16 : Int) := by rw [IntWalk.i64_in _ (by omega)]; omega
          have l15 : (i15 : Int) < (t : Int) := by omega
          have l2 : (i2 : Int) < (t : Int) := by omega
          have l7 : (i7 : Int) < (t : Int) := by omega
          have l16 : (i16 : Int) < (t : Int) := by omega
          obtain ⟨x, hx⟩ : ∃ x, x = (S.sched b t).getD i15 0 := ⟨_, rfl⟩
          obtain ⟨y, hy⟩ : ∃ x, x = (S.sched b t).getD i2 0 := ⟨_, rfl⟩
          obtain ⟨u7, hu7⟩ : ∃ x, x = (S.sched b t).getD i7 0 := ⟨_, rfl⟩
          obtain ⟨u16, hu16⟩ : ∃ x, x = (S.sched b t).getD i16 0 := ⟨_, rfl⟩
          have c15 := sched_cell HO.out rfl (show i15 < t by omega)
          have c2 := sched_cell HO.out rfl (show i2 < t by omega)
          have c7 := sched_cell HO.out rfl (show i7 < t by omega)
          have c16 := sched_cell HO.out rfl (show i16 < t by omega)
          rw [← hx] at c15
          rw [← hy] at c2
          rw [← hu7] at c7
          rw [← hu16] at c16
          have C7 := Lib.hid c7
          have C16 := Lib.hid c16
          obtain ⟨s0, hs0⟩ : ∃ s, s = S.rotr x 7 ^^^ S.rotr x 18 ^^^ x >>> 3 := ⟨_, rfl⟩
          obtain ⟨s1, hs1⟩ : ∃ s, s = S.rotr y 17 ^^^ S.rotr y 19 ^^^ y >>> 10 := ⟨_, rfl⟩
          have f1 := un_xor (S.rotr x 7) (S.rotr x 18)
          have f2 := un_shr3 x
          have f3 := un_xor (S.rotr x 7 ^^^ S.rotr x 18) (x >>> 3)
          have f4 := un_xor (S.rotr y 17) (S.rotr y 19)
          have f5 := un_shr10 y
          have f6 := un_xor (S.rotr y 17 ^^^ S.rotr y 19) (y >>> 10)
          rw [← hs0] at f3
          rw [← hs1] at f6
          have HNX : Hid ((S.sched b (t + 1)).map uv = (S.sched b t).map uv ++ [.int .u32 (un (s1 + u7 + s0 + u16) : Int)]) := Lib.hid (by
            simp only [S.sched]
            rw [if_neg (by omega), ← hi15, ← hi2, ← hi7, ← hi16, ← hx, ← hy, ← hu7, ← hu16, List.map_append]
            unfold S.nextW; rw [← hs0, ← hs1]; rfl)
          clear hi15 hi2 hi7 hi16 hx hy hu7 hu16 hs0 hs1 c7 c16 hg1 hg2
          have L7 := Lib.hid l7
          have L16 := Lib.hid l16
          have Q7 := Lib.hid q7
          have Q16 := Lib.hid q16
          clear l7 l16 q7 q16
          go_upto_region 16 with (fail)
          clear c15 c2 l15 l2 p15 p2
          go_wp2_with fail
          refine (turn7 _ _).mono ?_
          rintro e w' ⟨rfl, rfl⟩
          go_wp2_with fail
          refine (turn18 _ _).mono ?_
          rintro e w' ⟨rfl, rfl⟩
          go_wp2_with fail
          refine (turn17 _ _).mono ?_
          rintro e w' ⟨rfl, rfl⟩
          go_wp2_with fail
          refine (turn19 _ _).mono ?_
          rintro e w' ⟨rfl, rfl⟩
          go_wp2_with fail
          have C7' : w'.drew.cell? ⟨g, i7, none⟩ = some (.int .u32 (un u7 : Nat)) := C7.out
          have C16' : w'.drew.cell? ⟨g, i16, none⟩ = some (.int .u32 (un u16 : Nat)) := C16.out
          have l7 := L7.out
          have l16 := L16.out
          have q7 := Q7.out
          have q16 := Q16.out
          have g1 := un_addw s1 u7
          have g2 := un_addw (s1 + u7) s0
          have g3 := un_addw (s1 + u7 + s0) u16
          apply wp_region_ext_tail 17 _ (by kernel_rfl) (by kernel_rfl)
          simp only [List.take_succ_cons, List.take_zero, List.drop_succ_cons, List.drop_zero]
          have HO2 : Hid (w'.drew.ownsRow w.heap.size 86 1 (.slice (some ⟨g, 0, none⟩) t c) t ((S.sched b t).map uv)) := Lib.hid HO.out
          have HE2 : Hid (ExtW w w'.drew) := Lib.hid HE.out.drew
          iterate 16 (apply wpZ_det; (intro wq hE hG; have k7 := hE.cellAt C7'; have k16 := hE.cellAt C16'; first | exact obl_non (by rfl) | (apply obl_val (by rfl); go_simp; rfl)); (intro ak hak; simp only [Act.put, List.setIfInBounds_toArray, List.set_cons_succ, List.set_cons_zero] at hak; subst hak))
          apply wpZ_nd (fun v wq => ∃ gb, v = .slice (some ⟨gb, 0, none⟩) 1 1 ∧ wq.cell? ⟨gb, 0, none⟩ = some (.int .u32 (un (s1 + u7 + s0 + u16) : Nat)))
          · rintro v wa wb ⟨gb, rfl, hc⟩ he
            exact ⟨gb, rfl, he.cellAt hc⟩
          · intro wq hE hG
            apply obl_on (by kernel_rfl)
            go_simp
            simp only [extUpon_value]
            exact ⟨(Below.refl _ _).alloc (Nat.le_refl _) _, wq.heap.size, rfl, cell_new1p _ _ _⟩
          (intro u ak hak; simp only [Act.put, List.setIfInBounds_toArray, List.set_cons_succ, List.set_cons_zero] at hak; subst hak)
          apply wpZ_nil
          intro wq hE hG
          obtain ⟨gb, hgb, hcb⟩ := hG _ (List.mem_cons_self ..)
          try simp only at hgb hcb
          subst hgb
          refine wpList_append_own _ rfl _ _ _ rfl w.heap.size 86 i0 _ 1 4 Try.underlying94 hi hz0 hz1 hz2 rfl (by decide) _ _ _ rfl (own_ext HO2.out hE) ⟨gb, 0, none⟩ 1 1 [.int .u32 (un (s1 + u7 + s0 + u16) : Int)] rfl rfl (news_one hcb) (by simp [Value.oneCell']) (by simp [maxLen]; omega) (by omega) (Nat.le_trans HE2.out.size hE.size) ?_
          intro v4 w4 hown4 hgrow4 _
          have HO4 := Lib.hid hown4
          have HE4 := Lib.hid (Below.trans (ExtW.trans HE2.out hE) ((Below.refl w.heap.size wq).grown hgrow4 (Nat.le_trans HE2.out.size hE.size) (fun k hk => own_ge HO.out k hk)))
          clear hown4 hgrow4
          obtain ⟨A4, c4, hv4⟩ := own_slice' HO4.out
          subst hv4
          clear C7' C16' l7 l16 q7 q16 g1 g2 g3 hcb hG
          go_wp2_with fail
          go_roundw
          case rel =>
            refine ⟨t + 1, A4, c4, rfl, by simp, by omega, hlt2, Lib.hid ?_, HE4⟩
            have h := HO4.out
            rw [HNX.out]
            exact h
          case measure => simp [intOf]; omega
          -- devend
        · obtain rfl : t = 64 := by omega
          have hti2 : ¬ ((64 : Nat) : Int) < 64 := by omega
          go_wp2
          go_ret
          exact ⟨_, rfl, HO.out, HE.out⟩
end Go.Proofs.Ytncdgndeidbgoaa
