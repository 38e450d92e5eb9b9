/- Walk of the document's Hex. -/
import Derived.Test.YtoibhplpbiamfaaDigitsW
namespace Go.Proofs.Ytoibhplpbiamfaa
open Go.RowKit

set_option maxHeartbeats 4000000 in
set_option maxRecDepth 100000 in
theorem refHex_any (d : List UInt8) (hd : d.length = 32) (w : World) :
    Calls Try.prog 17 #[.agg (bvs d).toArray] w fun e w' => e = .returned (.string ⟨(hexL d).toArray⟩) ∧ ExtW w w' := by
  obtain ⟨i0, hi, hz0, hz1, hz2⟩ := info_parts infoB
  have HDL := Lib.hid hd
  have HB0 : Hid (Row (w.alloc (.cells (bvs d).toArray 25)) w.heap.size 25 (bvs d)) := Lib.hid (heap_alloc_last _ _)
  have HE0 : Hid (ExtW w (w.alloc (.cells (bvs d).toArray 25))) := Lib.hid ((Below.refl _ _).alloc (Nat.le_refl _) _)
  clear hd
  go_enter Try.func17, Try.ntmps17
  go_upto_region 1 with (fail)
  generalize w.alloc (.cells (bvs d).toArray 25) = w1 at HB0 HE0 ⊢
  have HO := Lib.hid (own_empty w1 w1.heap.size (Nat.le_refl _))
  have HE1 : Hid (ExtW w1 (w1.alloc (.cells #[] 5))) := Lib.hid ((Below.refl _ _).alloc (Nat.le_refl _) _)
  go_wp2_with fail
  go_loopw [3, 4] (fun v i wr => ∃ (t : Nat) (A : Option Addr) (c : Nat), v = .slice A t c ∧ i = .int .i64 t ∧ t ≤ 64 ∧ Hid (wr.ownsRow w1.heap.size 5 1 (.slice A t c) t (bvs ((hexL d).take t))) ∧ Hid (ExtW w1 wr)) (fun _ i _ => 64 - (intOf i).toNat)
  case atStart => exact ⟨0, _, _, rfl, rfl, Nat.zero_le _, HO, HE1⟩
  case round =>
    clear HO HE1
    obtain ⟨t, A, c, rfl, rfl, ht, HO, HE⟩ := hrel
    by_cases hlt : t < 64
    · have hti : (t : Int) < 64 := by omega
      obtain ⟨q, hq⟩ : ∃ q, q = t / 2 := ⟨_, rfl⟩
      have hq32 : q < 32 := by omega
      have hqi : (t : Int) / 2 = (q : Int) := by omega
      have hq32i : (q : Int) < 32 := by omega
      obtain ⟨b, hb⟩ : ∃ b, b = d.getD q 0 := ⟨_, rfl⟩
      have HBR := Lib.hid (HB0.out.ext HE.out)
      have cb := HBR.out.cell (j := q) (v := .int .u8 (b.toNat : Int)) (by rw [hb, bvs_get d q (by rw [HDL.out]; exact hq32), getD_at])
      obtain ⟨g1, g2⟩ := hexL_get d q (by rw [HDL.out]; exact hq32)
      rw [← hb] at g1 g2
      obtain ⟨hi', hhi⟩ : ∃ n, n = b.toNat / 16 := ⟨_, rfl⟩
      obtain ⟨lo, hlo⟩ : ∃ n, n = b.toNat % 16 := ⟨_, rfl⟩
      have e1 : (b.toNat : Int) / 16 = (hi' : Int) := by omega
      have e2 : (b.toNat : Int) % 16 = (lo : Int) := by omega
      have h16 : hi' < 16 := by have := b.toNat_lt; omega
      have l16 : lo < 16 := by omega
      rw [← hhi] at g1
      rw [← hlo] at g2
      have G1 : Hid (t % 2 = 1 → (hexL d)[t]? = some (hexD lo)) := Lib.hid fun hp => by rw [show t = 2 * q + 1 by omega]; exact g2
      have G2 : Hid (¬ t % 2 = 1 → (hexL d)[t]? = some (hexD hi')) := Lib.hid fun hp => by rw [show t = 2 * q by omega]; exact g1
      have E1 := Lib.hid e1
      have E2 := Lib.hid e2
      clear g1 g2 hb hhi hlo hq e1 e2 hq32
      go_upto_if 18 with (fail)
      go_cut [5] (fun v wd => ∃ m : Nat, v = .int .u8 m ∧ m < 16 ∧ Hid ((hexL d)[t]? = some (hexD m)) ∧ Hid (wd = wr))
      case first =>
        by_cases hpar : t % 2 = 1
        · have hp1 : (t : Int) % 2 = 1 := by omega
          have G := Lib.hid (G1.out hpar)
          have hp2 : ((t : Int) % 2 == 1) = true := by rw [hp1]; rfl
          clear hpar
          go_wp2_with fail
          go_meet
          case rel => exact ⟨lo, by (simp [E2.out]) <;> omega, l16, G, rfl⟩
        · have G := Lib.hid (G2.out hpar)
          have hp2 : ((t : Int) % 2 == 1) = false := by rw [beq_eq_false_iff_ne]; omega
          clear hpar
          go_wp2_with fail
          go_meet
          case rel => exact ⟨hi', by (simp [E1.out]) <;> omega, h16, G, rfl⟩
      case rest =>
        obtain ⟨m, rfl, hm, HG, HW⟩ := hcut
        obtain rfl := HW.out
        clear hqi hq32i cb
        have HTK : Hid ((hexL d).take (t + 1) = (hexL d).take t ++ [hexD m]) := Lib.hid (by rw [List.take_add_one, HG.out]; rfl)
        by_cases hm10 : m < 10
        · have hmi : (m : Int) < 10 := by omega
          have hv : IntKind.u8.wrap (48 + (m : Int)) = ((hexD m).toNat : Int) := by rw [hexD_dig hm10]; simp [IntKind.wrap, IntKind.bits, IntKind.signed]; omega
          go_wp2_with (at_builtin; refine wpList_append_own _ rfl _ _ _ rfl w1.heap.size 5 i0 _ 1 1 Try.underlying22 hi hz0 hz1 hz2 rfl (by decide) _ _ _ rfl (own_ext HO.out (show ExtW _ _ from (Below.refl _ _).alloc (Nat.le_refl _) _)) ⟨wc.heap.size, 0, none⟩ 1 1 [.int .u8 ((hexD m).toNat : Int)] rfl rfl (cell_one_new _ _ _) (by simp [Value.oneCell']) (by simp [maxLen]; omega) (by omega) (by simp; exact Nat.le_succ_of_le HE.out.size) ?_; intro v4 w4 hown4 hgrow4 _; have HO4 := Lib.hid hown4; have HE4 := Lib.hid (((Below.refl w1.heap.size wc).alloc HE.out.size _).grown hgrow4 (by simp; exact Nat.le_succ_of_le HE.out.size) (fun k hk => own_ge HO.out k hk)); clear hown4 hgrow4; obtain ⟨A4, c4, hv4⟩ := own_slice' HO4.out; subst hv4)
          go_roundw
          case rel =>
            refine ⟨t + 1, A4, c4, rfl, by simp, hlt, Lib.hid ?_, Lib.hid (Below.trans HE.out HE4.out)⟩
            have h := HO4.out
            rw [HTK.out, bvs_app]
            exact h
          case measure => simp [intOf]; omega
        · have hmi : ¬ (m : Int) < 10 := by omega
          obtain ⟨z, hz⟩ : ∃ z, z = 97 + m := ⟨_, rfl⟩
          have hv1 : IntKind.u8.wrap (97 + (m : Int)) = (z : Int) := by rw [hz]; simp [IntKind.wrap, IntKind.bits, IntKind.signed]; omega
          have hv2 : IntKind.u8.wrap ((z : Int) - 10) = ((hexD m).toNat : Int) := by rw [hexD_let (by omega) hm, hz]; simp [IntKind.wrap, IntKind.bits, IntKind.signed]; omega
          clear hz
          go_wp2_with (at_builtin; refine wpList_append_own _ rfl _ _ _ rfl w1.heap.size 5 i0 _ 1 1 Try.underlying22 hi hz0 hz1 hz2 rfl (by decide) _ _ _ rfl (own_ext HO.out (show ExtW _ _ from (Below.refl _ _).alloc (Nat.le_refl _) _)) ⟨wc.heap.size, 0, none⟩ 1 1 [.int .u8 ((hexD m).toNat : Int)] rfl rfl (cell_one_new _ _ _) (by simp [Value.oneCell']) (by simp [maxLen]; omega) (by omega) (by simp; exact Nat.le_succ_of_le HE.out.size) ?_; intro v4 w4 hown4 hgrow4 _; have HO4 := Lib.hid hown4; have HE4 := Lib.hid (((Below.refl w1.heap.size wc).alloc HE.out.size _).grown hgrow4 (by simp; exact Nat.le_succ_of_le HE.out.size) (fun k hk => own_ge HO.out k hk)); clear hown4 hgrow4; obtain ⟨A4, c4, hv4⟩ := own_slice' HO4.out; subst hv4)
          go_roundw
          case rel =>
            refine ⟨t + 1, A4, c4, rfl, by simp, hlt, Lib.hid ?_, Lib.hid (Below.trans HE.out HE4.out)⟩
            have h := HO4.out
            rw [HTK.out, bvs_app]
            exact h
          case measure => simp [intOf]; omega
    · obtain rfl : t = 64 := by omega
      have hti : ¬ ((64 : Nat) : Int) < 64 := by omega
      have hfin : (hexL d).take 64 = hexL d := List.take_of_length_le (by rw [hexL_len, HDL.out]; exact Nat.le_refl _)
      rw [hfin] at HO
      have hrd : Rd wr A 64 c 1 (bvs (hexL d)) := by obtain ⟨A', c', e1, h1, _⟩ := Rd.of_own HO.out; cases e1; exact h1
      have hcv := conv_str hrd
      clear hrd hfin
      go_wp2
      go_ret
      exact ⟨rfl, ExtW.trans HE0.out HE.out⟩
end Go.Proofs.Ytoibhplpbiamfaa
