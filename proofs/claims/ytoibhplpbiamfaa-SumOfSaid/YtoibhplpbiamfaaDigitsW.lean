/- Walk of SumDigits. -/
import Derived.Test.YtoibhplpbiamfaaShown2
namespace Go.Proofs.Ytoibhplpbiamfaa
open Go.RowKit

theorem hexD_dig {n : Nat} (h : n < 10) : (hexD n).toNat = 48 + n := (by decide : ∀ n : Fin 10, (hexD n.1).toNat = 48 + n.1) ⟨n, h⟩
theorem hexD_let {n : Nat} (h1 : 10 ≤ n) (h : n < 16) : (hexD n).toNat = 87 + n := by
  have := (by decide : ∀ n : Fin 16, 10 ≤ n.1 → (hexD n.1).toNat = 87 + n.1) ⟨n, h⟩ h1
  exact this
theorem hexL_get : ∀ (d : List UInt8) (t : Nat), t < d.length → (hexL d)[2 * t]? = some (hexD ((d.getD t 0).toNat / 16)) ∧ (hexL d)[2 * t + 1]? = some (hexD ((d.getD t 0).toNat % 16))
  | [], t, h => by simp at h
  | b :: d, 0, _ => ⟨rfl, rfl⟩
  | b :: d, t + 1, h => by
    have := hexL_get d t (by simpa using h)
    have e : hexL (b :: d) = hexD (b.toNat / 16) :: hexD (b.toNat % 16) :: hexL d := rfl
    rw [e, show 2 * (t + 1) = 2 * t + 1 + 1 by omega]
    simpa using this

theorem value_dig (n : Nat) (h : n < 10) (w : World) : Calls Try.prog 21 #[.int .u8 ((48 + n : Nat) : Int)] w fun e w' => e = .returned (.int .u8 (n : Int)) ∧ w' = w := by
  go_enter Try.func21, Try.ntmps21
  have h1 : (48 : Int) ≤ ((48 + n : Nat) : Int) := by omega
  have h2 : ((48 + n : Nat) : Int) ≤ 57 := by omega
  have h3 : IntKind.u8.wrap (((48 + n : Nat) : Int) - 48) = (n : Int) := by simp [IntKind.wrap, IntKind.bits, IntKind.signed]; omega
  go_wp2
  go_ret
  exact ⟨ret_eq (by simp; omega), rfl⟩
theorem value_let (n : Nat) (h0 : 10 ≤ n) (h : n < 16) (w : World) : Calls Try.prog 21 #[.int .u8 ((87 + n : Nat) : Int)] w fun e w' => e = .returned (.int .u8 (n : Int)) ∧ w' = w := by
  go_enter Try.func21, Try.ntmps21
  have h1 : (97 : Int) ≤ ((87 + n : Nat) : Int) := by omega
  have h2 : ((87 + n : Nat) : Int) ≤ 102 := by omega
  have h3 : ¬ ((87 + n : Nat) : Int) ≤ 57 := by omega
  have h4 : (48 : Int) ≤ ((87 + n : Nat) : Int) := by omega
  go_wp2
  go_ret
  exact ⟨ret_eq (by simp; omega), rfl⟩
theorem value_hex (n : Nat) (h : n < 16) (w : World) : Calls Try.prog 21 #[.int .u8 ((hexD n).toNat : Int)] w fun e w' => e = .returned (.int .u8 (n : Int)) ∧ w' = w := by
  by_cases h1 : n < 10
  · rw [hexD_dig h1]; exact value_dig n h1 w
  · rw [hexD_let (by omega) h]; exact value_let n (by omega) h w

set_option maxHeartbeats 4000000 in
set_option maxRecDepth 100000 in
theorem sumDigits_walk (d : List UInt8) (w : World) (hd : d.length = 32) :
    Calls Try.prog 8 #[.agg (bvs d).toArray] w fun e w' => e = .returned (.bool true) ∧ Below w.heap.size w w' := by
  have HDL := Lib.hid hd
  have HSZ : Hid ((bvs d).length = 32) := Lib.hid (by rw [bvs_len, hd])
  have HB0 : Hid (Row (w.alloc (.cells (bvs d).toArray 25)) w.heap.size 25 (bvs d)) := Lib.hid (heap_alloc_last _ _)
  have HE0 : Hid (ExtW w (w.alloc (.cells (bvs d).toArray 25))) := Lib.hid ((Below.refl _ _).alloc (Nat.le_refl _) _)
  clear hd
  go_enter Try.func8, Try.ntmps8
  go_upto_region 1 with (fail)
  generalize w.alloc (.cells (bvs d).toArray 25) = w1 at HB0 HE0 ⊢
  go_wp2_with fail
  refine (shown_any _).mono ?_
  rintro e w2 ⟨rfl, hb2⟩
  have HB2 := Lib.hid (HB0.out.ext hb2)
  have HE2 := Lib.hid (ExtW.trans HE0.out hb2)
  clear hb2
  go_wp2_with (refine wpList_ldG rfl (by rfl) ?_; refine ⟨w.heap.size, 0, _, _, rfl, HB2.out.range, Try.underlying25, rfl, by rw [HSZ.out]; kernel_rfl, ?_⟩)
  refine (hex_any d HDL.out _).mono ?_
  rintro e w3 ⟨rfl, hb3⟩
  have HB3 := Lib.hid (HB2.out.ext hb3)
  have HE3 := Lib.hid (ExtW.trans HE2.out hb3)
  clear hb3
  have hsz : (⟨(hexL d).toArray⟩ : ByteArray).size = 64 := by rw [str_size, hexL_len, HDL.out]
  go_wp2_with fail
  clear hsz
  go_loopw [5] (fun i wr => ∃ t : Nat, i = .int .i64 t ∧ t ≤ 32 ∧ Hid (wr = w3)) (fun i _ => 32 - (intOf i).toNat)
  case atStart => exact ⟨0, rfl, Nat.zero_le _, rfl⟩
  case round =>
    obtain ⟨t, rfl, ht, HW⟩ := hrel
    obtain rfl := HW.out
    by_cases hlt : t < 32
    · have hti : (t : Int) < 32 := by omega
      obtain ⟨b, hb⟩ : ∃ b, b = d.getD t 0 := ⟨_, rfl⟩
      obtain ⟨g1, g2⟩ := hexL_get d t (by rw [HDL.out]; exact hlt)
      obtain ⟨hi, hhi⟩ : ∃ n, n = b.toNat / 16 := ⟨_, rfl⟩
      obtain ⟨lo, hlo⟩ : ∃ n, n = b.toNat % 16 := ⟨_, rfl⟩
      rw [← hb, ← hhi] at g1
      rw [← hb, ← hlo] at g2
      have cb := HB3.out.cell (j := t) (v := .int .u8 (b.toNat : Int)) (by rw [hb, bvs_get d t (by rw [HDL.out]; exact hlt), getD_at])
      have h16 : hi < 16 := by have := b.toNat_lt; omega
      have l16 : lo < 16 := by omega
      have i1 : ∀ W : World, (Instr.index 9 (.string ⟨(hexL d).toArray⟩) (.int .i64 (2 * (t : Int)))).run Try.prog W = .ok (.int .u8 ((hexD hi).toNat : Int)) W := fun W => by
        have h := index_at ⟨(hexL d).toArray⟩ (2 * t) (by rw [str_bytes, hexL_len, HDL.out]; omega) W
        rw [show ((2 * t : Nat) : Int) = 2 * (t : Int) by omega] at h
        rw [h]
        rw [List.getElem?_eq_getElem (by rw [hexL_len, HDL.out]; omega)] at g1
        rw [Option.some.inj g1]
      have i2 : ∀ W : World, (Instr.index 9 (.string ⟨(hexL d).toArray⟩) (.int .i64 (2 * (t : Int) + 1))).run Try.prog W = .ok (.int .u8 ((hexD lo).toNat : Int)) W := fun W => by
        have h := index_at ⟨(hexL d).toArray⟩ (2 * t + 1) (by rw [str_bytes, hexL_len, HDL.out]; omega) W
        rw [show ((2 * t + 1 : Nat) : Int) = 2 * (t : Int) + 1 by omega] at h
        rw [h]
        rw [List.getElem?_eq_getElem (by rw [hexL_len, HDL.out]; omega)] at g2
        rw [Option.some.inj g2]
      have hsum : 16 * (hi : Int) + (lo : Int) = (b.toNat : Int) := by omega
      have hb256 := b.toNat_lt
      have HSUM := Lib.hid hsum
      clear hb hhi hlo g1 g2 hsum
      go_wp2_with fail
      refine (value_hex hi h16 _).mono ?_
      rintro e w4 ⟨rfl, hw4⟩
      subst hw4
      go_wp2_with fail
      refine (value_hex lo l16 _).mono ?_
      rintro e w5 ⟨rfl, hw5⟩
      subst hw5
      clear i1 i2
      have hh15 : ¬ (15 : Int) < (hi : Int) := by omega
      have hl15 : ¬ (15 : Int) < (lo : Int) := by omega
      have hneq : (16 * (hi : Int) + (lo : Int) != (b.toNat : Int)) = false := by rw [HSUM.out]; simp
      go_wp2_with fail
      go_roundw
      case rel => exact ⟨t + 1, by simp, hlt, Lib.hid trivial⟩
      case measure => simp [intOf]; omega
    · obtain rfl : t = 32 := by omega
      have hti : ¬ ((32 : Nat) : Int) < 32 := by omega
      go_wp2
      go_ret
      exact ⟨rfl, HE3.out⟩
end Go.Proofs.Ytoibhplpbiamfaa
