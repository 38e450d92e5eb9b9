/- Walk of SumKept. -/
import Derived.Test.YtoibhplpbiamfaaShown2
namespace Go.Proofs.Ytoibhplpbiamfaa
open Go.RowKit

theorem i64_and7 (n : Nat) (h : n < 256) : bits .and .i64 (n : Int) 7 = ((n % 8 : Nat) : Int) := by
  have : ∀ m : Fin 256, bits .and .i64 ((m.1 : Nat) : Int) 7 = ((m.1 % 8 : Nat) : Int) := by decide +kernel
  exact this ⟨n, h⟩
/-- bit r of a byte, from the greatest on -/
def bitR (r : Nat) : UInt8 := UInt8.ofNat (128 / 2 ^ r)
theorem keepB_bit (b : UInt8) (m : Nat) {r : Nat} (hr : r < 8) : keepB b m &&& bitR r = if r < m then b &&& bitR r else 0 := by
  have key : ∀ (m r : Fin 8), m.1 ≠ 0 → UInt8.ofNat (255 * 2 ^ (8 - m.1) % 256) &&& bitR r.1 = if r.1 < m.1 then bitR r.1 else 0 := by decide
  unfold keepB
  by_cases h0 : m = 0
  · rw [if_pos h0, if_neg (by omega), UInt8.zero_and]
  · rw [if_neg h0]
    by_cases h8 : m < 8
    · rw [if_pos h8, UInt8.and_assoc, key ⟨m, h8⟩ ⟨r, hr⟩ h0]
      split
      · rfl
      · rw [UInt8.and_zero]
    · rw [if_neg h8, if_pos (by omega)]
theorem keep_bit {d : List UInt8} {n i : Nat} (hd : d.length = 32) (hi : i < 256) : (keep d n).getD (i / 8) 0 &&& bitR (i % 8) = if i < n then d.getD (i / 8) 0 &&& bitR (i % 8) else 0 := by
  have h := keep_get d n (i / 8) (by omega)
  rw [List.getD_eq_getElem?_getD, h, Option.getD_some, keepB_bit _ _ (Nat.mod_lt _ (by decide))]
  by_cases h1 : i < n
  · rw [if_pos h1, if_pos (by omega)]
  · rw [if_neg h1, if_neg (by omega)]
theorem bitsN_lt {x : Int} {i : Nat} (h : i < 256) : i < bitsN x ↔ (i : Int) < x := by unfold bitsN; omega
theorem and_u8 (a b : UInt8) : bits .and .u8 (a.toNat : Int) (b.toNat : Int) = ((a &&& b).toNat : Int) := by
  rw [u8_and_nat _ _ a.toNat_lt b.toNat_lt, UInt8.toNat_and]

set_option maxHeartbeats 4000000 in
set_option maxRecDepth 100000 in
theorem sumKept_walk (A : Option Addr) (n c : Nat) (xs : List UInt8) (x y : Int) (w : World) (hr : Rd w A n c 1 (bvs xs)) (hc : c ≤ 140737488351232)
    (hx : -9223372036854775808 ≤ x ∧ x ≤ 9223372036854775807) (hy : -9223372036854775808 ≤ y ∧ y ≤ 9223372036854775807) :
    Calls Try.prog 6 #[.slice A n c, .int .i64 x, .int .i64 y] w fun e w' => e = .returned (.bool true) ∧ Below w.heap.size w w' := by
  have HR := Lib.hid hr
  have HN : Hid (n ≤ 200000000000000) := Lib.hid (Nat.le_trans hr.nc (Nat.le_trans hc (by decide)))
  have HX := Lib.hid hx
  have HY := Lib.hid hy
  clear hr hc hx hy
  go_enter Try.func6, Try.ntmps6
  go_wp2_with fail
  refine (shown_any _).mono ?_
  rintro e w1 ⟨rfl, hb1⟩
  have HB1 := Lib.hid hb1
  clear hb1
  go_upto_if 19 with (fail)
  go_cut [1, 2] (fun u v wd => ∃ l m : Int, u = .int .i64 l ∧ v = .int .i64 m ∧ l ≤ m ∧ Hid (-9223372036854775808 ≤ l ∧ l ≤ 9223372036854775807) ∧ Hid (-9223372036854775808 ≤ m ∧ m ≤ 9223372036854775807) ∧ Hid (wd = w1))
  case first =>
    by_cases h : y < x
    · go_wp2_with fail
      go_meet
      case rel => exact ⟨y, x, rfl, rfl, by omega, HY, HX, rfl⟩
    · go_wp2_with fail
      go_meet
      case rel => exact ⟨x, y, rfl, rfl, by omega, HX, HY, rfl⟩
  case rest =>
    obtain ⟨l, m, rfl, rfl, hlm, HL, HM, HW⟩ := hcut
    obtain rfl := HW.out
    obtain ⟨d, hd⟩ : ∃ d, d = S.sha xs := ⟨_, rfl⟩
    have HDL : Hid (d.length = 32) := Lib.hid (by rw [hd]; rfl)
    have HD := Lib.hid hd
    clear hd
    go_wp2_with fail
    refine (kept_any A n c xs l _ (HR.out.below HB1.out (Nat.le_refl _)) HN.out HL.out).mono ?_
    rintro e w2 ⟨rfl, hb2⟩
    rw [← HD.out]
    have HB2 := Lib.hid (ExtW.trans HB1.out hb2)
    have HS1 : Hid ((bvs (keep d (bitsN l))).toArray.size = 32) := Lib.hid (dg_size (by rw [keep_len, HDL.out]))
    clear hb2
    unfold dgV
    go_upto_region 5 with (first
      | (refine wpList_runW rfl rfl ?_; refine ⟨.pointer (some ⟨w2.heap.size, 0, none⟩), w2.alloc (.cells zDig 25), by kernel_rfl, ?_⟩)
      | (refine wpList_st rfl rfl ?_; refine ⟨w2.heap.size, _, _, _, rfl, rfl, zDig_row w2, by rw [HS1.out]; kernel_rfl, Eq.trans (show (bvs (List.replicate 32 0)).toArray.size = 32 from rfl) HS1.out.symm, dg_one _, ?_⟩))
    have HX3 : Hid (Row ((w2.alloc (.cells zDig 25)).setRow w2.heap.size (bvs (keep d (bitsN l))).toArray) w2.heap.size 25 (bvs (keep d (bitsN l)))) := Lib.hid ((zDig_row w2).setRow _)
    have HB3 : Hid (ExtW w ((w2.alloc (.cells zDig 25)).setRow w2.heap.size (bvs (keep d (bitsN l))).toArray)) := Lib.hid (ExtW.trans HB2.out (below_setRow ((Below.refl _ _).alloc (Nat.le_refl _) _) (Nat.le_refl _) _))
    generalize (w2.alloc (.cells zDig 25)).setRow w2.heap.size (bvs (keep d (bitsN l))).toArray = w3 at HX3 HB3 ⊢
    obtain ⟨gx, hgx⟩ : ∃ g, g = w2.heap.size := ⟨_, rfl⟩
    rw [← hgx] at HX3 ⊢
    clear hgx
    go_wp2_with fail
    refine (kept_any A n c xs m _ (HR.out.below HB3.out (Nat.le_refl _)) HN.out HM.out).mono ?_
    rintro e w4 ⟨rfl, hb4⟩
    rw [← HD.out]
    have HB4 := Lib.hid (ExtW.trans HB3.out hb4)
    have HX4 := Lib.hid (HX3.out.ext hb4)
    have HS2 : Hid ((bvs (keep d (bitsN m))).toArray.size = 32) := Lib.hid (dg_size (by rw [keep_len, HDL.out]))
    clear hb4
    unfold dgV
    go_upto_region 6 with (first
      | (refine wpList_runW rfl rfl ?_; refine ⟨.pointer (some ⟨w4.heap.size, 0, none⟩), w4.alloc (.cells zDig 25), by kernel_rfl, ?_⟩)
      | (refine wpList_st rfl rfl ?_; refine ⟨w4.heap.size, _, _, _, rfl, rfl, zDig_row w4, by rw [HS2.out]; kernel_rfl, Eq.trans (show (bvs (List.replicate 32 0)).toArray.size = 32 from rfl) HS2.out.symm, dg_one _, ?_⟩))
    have HY5 : Hid (Row ((w4.alloc (.cells zDig 25)).setRow w4.heap.size (bvs (keep d (bitsN m))).toArray) w4.heap.size 25 (bvs (keep d (bitsN m)))) := Lib.hid ((zDig_row w4).setRow _)
    have HE5 : Hid (ExtW w4 ((w4.alloc (.cells zDig 25)).setRow w4.heap.size (bvs (keep d (bitsN m))).toArray)) := Lib.hid (below_setRow ((Below.refl _ _).alloc (Nat.le_refl _) _) (Nat.le_refl _) _)
    generalize (w4.alloc (.cells zDig 25)).setRow w4.heap.size (bvs (keep d (bitsN m))).toArray = w5 at HY5 HE5 ⊢
    obtain ⟨gy, hgy⟩ : ∃ g, g = w4.heap.size := ⟨_, rfl⟩
    rw [← hgy] at HY5 ⊢
    clear hgy
    have HX5 := Lib.hid (HX4.out.ext HE5.out)
    have HB5 := Lib.hid (ExtW.trans HB4.out HE5.out)
    go_wp2_with fail
    refine (of_any A n c xs _ (HR.out.below HB5.out (Nat.le_refl _)) HN.out).mono ?_
    rintro e w6 ⟨rfl, hb6⟩
    rw [← HD.out]
    have HB6 := Lib.hid (ExtW.trans HB5.out hb6)
    have HX6 := Lib.hid (HX5.out.ext hb6)
    have HY6 := Lib.hid (HY5.out.ext hb6)
    have HS3 : Hid ((bvs d).toArray.size = 32) := Lib.hid (dg_size HDL.out)
    clear hb6
    unfold dgV
    go_upto_region 7 with (first
      | (refine wpList_runW rfl rfl ?_; refine ⟨.pointer (some ⟨w6.heap.size, 0, none⟩), w6.alloc (.cells zDig 25), by kernel_rfl, ?_⟩)
      | (refine wpList_st rfl rfl ?_; refine ⟨w6.heap.size, _, _, _, rfl, rfl, zDig_row w6, by rw [HS3.out]; kernel_rfl, Eq.trans (show (bvs (List.replicate 32 0)).toArray.size = 32 from rfl) HS3.out.symm, dg_one _, ?_⟩))
    have HD7 : Hid (Row ((w6.alloc (.cells zDig 25)).setRow w6.heap.size (bvs d).toArray) w6.heap.size 25 (bvs d)) := Lib.hid ((zDig_row w6).setRow _)
    have HE7 : Hid (ExtW w6 ((w6.alloc (.cells zDig 25)).setRow w6.heap.size (bvs d).toArray)) := Lib.hid (below_setRow ((Below.refl _ _).alloc (Nat.le_refl _) _) (Nat.le_refl _) _)
    generalize (w6.alloc (.cells zDig 25)).setRow w6.heap.size (bvs d).toArray = w7 at HD7 HE7 ⊢
    obtain ⟨gd, hgd⟩ : ∃ g, g = w6.heap.size := ⟨_, rfl⟩
    rw [← hgd] at HD7 ⊢
    clear hgd
    have HX7 := Lib.hid (HX6.out.ext HE7.out)
    have HY7 := Lib.hid (HY6.out.ext HE7.out)
    have HB7 := Lib.hid (ExtW.trans HB6.out HE7.out)
    clear HX3 HX4 HX5 HX6 HY5 HY6 HB1 HB2 HB3 HB4 HB5 HB6 HE5 HE7 HS1 HS2 HS3
    go_wp2_with fail
    go_loopw [11] (fun i wr => ∃ t : Nat, i = .int .i64 t ∧ t ≤ 256 ∧ Hid (wr = w7)) (fun i _ => 256 - (intOf i).toNat)
    case atStart => exact ⟨0, rfl, Nat.zero_le _, rfl⟩
    case round =>
      obtain ⟨t, rfl, ht, HW⟩ := hrel
      obtain rfl := HW.out
      by_cases hlt : t < 256
      · have hti : (t : Int) < 256 := by omega
        obtain ⟨q, hq⟩ : ∃ q, q = t / 8 := ⟨_, rfl⟩
        obtain ⟨r, hrr⟩ : ∃ r, r = t % 8 := ⟨_, rfl⟩
        have hqi : (t : Int) / 8 = (q : Int) := by omega
        have hq32 : (q : Int) < 32 := by omega
        have hq32n : q < 32 := by omega
        have hand := i64_and7 t hlt
        rw [← hrr] at hand
        have hr8 : r < 8 := by omega
        have hrow : ∀ (e : List UInt8), e.length = 32 → (bvs e)[q]? = some (.int .u8 ((e.getD q 0).toNat : Int)) := fun e he => by rw [bvs_get e q (by omega), getD_at]
        have cx := HX7.out.cell (hrow _ (by rw [keep_len, HDL.out]))
        have cy := HY7.out.cell (hrow _ (by rw [keep_len, HDL.out]))
        have cd := HD7.out.cell (hrow _ HDL.out)
        obtain ⟨bx, hbx⟩ : ∃ b, b = (keep d (bitsN l)).getD q 0 := ⟨_, rfl⟩
        obtain ⟨by', hby⟩ : ∃ b, b = (keep d (bitsN m)).getD q 0 := ⟨_, rfl⟩
        obtain ⟨bd, hbd⟩ : ∃ b, b = d.getD q 0 := ⟨_, rfl⟩
        have k1 := keep_bit (n := bitsN l) HDL.out hlt
        have k2 := keep_bit (n := bitsN m) HDL.out hlt
        rw [← hq, ← hrr, ← hbx, ← hbd] at k1
        rw [← hq, ← hrr, ← hby, ← hbd] at k2
        rw [← hbx] at cx
        rw [← hby] at cy
        rw [← hbd] at cd
        clear hrow hq hrr hbx hby hbd
        have K1 := Lib.hid k1
        have K2 := Lib.hid k2
        clear k1 k2
        go_upto_region 14 with (fail)
        have h128 : (128 : Int) / 2 ^ r = ((bitR r).toNat : Int) := by
          rcases (by omega : r = 0 ∨ r = 1 ∨ r = 2 ∨ r = 3 ∨ r = 4 ∨ r = 5 ∨ r = 6 ∨ r = 7) with rfl | rfl | rfl | rfl | rfl | rfl | rfl | rfl <;> rfl
        rw [h128, and_u8, and_u8, and_u8, K1.out, K2.out]
        clear h128
        obtain ⟨eo, heo⟩ : ∃ e, e = bd &&& bitR r := ⟨_, rfl⟩
        rw [← heo]
        obtain ⟨bt, hbt⟩ : ∃ e, e = (bitR r).toNat := ⟨_, rfl⟩
        rw [← hbt]
        clear heo hbt K1 K2
        by_cases h1 : (t : Int) < l
        · have h2 : (t : Int) < m := by omega
          rw [if_pos ((bitsN_lt hlt).2 h1), if_pos ((bitsN_lt hlt).2 h2)]
          clear hand hq32 hqi cx cy cd hr8 hq32n
          go_wp2_with fail
          go_roundw
          case rel => exact ⟨t + 1, by simp, hlt, Lib.hid trivial⟩
          case measure => simp [intOf]; omega
        · by_cases h2 : (t : Int) < m
          · rw [if_neg (fun h => h1 ((bitsN_lt hlt).1 h)), if_pos ((bitsN_lt hlt).2 h2)]
            clear hand hq32 hqi cx cy cd hr8 hq32n
            go_wp2_with fail
            go_roundw
            case rel => exact ⟨t + 1, by simp, hlt, Lib.hid trivial⟩
            case measure => simp [intOf]; omega
          · rw [if_neg (fun h => h1 ((bitsN_lt hlt).1 h)), if_neg (fun h => h2 ((bitsN_lt hlt).1 h))]
            clear hand hq32 hqi cx cy cd hr8 hq32n
            go_wp2_with fail
            go_roundw
            case rel => exact ⟨t + 1, by simp, hlt, Lib.hid trivial⟩
            case measure => simp [intOf]; omega
      · obtain rfl : t = 256 := by omega
        have hti : ¬ ((256 : Nat) : Int) < 256 := by omega
        go_wp2
        go_ret
        exact ⟨rfl, HB7.out⟩
end Go.Proofs.Ytoibhplpbiamfaa
