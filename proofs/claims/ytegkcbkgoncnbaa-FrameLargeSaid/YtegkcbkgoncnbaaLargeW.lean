/- Walk of FrameLarge. -/
import Derived.Test.YtegkcbkgoncnbaaShown8
namespace Go.Proofs.Ytegkcbkgoncnbaa
open Go.RowKit

theorem i64_and3 (n : Int) : bits .and .i64 n 3 = n % 4 := by
  have h3 : (BitVec.ofInt 64 3).toNat = 2 ^ 2 - 1 := by decide
  have key : (BitVec.ofInt 64 n &&& BitVec.ofInt 64 3).toNat = (n % ((2 ^ 64 : Nat) : Int)).toNat % 2 ^ 2 := by
    rw [BitVec.toNat_and, BitVec.toNat_ofInt, h3, Nat.and_two_pow_sub_one_eq_mod]
  show IntKind.i64.wrap ((BitVec.ofInt 64 n &&& BitVec.ofInt 64 3).toNat : Nat) = n % 4
  rw [key, IntKind.wrap_i64]
  omega

theorem nextF_long : nextF [0, 1, 0, 1] = ([], 0, 2) := by decide +kernel

set_option maxHeartbeats 4000000 in
set_option maxRecDepth 100000 in
theorem frameLarge_walk (x : Int) (f : Nat) (w : World) (_hx : -9223372036854775808 ≤ x ∧ x ≤ 9223372036854775807) (hf : f < 256) :
    Calls Try.prog 7 #[.int .i64 x, .int .u8 f] w fun e w' => e = .returned (.bool true) ∧ Below w.heap.size w w' := by
  obtain ⟨i0, hi, hz0, hz1, hz2⟩ := info_parts infoB
  have HS := Lib.hid fun w => shown_any w
  obtain ⟨s, hs⟩ : ∃ s : Nat, s = 65534 + (x % 4).toNat := ⟨_, rfl⟩
  have hs1 : 65534 ≤ s := by omega
  have hs2 : s ≤ 65537 := by omega
  have hbits := i64_and3 x
  have hsum : IntKind.i64.wrap (65534 + x % 4) = (s : Int) := by rw [IntKind.wrap_i64]; omega
  clear hs
  go_enter Try.func7, Try.ntmps7
  go_wp2_with fail
  refine (HS.out _).mono ?_
  rintro e w1 ⟨rfl, hb1⟩
  obtain ⟨w2, hmk, hown, hgr⟩ := run_make_full (P := Try.prog) w1 w1.heap.size 22 5 i0 (.int .u8 0) 1 Try.underlying22 hi hz0 hz1 .i64 .i64 s (by rw [hz2]; omega) (by simp [maxLen]; omega) (Nat.le_refl _)
  have hb2 : Below w.heap.size w w2 := hb1.grown hgr hb1.size (fun k e => by cases e)
  have hmc : (madeCells (Value.int .u8 0).cells (s * 1)).toList = List.replicate s (.int .u8 0) := List.ext_getElem (by simp [madeCells]) fun i h1 h2 => by simp [madeCells, Value.cells, Nat.mod_one]
  rw [hmc] at hown
  obtain ⟨g, hg⟩ : ∃ g, g = w1.heap.size := ⟨_, rfl⟩
  rw [← hg] at hmk hown
  have HG : Hid (w.heap.size ≤ g) := Lib.hid (by rw [hg]; exact hb1.size)
  have HB2 := Lib.hid hb2
  have HO := Lib.hid hown
  clear hb1 hb2 hown hgr hmc hg
  go_wp2_with fail
  clear hmk hbits hsum
  go_loopw [8] (fun i wr => ∃ (k : Nat) (ys : List Value), i = .int .i64 k ∧ k ≤ s ∧ Hid (wr.ownsRow g 5 1 (.slice (some ⟨g, 0, none⟩) s s) s ys) ∧ Hid (∀ j, j < k → ys[j]? = some (.int .u8 f)) ∧ Hid (Below w.heap.size w wr)) (fun i _ => s - (intOf i).toNat)
  case atStart => exact ⟨0, _, rfl, by omega, HO, Lib.hid (fun j hj => by omega), HB2⟩
  case round =>
    clear HO
    obtain ⟨k, ys, rfl, hk, HA, HY, HL⟩ := hrel
    by_cases hlt : k < s
    · have hki : (k : Int) < (s : Int) := by omega
      have hcell : ∃ u, wr.cell? ⟨g, k, none⟩ = some u := by
        have h1 := HA.out.cellAt k (by omega)
        have h2 := HA.out.1
        rw [List.getElem?_eq_getElem (by omega)] at h1
        exact ⟨_, h1⟩
      obtain ⟨u, hcell⟩ := hcell
      have hfr := HA.out.frozenAt k
      have HST := Lib.hid (HA.out.stored k (.int .u8 f))
      go_wp2
      go_roundw
      case rel =>
        refine ⟨k + 1, ys.set k (.int .u8 f), by simp, by omega, Lib.hid HST.out.1, Lib.hid fun j hj => ?_, Lib.hid (HL.out.setCell (p := ⟨g, k, none⟩) HG.out _)⟩
        have hyl : ys.length = s := by have := HA.out.1; omega
        rw [List.getElem?_set]
        split
        · rw [if_pos (by omega)]
        · exact HY.out j (by omega)
      case measure => simp [intOf]; omega
    · obtain rfl : k = s := by omega
      have hki : ¬ (k : Int) < (k : Int) := by omega
      obtain ⟨zs, hzs⟩ : ∃ zs : List UInt8, ys = bvs zs := by
        refine ⟨List.replicate k (UInt8.ofNat f), ?_⟩
        have hyl : ys.length = k := by have := HA.out.1; omega
        apply List.ext_getElem? fun j => ?_
        by_cases hj : j < k
        · rw [HY.out j hj]
          simp [bvs, hj]
          omega
        · rw [List.getElem?_eq_none (by omega), List.getElem?_eq_none (by simp [bvs]; omega)]
      subst hzs
      obtain ⟨A', c', hv, hrd, _⟩ := own_rd HA.out
      cases hv
      have hzl : zs.length = k := by have := hrd.len; rw [bvs_len] at this; omega
      have HZL := Lib.hid hzl
      have HRD := Lib.hid hrd
      clear HA HY hrd hzl
      by_cases hbig : 65536 < k
      · have hbi : (65536 : Int) < (k : Int) := by omega
        go_wp2_with fail
        refine (framePut_large none 0 0 (some ⟨g, 0, none⟩) k k _ hbig).mono ?_
        rintro e w' ⟨rfl, rfl⟩
        go_wp2
        go_ret
        exact ⟨rfl, HL.out⟩
      · have hbi : ¬ (65536 : Int) < (k : Int) := by omega
        go_wp2_with fail
        refine (framePut_any none 0 0 [] (some ⟨g, 0, none⟩) k k zs _ (Rd.nil _ 1) HRD.out (by omega) (by omega)).mono ?_
        rintro e w4 ⟨r, rfl, hown, hb⟩
        have HB4 := Lib.hid (HL.out.trans (hb.mono HL.out.size))
        have HRD4 := Lib.hid (HRD.out.below hb (Nat.le_refl _))
        rw [Nat.zero_add, List.nil_append] at hown
        obtain ⟨A5, c5, rfl, hr5, _⟩ := own_rd hown
        have HR5 := Lib.hid hr5
        have HN : Hid (nextF (frameOf zs) = (zs, k + 8, 0)) := Lib.hid (by have := nextF_frame zs [] (by rw [HZL.out]; omega); rwa [List.append_nil, HZL.out] at this)
        clear hown hb hr5
        go_wp2_with fail
        refine (next_any A5 (k + 8) c5 (frameOf zs) _ HR5.out (by omega)).mono ?_
        rintro e w5 ⟨r, rfl, hown, hb⟩
        rw [HN.out] at hown ⊢
        have HB5 := Lib.hid (HB4.out.trans (hb.mono HB4.out.size))
        have HRD5 := Lib.hid (HRD4.out.below hb (Nat.le_refl _))
        obtain ⟨A6, c6, rfl, hr6, _⟩ := own_rd hown
        have HR6 := Lib.hid hr6
        clear hown hb hr6
        go_wp2_with fail
        refine (next_any (some ⟨w5.heap.size, 0, none⟩) 4 4 [0, 1, 0, 1] _ (Rd.new w5 [.int .u8 0, .int .u8 1, .int .u8 0, .int .u8 1] 5 1 4 rfl (by simp [maxLen])) (by omega)).mono ?_
        rintro e w6 ⟨r, rfl, hown, hb⟩
        rw [nextF_long] at hown ⊢
        have hbb : Below w5.heap.size w5 w6 := ((Below.refl _ _).alloc (Nat.le_refl _) _).trans (hb.mono (by simp))
        have HB6 := Lib.hid (HB5.out.trans (hbb.mono HB5.out.size))
        have cs1 := conv_str (HRD5.out.below hbb (Nat.le_refl _))
        have cs2 := conv_str (HR6.out.below hbb (Nat.le_refl _))
        have hk8 : ((k : Int) + 8 == IntKind.i64.wrap ((k : Int) + 8)) = true := by rw [IntKind.wrap_i64]; simp; omega
        simp only [HZL.out] at cs2
        clear hown hb hbb
        rw [HZL.out]
        go_wp2
        go_ret
        exact ⟨rfl, HB6.out⟩
end Go.Proofs.Ytegkcbkgoncnbaa
