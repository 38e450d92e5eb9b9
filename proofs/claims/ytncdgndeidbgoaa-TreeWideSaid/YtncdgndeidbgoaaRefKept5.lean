/- Walk of the document's Kept. -/
import Derived.Test.YtncdgndeidbgoaaRefOf5
import Derived.Test.YtncdgndeidbgoaaKeptP
namespace Go.Proofs.Ytncdgndeidbgoaa
open Go.RowKit

/-- a byte of which the bits from m on are cleared as far as r -/
def pB (b : UInt8) (m : Nat) : Nat → UInt8
  | 0 => b
  | r + 1 => if m ≤ r then pB b m r &&& ~~~bitR r else pB b m r
theorem pB_all (b : UInt8) (m : Nat) : pB b m 8 = keepB b m := by
  by_cases h : m < 8
  · have key : ∀ (x : Fin 256) (m : Fin 8), pB (UInt8.ofNat x.1) m.1 8 = keepB (UInt8.ofNat x.1) m.1 := by decide +kernel
    have := key ⟨b.toNat, b.toNat_lt⟩ ⟨m, h⟩
    simpa using this
  · unfold keepB
    rw [if_neg (by omega), if_neg (by omega)]
    simp only [pB]
    repeat rw [if_neg (by omega)]
def pL (d : List UInt8) (n t : Nat) : List UInt8 := (List.range 32).map fun j => pB (d.getD j 0) (n - 8 * j) (min 8 (t - 8 * j))
def pV (d : List UInt8) (n t : Nat) : List Value := bvs (pL d n t)
theorem pL_get (d : List UInt8) (n t : Nat) {j : Nat} (h : j < 32) : (pL d n t)[j]? = some (pB (d.getD j 0) (n - 8 * j) (min 8 (t - 8 * j))) := by
  unfold pL; rw [List.getElem?_map, List.getElem?_range h]; rfl
theorem pL_len (d : List UInt8) (n t : Nat) : (pL d n t).length = 32 := by simp [pL]
theorem pL_zero {d : List UInt8} (n : Nat) (hd : d.length = 32) : pL d n 0 = d := by
  apply List.ext_getElem?
  intro j
  by_cases h : j < 32
  · rw [pL_get d n 0 h, Nat.zero_sub, Nat.min_zero, List.getD_eq_getElem?_getD, List.getElem?_eq_getElem (by omega)]
    rfl
  · rw [List.getElem?_eq_none (by rw [pL_len]; omega), List.getElem?_eq_none (by omega)]
theorem pL_all {d : List UInt8} (n : Nat) (hd : d.length = 32) : pL d n 256 = keep d n := by
  apply List.ext_getElem?
  intro j
  by_cases h : j < 32
  · rw [pL_get d n 256 h, keep_get d n j (by omega), Nat.min_eq_left (by omega), pB_all]
  · rw [List.getElem?_eq_none (by rw [pL_len]; omega), List.getElem?_eq_none (by rw [keep_len]; omega)]
theorem pV_at (d : List UInt8) (n : Nat) {t q r : Nat} (ht : t = 8 * q + r) (hr : r < 8) (hq : q < 32) : (pV d n t)[q]? = some (.int .u8 ((pB (d.getD q 0) (n - 8 * q) r).toNat : Int)) := by
  unfold pV
  rw [bvs, List.getElem?_map, pL_get d n t hq, show min 8 (t - 8 * q) = r by omega]
  rfl
theorem pL_set (d : List UInt8) (n : Nat) {t q r : Nat} (ht : t = 8 * q + r) (hr : r < 8) (hq : q < 32) : (pL d n t).set q (pB (d.getD q 0) (n - 8 * q) (r + 1)) = pL d n (t + 1) := by
  apply List.ext_getElem?
  intro j
  rw [List.getElem?_set]
  by_cases hj : j < 32
  · rw [pL_get d n (t + 1) hj]
    split
    · rename_i e
      subst e
      rw [if_pos (by rw [pL_len]; exact hj), show min 8 (t + 1 - 8 * q) = r + 1 by omega]
    · rename_i e
      rw [pL_get d n t hj]
      congr 2
      omega
  · rw [if_neg (by omega), List.getElem?_eq_none (by rw [pL_len]; omega), List.getElem?_eq_none (by rw [pL_len]; omega)]
theorem pV_set (d : List UInt8) (n : Nat) {t q r : Nat} (ht : t = 8 * q + r) (hr : r < 8) (hq : q < 32) : (pV d n t).set q (.int .u8 ((pB (d.getD q 0) (n - 8 * q) (r + 1)).toNat : Int)) = pV d n (t + 1) := by
  unfold pV
  rw [← pL_set d n ht hr hq, bvs, bvs, List.map_set]
theorem pV_same (d : List UInt8) (n : Nat) {t q r : Nat} (ht : t = 8 * q + r) (hr : r < 8) (hq : q < 32) (h : t < n) : pV d n t = pV d n (t + 1) := by
  unfold pV
  rw [← pL_set d n ht hr hq]
  have e : pB (d.getD q 0) (n - 8 * q) (r + 1) = pB (d.getD q 0) (n - 8 * q) r := by simp only [pB]; rw [if_neg (by omega)]
  rw [e]
  congr 1
  have hg : (pL d n t)[q]? = some (pB (d.getD q 0) (n - 8 * q) r) := by rw [pL_get d n t hq, show min 8 (t - 8 * q) = r by omega]
  apply List.ext_getElem?
  intro j
  rw [List.getElem?_set]
  split
  · rename_i e
    subst e
    rw [hg, if_pos (by rw [pL_len]; exact hq)]
  · rfl
theorem andNot_u8 (a b : UInt8) : (a &&& ~~~b).toNat = a.toNat &&& 255 - b.toNat := by
  rw [UInt8.toNat_and, UInt8.toNat_not]; rfl

set_option maxHeartbeats 4000000 in
set_option maxRecDepth 100000 in
theorem refKept_any (str : ByteArray) (x : Int) (w : World) (hn : str.size ≤ 1000000000) (_hx : -9223372036854775808 ≤ x ∧ x ≤ 9223372036854775807) :
    Calls Try.prog 42 #[.string str, .int .i64 x] w fun e w' => e = .returned (dgV (keep (S.sha str.data.toList) (bitsN x))) ∧ ExtW w w' := by
  obtain ⟨n, hn2⟩ : ∃ n, n = bitsN x := ⟨_, rfl⟩
  have HBN : Hid (∀ i : Nat, i < 256 → (i < n ↔ (i : Int) < x)) := Lib.hid fun i hi => by rw [hn2]; exact bitsN_lt hi
  obtain ⟨d, hd⟩ : ∃ d, d = S.sha str.data.toList := ⟨_, rfl⟩
  have hdl : d.length = 32 := by rw [hd]; rfl
  have HD := Lib.hid hd
  have HDL := Lib.hid hdl
  rw [← hn2, ← hd]
  have HE1 : Hid (ExtW w (w.alloc (.cells zDig 24))) := Lib.hid ((Below.refl _ _).alloc (Nat.le_refl _) _)
  have HD1 := Lib.hid (zDig_row w)
  have HSC : Hid ((bvs d).toArray.size = 32) := Lib.hid (dg_size hdl)
  have HN := Lib.hid hn
  clear hn2 hd hdl hn
  go_enter Try.func42, Try.ntmps42
  go_upto_region 1 with (refine wpList_runW rfl rfl ?_; refine ⟨.pointer (some ⟨w.heap.size, 0, none⟩), w.alloc (.cells zDig 24), by kernel_rfl, ?_⟩)
  generalize w.alloc (.cells zDig 24) = w1 at HE1 HD1 ⊢
  go_wp2_with fail
  refine (refOf_any str _ HN.out).mono ?_
  rintro e w2 ⟨rfl, hb2⟩
  rw [← HD.out]
  have HB2 := Lib.hid hb2
  have HD2 := Lib.hid (HD1.out.ext hb2)
  clear hb2
  unfold dgV
  go_upto_region 2 with (first
    | (refine wpList_runW rfl rfl ?_; refine ⟨.pointer (some ⟨w2.heap.size, 0, none⟩), w2.alloc (.cells zDig 24), by kernel_rfl, ?_⟩)
    | (refine wpList_st rfl rfl ?_; refine ⟨w2.heap.size, _, _, _, rfl, rfl, zDig_row w2, by rw [HSC.out]; kernel_rfl, Eq.trans (show (bvs (List.replicate 32 0)).toArray.size = 32 from rfl) HSC.out.symm, dg_one _, ?_⟩))
  have HY0 : Hid (Row ((w2.alloc (.cells zDig 24)).setRow w2.heap.size (bvs d).toArray) w2.heap.size 24 (pV d n 0)) := Lib.hid (by unfold pV; rw [pL_zero n HDL.out]; exact (zDig_row w2).setRow (bvs d))
  have HE3 : Hid (ExtW w2 ((w2.alloc (.cells zDig 24)).setRow w2.heap.size (bvs d).toArray)) := Lib.hid (below_setRow ((Below.refl _ _).alloc (Nat.le_refl _) _) (Nat.le_refl _) _)
  generalize (w2.alloc (.cells zDig 24)).setRow w2.heap.size (bvs d).toArray = w3 at HY0 HE3 ⊢
  obtain ⟨y, hy⟩ : ∃ y, y = w2.heap.size := ⟨_, rfl⟩
  rw [← hy] at HY0 ⊢
  have HYY := Lib.hid hy
  clear hy
  go_wp2_with fail
  go_loopw [6] (fun i wr => ∃ t : Nat, i = .int .i64 t ∧ t ≤ 256 ∧ Hid (Row wr y 24 (pV d n t)) ∧ Hid (Below y w3 wr)) (fun i _ => 256 - (intOf i).toNat)
  case atStart => exact ⟨0, rfl, Nat.zero_le _, HY0, Lib.hid (Below.refl _ _)⟩
  case round =>
    obtain ⟨t, rfl, ht, HY, HB⟩ := hrel
    by_cases hlt : t < 256
    · have hti : (t : Int) < 256 := by omega
      obtain ⟨q, hq⟩ : ∃ q, q = t / 8 := ⟨_, rfl⟩
      obtain ⟨r, hrr⟩ : ∃ r, r = t % 8 := ⟨_, rfl⟩
      have hr8 : r < 8 := by omega
      have hq32 : q < 32 := by omega
      have htq : t = 8 * q + r := by omega
      by_cases hnt : t < n
      · have hgei : ¬ x ≤ (t : Int) := by have := (HBN.out t hlt).1 hnt; omega
        have HST := Lib.hid (pV_same d n htq hr8 hq32 hnt)
        clear hq hrr htq
        go_wp2_with fail
        go_roundw
        case rel =>
          refine ⟨t + 1, by simp, hlt, Lib.hid ?_, HB⟩
          rw [← HST.out]
          exact HY.out
        case measure => simp [intOf]; omega
      · have hgei : x ≤ (t : Int) := by
          rcases Int.lt_or_le (t : Int) x with h | h
          · exact absurd ((HBN.out t hlt).2 h) hnt
          · exact h
        have hqi : (t : Int) / 8 = (q : Int) := by omega
        have hri : (t : Int) % 8 = (r : Int) := by omega
        have hqi32 : (q : Int) < 32 := by omega
        have HST := Lib.hid (pV_set d n htq hr8 hq32)
        obtain ⟨b, hb⟩ : ∃ b, b = pB (d.getD q 0) (n - 8 * q) r := ⟨_, rfl⟩
        have cb := HY.out.cell (pV_at d n htq hr8 hq32)
        rw [← hb] at cb
        have hpb : pB (d.getD q 0) (n - 8 * q) (r + 1) = b &&& ~~~bitR r := by
          simp only [pB]
          rw [if_pos (by omega), ← hb]
        rw [hpb, andNot_u8] at HST
        have hfz := HY.out.frozen q
        have h128 : (128 : Int) / 2 ^ r = ((bitR r).toNat : Int) := by
          rcases (by omega : r = 0 ∨ r = 1 ∨ r = 2 ∨ r = 3 ∨ r = 4 ∨ r = 5 ∨ r = 6 ∨ r = 7) with rfl | rfl | rfl | rfl | rfl | rfl | rfl | rfl <;> rfl
        clear hq hrr htq hb hpb
        go_wp2_with fail
        go_roundw
        case rel =>
          refine ⟨t + 1, by simp, hlt, Lib.hid ?_, Lib.hid (HB.out.setCell (p := ⟨y, q, none⟩) (Nat.le_refl _) _)⟩
          rw [← HST.out, u8_andNot_nat _ _ b.toNat_lt (bitR r).toNat_lt]
          exact HY.out.set q _
        case measure => simp [intOf]; omega
    · obtain rfl : t = 256 := by omega
      have hti : ¬ ((256 : Nat) : Int) < 256 := by omega
      have hkl : (keep d n).length = 32 := by rw [keep_len, HDL.out]
      have HY2 : Hid (Row wr y 24 (bvs (keep d n))) := Lib.hid (by have h := HY.out; unfold pV at h; rw [pL_all n HDL.out] at h; exact h)
      have HKS : Hid ((bvs (keep d n)).toArray.size = 32) := Lib.hid (dg_size hkl)
      have HD4 : Hid (Row wr w.heap.size 24 (bvs (List.replicate 32 0))) := Lib.hid (by
        have h3 := HD2.out.ext HE3.out
        have h4 : w.heap.size < y := by rw [HYY.out]; exact HD2.out.lt
        exact (HB.out.block _ h4).trans h3)
      clear hkl
      go_wp2_with (first
        | (refine wpList_ld rfl rfl ?_; refine ⟨y, _, _, _, rfl, HY2.out, Try.underlying24, rfl, by rw [HKS.out]; kernel_rfl, ?_⟩)
        | (refine wpList_st rfl rfl ?_; refine ⟨w.heap.size, _, _, _, rfl, rfl, HD4.out, by rw [HKS.out]; kernel_rfl, Eq.trans (show (bvs (List.replicate 32 0)).toArray.size = 32 from rfl) HKS.out.symm, dg_one _, ?_⟩))
      (try simp only [Exit.inBlock, Exit.then])
      have HFB : Hid (ExtW w (wr.setRow w.heap.size (bvs (keep d n)).toArray)) := Lib.hid (below_setRow (Below.trans (ExtW.trans HE1.out (ExtW.trans HB2.out HE3.out)) (HB.out.mono (by rw [HYY.out]; exact (ExtW.trans HE1.out HB2.out).size))) (Nat.le_refl _) _)
      refine bodyPost_ret (v := dgV (keep d n)) ?_ rfl ⟨rfl, HFB.out⟩
      have h := run_loadVar_row (P := Try.prog) (wr.setRow w.heap.size (bvs (keep d n)).toArray) w.heap.size 24 24 (bvs (keep d n)).toArray (0, 0) _ (Row.setRow HD4.out (bvs (keep d n))) Try.underlying24 rfl (by rw [HKS.out]; kernel_rfl)
      simpa [results, Try.f42, Act.put, asAddr, dgV] using h
end Go.Proofs.Ytncdgndeidbgoaa
