/- Walk of Kept. -/
import Derived.Test.YthaoibgcgkmnbaaOf
namespace Go.Proofs.Ythaoibgcgkmnbaa
set_option maxRecDepth 100000
open Go.RowKit

/-- a byte of which the first m bits are kept -/
def keepB (b : UInt8) (m : Nat) : UInt8 := if m = 0 then 0 else if m < 8 then b &&& UInt8.ofNat (255 * 2 ^ (8 - m) % 256) else b
/-- the first n bits of some bytes -/
def keep (d : List UInt8) (n : Nat) : List UInt8 := (List.range d.length).map fun i => keepB (d.getD i 0) (n - 8 * i)
theorem keep_len (d : List UInt8) (n : Nat) : (keep d n).length = d.length := by simp [keep]
theorem keep_get (d : List UInt8) (n i : Nat) (h : i < d.length) : (keep d n)[i]? = some (keepB (d.getD i 0) (n - 8 * i)) := by
  unfold keep; rw [List.getElem?_map, List.getElem?_range h]; rfl
/-- the number of bits that are meant -/
def bitsN (x : Int) : Nat := (min (max x 0) 256).toNat
theorem bitsN_le (x : Int) : bitsN x ≤ 256 := by unfold bitsN; omega
theorem keep_and (b : UInt8) (q M : Nat) (h0 : q ≠ 0 ∧ q < 8) (hM : M < 256) (hq : 255 * 2 ^ (8 - q) % 256 = M) : bits .and .u8 (b.toNat : Int) (M : Int) = ((keepB b q).toNat : Int) := by
  rw [u8_and_nat _ _ b.toNat_lt hM]
  unfold keepB
  rw [if_neg h0.1, if_pos h0.2, UInt8.toNat_and, UInt8.toNat_ofNat', hq, Nat.mod_eq_of_lt hM]
/-- half done -/
def keepV (d : List UInt8) (n t : Nat) : List Value := bvs ((keep d n).take t ++ d.drop t)
theorem keepV_len (d : List UInt8) (n : Nat) {t : Nat} (h : t ≤ d.length) : (keepV d n t).length = d.length := by
  unfold keepV; rw [bvs_len, List.length_append, List.length_take, keep_len, List.length_drop]; omega
theorem keepV_at (d : List UInt8) (n : Nat) {t : Nat} (h : t < d.length) : (keepV d n t)[t]? = some (.int .u8 ((d.getD t 0).toNat : Int)) := by
  unfold keepV
  rw [bvs_app, List.getElem?_append_right (by rw [bvs_len, List.length_take, keep_len]; omega), bvs_len, List.length_take, keep_len, Nat.min_eq_left (by omega), Nat.sub_self, bvs_get _ 0 (by rw [List.length_drop]; omega)]
  simp [List.getD_eq_getElem?_getD, List.getElem?_eq_getElem h]
theorem keepV_set (d : List UInt8) (n : Nat) {t : Nat} (h : t < d.length) : (keepV d n t).set t (.int .u8 ((keepB (d.getD t 0) (n - 8 * t)).toNat : Int)) = keepV d n (t + 1) := by
  unfold keepV
  have hl : (bvs ((keep d n).take t)).length = t := by rw [bvs_len, List.length_take, keep_len]; omega
  have hk := keep_get d n t h
  rw [List.take_add_one, hk, bvs_app, bvs_app, List.set_append_right (h := by omega), hl, Nat.sub_self, Option.toList_some, bvs_app, List.append_assoc]
  congr 1
  rw [List.drop_eq_getElem_cons h]
  rfl
theorem keepV_same (d : List UInt8) (n : Nat) {t : Nat} (h : t < d.length) (hm : 8 ≤ n - 8 * t) : keepV d n t = keepV d n (t + 1) := by
  rw [← keepV_set d n h]
  have hb : keepB (d.getD t 0) (n - 8 * t) = d.getD t 0 := by unfold keepB; rw [if_neg (by omega), if_neg (by omega)]
  rw [hb]
  have := keepV_at d n h
  apply List.ext_getElem?
  intro i
  rw [List.getElem?_set]
  split
  · rename_i e
    subst e
    have hl := (List.getElem?_eq_some_iff.1 this).1
    rw [this, if_pos hl]
  · rfl

set_option maxHeartbeats 4000000 in
set_option maxRecDepth 100000 in
theorem kept_any (A : Option Addr) (N c : Nat) (xs : List UInt8) (x : Int) (w : World) (hr : Rd w A N c 1 (bvs xs)) (hn : N ≤ 200000000000000) (hx : -9223372036854775808 ≤ x ∧ x ≤ 9223372036854775807) :
    Calls Try.prog 45 #[.slice A N c, .int .i64 x] w fun e w' => e = .returned (dgV (keep (S.sha xs) (bitsN x))) ∧ ExtW w w' := by
  obtain ⟨n, hn2⟩ : ∃ n, n = bitsN x := ⟨_, rfl⟩
  have hn256 : n ≤ 256 := by rw [hn2]; exact bitsN_le x
  have HNX : Hid (min (max x 0) 256 = (n : Int)) := Lib.hid (by rw [hn2]; unfold bitsN; omega)
  obtain ⟨d, hd⟩ : ∃ d, d = S.sha xs := ⟨_, rfl⟩
  have hdl : d.length = 32 := by rw [hd]; rfl
  have HD := Lib.hid hd
  have HDL := Lib.hid hdl
  rw [← hn2, ← hd]
  have HR := Lib.hid hr
  have HE1 : Hid (ExtW w (w.alloc (.cells zDig 45))) := Lib.hid ((Below.refl _ _).alloc (Nat.le_refl _) _)
  have HD1 := Lib.hid (zDig_row w)
  have HSC : Hid ((bvs d).toArray.size = 32) := Lib.hid (dg_size hdl)
  clear hn2 hd hdl hr
  go_enter Try.func45, Try.ntmps45
  go_upto_region 1 with (refine wpList_runW rfl rfl ?_; refine ⟨.pointer (some ⟨w.heap.size, 0, none⟩), w.alloc (.cells zDig 45), by kernel_rfl, ?_⟩)
  generalize w.alloc (.cells zDig 45) = w1 at HE1 HD1 ⊢
  go_wp2_with fail
  refine (of_any A N c xs _ (HR.out.below HE1.out (Nat.le_refl _)) hn).mono ?_
  rintro e w2 ⟨rfl, hb2⟩
  rw [← HD.out]
  have HB2 := Lib.hid hb2
  have HD2 := Lib.hid (HD1.out.ext hb2)
  clear hb2
  unfold dgV
  go_upto_region 2 with (first
    | (refine wpList_runW rfl rfl ?_; refine ⟨.pointer (some ⟨w2.heap.size, 0, none⟩), w2.alloc (.cells zDig 45), by kernel_rfl, ?_⟩)
    | (refine wpList_st rfl rfl ?_; refine ⟨w2.heap.size, _, _, _, rfl, rfl, zDig_row w2, by rw [HSC.out]; kernel_rfl, Eq.trans (show (bvs (List.replicate 32 0)).toArray.size = 32 from rfl) HSC.out.symm, dg_one _, ?_⟩))
  have HY0 : Hid (Row ((w2.alloc (.cells zDig 45)).setRow w2.heap.size (bvs d).toArray) w2.heap.size 45 (keepV d n 0)) := Lib.hid ((zDig_row w2).setRow (bvs d))
  have HE3 : Hid (ExtW w2 ((w2.alloc (.cells zDig 45)).setRow w2.heap.size (bvs d).toArray)) := Lib.hid (below_setRow ((Below.refl _ _).alloc (Nat.le_refl _) _) (Nat.le_refl _) _)
  generalize (w2.alloc (.cells zDig 45)).setRow w2.heap.size (bvs d).toArray = w3 at HY0 HE3 ⊢
  obtain ⟨y, hy⟩ : ∃ y, y = w2.heap.size := ⟨_, rfl⟩
  rw [← hy] at HY0 ⊢
  have HYY := Lib.hid hy
  clear hy
  go_upto_region 3 with (fail)
  rw [HNX.out]
  go_wp2_with fail
  go_loopw [13] (fun i wr => ∃ t : Nat, i = .int .i64 t ∧ t ≤ 32 ∧ Hid (Row wr y 45 (keepV d n t)) ∧ Hid (Below y w3 wr)) (fun i _ => 32 - (intOf i).toNat)
  case atStart => exact ⟨0, rfl, Nat.zero_le _, HY0, Lib.hid (Below.refl _ _)⟩
  case round =>
    obtain ⟨t, rfl, ht, HY, HB⟩ := hrel
    by_cases hlt : t < 32
    · have hti : (t : Int) < 32 := by omega
      obtain ⟨b, hb⟩ : ∃ b, b = d.getD t 0 := ⟨_, rfl⟩
      have cb := HY.out.cell (keepV_at d n (t := t) (by rw [HDL.out]; exact hlt))
      rw [← hb] at cb
      have HBB := Lib.hid hb
      clear hb
      have fb := HY.out.frozen t
      rcases (by omega : n ≤ 8 * t ∨ n - 8 * t = 1 ∨ n - 8 * t = 2 ∨ n - 8 * t = 3 ∨ n - 8 * t = 4 ∨ n - 8 * t = 5 ∨ n - 8 * t = 6 ∨ n - 8 * t = 7 ∨ 8 ≤ n - 8 * t) with h | h | h | h | h | h | h | h | h
      · have hmi : (n : Int) - 8 * (t : Int) ≤ 0 := by omega
        have hq : n - 8 * t = 0 := by omega
        have HST := Lib.hid (keepV_set d n (t := t) (by rw [HDL.out]; exact hlt))
        rw [hq] at HST
        clear hq
        go_wp2_with fail
        go_roundw
        case rel =>
          refine ⟨t + 1, by simp, hlt, Lib.hid ?_, Lib.hid (HB.out.setCell (p := ⟨y, t, none⟩) (Nat.le_refl _) _)⟩
          rw [← HST.out]
          exact HY.out.set t _
        case measure => simp [intOf]; omega
      · -- devbegin
        have hmi : (n : Int) - 8 * (t : Int) = 1 := by omega
        have hq : n - 8 * t = 1 := by omega
        have HST := Lib.hid (keepV_set d n (t := t) (by rw [HDL.out]; exact hlt))
        rw [hq, ← HBB.out] at HST
        have hand : bits .and .u8 (b.toNat : Int) 128 = ((keepB b 1).toNat : Int) := keep_and b 1 128 (by decide) (by decide) rfl
        have hw : IntKind.i64.wrap 7 = 7 := by rfl
        clear hq
        go_upto_region 10 with (fail)
        go_still_tail 8, (by kernel_rfl)
        change wpList _ _ _ _ _ wr.drew
        have HYD : Hid (Row wr.drew y 45 (keepV d n t)) := Lib.hid HY.out
        have HBD : Hid (Below y w3 wr.drew) := Lib.hid HB.out.drew
        have c1 : wr.drew.cell? ⟨y, t, none⟩ = some (.int .u8 (b.toNat : Int)) := cb
        generalize wr.drew = wd at HYD HBD c1 ⊢
        have f1 := HYD.out.frozen t
        go_wp2_with fail
        go_roundw
        case rel =>
          refine ⟨t + 1, by simp, hlt, Lib.hid ?_, Lib.hid (HBD.out.setCell (p := ⟨y, t, none⟩) (Nat.le_refl _) _)⟩
          rw [← HST.out]
          exact HYD.out.set t _
        case measure => simp [intOf]; omega
        -- devend
      · -- devbegin
        have hmi : (n : Int) - 8 * (t : Int) = 2 := by omega
        have hq : n - 8 * t = 2 := by omega
        have HST := Lib.hid (keepV_set d n (t := t) (by rw [HDL.out]; exact hlt))
        rw [hq, ← HBB.out] at HST
        have hand : bits .and .u8 (b.toNat : Int) 192 = ((keepB b 2).toNat : Int) := keep_and b 2 192 (by decide) (by decide) rfl
        have hw : IntKind.i64.wrap 6 = 6 := by rfl
        clear hq
        go_upto_region 10 with (fail)
        go_still_tail 8, (by kernel_rfl)
        change wpList _ _ _ _ _ wr.drew
        have HYD : Hid (Row wr.drew y 45 (keepV d n t)) := Lib.hid HY.out
        have HBD : Hid (Below y w3 wr.drew) := Lib.hid HB.out.drew
        have c1 : wr.drew.cell? ⟨y, t, none⟩ = some (.int .u8 (b.toNat : Int)) := cb
        generalize wr.drew = wd at HYD HBD c1 ⊢
        have f1 := HYD.out.frozen t
        go_wp2_with fail
        go_roundw
        case rel =>
          refine ⟨t + 1, by simp, hlt, Lib.hid ?_, Lib.hid (HBD.out.setCell (p := ⟨y, t, none⟩) (Nat.le_refl _) _)⟩
          rw [← HST.out]
          exact HYD.out.set t _
        case measure => simp [intOf]; omega
        -- devend
      · -- devbegin
        have hmi : (n : Int) - 8 * (t : Int) = 3 := by omega
        have hq : n - 8 * t = 3 := by omega
        have HST := Lib.hid (keepV_set d n (t := t) (by rw [HDL.out]; exact hlt))
        rw [hq, ← HBB.out] at HST
        have hand : bits .and .u8 (b.toNat : Int) 224 = ((keepB b 3).toNat : Int) := keep_and b 3 224 (by decide) (by decide) rfl
        have hw : IntKind.i64.wrap 5 = 5 := by rfl
        clear hq
        go_upto_region 10 with (fail)
        go_still_tail 8, (by kernel_rfl)
        change wpList _ _ _ _ _ wr.drew
        have HYD : Hid (Row wr.drew y 45 (keepV d n t)) := Lib.hid HY.out
        have HBD : Hid (Below y w3 wr.drew) := Lib.hid HB.out.drew
        have c1 : wr.drew.cell? ⟨y, t, none⟩ = some (.int .u8 (b.toNat : Int)) := cb
        generalize wr.drew = wd at HYD HBD c1 ⊢
        have f1 := HYD.out.frozen t
        go_wp2_with fail
        go_roundw
        case rel =>
          refine ⟨t + 1, by simp, hlt, Lib.hid ?_, Lib.hid (HBD.out.setCell (p := ⟨y, t, none⟩) (Nat.le_refl _) _)⟩
          rw [← HST.out]
          exact HYD.out.set t _
        case measure => simp [intOf]; omega
        -- devend
      · -- devbegin
        have hmi : (n : Int) - 8 * (t : Int) = 4 := by omega
        have hq : n - 8 * t = 4 := by omega
        have HST := Lib.hid (keepV_set d n (t := t) (by rw [HDL.out]; exact hlt))
        rw [hq, ← HBB.out] at HST
        have hand : bits .and .u8 (b.toNat : Int) 240 = ((keepB b 4).toNat : Int) := keep_and b 4 240 (by decide) (by decide) rfl
        have hw : IntKind.i64.wrap 4 = 4 := by rfl
        clear hq
        go_upto_region 10 with (fail)
        go_still_tail 8, (by kernel_rfl)
        change wpList _ _ _ _ _ wr.drew
        have HYD : Hid (Row wr.drew y 45 (keepV d n t)) := Lib.hid HY.out
        have HBD : Hid (Below y w3 wr.drew) := Lib.hid HB.out.drew
        have c1 : wr.drew.cell? ⟨y, t, none⟩ = some (.int .u8 (b.toNat : Int)) := cb
        generalize wr.drew = wd at HYD HBD c1 ⊢
        have f1 := HYD.out.frozen t
        go_wp2_with fail
        go_roundw
        case rel =>
          refine ⟨t + 1, by simp, hlt, Lib.hid ?_, Lib.hid (HBD.out.setCell (p := ⟨y, t, none⟩) (Nat.le_refl _) _)⟩
          rw [← HST.out]
          exact HYD.out.set t _
        case measure => simp [intOf]; omega
        -- devend
      · -- devbegin
        have hmi : (n : Int) - 8 * (t : Int) = 5 := by omega
        have hq : n - 8 * t = 5 := by omega
        have HST := Lib.hid (keepV_set d n (t := t) (by rw [HDL.out]; exact hlt))
        rw [hq, ← HBB.out] at HST
        have hand : bits .and .u8 (b.toNat : Int) 248 = ((keepB b 5).toNat : Int) := keep_and b 5 248 (by decide) (by decide) rfl
        have hw : IntKind.i64.wrap 3 = 3 := by rfl
        clear hq
        go_upto_region 10 with (fail)
        go_still_tail 8, (by kernel_rfl)
        change wpList _ _ _ _ _ wr.drew
        have HYD : Hid (Row wr.drew y 45 (keepV d n t)) := Lib.hid HY.out
        have HBD : Hid (Below y w3 wr.drew) := Lib.hid HB.out.drew
        have c1 : wr.drew.cell? ⟨y, t, none⟩ = some (.int .u8 (b.toNat : Int)) := cb
        generalize wr.drew = wd at HYD HBD c1 ⊢
        have f1 := HYD.out.frozen t
        go_wp2_with fail
        go_roundw
        case rel =>
          refine ⟨t + 1, by simp, hlt, Lib.hid ?_, Lib.hid (HBD.out.setCell (p := ⟨y, t, none⟩) (Nat.le_refl _) _)⟩
          rw [← HST.out]
          exact HYD.out.set t _
        case measure => simp [intOf]; omega
        -- devend
      · -- devbegin
        have hmi : (n : Int) - 8 * (t : Int) = 6 := by omega
        have hq : n - 8 * t = 6 := by omega
        have HST := Lib.hid (keepV_set d n (t := t) (by rw [HDL.out]; exact hlt))
        rw [hq, ← HBB.out] at HST
        have hand : bits .and .u8 (b.toNat : Int) 252 = ((keepB b 6).toNat : Int) := keep_and b 6 252 (by decide) (by decide) rfl
        have hw : IntKind.i64.wrap 2 = 2 := by rfl
        clear hq
        go_upto_region 10 with (fail)
        go_still_tail 8, (by kernel_rfl)
        change wpList _ _ _ _ _ wr.drew
        have HYD : Hid (Row wr.drew y 45 (keepV d n t)) := Lib.hid HY.out
        have HBD : Hid (Below y w3 wr.drew) := Lib.hid HB.out.drew
        have c1 : wr.drew.cell? ⟨y, t, none⟩ = some (.int .u8 (b.toNat : Int)) := cb
        generalize wr.drew = wd at HYD HBD c1 ⊢
        have f1 := HYD.out.frozen t
        go_wp2_with fail
        go_roundw
        case rel =>
          refine ⟨t + 1, by simp, hlt, Lib.hid ?_, Lib.hid (HBD.out.setCell (p := ⟨y, t, none⟩) (Nat.le_refl _) _)⟩
          rw [← HST.out]
          exact HYD.out.set t _
        case measure => simp [intOf]; omega
        -- devend
      · -- devbegin
        have hmi : (n : Int) - 8 * (t : Int) = 7 := by omega
        have hq : n - 8 * t = 7 := by omega
        have HST := Lib.hid (keepV_set d n (t := t) (by rw [HDL.out]; exact hlt))
        rw [hq, ← HBB.out] at HST
        have hand : bits .and .u8 (b.toNat : Int) 254 = ((keepB b 7).toNat : Int) := keep_and b 7 254 (by decide) (by decide) rfl
        have hw : IntKind.i64.wrap 1 = 1 := by rfl
        clear hq
        go_upto_region 10 with (fail)
        go_still_tail 8, (by kernel_rfl)
        change wpList _ _ _ _ _ wr.drew
        have HYD : Hid (Row wr.drew y 45 (keepV d n t)) := Lib.hid HY.out
        have HBD : Hid (Below y w3 wr.drew) := Lib.hid HB.out.drew
        have c1 : wr.drew.cell? ⟨y, t, none⟩ = some (.int .u8 (b.toNat : Int)) := cb
        generalize wr.drew = wd at HYD HBD c1 ⊢
        have f1 := HYD.out.frozen t
        go_wp2_with fail
        go_roundw
        case rel =>
          refine ⟨t + 1, by simp, hlt, Lib.hid ?_, Lib.hid (HBD.out.setCell (p := ⟨y, t, none⟩) (Nat.le_refl _) _)⟩
          rw [← HST.out]
          exact HYD.out.set t _
        case measure => simp [intOf]; omega
        -- devend
      · have hmi : ¬ (n : Int) - 8 * (t : Int) ≤ 0 := by omega
        have hmi2 : ¬ (n : Int) - 8 * (t : Int) < 8 := by omega
        have HST := Lib.hid (keepV_same d n (t := t) (by rw [HDL.out]; exact hlt) h)
        go_wp2_with fail
        go_roundw
        case rel =>
          refine ⟨t + 1, by simp, hlt, Lib.hid ?_, HB⟩
          rw [← HST.out]
          exact HY.out
        case measure => simp [intOf]; omega
    · obtain rfl : t = 32 := by omega
      have hti : ¬ ((32 : Nat) : Int) < 32 := by omega
      have hfin : keepV d n 32 = bvs (keep d n) := by
        unfold keepV
        rw [List.take_of_length_le (by rw [keep_len, HDL.out]; exact Nat.le_refl _), List.drop_of_length_le (by rw [HDL.out]; exact Nat.le_refl _), List.append_nil]
      have hkl : (keep d n).length = 32 := by rw [keep_len, HDL.out]
      have HY2 : Hid (Row wr y 45 (bvs (keep d n))) := Lib.hid (by rw [← hfin]; exact HY.out)
      have HKS : Hid ((bvs (keep d n)).toArray.size = 32) := Lib.hid (dg_size hkl)
      have HD4 : Hid (Row wr w.heap.size 45 (bvs (List.replicate 32 0))) := Lib.hid (by
        have h3 := HD2.out.ext HE3.out
        have h4 : w.heap.size < y := by rw [HYY.out]; exact HD2.out.lt
        exact (HB.out.block _ h4).trans h3)
      clear hfin hkl
      go_wp2_with (first
        | (refine wpList_ld rfl rfl ?_; refine ⟨y, _, _, _, rfl, HY2.out, Try.underlying45, rfl, by rw [HKS.out]; kernel_rfl, ?_⟩)
        | (refine wpList_st rfl rfl ?_; refine ⟨w.heap.size, _, _, _, rfl, rfl, HD4.out, by rw [HKS.out]; kernel_rfl, Eq.trans (show (bvs (List.replicate 32 0)).toArray.size = 32 from rfl) HKS.out.symm, dg_one _, ?_⟩))
      (try simp only [Exit.inBlock, Exit.then])
      have HFB : Hid (ExtW w (wr.setRow w.heap.size (bvs (keep d n)).toArray)) := Lib.hid (below_setRow (Below.trans (ExtW.trans HE1.out (ExtW.trans HB2.out HE3.out)) (HB.out.mono (by rw [HYY.out]; exact (ExtW.trans HE1.out HB2.out).size))) (Nat.le_refl _) _)
      refine bodyPost_ret (v := dgV (keep d n)) ?_ rfl ⟨rfl, HFB.out⟩
      have h := run_loadVar_row (P := Try.prog) (wr.setRow w.heap.size (bvs (keep d n)).toArray) w.heap.size 45 45 (bvs (keep d n)).toArray (0, 0) _ (Row.setRow HD4.out (bvs (keep d n))) Try.underlying45 rfl (by rw [HKS.out]; kernel_rfl)
      simpa [results, Try.f45, Act.put, asAddr, dgV] using h
end Go.Proofs.Ythaoibgcgkmnbaa
