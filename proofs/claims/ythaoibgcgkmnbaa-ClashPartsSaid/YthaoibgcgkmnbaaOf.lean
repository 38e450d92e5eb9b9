/- Walks of Of and Hex. -/
import Derived.Test.YthaoibgcgkmnbaaSum
namespace Go.Proofs.Ythaoibgcgkmnbaa
set_option maxRecDepth 100000
open Go.RowKit

theorem HashAt.ext {w w' : World} {g : Nat} {l : List UInt8} {T : Nat} (h : HashAt w g l T) (hb : ExtW w w') : HashAt w' g l T := by
  obtain ⟨part, h1, h2, h3⟩ := h
  exact ⟨part, h1, h2, h3.ext hb⟩
theorem hash_new {w : World} {g : Nat} (h : Row w g 121 (objV S.H0 (List.replicate 64 0) 0 0)) : HashAt w g [] 0 := ⟨List.replicate 64 0, rfl, rfl, h⟩
/-- a digest as a value -/
def dgV (d : List UInt8) : Value := .agg (bvs d).toArray
theorem zDig_row (w : World) : Row (w.alloc (.cells zDig 45)) w.heap.size 45 (bvs (List.replicate 32 0)) := by unfold Row; rw [heap_alloc_last]; rfl
theorem dg_one (d : List UInt8) : (bvs d).toArray.all (·.oneCell') = true := all_oneCell_toArray (bvs_one _)
theorem dg_size {d : List UInt8} (h : d.length = 32) : (bvs d).toArray.size = 32 := by rw [List.size_toArray, bvs_len, h]
theorem grown_below {B : Nat} {a c : World} {g : Nat} (h : a.grownBy c (some g)) (hg : B ≤ g) (hB : B ≤ a.heap.size) : Below B a c := (Below.refl B a).grown h hB (fun k hk => by rw [← Option.some.inj hk]; exact hg)

set_option maxHeartbeats 4000000 in
set_option maxRecDepth 100000 in
theorem of_any (A : Option Addr) (N c : Nat) (xs : List UInt8) (w : World) (hr : Rd w A N c 1 (bvs xs)) (hn : N ≤ 200000000000000) :
    Calls Try.prog 63 #[.slice A N c] w fun e w' => e = .returned (dgV (S.sha xs)) ∧ ExtW w w' := by
  have hxl : xs.length = N := by have := hr.len; rw [bvs_len] at this; omega
  have HXL := Lib.hid hxl
  have HR := Lib.hid hr
  have HE1 : Hid (ExtW w (w.alloc (.cells zDig 45))) := Lib.hid ((Below.refl _ _).alloc (Nat.le_refl _) _)
  have HD1 := Lib.hid (zDig_row w)
  clear hxl hr
  go_enter Try.func63, Try.ntmps63
  go_upto_region 1 with (refine wpList_runW rfl rfl ?_; refine ⟨.pointer (some ⟨w.heap.size, 0, none⟩), w.alloc (.cells zDig 45), by kernel_rfl, ?_⟩)
  generalize w.alloc (.cells zDig 45) = w1 at HE1 HD1 ⊢
  go_wp2_with fail
  refine (new_any _).mono ?_
  rintro e w2 ⟨g, rfl, hb2, hg, hrow⟩
  have HB2 := Lib.hid hb2
  have HG := Lib.hid hg
  have HROW := Lib.hid hrow
  clear hb2 hg hrow
  go_wp2_with fail
  refine (write_any g [] A N c xs _ (hash_new HROW.out) (HR.out.below (ExtW.trans HE1.out HB2.out) (Nat.le_refl _)) ?_ (by simp; omega)).mono ?_
  · intro h0 a ha
    have h1 := (ha ▸ HR.out).blk (by rw [bvs_len, HXL.out]; exact h0)
    have := HE1.out.size
    have := HG.out
    omega
  rintro e w3 ⟨rfl, hg3, hh3⟩
  rw [List.nil_append] at hh3
  have HH3 := Lib.hid hh3
  have HB3 : Hid (ExtW w1 w3) := Lib.hid (Below.trans HB2.out (grown_below hg3 HG.out HB2.out.size))
  clear hg3 hh3
  go_wp2_with fail
  refine (sum_any g xs _ HH3.out (by rw [HXL.out]; exact hn)).mono ?_
  rintro e w4 ⟨rfl, hb4⟩
  have HB4 : Hid (ExtW w1 w4) := Lib.hid (ExtW.trans HB3.out hb4)
  have HD4 := Lib.hid (HD1.out.ext HB4.out)
  have HSZ : Hid ((bvs (S.sha xs)).toArray.size = 32) := Lib.hid (dg_size (S.sha_len xs))
  clear hb4
  go_wp2_with (refine wpList_st rfl rfl ?_; refine ⟨w.heap.size, _, _, _, rfl, rfl, HD4.out, by rw [HSZ.out]; kernel_rfl, Eq.trans (show (bvs (List.replicate 32 0)).toArray.size = 32 from rfl) HSZ.out.symm, dg_one _, ?_⟩)
  (try simp only [Exit.inBlock, Exit.then])
  refine bodyPost_ret (v := dgV (S.sha xs)) ?_ rfl ⟨rfl, below_setRow (ExtW.trans HE1.out HB4.out) (Nat.le_refl _) _⟩
  have h := run_loadVar_row (P := Try.prog) (w4.setRow w.heap.size (bvs (S.sha xs)).toArray) w.heap.size 45 45 (bvs (S.sha xs)).toArray (0, 0) _ (Row.setRow HD4.out (bvs (S.sha xs))) Try.underlying45 rfl (by rw [HSZ.out]; kernel_rfl)
  simpa [results, Try.f63, Act.put, asAddr, dgV] using h
end Go.Proofs.Ythaoibgcgkmnbaa
