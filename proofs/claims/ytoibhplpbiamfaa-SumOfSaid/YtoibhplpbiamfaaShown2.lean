/- Walk of shown. -/
import Derived.Test.YtoibhplpbiamfaaKept
import Derived.Test.YtoibhplpbiamfaaDg
import Derived.Test.YtoibhplpbiamfaaCrc
import Derived.Lib.SlBytesConst
namespace Go.Proofs.Ytoibhplpbiamfaa
open Go.RowKit

set_option maxRecDepth 100000 in
theorem hex_nil : hexL (S.sha []) = [101, 51, 98, 48, 99, 52, 52, 50, 57, 56, 102, 99, 49, 99, 49, 52, 57, 97, 102, 98, 102, 52, 99, 56, 57, 57, 54, 102, 98, 57, 50, 52, 50, 55, 97, 101, 52, 49, 101, 52, 54, 52, 57, 98, 57, 51, 52, 99, 97, 52, 57, 53, 57, 57, 49, 98, 55, 56, 53, 50, 98, 56, 53, 53] := by rw [S.sha_nil]; decide +kernel
set_option maxRecDepth 100000 in
theorem hex_abc : hexL (S.sha [97, 98, 99]) = [98, 97, 55, 56, 49, 54, 98, 102, 56, 102, 48, 49, 99, 102, 101, 97, 52, 49, 52, 49, 52, 48, 100, 101, 53, 100, 97, 101, 50, 50, 50, 51, 98, 48, 48, 51, 54, 49, 97, 51, 57, 54, 49, 55, 55, 97, 57, 99, 98, 52, 49, 48, 102, 102, 54, 49, 102, 50, 48, 48, 49, 53, 97, 100] := by rw [S.sha_abc]; decide +kernel
set_option maxRecDepth 100000 in
theorem keep_abc : keep (S.sha [97, 98, 99]) (bitsN 4) = [176, 0, 0, 0, 0, 0, 0, 0, 0, 0, 0, 0, 0, 0, 0, 0, 0, 0, 0, 0, 0, 0, 0, 0, 0, 0, 0, 0, 0, 0, 0, 0] := by rw [S.sha_abc]; decide +kernel
theorem crc_9 : crc [49, 50, 51, 52, 53, 54, 55, 56, 57] = 3421780262 := by decide +kernel

theorem Rd.newM (w : World) (cs : List Value) (e size : Nat) (n : Nat) (m : Nat × Nat) (hl : cs.length = n * size) (hn : n ≤ maxLen) : Rd (w.alloc (.cells cs.toArray e m)) (some ⟨w.heap.size, 0, none⟩) n n size cs := by
  refine ⟨hl, Nat.le_refl _, hn, (fun h => by cases h), fun a ha j u hj => ?_⟩
  cases ha
  have h1 : (w.alloc (.cells cs.toArray e m)).heap[w.heap.size]? = some (.cells cs.toArray e m) := heap_alloc_new w _
  rw [Addr.add_mid, Nat.zero_add]
  simp only [World.cell?, h1]
  simpa using hj
theorem abc_rd (w : World) : Rd (w.alloc (.cells #[.int .u8 97, .int .u8 98, .int .u8 99] 5 (3, 4))) (some ⟨w.heap.size, 0, none⟩) 3 3 1 (bvs [97, 98, 99]) := Rd.newM w [.int .u8 97, .int .u8 98, .int .u8 99] 5 1 3 (3, 4) rfl (by decide)

set_option maxHeartbeats 4000000 in
set_option maxRecDepth 100000 in
theorem shown_any (w : World) : Calls Try.prog 9 #[] w fun e w' => e = .returned (.bool true) ∧ ExtW w w' := by
  have kc := fun (w : World) (C : Array Value) (n c : Nat) => Lib.run_convert_bytes_const (P := Try.prog) w 22 5 C n c Try.underlying22 Try.underlying5
  go_enter Try.func9, Try.ntmps9
  go_wp2_with fail
  refine (of_any none 0 0 [] _ (Rd.nil _ 1) (by decide)).mono ?_
  rintro e w1 ⟨rfl, hb1⟩
  have HB1 := Lib.hid hb1
  clear hb1
  unfold dgV
  go_wp2_with fail
  refine (hex_any _ (S.sha_len _) _).mono ?_
  rintro e w2 ⟨rfl, hb2⟩
  rw [hex_nil]
  have HB2 := Lib.hid (ExtW.trans HB1.out hb2)
  clear hb2
  go_wp2_with fail
  refine (of_any _ 3 3 [97, 98, 99] _ (abc_rd w2) (by decide)).mono ?_
  rintro e w3 ⟨rfl, hb3⟩
  have HB3 := Lib.hid (ExtW.trans HB2.out (ExtW.trans ((Below.refl _ _).alloc (Nat.le_refl _) _) hb3))
  clear hb3
  unfold dgV
  go_wp2_with fail
  refine (hex_any _ (S.sha_len _) _).mono ?_
  rintro e w4 ⟨rfl, hb4⟩
  rw [hex_abc]
  have HB4 := Lib.hid (ExtW.trans HB3.out hb4)
  clear hb4
  go_wp2_with fail
  refine (kept_any _ 3 3 [97, 98, 99] 4 _ (abc_rd w4) (by decide) (by decide)).mono ?_
  rintro e w5 ⟨rfl, hb5⟩
  rw [keep_abc]
  have HB5 := Lib.hid (ExtW.trans HB4.out (ExtW.trans ((Below.refl _ _).alloc (Nat.le_refl _) _) hb5))
  clear hb5
  unfold dgV
  go_upto_region 4 with (first
    | (refine wpList_runW rfl rfl ?_; refine ⟨.pointer (some ⟨w5.heap.size, 0, none⟩), w5.alloc (.cells zDig 25), by kernel_rfl, ?_⟩)
    | (refine wpList_st rfl rfl ?_; refine ⟨w5.heap.size, _, _, _, rfl, rfl, zDig_row w5, by kernel_rfl, by rfl, dg_one _, ?_⟩))
  have HK6 : Hid (Row ((w5.alloc (.cells zDig 25)).setRow w5.heap.size (bvs [176, 0, 0, 0, 0, 0, 0, 0, 0, 0, 0, 0, 0, 0, 0, 0, 0, 0, 0, 0, 0, 0, 0, 0, 0, 0, 0, 0, 0, 0, 0, 0]).toArray) w5.heap.size 25 (bvs [176, 0, 0, 0, 0, 0, 0, 0, 0, 0, 0, 0, 0, 0, 0, 0, 0, 0, 0, 0, 0, 0, 0, 0, 0, 0, 0, 0, 0, 0, 0, 0])) := Lib.hid ((zDig_row w5).setRow _)
  have HB6 : Hid (ExtW w ((w5.alloc (.cells zDig 25)).setRow w5.heap.size (bvs [176, 0, 0, 0, 0, 0, 0, 0, 0, 0, 0, 0, 0, 0, 0, 0, 0, 0, 0, 0, 0, 0, 0, 0, 0, 0, 0, 0, 0, 0, 0, 0]).toArray)) := Lib.hid (ExtW.trans HB5.out (below_setRow ((Below.refl _ _).alloc (Nat.le_refl _) _) (Nat.le_refl _) _))
  generalize (w5.alloc (.cells zDig 25)).setRow w5.heap.size (bvs [176, 0, 0, 0, 0, 0, 0, 0, 0, 0, 0, 0, 0, 0, 0, 0, 0, 0, 0, 0, 0, 0, 0, 0, 0, 0, 0, 0, 0, 0, 0, 0]).toArray = w6 at HK6 HB6 ⊢
  obtain ⟨y, hy⟩ : ∃ y, y = w5.heap.size := ⟨_, rfl⟩
  rw [← hy] at HK6 ⊢
  clear hy
  go_wp2_with fail
  refine (new_any _).mono ?_
  rintro e w7 ⟨g, rfl, hb7, hg7, hrow⟩
  have HROW := Lib.hid hrow
  have HG := Lib.hid hg7
  have HK7 := Lib.hid (HK6.out.ext hb7)
  have HB7 := Lib.hid (ExtW.trans HB6.out hb7)
  clear hb7 hg7 hrow
  go_wp2_with fail
  refine (write_any g [] _ 3 3 [97, 98, 99] _ (hash_new (HROW.out.ext ((Below.refl _ _).alloc (Nat.le_refl _) _))) (abc_rd w7) (fun _ a ha => by cases ha; exact fun e => by have := HROW.out.lt; rw [← e] at this; exact Nat.lt_irrefl _ this) (by decide)).mono ?_
  rintro e w8 ⟨rfl, hg8, hh8⟩
  rw [List.nil_append] at hh8
  have HH8 := Lib.hid hh8
  have HK8 : Hid (Row w8 y 25 _) := Lib.hid ((hg8.block y (by have := HK7.out.lt; simp; omega) (fun e => by have h1 := Option.some.inj e; have h2 := HK6.out.lt; have h3 := HG.out; omega)).trans (HK7.out.ext ((Below.refl _ _).alloc (Nat.le_refl _) _)))
  have HB8 : Hid (ExtW w w8) := Lib.hid (Below.trans HB7.out (Below.trans ((Below.refl _ _).alloc HB7.out.size _) (grown_below hg8 (Nat.le_trans HB6.out.size HG.out) (by have := HB7.out.size; simp; omega))))
  have heq := eq_dg [176, 0, 0, 0, 0, 0, 0, 0, 0, 0, 0, 0, 0, 0, 0, 0, 0, 0, 0, 0, 0, 0, 0, 0, 0, 0, 0, 0, 0, 0, 0, 0] [176, 0, 0, 0, 0, 0, 0, 0, 0, 0, 0, 0, 0, 0, 0, 0, 0, 0, 0, 0, 0, 0, 0, 0, 0, 0, 0, 0, 0, 0, 0, 0] rfl rfl
  rw [decide_eq_true (rfl : ([176, 0, 0, 0, 0, 0, 0, 0, 0, 0, 0, 0, 0, 0, 0, 0, 0, 0, 0, 0, 0, 0, 0, 0, 0, 0, 0, 0, 0, 0, 0, 0] : List UInt8) = _)] at heq
  clear hg8 hh8
  obtain ⟨kp, hkp⟩ : ∃ d : List UInt8, d = [176, 0, 0, 0, 0, 0, 0, 0, 0, 0, 0, 0, 0, 0, 0, 0, 0, 0, 0, 0, 0, 0, 0, 0, 0, 0, 0, 0, 0, 0, 0, 0] := ⟨_, rfl⟩
  rw [← hkp] at heq HK8
  have HKP : Hid ((Value.agg (bvs [176, 0, 0, 0, 0, 0, 0, 0, 0, 0, 0, 0, 0, 0, 0, 0, 0, 0, 0, 0, 0, 0, 0, 0, 0, 0, 0, 0, 0, 0, 0, 0]).toArray) = .agg (bvs kp).toArray) := Lib.hid (by rw [hkp])
  have HKL : Hid ((bvs kp).length = 32) := Lib.hid (by rw [hkp]; rfl)
  clear hkp
  go_wp2_with (first
    | (refine wpList_ldG rfl (by rfl) ?_; refine ⟨y, 0, _, _, rfl, HK8.out.range, Try.underlying25, rfl, by rw [HKL.out]; kernel_rfl, ?_⟩)
    | (refine wpList_bldG rfl (by rfl) ?_; refine ⟨.agg (bvs kp).toArray, by rw [← HKP.out]; kernel_rfl, ?_⟩))
  refine (crc_any _ 9 9 [49, 50, 51, 52, 53, 54, 55, 56, 57] _ (Rd.newM w8 [.int .u8 49, .int .u8 50, .int .u8 51, .int .u8 52, .int .u8 53, .int .u8 54, .int .u8 55, .int .u8 56, .int .u8 57] 5 1 9 (9, 10) rfl (by decide)) (by decide)).mono ?_
  rintro e w9 ⟨rfl, rfl⟩
  rw [crc_9]
  go_wp2_with fail
  refine (sum_any g [97, 98, 99] _ (HH8.out.ext ((Below.refl _ _).alloc (Nat.le_refl _) _)) (by decide)).mono ?_
  rintro e w9 ⟨rfl, hb9⟩
  have HB9 : Hid (ExtW w w9) := Lib.hid (ExtW.trans HB8.out (ExtW.trans ((Below.refl _ _).alloc (Nat.le_refl _) _) hb9))
  clear hb9
  go_wp2_with fail
  refine (hex_any _ (S.sha_len _) _).mono ?_
  rintro e w10 ⟨rfl, hb10⟩
  rw [hex_abc]
  have HB10 := Lib.hid (ExtW.trans HB9.out hb10)
  clear hb10
  go_wp2
  go_ret
  exact ⟨rfl, HB10.out⟩
end Go.Proofs.Ytoibhplpbiamfaa
