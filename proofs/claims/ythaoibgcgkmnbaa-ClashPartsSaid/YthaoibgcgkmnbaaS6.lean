/- shown of the clash's laws. -/
import Derived.Test.YthaoibgcgkmnbaaCE
import Derived.Test.YthaoibgcgkmnbaaS5
namespace Go.Proofs.Ythaoibgcgkmnbaa
set_option maxRecDepth 100000
open Go.RowKit

theorem keep0 (t : List UInt8) : keep (S.sha t) 0 = List.replicate 32 0 := by
  apply List.ext_getElem?
  intro i
  have hl : (S.sha t).length = 32 := S.sha_len t
  rcases Nat.lt_or_ge i 32 with h | h
  · rw [keep_get _ _ _ (by omega), List.getElem?_replicate, if_pos h]
    simp [keepB]
  · rw [List.getElem?_eq_none (by rw [keep_len]; omega), List.getElem?_eq_none (by simpa using h)]
namespace T
def z32 : List UInt8 := List.replicate 32 0
theorem leaf0 (y : List UInt8) : leafD 0 y = z32 := keep0 _
theorem node0 (l r : List UInt8) : nodeD 0 l r = z32 := keep0 _
theorem root0 {l : List (List UInt8)} (h : 1 ≤ l.length) : rootD 0 l = z32 := by rw [rootD_tx 0 h]; exact keep0 _
theorem halfB : (1 : Nat) = half 2 := by decide
theorem tex2 (a b : List UInt8) : texD 0 [a, b] = ntx z32 z32 := by
  rw [texD_more 0 (l := [a, b]) (n := 2) (k := 1) rfl (by decide) halfB, root0 (by simp), root0 (by simp)]
theorem path2 (a b : List UInt8) : pathD 0 [a, b] 0 = [z32] := by
  rw [pathD_lo 0 (l := [a, b]) (n := 2) (k := 1) rfl (by decide) halfB (by decide), root0 (by simp), pathD_one 0 (by simp)]; rfl
theorem of0_same : ofD 0 [[97], [98]] 0 [97] [z32] = none := by
  have h := ofD_real 0 (real := [[97], [98]]) (i := 0) (leaf := [97]) rfl
  rw [path2] at h
  exact h
theorem of0_else : ofD 0 [[97], [98]] 0 [120] [z32] = some ([0, 120], [0, 97]) := by
  have hd : downs 2 0 = [true] := by rw [downs_lo (by decide) halfB (by decide), downs_one (by decide)]
  have hc : checkD 0 (rootD 0 [[97], [98]]) ([[97], [98]] : List (List UInt8)).length 0 [120] [z32] = true := by
    unfold checkD
    rw [if_neg (by decide)]
    rw [root0 (by simp)]
    show (decide (([z32] : List (List UInt8)).length = (downs 2 0).length) && decide (climb 0 (downs 2 0).reverse [z32] (leafD 0 [120]) = z32)) = true
    rw [hd]
    simp [climb, stepD, node0, climb_nil]
  rw [ofD_yes hc]
  have h1 := pairsD_lo 0 [120] (l := [[97], [98]]) (path := [z32]) (n := 2) (k := 1) (p := 1) (i := 0) (y := z32) rfl (by decide) halfB rfl rfl (by decide)
  rw [pairsD_one 0 [120] (l := [[97], [98]].take 1) (by simp), leaf0, tex2] at h1
  show diff1 (pairsD 0 [120] [[97], [98]] 0 [z32]).1 = _
  rw [h1]
  rw [diff1_cons, if_pos rfl, diff1_cons, if_neg (by decide)]
  rfl
theorem ofl0 : ofLD 0 [[97], [98]] [[97], [99]] = some ([0, 99], [0, 98]) := by
  have hc : checkRD 0 (rootD 0 [[97], [98]]) ([[97], [98]] : List (List UInt8)).length 0 [[97], [99]] [] = true := by
    have h := checkRD_full 0 (rootD 0 [[97], [98]]) (other := [[97], [99]]) (n := 2) rfl (by decide)
    rw [root0 (by simp), root0 (by simp)] at h
    rw [root0 (by simp)]
    simpa using h
  unfold ofLD
  rw [if_neg (by decide), ofRD_yes hc]
  have h1 := spotsD_more 0 (part := [[97], [99]]) (l := [[97], [98]]) (n := 2) (m := 2) (k := 1) (a := 0) [] rfl rfl (by decide) (by decide) halfB
  have h2 := spotsD_one 0 (part := [[97], [99]]) (l := [[97], [98]].take 1) (n := 1) (m := 2) (a := 0) [] rfl rfl (by decide) (by decide)
  have h3 := spotsD_one 0 (part := [[97], [99]]) (l := [[97], [98]].drop 1) (n := 1) (m := 2) (a := 0 - (1 : Nat)) [] rfl rfl (by decide) (by decide)
  rw [h2] at h1
  simp only at h1
  rw [h3, leaf0, leaf0, tex2] at h1
  rw [h1]
  rw [diff1_cons, if_pos rfl]
  simp only [List.cons_append, List.nil_append]
  rw [diff1_cons, if_pos (by decide), diff1_cons, if_neg (by decide)]
  rfl
theorem clash0 : clashB 0 [0, 120] [0, 97] = true := clashB_yes (by decide) (by unfold sumD; rw [keep0, keep0])
theorem clash0s : clashB 0 [0, 120] [0, 120] = false := by unfold clashB; simp
theorem sha_un : (decide (S.sha [0, 120] = S.sha [0, 97])) = false := by kernel_rfl
theorem clash256 : clashB 256 [0, 120] [0, 97] = false := by
  unfold clashB sumD
  rw [keep_full (S.sha_len _), keep_full (S.sha_len _), sha_un, Bool.and_false]
end T

theorem one_lit (w : World) (b : UInt8) : Rd (w.alloc (.cells #[.int .u8 (b.toNat : Int)] 5 (1, 2))) (some ⟨w.heap.size, 0, none⟩) 1 1 1 (bvs [b]) := Rd.newM w [.int .u8 (b.toNat : Int)] 5 1 1 (1, 2) rfl (by decide)
theorem ext_alloc (w : World) (o : Obj) : ExtW w (w.alloc o) := (Below.refl _ _).alloc (Nat.le_refl _) _
def twoW (w : World) (a b : UInt8) : World := ((w.alloc (.cells #[.int .u8 (a.toNat : Int)] 5 (1, 2))).alloc (.cells #[.int .u8 (b.toNat : Int)] 5 (1, 2))).alloc (.cells #[.slice (some ⟨w.heap.size, 0, none⟩) 1 1, .slice (some ⟨w.heap.size + 1, 0, none⟩) 1 1] 23)
theorem two_lit (w : World) (a b : UInt8) : Bss (twoW w a b) (some ⟨w.heap.size + 1 + 1, 0, none⟩) 2 2 [[a], [b]] ∧ ExtW w (twoW w a b) := by
  have h1 := one_lit w a
  have e1 := ext_alloc w (.cells #[.int .u8 (a.toNat : Int)] 5 (1, 2))
  have z1 : (w.alloc (.cells #[.int .u8 (a.toNat : Int)] 5 (1, 2))).heap.size = w.heap.size + 1 := by simp
  unfold twoW
  generalize w.alloc (.cells #[.int .u8 (a.toNat : Int)] 5 (1, 2)) = w1 at h1 e1 z1 ⊢
  have h2 := one_lit w1 b
  have e2 := ext_alloc w1 (.cells #[.int .u8 (b.toNat : Int)] 5 (1, 2))
  have z2 : (w1.alloc (.cells #[.int .u8 (b.toNat : Int)] 5 (1, 2))).heap.size = w.heap.size + 1 + 1 := by simp [z1]
  rw [z1] at h2
  generalize w1.alloc (.cells #[.int .u8 (b.toNat : Int)] 5 (1, 2)) = w2 at h2 e2 z2 ⊢
  have hr : Row (w2.alloc (.cells #[.slice (some ⟨w.heap.size, 0, none⟩) 1 1, .slice (some ⟨w.heap.size + 1, 0, none⟩) 1 1] 23)) (w.heap.size + 1 + 1) 23 [.slice (some ⟨w.heap.size, 0, none⟩) 1 1, .slice (some ⟨w.heap.size + 1, 0, none⟩) 1 1] := by
    rw [← z2]; exact heap_alloc_last _ _
  have e3 := ext_alloc w2 (.cells #[.slice (some ⟨w.heap.size, 0, none⟩) 1 1, .slice (some ⟨w.heap.size + 1, 0, none⟩) 1 1] 23)
  generalize w2.alloc (.cells #[.slice (some ⟨w.heap.size, 0, none⟩) 1 1, .slice (some ⟨w.heap.size + 1, 0, none⟩) 1 1] 23) = w3 at hr e3 ⊢
  refine ⟨⟨rfl, Nat.le_refl _, by decide, (fun h => by cases h), fun ad ha i x hx => ?_⟩, ExtW.trans e1 (ExtW.trans e2 e3)⟩
  cases ha
  match i, hx with
  | 0, hx => cases hx; exact ⟨_, 1, 1, by rw [Addr.add_mid]; exact hr.cell (j := 0) rfl, h1.below (ExtW.trans e2 e3) (Nat.le_refl _)⟩
  | 1, hx => cases hx; exact ⟨_, 1, 1, by rw [Addr.add_mid]; exact hr.cell (j := 1) rfl, h2.below e3 (Nat.le_refl _)⟩
  | i + 2, hx => simp at hx
theorem Lv2 (a b : UInt8) : Lv [[a], [b]] := fun y hy => by simp at hy; rcases hy with rfl | rfl <;> simp
theorem call_of (w : World) (A : Option Addr) (hB : Bss w A 2 2 [[97], [98]]) (b : UInt8) : Calls Try.prog 13 #[.agg #[.int .i64 0], .slice A 2 2, .int .i64 0, .slice (some ⟨w.heap.size, 0, none⟩) 1 1, .slice (some ⟨w.heap.size + 1, 0, none⟩) 1 1]
    ((w.alloc (.cells #[.int .u8 (b.toNat : Int)] 5 (1, 2))).alloc (.cells (bvs T.z32).toArray 45)) (OfPost (T.ofD 0 [[97], [98]] 0 [b] [T.z32]) w) := by
  have h1 := one_lit w b
  have e1 := ext_alloc w (.cells #[.int .u8 (b.toNat : Int)] 5 (1, 2))
  have z1 : (w.alloc (.cells #[.int .u8 (b.toNat : Int)] 5 (1, 2))).heap.size = w.heap.size + 1 := by simp
  generalize w.alloc (.cells #[.int .u8 (b.toNat : Int)] 5 (1, 2)) = w1 at h1 e1 z1 ⊢
  have h2 := Rd.new w1 (bvs T.z32) 45 32 1 (by rw [bvs_len]; rfl) (by decide)
  have e2 := ext_alloc w1 (.cells (bvs T.z32).toArray 45)
  rw [z1] at h2
  generalize w1.alloc (.cells (bvs T.z32).toArray 45) = w2 at h2 e2 ⊢
  refine (cof_any 0 (by decide) A 2 2 [[97], [98]] 0 _ 1 1 [b] _ 1 1 [T.z32] w2 (hB.same (ExtW.trans e1 e2)) (Lv2 _ _) (by decide) (h1.below e2 (Nat.le_refl _)) (by decide) ⟨rfl, fun d hd => by rw [List.mem_singleton.1 hd]; rfl, by rw [show dcs [T.z32] = bvs T.z32 by simp [dcs]]; exact h2⟩).mono ?_
  intro e w' h
  exact h.up (ExtW.trans e1 e2)
theorem call_ofl (w : World) (A : Option Addr) (hB : Bss w A 2 2 [[97], [98]]) : Calls Try.prog 19 #[.agg #[.int .i64 0], .slice A 2 2, .slice (some ⟨w.heap.size + 1 + 1, 0, none⟩) 2 2] (twoW w 97 99) (OfPost (T.ofLD 0 [[97], [98]] [[97], [99]]) w) := by
  obtain ⟨h1, e1⟩ := two_lit w 97 99
  refine (cofl_any 0 (by decide) A 2 2 [[97], [98]] _ 2 2 [[97], [99]] _ (hB.same e1) (Lv2 _ _) (by decide) h1 (Lv2 _ _) (by decide)).mono ?_
  intro e w' h
  exact h.up e1

set_option maxHeartbeats 20000000 in
set_option maxRecDepth 100000 in
theorem shown6_any (w : World) : Calls Try.prog 10 #[] w fun e w' => e = .returned (.bool true) ∧ ExtW w w' := by
  have kc := fun (w : World) (C : Array Value) (n c : Nat) => Lib.run_convert_bytes_const (P := Try.prog) w 23 5 C n c Try.underlying23 Try.underlying5
  have hb0 : ∀ W, (Instr.build 30 #[(0, .int .i64 0)]).run Try.prog W = .ok (.agg #[.int .i64 0]) W := fun W => run_build W _ _ _ (by kernel_rfl)
  have HX0 : Hid (-9223372036854775808 ≤ (0 : Int) ∧ (0 : Int) ≤ 9223372036854775807) := Lib.hid (by decide)
  go_enter Try.func10, Try.ntmps10
  go_upto_region 2 with (fail)
  clear hb0
  have HT0 := Lib.hid (cell_new1 w (.int .i64 0) 30)
  have HE0 : Hid (ExtW w (w.alloc (.cells #[.int .i64 0] 30))) := Lib.hid ((Below.refl _ _).alloc (Nat.le_refl _) _)
  generalize w.alloc (.cells #[.int .i64 0] 30) = w0 at HT0 HE0 ⊢
  obtain ⟨gt, hgt⟩ : ∃ g, g = w.heap.size := ⟨_, rfl⟩
  rw [← hgt] at HT0 ⊢
  clear hgt
  have kc1 := kc (w0.alloc (.cells #[.int .u8 97] 5 (1, 2))) #[.int .u8 98] 1 1
  have hz1 : (w0.alloc (.cells #[.int .u8 97] 5 (1, 2))).heap.size = w0.heap.size + 1 := by simp
  rw [hz1] at kc1
  clear hz1
  go_upto_region 3 with (fail)
  have HB := Lib.hid (two_lit w0 97 98).1
  have HE1 := Lib.hid (two_lit w0 97 98).2
  clear kc1
  generalize hw1 : ((w0.alloc (.cells #[.int .u8 97] 5 (1, 2))).alloc (.cells #[.int .u8 98] 5 (1, 2))).alloc (.cells #[.slice (some ⟨w0.heap.size, 0, none⟩) 1 1, .slice (some ⟨w0.heap.size + 1, 0, none⟩) 1 1] 23) = w1
  have hw2 : twoW w0 97 98 = w1 := hw1
  rw [hw2] at HB HE1
  obtain ⟨ga, hga⟩ : ∃ g, g = w0.heap.size + 1 + 1 := ⟨_, rfl⟩
  rw [← hga] at HB ⊢
  have HT1 := Lib.hid (HE1.out.cellAt HT0.out)
  have HW1 := Lib.hid (ExtW.trans HE0.out HE1.out)
  clear hw1 hw2 hga HT0 HE0 HE1
  have k1 := HT1.out
  have kc1 := kc w1 #[.int .u8 120] 1 1
  go_wp2_with (first
    | (refine wpList_bldG rfl (by rfl) ?_; refine ⟨.agg (bvs T.z32).toArray, by kernel_rfl, ?_⟩)
    | (refine wpList_build1 rfl rfl (d := T.z32) rfl rfl ?_))
  clear k1 kc1
  refine (call_of w1 (some ⟨ga, 0, none⟩) HB.out 120).mono ?_
  rw [T.of0_else]
  rintro e w2 ⟨hE, A1, n1, c1, B1, m1, d1, rfl, ra, rb⟩
  have HRA := Lib.hid ra
  have HRB := Lib.hid rb
  have HB2 := Lib.hid (HB.out.same hE)
  have HT2 := Lib.hid (hE.cellAt HT1.out)
  have HW2 := Lib.hid (ExtW.trans HW1.out hE)
  clear ra rb hE HB HT1 HW1
  have k1 := HT2.out
  have kc1 := kc w2 #[.int .u8 97] 1 1
  go_wp2_with (first
    | (refine wpList_bldG rfl (by rfl) ?_; refine ⟨.agg (bvs T.z32).toArray, by kernel_rfl, ?_⟩)
    | (refine wpList_build1 rfl rfl (d := T.z32) rfl rfl ?_))
  clear k1 kc1
  refine (call_of w2 (some ⟨ga, 0, none⟩) HB2.out 97).mono ?_
  rw [T.of0_same]
  rintro e w3 ⟨hE, h3⟩
  simp only at h3
  subst h3
  have HRA3 := Lib.hid (HRA.out.below hE (Nat.le_refl _))
  have HRB3 := Lib.hid (HRB.out.below hE (Nat.le_refl _))
  have HB3 := Lib.hid (HB2.out.same hE)
  have HT3 := Lib.hid (hE.cellAt HT2.out)
  have HW3 := Lib.hid (ExtW.trans HW2.out hE)
  clear hE HRA HRB HB2 HT2 HW2
  have k1 := HT3.out
  have kc1 := kc w3 #[.int .u8 97] 1 1
  have kc2 := kc (w3.alloc (.cells #[.int .u8 97] 5 (1, 2))) #[.int .u8 99] 1 1
  have hz1 : (w3.alloc (.cells #[.int .u8 97] 5 (1, 2))).heap.size = w3.heap.size + 1 := by simp
  rw [hz1] at kc2
  clear hz1
  go_wp2_with fail
  clear k1 kc1 kc2
  refine (call_ofl w3 (some ⟨ga, 0, none⟩) HB3.out).mono ?_
  rw [T.ofl0]
  rintro e w4 ⟨hE, A2, n2, c2, B2, m2, d2, rfl, ra, rb⟩
  have HRC := Lib.hid ra
  have HRD := Lib.hid rb
  have HRA4 := Lib.hid (HRA3.out.below hE (Nat.le_refl _))
  have HRB4 := Lib.hid (HRB3.out.below hE (Nat.le_refl _))
  have HT4 := Lib.hid (hE.cellAt HT3.out)
  have HW4 := Lib.hid (ExtW.trans HW3.out hE)
  clear ra rb hE HRA3 HRB3 HB3 HT3 HW3 kc
  have s1 := conv_str HRA4.out
  have s2 := conv_str HRB4.out
  have s3 := conv_str HRC.out
  have s4 := conv_str HRD.out
  have k1 := HT4.out
  go_wp2_with fail
  have hn1 : Hid (n1 ≤ 150000000000000) := Lib.hid (by have h := HRA4.out.len; simp [bvs] at h; omega)
  have hm1 : Hid (m1 ≤ 150000000000000) := Lib.hid (by have h := HRB4.out.len; simp [bvs] at h; omega)
  refine (cot_any 0 HX0.out A1 n1 c1 [0, 120] B1 m1 d1 [0, 97] w4 HRA4.out hn1.out HRB4.out hm1.out).mono ?_
  rintro e w5 ⟨rfl, hE⟩
  rw [show bitsN 0 = 0 from rfl, T.clash0]
  have HRA5 := Lib.hid (HRA4.out.below hE (Nat.le_refl _))
  have HRB5 := Lib.hid (HRB4.out.below hE (Nat.le_refl _))
  have HT5 := Lib.hid (hE.cellAt HT4.out)
  have HW5 := Lib.hid (ExtW.trans HW4.out hE)
  clear hE s1 s2 s3 s4 k1
  have k1 := HT5.out
  go_wp2_with fail
  refine (cot_any 0 HX0.out A1 n1 c1 [0, 120] A1 n1 c1 [0, 120] w5 HRA5.out hn1.out HRA5.out hn1.out).mono ?_
  rintro e w6 ⟨rfl, hE⟩
  rw [show bitsN 0 = 0 from rfl, T.clash0s]
  have HRA6 := Lib.hid (HRA5.out.below hE (Nat.le_refl _))
  have HRB6 := Lib.hid (HRB5.out.below hE (Nat.le_refl _))
  have HW6 := Lib.hid (ExtW.trans HW5.out hE)
  clear hE k1
  have hb0 : ∀ W, (Instr.build 30 #[(0, .int .i64 256)]).run Try.prog W = .ok (.agg #[.int .i64 256]) W := fun W => run_build W _ _ _ (by kernel_rfl)
  go_wp2_with fail
  refine (cot_any 256 (by decide) A1 n1 c1 [0, 120] B1 m1 d1 [0, 97] w6 HRA6.out hn1.out HRB6.out hm1.out).mono ?_
  rintro e w7 ⟨rfl, hE⟩
  rw [show bitsN 256 = 256 from rfl, T.clash256]
  have HW7 := Lib.hid (ExtW.trans HW6.out hE)
  clear hE hb0
  go_wp2
  go_ret
  exact ⟨rfl, HW7.out⟩
end Go.Proofs.Ythaoibgcgkmnbaa
