/- Walk of ClashTurned. -/
import Derived.Test.YthaoibgcgkmnbaaS6
import Derived.Test.YthaoibgcgkmnbaaBit
namespace Go.Proofs.Ythaoibgcgkmnbaa
set_option maxRecDepth 100000
open Go.RowKit

theorem T.clashB_comm (B : Nat) (a b : List UInt8) : T.clashB B a b = T.clashB B b a := by
  unfold T.clashB
  rw [Bool.eq_iff_iff]
  simp only [Bool.and_eq_true, decide_eq_true_eq]
  exact ⟨fun ⟨h1, h2⟩ => ⟨fun e => h1 e.symm, h2.symm⟩, fun ⟨h1, h2⟩ => ⟨fun e => h1 e.symm, h2.symm⟩⟩
theorem T.clashB_self (B : Nat) (a : List UInt8) : T.clashB B a a = false := by unfold T.clashB; simp
theorem T.clashB_zero (a b : List UInt8) : T.clashB 0 a b = decide (a ≠ b) := by unfold T.clashB T.sumD; rw [keep0, keep0]; simp
theorem keepB_keepB (b : UInt8) {p q : Nat} (h : q ≤ p) : keepB (keepB b p) q = keepB b q := by
  by_cases h0 : q = 0
  · subst h0; simp [keepB]
  by_cases h8 : p < 8
  · unfold keepB
    rw [if_neg (show ¬ p = 0 by omega), if_pos h8, if_neg h0, if_pos (show q < 8 by omega), if_neg h0, if_pos (show q < 8 by omega), UInt8.and_assoc]
    congr 1
    rcases (by omega : p = 1 ∨ p = 2 ∨ p = 3 ∨ p = 4 ∨ p = 5 ∨ p = 6 ∨ p = 7) with rfl | rfl | rfl | rfl | rfl | rfl | rfl <;>
      rcases (by omega : q = 1 ∨ q = 2 ∨ q = 3 ∨ q = 4 ∨ q = 5 ∨ q = 6 ∨ q = 7) with rfl | rfl | rfl | rfl | rfl | rfl | rfl <;> first | decide | omega
  · have : keepB b p = b := by unfold keepB; rw [if_neg (by omega), if_neg h8]
    rw [this]
theorem keep_keep (d : List UInt8) {m n : Nat} (h : m ≤ n) : keep (keep d n) m = keep d m := by
  apply List.ext_getElem?
  intro i
  rcases Nat.lt_or_ge i d.length with hi | hi
  · rw [keep_get _ _ _ (by rw [keep_len]; exact hi), keep_get _ _ _ hi]
    have h1 := keep_get d n i hi
    rw [List.getD_eq_getElem?_getD, h1]
    simp only [Option.getD_some]
    rw [keepB_keepB _ (by omega)]
  · rw [List.getElem?_eq_none (by rw [keep_len, keep_len]; exact hi), List.getElem?_eq_none (by rw [keep_len]; exact hi)]
theorem T.clashB_less {B C : Nat} {a b : List UInt8} (h : C ≤ B) (hc : T.clashB B a b = true) : T.clashB C a b = true := by
  unfold T.clashB T.sumD at hc ⊢
  rw [Bool.and_eq_true, decide_eq_true_eq, decide_eq_true_eq] at hc ⊢
  refine ⟨hc.1, ?_⟩
  rw [← keep_keep (S.sha a) h, hc.2, keep_keep (S.sha b) h]
theorem bitsN_nat {b : Nat} (h : b ≤ 256) : bitsN (b : Int) = b := by unfold bitsN; omega
theorem run_bldT (v : Int) (W : World) : (Instr.build 30 #[(0, .int .i64 v)]).run Try.prog W = .ok (.agg #[.int .i64 v]) W := run_build W _ _ _ (by kernel_rfl)
theorem run_bldT0 (W : World) : (Instr.build 30 #[]).run Try.prog W = .ok (.agg #[.int .i64 0]) W := run_build W _ _ _ (by kernel_rfl)
/-- what three clashes may tell -/
theorem T.clash3 (b : Nat) (xs ys : List UInt8) : ∃ is ls nn : Bool, T.clashB b xs ys = is ∧ T.clashB (b / 2) xs ys = ls ∧ T.clashB 0 xs ys = nn ∧ T.clashB b ys xs = is ∧
    ((xs = ys ∧ is = false ∧ nn = false) ∨ (xs ≠ ys ∧ is = true ∧ ls = true ∧ nn = true) ∨ (xs ≠ ys ∧ is = false ∧ nn = true)) := by
  refine ⟨_, _, _, rfl, rfl, rfl, T.clashB_comm _ _ _, ?_⟩
  by_cases h : xs = ys
  · subst h
    exact .inl ⟨rfl, T.clashB_self _ _, T.clashB_self _ _⟩
  · have h0 : T.clashB 0 xs ys = true := by rw [T.clashB_zero]; simpa using h
    cases hb : T.clashB b xs ys with
    | true => exact .inr (.inl ⟨h, rfl, T.clashB_less (Nat.div_le_self _ _) hb, h0⟩)
    | false => exact .inr (.inr ⟨h, rfl, h0⟩)

set_option maxHeartbeats 20000000 in
set_option maxRecDepth 100000 in
theorem clashTurned_walk (x : Int) (A : Option Addr) (n0 c0 : Nat) (xl : List UInt8) (B : Option Addr) (m0 d0 : Nat) (yl : List UInt8) (w : World) (_hx : -9223372036854775808 ≤ x ∧ x ≤ 9223372036854775807) (hr : Rd w A n0 c0 1 (bvs xl)) (hc : c0 ≤ 140737488351232) (hs : Rd w B m0 d0 1 (bvs yl)) (hd : d0 ≤ 140737488351232) :
    Calls Try.prog 6 #[.int .i64 x, .slice A n0 c0, .slice B m0 d0] w fun e w' => e = .returned (.bool true) ∧ Below w.heap.size w w' := by
  obtain ⟨i0, hi, hz0, hz1, hz2⟩ := info_parts infoB
  have HR := Lib.hid hr
  have HS := Lib.hid hs
  have hnb : n0 ≤ 140737488351232 := Nat.le_trans hr.nc hc
  have hmb : m0 ≤ 140737488351232 := Nat.le_trans hs.nc hd
  have hnc := hr.nc
  have hmc := hs.nc
  clear hr hs hc hd _hx
  obtain ⟨f1, hf1, hf1b⟩ := low16 x
  obtain ⟨b, hb⟩ : ∃ b, b = f1 % 257 := ⟨_, rfl⟩
  have hb257 : b ≤ 256 := by have := Nat.mod_lt f1 (show 0 < 257 by omega); omega
  have hm1 : (f1 : Int) % 257 = (b : Int) := by rw [hb]; omega
  have hm1' : (f1 : Int).tmod 257 = (b : Int) := by rw [Int.tmod_eq_emod_of_nonneg (by omega)]; exact hm1
  clear hb
  obtain ⟨q, hq⟩ : ∃ q, q = min n0 300 := ⟨_, rfl⟩
  have hq1 : q ≤ 300 := by omega
  have hq2 : q ≤ n0 := by omega
  have hqq : min (n0 : Int) 300 = (q : Int) := by omega
  obtain ⟨p, hp⟩ : ∃ p, p = min m0 300 := ⟨_, rfl⟩
  have hp1 : p ≤ 300 := by omega
  have hp2 : p ≤ m0 := by omega
  have hpp : min (m0 : Int) 300 = (p : Int) := by omega
  clear hq hp
  obtain ⟨hsl, hslr⟩ := cut_h (P := Try.prog) Try.underlying23 hi hz1 A n0 c0 .i64 (q : Int) q rfl hq2 hnc
  have hrq := hslr _ _ HR.out
  rw [Nat.mul_one, bvs_take] at hrq
  obtain ⟨hsm, hsmr⟩ := cut_h (P := Try.prog) Try.underlying23 hi hz1 B m0 d0 .i64 (p : Int) p rfl hp2 hmc
  have hrp := hsmr _ _ HS.out
  rw [Nat.mul_one, bvs_take] at hrp
  have HRQ := Lib.hid hrq
  have HRP := Lib.hid hrp
  clear hslr hrq hsmr hrp HR HS
  obtain ⟨xs, hxs⟩ : ∃ xs, xs = xl.take q := ⟨_, rfl⟩
  obtain ⟨ys, hys⟩ : ∃ ys, ys = yl.take p := ⟨_, rfl⟩
  rw [← hxs] at HRQ
  rw [← hys] at HRP
  clear hxs hys
  obtain ⟨is, ls, nn, h1, h2, h3, h4, hcase⟩ := T.clash3 b xs ys
  have HC1 := Lib.hid h1
  have HC2 := Lib.hid h2
  have HC3 := Lib.hid h3
  have HC4 := Lib.hid h4
  have HC5 := Lib.hid (T.clashB_self b xs)
  have HBN := Lib.hid (bitsN_nat hb257)
  have HBN2 : Hid (bitsN ((b / 2 : Nat) : Int) = b / 2) := Lib.hid (bitsN_nat (by omega))
  have hdiv : (b : Int).tdiv 2 = ((b / 2 : Nat) : Int) := by rw [Int.tdiv_eq_ediv_of_nonneg (by omega)]; simp
  have hbld := run_bldT
  have hbld0 := run_bldT0
  clear h1 h2 h3 h4
  go_enter Try.func6, Try.ntmps6
  go_wp2_with fail
  refine (shown6_any _).mono ?_
  rintro e w1 ⟨rfl, hb1⟩
  have HE1 := Lib.hid hb1
  clear hb1
  go_wp2_with fail
  refine (cot_any (b : Int) (by omega) A q c0 xs B p d0 ys w1 (HRQ.out.below HE1.out (Nat.le_refl _)) (by omega) (HRP.out.below HE1.out (Nat.le_refl _)) (by omega)).mono ?_
  rintro e w2 ⟨rfl, hb2⟩
  rw [HBN.out, HC1.out]
  have HE2 := Lib.hid (ExtW.trans HE1.out hb2)
  clear hb2 hf1 hm1 hm1' hqq hpp hsl hsm
  go_wp2_with fail
  refine (cot_any ((b / 2 : Nat) : Int) (by omega) A q c0 xs B p d0 ys w2 (HRQ.out.below HE2.out (Nat.le_refl _)) (by omega) (HRP.out.below HE2.out (Nat.le_refl _)) (by omega)).mono ?_
  rintro e w3 ⟨rfl, hb2⟩
  rw [HBN2.out, HC2.out]
  have HE3 := Lib.hid (ExtW.trans HE2.out hb2)
  clear hb2 hdiv
  go_wp2_with fail
  refine (cot_any 0 (by decide) A q c0 xs B p d0 ys w3 (HRQ.out.below HE3.out (Nat.le_refl _)) (by omega) (HRP.out.below HE3.out (Nat.le_refl _)) (by omega)).mono ?_
  rintro e w4 ⟨rfl, hb2⟩
  rw [show bitsN 0 = 0 from rfl, HC3.out]
  have HE4 := Lib.hid (ExtW.trans HE3.out hb2)
  clear hb2
  rcases hcase with ⟨h, rfl, rfl⟩ | ⟨h, rfl, rfl, rfl⟩ | ⟨h, rfl, rfl⟩
  · go_wp2_with fail
    refine (cot_any (b : Int) (by omega) B p d0 ys A q c0 xs w4 (HRP.out.below HE4.out (Nat.le_refl _)) (by omega) (HRQ.out.below HE4.out (Nat.le_refl _)) (by omega)).mono ?_
    rintro e w5 ⟨rfl, hb2⟩
    rw [HBN.out, HC4.out]
    have HE5 := Lib.hid (ExtW.trans HE4.out hb2)
    clear hb2
    have s1 := conv_str (HRQ.out.below HE5.out (Nat.le_refl _))
    have s2 := conv_str (HRP.out.below HE5.out (Nat.le_refl _))
    rw [← h] at s2
    generalize (⟨xs.toArray⟩ : ByteArray) = sx at s1 s2
    clear h
    go_wp2_with fail
    refine (cot_any (b : Int) (by omega) A q c0 xs A q c0 xs w5 (HRQ.out.below HE5.out (Nat.le_refl _)) (by omega) (HRQ.out.below HE5.out (Nat.le_refl _)) (by omega)).mono ?_
    rintro e w6 ⟨rfl, hb2⟩
    rw [HBN.out, HC5.out]
    have HE6 := Lib.hid (ExtW.trans HE5.out hb2)
    clear hb2 s1 s2
    go_wp2
    go_ret
    exact ⟨rfl, HE6.out⟩
  · go_wp2_with fail
    refine (cot_any (b : Int) (by omega) B p d0 ys A q c0 xs w4 (HRP.out.below HE4.out (Nat.le_refl _)) (by omega) (HRQ.out.below HE4.out (Nat.le_refl _)) (by omega)).mono ?_
    rintro e w5 ⟨rfl, hb2⟩
    rw [HBN.out, HC4.out]
    have HE5 := Lib.hid (ExtW.trans HE4.out hb2)
    clear hb2
    have s1 := conv_str (HRQ.out.below HE5.out (Nat.le_refl _))
    have s2 := conv_str (HRP.out.below HE5.out (Nat.le_refl _))
    obtain ⟨sx, hsx⟩ : ∃ s, s = (⟨xs.toArray⟩ : ByteArray) := ⟨_, rfl⟩
    obtain ⟨sy, hsy⟩ : ∃ s, s = (⟨ys.toArray⟩ : ByteArray) := ⟨_, rfl⟩
    have hs2 : (sx.toList == sy.toList) = false := by
      rw [beq_eq_false_iff_ne, hsx, hsy, ByteArray.toList_eq, ByteArray.toList_eq]
      simpa using h
    have hss : ¬ sx = sy := fun e => h (ba_inj (by rw [← hsx, ← hsy, e]))
    rw [← hsx] at s1
    rw [← hsy] at s2
    clear hsx hsy h
    go_wp2_with fail
    refine (cot_any (b : Int) (by omega) A q c0 xs A q c0 xs w5 (HRQ.out.below HE5.out (Nat.le_refl _)) (by omega) (HRQ.out.below HE5.out (Nat.le_refl _)) (by omega)).mono ?_
    rintro e w6 ⟨rfl, hb2⟩
    rw [HBN.out, HC5.out]
    have HE6 := Lib.hid (ExtW.trans HE5.out hb2)
    clear hb2 s1 s2
    go_wp2
    go_ret
    exact ⟨rfl, HE6.out⟩
  · go_wp2_with fail
    refine (cot_any (b : Int) (by omega) B p d0 ys A q c0 xs w4 (HRP.out.below HE4.out (Nat.le_refl _)) (by omega) (HRQ.out.below HE4.out (Nat.le_refl _)) (by omega)).mono ?_
    rintro e w5 ⟨rfl, hb2⟩
    rw [HBN.out, HC4.out]
    have HE5 := Lib.hid (ExtW.trans HE4.out hb2)
    clear hb2
    have s1 := conv_str (HRQ.out.below HE5.out (Nat.le_refl _))
    have s2 := conv_str (HRP.out.below HE5.out (Nat.le_refl _))
    obtain ⟨sx, hsx⟩ : ∃ s, s = (⟨xs.toArray⟩ : ByteArray) := ⟨_, rfl⟩
    obtain ⟨sy, hsy⟩ : ∃ s, s = (⟨ys.toArray⟩ : ByteArray) := ⟨_, rfl⟩
    have hs2 : (sx.toList == sy.toList) = false := by
      rw [beq_eq_false_iff_ne, hsx, hsy, ByteArray.toList_eq, ByteArray.toList_eq]
      simpa using h
    have hss : ¬ sx = sy := fun e => h (ba_inj (by rw [← hsx, ← hsy, e]))
    rw [← hsx] at s1
    rw [← hsy] at s2
    clear hsx hsy h
    go_wp2_with fail
    refine (cot_any (b : Int) (by omega) A q c0 xs A q c0 xs w5 (HRQ.out.below HE5.out (Nat.le_refl _)) (by omega) (HRQ.out.below HE5.out (Nat.le_refl _)) (by omega)).mono ?_
    rintro e w6 ⟨rfl, hb2⟩
    rw [HBN.out, HC5.out]
    have HE6 := Lib.hid (ExtW.trans HE5.out hb2)
    clear hb2 s1 s2
    go_wp2
    go_ret
    exact ⟨rfl, HE6.out⟩
end Go.Proofs.Ythaoibgcgkmnbaa
