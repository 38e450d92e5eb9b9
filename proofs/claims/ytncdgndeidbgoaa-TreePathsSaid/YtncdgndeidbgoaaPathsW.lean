/- Walk of TreePaths. -/
import Derived.Test.YtncdgndeidbgoaaS5
import Derived.Test.YtncdgndeidbgoaaSmall5
import Derived.Test.YtncdgndeidbgoaaR3
namespace Go.Proofs.Ytncdgndeidbgoaa
open Go.RowKit

/-- Path of any place -/
def pX (B : Nat) (l : List (List UInt8)) (i : Int) : List (List UInt8) := if 0 ≤ i ∧ i < l.length then T.pathD B l i.toNat else []
def eP (n : Nat) (i : Int) : Int := if 0 ≤ i ∧ i < n then 0 else 1
/-- Range of any places -/
def rX (B : Nat) (l : List (List UInt8)) (a b : Int) : List (List UInt8) := if 0 ≤ a ∧ a < b ∧ b ≤ l.length then T.besideD B l a b else []
def eR (n : Nat) (a b : Int) : Int := if 0 ≤ a ∧ a < b ∧ b ≤ n then 0 else 1
theorem pX_32 (B : Nat) (l : List (List UInt8)) (i : Int) : ∀ d ∈ pX B l i, d.length = 32 := by
  unfold pX; split
  · exact T.pathD_len32 _ _ _
  · intro d hd; cases hd
theorem rX_32 (B : Nat) (l : List (List UInt8)) (a b : Int) : ∀ d ∈ rX B l a b, d.length = 32 := by
  unfold rX; split
  · exact T.besideD_len32 _ _ _ _
  · intro d hd; cases hd
theorem mpath_x (x : Int) (hx : -9223372036854775808 ≤ x ∧ x ≤ 9223372036854775807) (A : Option Addr) (n c : Nat) (l : List (List UInt8)) (i : Int) (w : World) (hnb : n ≤ 1000000) (hr : Bss w A n c l) (hlv : Lv l) :
    Calls Try.prog 26 #[.agg #[.int .i64 x], .slice A n c, .int .i64 i] w fun e w' => ∃ v, e = .returned (.tuple #[v, .int .i64 (eP n i)]) ∧ OwnDs w.heap.size (pX (bitsN x) l i) v w' ∧ ExtW w w' := by
  unfold pX eP
  rw [hr.len]
  by_cases h : 0 ≤ i ∧ i < n
  · obtain ⟨k, rfl⟩ : ∃ k : Nat, i = (k : Int) := ⟨i.toNat, by omega⟩
    rw [if_pos h, if_pos h, Int.toNat_natCast]
    exact mpath_ok x hx A n c l k w hnb (by omega) hr hlv
  · rw [if_neg h, if_neg h]
    refine (mpath_no x A n c i w (by omega)).mono ?_
    rintro e w' ⟨rfl, hb⟩
    exact ⟨_, rfl, OwnDs.nil _ _, hb⟩
theorem ppath_x (A : Option Addr) (n c : Nat) (l : List (List UInt8)) (i : Int) (w : World) (hnb : n ≤ 1000000) (hr : Bss w A n c l) (hlv : Lv l) :
    Calls Try.prog 31 #[.slice A n c, .int .i64 i] w fun e w' => ∃ v, e = .returned (.tuple #[v, .int .i64 (eP n i)]) ∧ OwnDs w.heap.size (pX 256 l i) v w' ∧ ExtW w w' := by
  unfold pX eP
  rw [hr.len]
  by_cases h : 0 ≤ i ∧ i < n
  · obtain ⟨k, rfl⟩ : ∃ k : Nat, i = (k : Int) := ⟨i.toNat, by omega⟩
    rw [if_pos h, if_pos h, Int.toNat_natCast]
    exact ppath_ok A n c l k w hnb (by omega) hr hlv
  · rw [if_neg h, if_neg h]
    refine (ppath_no A n c i w (by omega)).mono ?_
    rintro e w' ⟨rfl, hb⟩
    exact ⟨_, rfl, OwnDs.nil _ _, hb⟩
theorem rpath_x (x : Int) (hx : -9223372036854775808 ≤ x ∧ x ≤ 9223372036854775807) (A : Option Addr) (n c : Nat) (l : List (List UInt8)) (i : Int) (w : World) (hnb : n ≤ 1000000) (hr : Sts w A n c l) (hlv : Lv l) :
    Calls Try.prog 27 #[.int .i64 x, .slice A n c, .int .i64 i] w fun e w' => ∃ v, e = .returned (.tuple #[v, .int .i64 (eP n i)]) ∧ OwnDs w.heap.size (pX (bitsN x) l i) v w' ∧ ExtW w w' := by
  unfold pX eP
  rw [hr.1]
  by_cases h : 0 ≤ i ∧ i < n
  · obtain ⟨k, rfl⟩ : ∃ k : Nat, i = (k : Int) := ⟨i.toNat, by omega⟩
    rw [if_pos h, if_pos h, Int.toNat_natCast]
    exact rpath_ok x hx (n + 1) A n c l k w (by omega) hnb (by omega) hr hlv
  · rw [if_neg h, if_neg h]
    refine (rpath_no x A n c i w (by omega)).mono ?_
    rintro e w' ⟨rfl, hb⟩
    exact ⟨_, rfl, OwnDs.nil _ _, hb⟩
theorem mrange_x (x : Int) (hx : -9223372036854775808 ≤ x ∧ x ≤ 9223372036854775807) (A : Option Addr) (n c : Nat) (l : List (List UInt8)) (a b : Int) (w : World) (hnb : n ≤ 1000000) (hr : Bss w A n c l) (hlv : Lv l) :
    Calls Try.prog 28 #[.agg #[.int .i64 x], .slice A n c, .int .i64 a, .int .i64 b] w fun e w' => ∃ v, e = .returned (.tuple #[v, .int .i64 (eR n a b)]) ∧ OwnDs w.heap.size (rX (bitsN x) l a b) v w' ∧ ExtW w w' := by
  unfold rX eR
  rw [hr.len]
  by_cases h : 0 ≤ a ∧ a < b ∧ b ≤ n
  · rw [if_pos h, if_pos h]
    exact mrange_ok x hx A n c l a b w hnb h.1 h.2.1 h.2.2 hr hlv
  · rw [if_neg h, if_neg h]
    refine (mrange_no x A n c a b w (by omega)).mono ?_
    rintro e w' ⟨rfl, hb⟩
    exact ⟨_, rfl, OwnDs.nil _ _, hb⟩
theorem prange_x (A : Option Addr) (n c : Nat) (l : List (List UInt8)) (a b : Int) (w : World) (hnb : n ≤ 1000000) (hr : Bss w A n c l) (hlv : Lv l) :
    Calls Try.prog 32 #[.slice A n c, .int .i64 a, .int .i64 b] w fun e w' => ∃ v, e = .returned (.tuple #[v, .int .i64 (eR n a b)]) ∧ OwnDs w.heap.size (rX 256 l a b) v w' ∧ ExtW w w' := by
  unfold rX eR
  rw [hr.len]
  by_cases h : 0 ≤ a ∧ a < b ∧ b ≤ n
  · rw [if_pos h, if_pos h]
    exact prange_ok A n c l a b w hnb h.1 h.2.1 h.2.2 hr hlv
  · rw [if_neg h, if_neg h]
    refine (prange_no A n c a b w (by omega)).mono ?_
    rintro e w' ⟨rfl, hb⟩
    exact ⟨_, rfl, OwnDs.nil _ _, hb⟩
theorem rrange_x (x : Int) (hx : -9223372036854775808 ≤ x ∧ x ≤ 9223372036854775807) (A : Option Addr) (n c : Nat) (l : List (List UInt8)) (a b : Int) (w : World) (hnb : n ≤ 1000000) (hr : Sts w A n c l) (hlv : Lv l) :
    Calls Try.prog 29 #[.int .i64 x, .slice A n c, .int .i64 a, .int .i64 b] w fun e w' => ∃ v, e = .returned (.tuple #[v, .int .i64 (eR n a b)]) ∧ OwnDs w.heap.size (rX (bitsN x) l a b) v w' ∧ ExtW w w' := by
  unfold rX eR
  rw [hr.1]
  by_cases h : 0 ≤ a ∧ a < b ∧ b ≤ n
  · rw [if_pos h, if_pos h]
    exact rrange_ok x hx A n c l a b w hnb h.1 h.2.1 h.2.2 hr hlv
  · rw [if_neg h, if_neg h]
    refine (rrange_no x A n c a b w (by omega)).mono ?_
    rintro e w' ⟨rfl, hb⟩
    exact ⟨_, rfl, OwnDs.nil _ _, hb⟩

set_option maxHeartbeats 8000000 in
set_option maxRecDepth 100000 in
theorem treePaths_walk (x : Int) (A : Option Addr) (n0 c0 : Nat) (l : List (List UInt8)) (fr tt : Int) (w : World) (hx : -9223372036854775808 ≤ x ∧ x ≤ 9223372036854775807) (hr : Bss w A n0 c0 l) (_hc : c0 ≤ 140737488351232) (_hf : -9223372036854775808 ≤ fr ∧ fr ≤ 9223372036854775807) (_ht : -9223372036854775808 ≤ tt ∧ tt ≤ 9223372036854775807) :
    Calls Try.prog 4 #[.int .i64 x, .slice A n0 c0, .int .i64 fr, .int .i64 tt] w fun e w' => e = .returned (.bool true) ∧ Below w.heap.size w w' := by
  have HX := Lib.hid hx
  have HR := Lib.hid hr
  clear hr hx _hc _hf _ht
  go_enter Try.func4, Try.ntmps4
  go_wp2_with fail
  refine (shown_any _).mono ?_
  rintro e w1 ⟨rfl, hb1⟩
  have HE1 := Lib.hid hb1
  clear hb1
  go_wp2_with fail
  refine (small_any A n0 c0 l _ (HR.out.same HE1.out)).mono ?_
  rintro e w2 ⟨v, rfl, hlot, hb⟩
  have HE2 := Lib.hid (ExtW.trans HE1.out hb)
  obtain ⟨s, hs⟩ : ∃ s, s = smallL l := ⟨_, rfl⟩
  have HLV : Hid (Lv s) := Lib.hid (fun y hy => Nat.le_trans (smallL_lv l y (by rw [← hs]; exact hy)) (by decide))
  have hsn := smallL_len l
  rw [← hs] at hlot hsn
  obtain ⟨B, c, rfl, hbs⟩ := hlot.bss
  obtain ⟨n, hn⟩ : ∃ n, n = s.length := ⟨_, rfl⟩
  rw [← hn] at hbs hsn ⊢
  have HBS2 := Lib.hid hbs
  have HN : Hid (s.length = n) := Lib.hid hn.symm
  have hnc := hbs.nc
  clear hb hlot hbs hs hn HE1
  go_wp2_with fail
  refine (texts_any B n c s _ HBS2.out (by omega)).mono ?_
  rintro e w3 ⟨v, rfl, hst, hb⟩
  obtain ⟨SA, sc, rfl, hs2⟩ := hst.sts
  rw [HN.out] at hs2 ⊢
  have HS3 := Lib.hid hs2
  have hsc := hs2.2.nc
  have HE3 := Lib.hid (ExtW.trans HE2.out hb)
  have HBS3 := Lib.hid (HBS2.out.same hb)
  clear hb hst hs2 HE2 HBS2
  have HC0 := Lib.hid (cell_new1 w3 (.int .i64 x) 30)
  have HEX : Hid (ExtW w3 (w3.alloc (.cells #[.int .i64 x] 30))) := Lib.hid ((Below.refl _ _).alloc (Nat.le_refl _) _)
  go_upto_region 5 with (fail)
  generalize w3.alloc (.cells #[.int .i64 x] 30) = w5 at HC0 HEX ⊢
  obtain ⟨gt, hgt⟩ : ∃ g, g = w3.heap.size := ⟨_, rfl⟩
  rw [← hgt] at HC0 ⊢
  have HC := Lib.hid HC0.out
  have HE := Lib.hid (ExtW.trans HE3.out HEX.out)
  have HB := Lib.hid (HBS3.out.same HEX.out)
  have HS := Lib.hid (HS3.out.same HEX.out)
  clear hgt HEX HC0 HE3 HBS3 HS3
  obtain ⟨P1, hP1⟩ : ∃ P, P = pX (bitsN x) s fr := ⟨_, rfl⟩
  obtain ⟨R1, hR1⟩ : ∃ R, R = rX (bitsN x) s fr tt := ⟨_, rfl⟩
  obtain ⟨P2, hP2⟩ : ∃ P, P = pX 256 s fr := ⟨_, rfl⟩
  obtain ⟨R2, hR2⟩ : ∃ R, R = rX 256 s fr tt := ⟨_, rfl⟩
  have LP1 : Hid (∀ d ∈ P1, d.length = 32) := Lib.hid (by rw [hP1]; exact pX_32 _ _ _)
  have LR1 : Hid (∀ d ∈ R1, d.length = 32) := Lib.hid (by rw [hR1]; exact rX_32 _ _ _ _)
  have LP2 : Hid (∀ d ∈ P2, d.length = 32) := Lib.hid (by rw [hP2]; exact pX_32 _ _ _)
  have LR2 : Hid (∀ d ∈ R2, d.length = 32) := Lib.hid (by rw [hR2]; exact rX_32 _ _ _ _)
  have HP1 := Lib.hid hP1
  have HR1 := Lib.hid hR1
  have HP2 := Lib.hid hP2
  have HR2 := Lib.hid hR2
  obtain ⟨e1, he1⟩ : ∃ e, e = eP n fr := ⟨_, rfl⟩
  obtain ⟨e2, he2⟩ : ∃ e, e = eR n fr tt := ⟨_, rfl⟩
  have HE1 := Lib.hid he1
  have HE2 := Lib.hid he2
  clear hP1 hR1 hP2 hR2 he1 he2
  have k7 := HC.out
  go_wp2_with fail
  refine (mpath_x x HX.out B n c s fr _ (by omega) HB.out HLV.out).mono ?_
  clear k7
  rintro e wa ⟨v, rfl, ho, hb⟩
  rw [← HE1.out]
  rw [← HP1.out] at ho
  obtain ⟨A1, c1, rfl, hd⟩ := ho.dls LP1.out
  have HC' := Lib.hid (hb.cellAt HC.out)
  have HB' := Lib.hid (HB.out.same hb)
  have HS' := Lib.hid (HS.out.same hb)
  have HE' := Lib.hid (ExtW.trans HE.out hb)
  clear ho
  clear HC HB HS
  have HC := Lib.hid HC'.out
  clear HC'
  have HB := Lib.hid HB'.out
  clear HB'
  have HS := Lib.hid HS'.out
  clear HS'
  clear HE
  have HE := Lib.hid HE'.out
  have D1 := Lib.hid hd
  clear HE' hb hd
  go_wp2_with fail
  refine (rpath_x x HX.out SA n sc s fr _ (by omega) HS.out HLV.out).mono ?_
  rintro e wb ⟨v, rfl, ho, hb⟩
  rw [← HE1.out]
  rw [← HP1.out] at ho
  obtain ⟨A2, c2, rfl, hd⟩ := ho.dls LP1.out
  have HC' := Lib.hid (hb.cellAt HC.out)
  have HB' := Lib.hid (HB.out.same hb)
  have HS' := Lib.hid (HS.out.same hb)
  have D1' := Lib.hid (D1.out.same hb)
  have HE' := Lib.hid (ExtW.trans HE.out hb)
  clear ho
  clear HC HB HS D1
  have HC := Lib.hid HC'.out
  clear HC'
  have HB := Lib.hid HB'.out
  clear HB'
  have HS := Lib.hid HS'.out
  clear HS'
  have D1 := Lib.hid D1'.out
  clear D1'
  clear HE
  have HE := Lib.hid HE'.out
  have D2 := Lib.hid hd
  clear HE' hb hd
  have k7 := HC.out
  go_wp2_with fail
  refine (mrange_x x HX.out B n c s fr tt _ (by omega) HB.out HLV.out).mono ?_
  clear k7
  rintro e wc ⟨v, rfl, ho, hb⟩
  rw [← HE2.out]
  rw [← HR1.out] at ho
  obtain ⟨A3, c3, rfl, hd⟩ := ho.dls LR1.out
  have HC' := Lib.hid (hb.cellAt HC.out)
  have HB' := Lib.hid (HB.out.same hb)
  have HS' := Lib.hid (HS.out.same hb)
  have D1' := Lib.hid (D1.out.same hb)
  have D2' := Lib.hid (D2.out.same hb)
  have HE' := Lib.hid (ExtW.trans HE.out hb)
  clear ho
  clear HC HB HS D1 D2
  have HC := Lib.hid HC'.out
  clear HC'
  have HB := Lib.hid HB'.out
  clear HB'
  have HS := Lib.hid HS'.out
  clear HS'
  have D1 := Lib.hid D1'.out
  clear D1'
  have D2 := Lib.hid D2'.out
  clear D2'
  clear HE
  have HE := Lib.hid HE'.out
  have D3 := Lib.hid hd
  clear HE' hb hd
  go_wp2_with fail
  refine (rrange_x x HX.out SA n sc s fr tt _ (by omega) HS.out HLV.out).mono ?_
  rintro e wd ⟨v, rfl, ho, hb⟩
  rw [← HE2.out]
  rw [← HR1.out] at ho
  obtain ⟨A4, c4, rfl, hd⟩ := ho.dls LR1.out
  have HC' := Lib.hid (hb.cellAt HC.out)
  have HB' := Lib.hid (HB.out.same hb)
  have HS' := Lib.hid (HS.out.same hb)
  have D1' := Lib.hid (D1.out.same hb)
  have D2' := Lib.hid (D2.out.same hb)
  have D3' := Lib.hid (D3.out.same hb)
  have HE' := Lib.hid (ExtW.trans HE.out hb)
  clear ho
  clear HC HB HS D1 D2 D3
  have HC := Lib.hid HC'.out
  clear HC'
  have HB := Lib.hid HB'.out
  clear HB'
  have HS := Lib.hid HS'.out
  clear HS'
  have D1 := Lib.hid D1'.out
  clear D1'
  have D2 := Lib.hid D2'.out
  clear D2'
  have D3 := Lib.hid D3'.out
  clear D3'
  clear HE
  have HE := Lib.hid HE'.out
  have D4 := Lib.hid hd
  clear HE' hb hd
  go_wp2_with fail
  refine (same_any _ _ _ P1 _ _ _ P1 _ D1.out D2.out).mono ?_
  rintro e we ⟨rfl, hb⟩
  have HC' := Lib.hid (hb.cellAt HC.out)
  have HB' := Lib.hid (HB.out.same hb)
  have HS' := Lib.hid (HS.out.same hb)
  have D1' := Lib.hid (D1.out.same hb)
  have D2' := Lib.hid (D2.out.same hb)
  have D3' := Lib.hid (D3.out.same hb)
  have D4' := Lib.hid (D4.out.same hb)
  have HE' := Lib.hid (ExtW.trans HE.out hb)
  clear HC HB HS D1 D2 D3 D4
  have HC := Lib.hid HC'.out
  clear HC'
  have HB := Lib.hid HB'.out
  clear HB'
  have HS := Lib.hid HS'.out
  clear HS'
  have D1 := Lib.hid D1'.out
  clear D1'
  have D2 := Lib.hid D2'.out
  clear D2'
  have D3 := Lib.hid D3'.out
  clear D3'
  have D4 := Lib.hid D4'.out
  clear D4'
  clear HE
  have HE := Lib.hid HE'.out
  clear HE' hb
  rw [show decide (P1 = P1) = true by simp]
  go_wp2_with fail
  refine (same_any _ _ _ R1 _ _ _ R1 _ D3.out D4.out).mono ?_
  rintro e wf ⟨rfl, hb⟩
  have HC' := Lib.hid (hb.cellAt HC.out)
  have HB' := Lib.hid (HB.out.same hb)
  have HS' := Lib.hid (HS.out.same hb)
  have D1' := Lib.hid (D1.out.same hb)
  have D2' := Lib.hid (D2.out.same hb)
  have D3' := Lib.hid (D3.out.same hb)
  have D4' := Lib.hid (D4.out.same hb)
  have HE' := Lib.hid (ExtW.trans HE.out hb)
  clear HC HB HS D1 D2 D3 D4
  have HC := Lib.hid HC'.out
  clear HC'
  have HB := Lib.hid HB'.out
  clear HB'
  have HS := Lib.hid HS'.out
  clear HS'
  have D1 := Lib.hid D1'.out
  clear D1'
  have D2 := Lib.hid D2'.out
  clear D2'
  have D3 := Lib.hid D3'.out
  clear D3'
  have D4 := Lib.hid D4'.out
  clear D4'
  clear HE
  have HE := Lib.hid HE'.out
  clear HE' hb
  rw [show decide (R1 = R1) = true by simp]
  go_wp2_with fail
  refine (ppath_x B n c s fr _ (by omega) HB.out HLV.out).mono ?_
  rintro e wg ⟨v, rfl, ho, hb⟩
  rw [← HE1.out]
  rw [← HP2.out] at ho
  obtain ⟨A5, c5, rfl, hd⟩ := ho.dls LP2.out
  have HC' := Lib.hid (hb.cellAt HC.out)
  have HB' := Lib.hid (HB.out.same hb)
  have HS' := Lib.hid (HS.out.same hb)
  have D1' := Lib.hid (D1.out.same hb)
  have D2' := Lib.hid (D2.out.same hb)
  have D3' := Lib.hid (D3.out.same hb)
  have D4' := Lib.hid (D4.out.same hb)
  have HE' := Lib.hid (ExtW.trans HE.out hb)
  clear ho
  clear HC HB HS D1 D2 D3 D4
  have HC := Lib.hid HC'.out
  clear HC'
  have HB := Lib.hid HB'.out
  clear HB'
  have HS := Lib.hid HS'.out
  clear HS'
  have D1 := Lib.hid D1'.out
  clear D1'
  have D2 := Lib.hid D2'.out
  clear D2'
  have D3 := Lib.hid D3'.out
  clear D3'
  have D4 := Lib.hid D4'.out
  clear D4'
  clear HE
  have HE := Lib.hid HE'.out
  have D5 := Lib.hid hd
  clear HE' hb hd
  go_wp2_with fail
  refine (rpath_x 256 (by decide) SA n sc s fr _ (by omega) HS.out HLV.out).mono ?_
  rintro e wh ⟨v, rfl, ho, hb⟩
  rw [← HE1.out]
  rw [show bitsN 256 = 256 from rfl, ← HP2.out] at ho
  obtain ⟨A6, c6, rfl, hd⟩ := ho.dls LP2.out
  have HC' := Lib.hid (hb.cellAt HC.out)
  have HB' := Lib.hid (HB.out.same hb)
  have HS' := Lib.hid (HS.out.same hb)
  have D1' := Lib.hid (D1.out.same hb)
  have D2' := Lib.hid (D2.out.same hb)
  have D3' := Lib.hid (D3.out.same hb)
  have D4' := Lib.hid (D4.out.same hb)
  have D5' := Lib.hid (D5.out.same hb)
  have HE' := Lib.hid (ExtW.trans HE.out hb)
  clear ho
  clear HC HB HS D1 D2 D3 D4 D5
  have HC := Lib.hid HC'.out
  clear HC'
  have HB := Lib.hid HB'.out
  clear HB'
  have HS := Lib.hid HS'.out
  clear HS'
  have D1 := Lib.hid D1'.out
  clear D1'
  have D2 := Lib.hid D2'.out
  clear D2'
  have D3 := Lib.hid D3'.out
  clear D3'
  have D4 := Lib.hid D4'.out
  clear D4'
  have D5 := Lib.hid D5'.out
  clear D5'
  clear HE
  have HE := Lib.hid HE'.out
  have D6 := Lib.hid hd
  clear HE' hb hd
  go_wp2_with fail
  refine (prange_x B n c s fr tt _ (by omega) HB.out HLV.out).mono ?_
  rintro e wi ⟨v, rfl, ho, hb⟩
  rw [← HE2.out]
  rw [← HR2.out] at ho
  obtain ⟨A7, c7, rfl, hd⟩ := ho.dls LR2.out
  have HC' := Lib.hid (hb.cellAt HC.out)
  have HB' := Lib.hid (HB.out.same hb)
  have HS' := Lib.hid (HS.out.same hb)
  have D1' := Lib.hid (D1.out.same hb)
  have D2' := Lib.hid (D2.out.same hb)
  have D3' := Lib.hid (D3.out.same hb)
  have D4' := Lib.hid (D4.out.same hb)
  have D5' := Lib.hid (D5.out.same hb)
  have D6' := Lib.hid (D6.out.same hb)
  have HE' := Lib.hid (ExtW.trans HE.out hb)
  clear ho
  clear HC HB HS D1 D2 D3 D4 D5 D6
  have HC := Lib.hid HC'.out
  clear HC'
  have HB := Lib.hid HB'.out
  clear HB'
  have HS := Lib.hid HS'.out
  clear HS'
  have D1 := Lib.hid D1'.out
  clear D1'
  have D2 := Lib.hid D2'.out
  clear D2'
  have D3 := Lib.hid D3'.out
  clear D3'
  have D4 := Lib.hid D4'.out
  clear D4'
  have D5 := Lib.hid D5'.out
  clear D5'
  have D6 := Lib.hid D6'.out
  clear D6'
  clear HE
  have HE := Lib.hid HE'.out
  have D7 := Lib.hid hd
  clear HE' hb hd
  go_wp2_with fail
  refine (rrange_x 256 (by decide) SA n sc s fr tt _ (by omega) HS.out HLV.out).mono ?_
  rintro e wj ⟨v, rfl, ho, hb⟩
  rw [← HE2.out]
  rw [show bitsN 256 = 256 from rfl, ← HR2.out] at ho
  obtain ⟨A8, c8, rfl, hd⟩ := ho.dls LR2.out
  have HC' := Lib.hid (hb.cellAt HC.out)
  have HB' := Lib.hid (HB.out.same hb)
  have HS' := Lib.hid (HS.out.same hb)
  have D1' := Lib.hid (D1.out.same hb)
  have D2' := Lib.hid (D2.out.same hb)
  have D3' := Lib.hid (D3.out.same hb)
  have D4' := Lib.hid (D4.out.same hb)
  have D5' := Lib.hid (D5.out.same hb)
  have D6' := Lib.hid (D6.out.same hb)
  have D7' := Lib.hid (D7.out.same hb)
  have HE' := Lib.hid (ExtW.trans HE.out hb)
  clear ho
  clear HC HB HS D1 D2 D3 D4 D5 D6 D7
  have HC := Lib.hid HC'.out
  clear HC'
  have HB := Lib.hid HB'.out
  clear HB'
  have HS := Lib.hid HS'.out
  clear HS'
  have D1 := Lib.hid D1'.out
  clear D1'
  have D2 := Lib.hid D2'.out
  clear D2'
  have D3 := Lib.hid D3'.out
  clear D3'
  have D4 := Lib.hid D4'.out
  clear D4'
  have D5 := Lib.hid D5'.out
  clear D5'
  have D6 := Lib.hid D6'.out
  clear D6'
  have D7 := Lib.hid D7'.out
  clear D7'
  clear HE
  have HE := Lib.hid HE'.out
  have D8 := Lib.hid hd
  clear HE' hb hd
  go_wp2_with fail
  refine (same_any _ _ _ P2 _ _ _ P2 _ D5.out D6.out).mono ?_
  rintro e wk ⟨rfl, hb⟩
  have HC' := Lib.hid (hb.cellAt HC.out)
  have HB' := Lib.hid (HB.out.same hb)
  have HS' := Lib.hid (HS.out.same hb)
  have D1' := Lib.hid (D1.out.same hb)
  have D2' := Lib.hid (D2.out.same hb)
  have D3' := Lib.hid (D3.out.same hb)
  have D4' := Lib.hid (D4.out.same hb)
  have D5' := Lib.hid (D5.out.same hb)
  have D6' := Lib.hid (D6.out.same hb)
  have D7' := Lib.hid (D7.out.same hb)
  have D8' := Lib.hid (D8.out.same hb)
  have HE' := Lib.hid (ExtW.trans HE.out hb)
  clear HC HB HS D1 D2 D3 D4 D5 D6 D7 D8
  have HC := Lib.hid HC'.out
  clear HC'
  have HB := Lib.hid HB'.out
  clear HB'
  have HS := Lib.hid HS'.out
  clear HS'
  have D1 := Lib.hid D1'.out
  clear D1'
  have D2 := Lib.hid D2'.out
  clear D2'
  have D3 := Lib.hid D3'.out
  clear D3'
  have D4 := Lib.hid D4'.out
  clear D4'
  have D5 := Lib.hid D5'.out
  clear D5'
  have D6 := Lib.hid D6'.out
  clear D6'
  have D7 := Lib.hid D7'.out
  clear D7'
  have D8 := Lib.hid D8'.out
  clear D8'
  clear HE
  have HE := Lib.hid HE'.out
  clear HE' hb
  rw [show decide (P2 = P2) = true by simp]
  go_wp2_with fail
  refine (same_any _ _ _ R2 _ _ _ R2 _ D7.out D8.out).mono ?_
  rintro e wl ⟨rfl, hb⟩
  have HC' := Lib.hid (hb.cellAt HC.out)
  have HB' := Lib.hid (HB.out.same hb)
  have HS' := Lib.hid (HS.out.same hb)
  have D1' := Lib.hid (D1.out.same hb)
  have D2' := Lib.hid (D2.out.same hb)
  have D3' := Lib.hid (D3.out.same hb)
  have D4' := Lib.hid (D4.out.same hb)
  have D5' := Lib.hid (D5.out.same hb)
  have D6' := Lib.hid (D6.out.same hb)
  have D7' := Lib.hid (D7.out.same hb)
  have D8' := Lib.hid (D8.out.same hb)
  have HE' := Lib.hid (ExtW.trans HE.out hb)
  clear HC HB HS D1 D2 D3 D4 D5 D6 D7 D8
  have HC := Lib.hid HC'.out
  clear HC'
  have HB := Lib.hid HB'.out
  clear HB'
  have HS := Lib.hid HS'.out
  clear HS'
  have D1 := Lib.hid D1'.out
  clear D1'
  have D2 := Lib.hid D2'.out
  clear D2'
  have D3 := Lib.hid D3'.out
  clear D3'
  have D4 := Lib.hid D4'.out
  clear D4'
  have D5 := Lib.hid D5'.out
  clear D5'
  have D6 := Lib.hid D6'.out
  clear D6'
  have D7 := Lib.hid D7'.out
  clear D7'
  have D8 := Lib.hid D8'.out
  clear D8'
  clear HE
  have HE := Lib.hid HE'.out
  clear HE' hb
  rw [show decide (R2 = R2) = true by simp]
  go_wp2_with fail
  refine (still_any B n c s SA sc _ HB.out HS.out (by omega)).mono ?_
  rintro e wm ⟨rfl, hb⟩
  have HC' := Lib.hid (hb.cellAt HC.out)
  have HB' := Lib.hid (HB.out.same hb)
  have HS' := Lib.hid (HS.out.same hb)
  have D1' := Lib.hid (D1.out.same hb)
  have D2' := Lib.hid (D2.out.same hb)
  have D3' := Lib.hid (D3.out.same hb)
  have D4' := Lib.hid (D4.out.same hb)
  have D5' := Lib.hid (D5.out.same hb)
  have D6' := Lib.hid (D6.out.same hb)
  have D7' := Lib.hid (D7.out.same hb)
  have D8' := Lib.hid (D8.out.same hb)
  have HE' := Lib.hid (ExtW.trans HE.out hb)
  clear HC HB HS D1 D2 D3 D4 D5 D6 D7 D8
  have HC := Lib.hid HC'.out
  clear HC'
  have HB := Lib.hid HB'.out
  clear HB'
  have HS := Lib.hid HS'.out
  clear HS'
  have D1 := Lib.hid D1'.out
  clear D1'
  have D2 := Lib.hid D2'.out
  clear D2'
  have D3 := Lib.hid D3'.out
  clear D3'
  have D4 := Lib.hid D4'.out
  clear D4'
  have D5 := Lib.hid D5'.out
  clear D5'
  have D6 := Lib.hid D6'.out
  clear D6'
  have D7 := Lib.hid D7'.out
  clear D7'
  have D8 := Lib.hid D8'.out
  clear D8'
  clear HE
  have HE := Lib.hid HE'.out
  clear HE' hb
  go_wp2
  go_ret
  exact ⟨rfl, HE.out⟩
end Go.Proofs.Ytncdgndeidbgoaa
