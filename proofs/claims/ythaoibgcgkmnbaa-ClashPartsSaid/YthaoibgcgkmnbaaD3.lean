/- Walk of the document's Of. -/
import Derived.Test.YthaoibgcgkmnbaaD2
namespace Go.Proofs.Ythaoibgcgkmnbaa
set_option maxRecDepth 100000
open Go.RowKit

/-- what a clash is in memory of the document's -/
def ofV : Option (List UInt8 × List UInt8) → Value
  | none => .tuple #[.string ⟨#[]⟩, .string ⟨#[]⟩, .bool false]
  | some (a, b) => .tuple #[.string ⟨a.toArray⟩, .string ⟨b.toArray⟩, .bool true]
theorem T.pairsD_step (B : Nat) (leaf : List UInt8) {l : List (List UInt8)} {n : Nat} (i : Nat) (path : List (List UInt8)) (hn : l.length = n) : ∃ t rest, (T.pairsD B leaf l i path).1 = (t, T.texD B l) :: rest ∧ (n = 1 → rest = []) ∧
    (2 ≤ n → i < T.half n → rest = (T.pairsD B leaf (l.take (T.half n)) i (path.take (path.length - 1))).1) ∧ (2 ≤ n → ¬ i < T.half n → rest = (T.pairsD B leaf (l.drop (T.half n)) (i - T.half n) (path.take (path.length - 1))).1) := by
  subst hn
  rw [T.pairsD]
  split
  · exact ⟨_, _, rfl, fun _ => rfl, fun h => absurd h (by omega), fun h => absurd h (by omega)⟩
  · split
    · rename_i h1 h2
      exact ⟨_, _, rfl, fun h => absurd h (by omega), fun _ _ => rfl, fun _ h => absurd h2 h⟩
    · rename_i h1 h2
      exact ⟨_, _, rfl, fun h => absurd h (by omega), fun _ h => absurd h h2, fun _ _ => rfl⟩

set_option maxHeartbeats 20000000 in
set_option maxRecDepth 100000 in
theorem rof_any (x : Int) (hx : -9223372036854775808 ≤ x ∧ x ≤ 9223372036854775807) (A : Option Addr) (n c : Nat) (real : List (List UInt8)) (i : Int) (leaf : List UInt8) (hlf : leaf.length ≤ 1000000) (PA : Option Addr) (pn pc : Nat) (path : List (List UInt8)) (w : World)
    (hr : Sts w A n c real) (hlv : Lv real) (hn : n ≤ 900000) (hp : Dls w PA pn pc path) :
    Calls Try.prog 14 #[.int .i64 x, .slice A n c, .int .i64 i, strV leaf, .slice PA pn pc] w fun e w' => e = .returned (ofV (T.ofD (bitsN x) real i leaf path)) ∧ ExtW w w' := by
  have HX := Lib.hid hx
  have HR := Lib.hid hr
  have HV := Lib.hid hlv
  have HP := Lib.hid hp
  have HLN := Lib.hid hr.1
  have HPN := Lib.hid hp.len
  clear hx hr hlv hp
  go_enter Try.func14, Try.ntmps14
  go_wp2_with fail
  refine (rroot_any x HX.out (n + 1) A n c real _ (by omega) HR.out HV.out).mono ?_
  rintro e w3 ⟨rfl, hb⟩
  obtain ⟨d, hd⟩ : ∃ d, d = T.rootD (bitsN x) real := ⟨_, rfl⟩
  have HDL : Hid (d.length = 32) := Lib.hid (by rw [hd]; exact T.rootD_len _ _)
  have HD := Lib.hid hd
  have HE3 := Lib.hid hb
  rw [← hd]
  clear hd hb
  go_upto_region 2 with (first
    | (refine wpList_newD rfl rfl ?_)
    | (refine wpList_newst rfl rfl rfl HDL.out (d0 := List.replicate 32 0) rfl rfl rfl (zDig_row _) ?_))
  have HA4 := Lib.hid (stD_row w3 d)
  have HE4 := Lib.hid (ExtW.trans HE3.out (stD_ext w3 d))
  generalize (w3.alloc (.cells zDig 45)).setRow w3.heap.size (bvs d).toArray = w4 at HA4 HE4 ⊢
  obtain ⟨ga, hga⟩ : ∃ g, g = w3.heap.size := ⟨_, rfl⟩
  rw [← hga] at HA4 ⊢
  clear hga HE3
  have HSA : Hid ((bvs d).toArray.size = 32) := Lib.hid (dg_size HDL.out)
  go_wp2_with (refine wpList_ld rfl rfl ?_; refine ⟨ga, _, _, _, rfl, HA4.out, Try.underlying45, rfl, by rw [HSA.out]; kernel_rfl, ?_⟩)
  refine (rcheck_any x HX.out d HDL.out (n : Int) i (by omega) leaf hlf PA pn pc path _ (HP.out.same HE4.out)).mono ?_
  rintro e w5 ⟨rfl, hb⟩
  have HE5 := Lib.hid (ExtW.trans HE4.out hb)
  clear hb HA4 HE4
  cases hck : T.checkD (bitsN x) d (n : Int) i leaf path with
  | false =>
    have HNO : Hid (T.ofD (bitsN x) real i leaf path = none) := Lib.hid (T.ofD_no (by rw [← HD.out, HLN.out]; exact hck))
    clear hck
    go_wp2
    go_ret3
    exact ⟨by rw [HNO.out]; rfl, HE5.out⟩
  | true =>
  obtain ⟨j, hj, hjn, hpl, _⟩ := T.checkD_in hck
  have HYES : Hid (T.ofD (bitsN x) real i leaf path = T.diff1 (T.pairsD (bitsN x) leaf real j path).1) := Lib.hid (by rw [T.ofD_yes (by rw [← HD.out, HLN.out]; exact hck), hj, Int.toNat_natCast])
  have HPL := Lib.hid hpl
  subst hj
  clear hck hpl
  go_wp2_with fail
  refine (ropened_any x HX.out leaf hlf (n + 1) n j real PA pn pc path w5 (by omega) hn HLN.out hjn (by rw [← HPN.out]; exact HPL.out) (HP.out.same HE5.out)).mono ?_
  rintro e w6 ⟨v, rfl, ho, hb⟩
  have HE6 := Lib.hid (ExtW.trans HE5.out hb)
  have HTL := Lib.hid (T.topsD_len (bitsN x) leaf (n + 1) real j path (by rw [HLN.out]; omega))
  obtain ⟨vA, vc, rfl, hsts⟩ := ho.sts
  obtain ⟨tops, htops⟩ : ∃ q, q = T.topsD (bitsN x) leaf real j path := ⟨_, rfl⟩
  have HTP := Lib.hid htops
  rw [← htops] at hsts HTL ⊢
  obtain ⟨tn, htn⟩ : ∃ q, q = tops.length := ⟨_, rfl⟩
  have HTN := Lib.hid htn
  have htb : tn ≤ 900001 := by have h3 := HTL.out; rw [HLN.out] at h3; omega
  rw [← htn] at hsts ⊢
  have HS6 := Lib.hid hsts
  obtain ⟨od, hod⟩ : ∃ d, d = (T.pairsD (bitsN x) leaf real j path).2 := ⟨_, rfl⟩
  have HODL : Hid (od.length = 32) := Lib.hid (by rw [hod]; exact T.pairsD_len _ _ _ _ _)
  rw [← hod]
  clear hod htn htops ho hb hsts HE5 HTL
  go_upto_region 6 with (first
    | (refine wpList_newD rfl rfl ?_)
    | (refine wpList_newst rfl rfl rfl HODL.out (d0 := List.replicate 32 0) rfl rfl rfl (zDig_row _) ?_))
  have HE7 := Lib.hid (ExtW.trans HE6.out (stD_ext w6 od))
  have HS7 := Lib.hid (HS6.out.same (stD_ext w6 od))
  generalize (w6.alloc (.cells zDig 45)).setRow w6.heap.size (bvs od).toArray = w7 at HE7 HS7 ⊢
  clear HE6 HS6
  have HR7 := Lib.hid (HR.out.same HE7.out)
  go_upto_block 0 with (fail)
  go_wp2_with fail
  go_loopw [2, 17, 18] (fun iv lv q wr => ∃ (B : Option Addr) (m d jj qq : Nat) (l p : List (List UInt8)), iv = .int .i64 (jj : Int) ∧ lv = .slice B m d ∧ q = .int .i64 (qq : Int) ∧ qq ≤ tn ∧ 1 ≤ m ∧ m ≤ n ∧ jj < m ∧ Hid (Sts w7 B m d l) ∧ Hid (Lv l) ∧ Hid (tops.drop qq = T.topsD (bitsN x) leaf l jj p) ∧
    Hid (T.diff1 (T.pairsD (bitsN x) leaf real j path).1 = T.diff1 (T.pairsD (bitsN x) leaf l jj p).1) ∧ Hid (ExtW w7 wr)) (fun _ _ q _ => tn - (intOf q).toNat)
  case atStart => exact ⟨A, n, c, j, 0, real, path, rfl, rfl, rfl, Nat.zero_le _, by omega, Nat.le_refl _, hjn, HR7, HV, Lib.hid (by rw [List.drop_zero]; exact HTP.out), Lib.hid rfl, Lib.hid (ExtW.refl _)⟩
  case round =>
    obtain ⟨B, m, dd, jj, qq, l, p, rfl, rfl, rfl, hqt, hm1, hmn, hjm, HRL, HVL, HTD, HDF, HWR⟩ := hrel
    obtain ⟨t, rest, hpr, hr1, hr2, hr3⟩ := T.pairsD_step (bitsN x) leaf jj p HRL.out.1
    have HPR := Lib.hid hpr
    have htop : tops[qq]? = some t := by
      have h3 : (tops.drop qq)[0]? = some t := by rw [HTD.out]; unfold T.topsD; rw [hpr]; rfl
      rwa [List.getElem?_drop, Nat.add_zero] at h3
    have hlt : qq < tn := by have := (List.getElem?_eq_some_iff.1 htop).1; have := HTN.out; omega
    have HT2 : Hid (tops.drop (qq + 1) = rest.map (·.1)) := Lib.hid (by rw [← List.drop_drop, HTD.out]; unfold T.topsD; rw [hpr]; rfl)
    have hli : (qq : Int) < (tn : Int) := by omega
    obtain ⟨va, hva⟩ := HS7.out.addr (by omega)
    subst hva
    have HC := Lib.hid (HS7.out.at htop)
    have HH1 := Lib.hid hr1
    have HH2 := Lib.hid hr2
    have HH3 := Lib.hid hr3
    clear hpr htop hr1 hr2 hr3
    go_wp2_with fail
    refine (rtext_any x HX.out B m dd l wr hm1 (HRL.out.same HWR.out) HVL.out).mono ?_
    rintro e w8 ⟨rfl, hb⟩
    have HE8 := Lib.hid (ExtW.trans HWR.out hb)
    obtain ⟨own, hown⟩ : ∃ q, q = T.texD (bitsN x) l := ⟨_, rfl⟩
    rw [← hown] at HPR ⊢
    have k1 := HE8.out.cellAt HC.out
    unfold strV at k1 ⊢
    clear hown hb HWR
    by_cases hto : t = own
    · subst hto
      have HDR : Hid (T.diff1 (T.pairsD (bitsN x) leaf l jj p).1 = T.diff1 rest) := Lib.hid (by rw [HPR.out, T.diff1_cons, if_pos rfl])
      by_cases hm : m = 1
      · subst hm
        have HN : Hid (T.ofD (bitsN x) real (j : Int) leaf path = none) := Lib.hid (by rw [HYES.out, HDF.out, HDR.out, HH1.out rfl]; rfl)
        go_wp2
        go_ret3
        exact ⟨by rw [HN.out]; rfl, ExtW.trans HE7.out HE8.out⟩
      · have h2 : 2 ≤ m := by omega
        have hne1 : ((m : Int) == 1) = false := by rw [beq_eq_false_iff_ne]; omega
        obtain ⟨k, hk⟩ : ∃ k, k = T.half m := ⟨_, rfl⟩
        have hhl := T.half_lt h2
        rw [← hk] at hhl HH2 HH3
        have HK := Lib.hid hk
        have hcl : k ≤ m := by omega
        have hmd := HRL.out.2.nc
        clear hk hm
        go_wp2_with fail
        refine (rhalf_any m _ ⟨by omega, by omega⟩).mono ?_
        rintro e w9 ⟨rfl, rfl⟩
        rw [← HK.out]
        have hrt := run_takeT B m dd k hcl hmd
        have hrd := run_dropT B m dd k hcl hmd
        by_cases hjk : jj < k
        · have hjki : (jj : Int) < (k : Int) := by omega
          go_wp2_with fail
          refine ⟨?_, ?measure⟩
          (repeat apply Exists.intro)
          refine ⟨?rel, rfl⟩
          case rel => exact ⟨B, k, dd, jj, qq + 1, l.take k, p.take (p.length - 1), rfl, rfl, by simp, hlt, by omega, by omega, hjk, Lib.hid (HRL.out.take hcl), Lib.hid (HVL.out.take k), Lib.hid (by rw [HT2.out, HH2.out h2 hjk]; rfl), Lib.hid (by rw [HDF.out, HDR.out, HH2.out h2 hjk]), HE8⟩
          case measure => simp [intOf]; omega
        · have hjki : ¬ (jj : Int) < (k : Int) := by omega
          have hs3 : IntKind.i64.wrap ((jj : Int) - (k : Int)) = ((jj - k : Nat) : Int) := by rw [IntWalk.i64_in _ (by omega)]; omega
          go_wp2_with fail
          refine ⟨?_, ?measure⟩
          (repeat apply Exists.intro)
          refine ⟨?rel, rfl⟩
          case rel => exact ⟨_, m - k, dd - k, jj - k, qq + 1, l.drop k, p.take (p.length - 1), by simp, rfl, by simp, hlt, by omega, by omega, by omega, Lib.hid (HRL.out.dropA hcl), Lib.hid (HVL.out.drop k), Lib.hid (by rw [HT2.out, HH3.out h2 hjk]; rfl), Lib.hid (by rw [HDF.out, HDR.out, HH3.out h2 hjk]), HE8⟩
          case measure => simp [intOf]; omega
    · have HN : Hid (T.ofD (bitsN x) real (j : Int) leaf path = some (t, own)) := Lib.hid (by rw [HYES.out, HDF.out, HPR.out, T.diff1_cons, if_neg hto])
      obtain ⟨sx, hsx⟩ : ∃ s, s = (⟨t.toArray⟩ : ByteArray) := ⟨_, rfl⟩
      obtain ⟨sy, hsy⟩ : ∃ s, s = (⟨own.toArray⟩ : ByteArray) := ⟨_, rfl⟩
      have hs2 : (sx.toList == sy.toList) = false := by
        rw [beq_eq_false_iff_ne, hsx, hsy, ByteArray.toList_eq, ByteArray.toList_eq]
        simpa using hto
      have HSS : Hid (ofV (some (t, own)) = .tuple #[.string sx, .string sy, .bool true]) := Lib.hid (by rw [hsx, hsy]; rfl)
      rw [← hsx] at k1
      rw [← hsy]
      clear hsx hsy hto
      go_wp2
      go_ret3
      exact ⟨by rw [HN.out, HSS.out]; rfl, ExtW.trans HE7.out HE8.out⟩
end Go.Proofs.Ythaoibgcgkmnbaa
