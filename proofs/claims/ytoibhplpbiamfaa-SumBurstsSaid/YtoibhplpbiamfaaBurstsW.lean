/- Walk of SumBursts. -/
import Derived.Test.YtoibhplpbiamfaaShown2
import Derived.Test.YtoibhplpbiamfaaBurst
namespace Go.Proofs.Ytoibhplpbiamfaa
open Go.RowKit

theorem wrap64_small {n : Int} (h1 : 0 ≤ n) (h2 : n < 9223372036854775808) : wrap64 n = n := by unfold wrap64; omega
theorem sign_of {x : Int} (hx : -9223372036854775808 ≤ x ∧ x ≤ 9223372036854775807) : (∃ y : Nat, x + 1 = -(y : Int) ∧ x < 0 ∧ y < 9223372036854775808 ∧ wrap64 (-(y : Int)) = -(y : Int) ∧ wrap64 (y : Int) = (y : Int)) ∨ (∃ y : Nat, x = (y : Int) ∧ y < 9223372036854775808 ∧ decide ((y : Int) < 0) = false) := by
  rcases (by omega : x < 0 ∨ 0 ≤ x) with h | h
  · refine .inl ⟨(-(x + 1)).toNat, by omega, h, by omega, ?_, wrap64_small (by omega) (by omega)⟩
    unfold wrap64; omega
  · exact .inr ⟨x.toNat, by omega, by omega, decide_eq_false (by omega)⟩

/-- byte i of a word -/
def tb (t i : Nat) : UInt8 := UInt8.ofNat (t / 256 ^ i)
/-- bytes of which the first i behind k are turned -/
def tw (xs : List UInt8) (k t : Nat) : Nat → List UInt8
  | 0 => xs
  | i + 1 => (tw xs k t i).set (k + i) ((tw xs k t i).getD (k + i) 0 ^^^ tb t i)
theorem tw_len (xs : List UInt8) (k t i : Nat) : (tw xs k t i).length = xs.length := by
  induction i with
  | zero => rfl
  | succ i ih => simp only [tw]; rw [List.length_set, ih]
theorem set_app {p q : List UInt8} {k i : Nat} (hk : p.length = k) (v : UInt8) : (p ++ q).set (k + i) v = p ++ q.set i v := by
  rw [List.set_append_right (h := by omega), hk, Nat.add_sub_cancel_left]
theorem getD_app {p q : List UInt8} {k i : Nat} (hk : p.length = k) : (p ++ q).getD (k + i) 0 = q.getD i 0 := by
  rw [List.getD_eq_getElem?_getD, List.getElem?_append_right (by omega), hk, Nat.add_sub_cancel_left, List.getD_eq_getElem?_getD]
theorem tw_four {p q : List UInt8} {x y z u : UInt8} {k t : Nat} (hk : p.length = k) :
    tw (p ++ (x :: y :: z :: u :: q)) k t 4 = p ++ ([x ^^^ tb t 0, y ^^^ tb t 1, z ^^^ tb t 2, u ^^^ tb t 3] ++ q) := by
  simp only [tw]
  simp only [getD_app hk, set_app hk]
  rfl
theorem tb_zero {t : Nat} (ht : t < 4294967296) (h0 : tb t 0 = 0) (h1 : tb t 1 = 0) (h2 : tb t 2 = 0) (h3 : tb t 3 = 0) : t = 0 := by
  have e : ∀ i, tb t i = 0 → t / 256 ^ i % 256 = 0 := by
    intro i h
    have := congrArg UInt8.toNat h
    unfold tb at this
    rw [UInt8.toNat_ofNat'] at this
    exact this
  have a0 := e 0 h0
  have a1 := e 1 h1
  have a2 := e 2 h2
  have a3 := e 3 h3
  simp only [Nat.pow_zero, Nat.div_one, Nat.pow_one] at a0 a1
  rw [show 256 ^ 2 = 65536 from rfl] at a2
  rw [show 256 ^ 3 = 16777216 from rfl] at a3
  omega
theorem xor_same {a b : UInt8} (h : a = a ^^^ b) : b = 0 := by
  have e := congrArg (a ^^^ ·) h
  simp only [← UInt8.xor_assoc, UInt8.xor_self, UInt8.zero_xor] at e
  exact e.symm
theorem burst_crc {xs : List UInt8} {k t : Nat} (hk : k + 4 ≤ xs.length) (ht : t < 4294967296) (h0 : t ≠ 0) : crc xs ≠ crc (tw xs k t 4) := by
  intro h
  obtain ⟨p, hp⟩ : ∃ p, p = xs.take k := ⟨_, rfl⟩
  have hpl : p.length = k := by rw [hp, List.length_take]; omega
  obtain ⟨x, y, z, u, q, hq⟩ : ∃ x y z u q, xs.drop k = x :: y :: z :: u :: q := by
    match hd : xs.drop k with
    | x :: y :: z :: u :: q => exact ⟨x, y, z, u, q, rfl⟩
    | [] | [_] | [_, _] | [_, _, _] => exfalso; have := congrArg List.length hd; rw [List.length_drop] at this; simp at this; omega
  have hx : xs = p ++ (x :: y :: z :: u :: q) := by rw [hp, ← hq, List.take_append_drop]
  rw [hx, tw_four hpl] at h
  obtain ⟨e0, e1, e2, e3⟩ := crc_burst (p := p) (q := q) (x := x) (y := y) (z := z) (u := u) h
  exact h0 (tb_zero ht (xor_same e0) (xor_same e1) (xor_same e2) (xor_same e3))
theorem xor_u8 (a b : UInt8) : bits .xor .u8 (a.toNat : Int) (b.toNat : Int) = ((a ^^^ b).toNat : Int) := by
  rw [u8_xor_nat _ _ a.toNat_lt b.toNat_lt, UInt8.toNat_xor]

set_option maxHeartbeats 8000000 in
set_option maxRecDepth 100000 in
theorem sumBursts_walk (A : Option Addr) (n c : Nat) (xs : List UInt8) (x : Int) (t : Nat) (w : World) (hr : Rd w A n c 1 (bvs xs)) (hc : c ≤ 140737488351232)
    (hx : -9223372036854775808 ≤ x ∧ x ≤ 9223372036854775807) (ht : t < 4294967296) :
    Calls Try.prog 7 #[.slice A n c, .int .i64 x, .int .u32 (t : Nat)] w fun e w' => e = .returned (.bool true) ∧ Below w.heap.size w w' := by
  obtain ⟨i0, hi, hz0, hz1, hz2⟩ := info_parts infoB
  have HX := Lib.hid hx
  have hn : n ≤ 140737488351232 := Nat.le_trans hr.nc hc
  have hxl : xs.length = n := by have := hr.len; rw [bvs_len] at this; omega
  have HXL := Lib.hid hxl
  have HR := Lib.hid hr
  clear hx hr hxl hc
  go_enter Try.func7, Try.ntmps7
  go_wp2_with fail
  refine (shown_any _).mono ?_
  rintro e w1 ⟨rfl, hb1⟩
  have HB1 := Lib.hid hb1
  clear hb1
  by_cases h4 : n < 4
  · have h4i : (n : Int) < 4 := by omega
    go_wp2
    go_ret
    exact ⟨rfl, HB1.out⟩
  · have h4i : ¬ (n : Int) < 4 := by omega
    by_cases ht0 : t = 0
    · subst ht0
      go_wp2
      go_ret
      exact ⟨rfl, HB1.out⟩
    · have ht0i : ((t : Int) == 0) = false := by rw [beq_eq_false_iff_ne]; omega
      have HT0 := Lib.hid ht0
      clear ht0
      go_upto_if 20 with (fail)
      go_cut [1] (fun v wd => ∃ y : Nat, v = .int .i64 y ∧ y < 9223372036854775808 ∧ Hid (wd = w1))
      case first =>
        rcases sign_of HX.out with ⟨y, hy, hx0, hyb, hyn, hyy⟩ | ⟨y, hy, hyb, hxb⟩
        · have HYB := Lib.hid hyb
          have hxb : decide (x < 0) = true := decide_eq_true hx0
          clear h4 h4i ht hz0 hz1 hz2 hi hyb hn
          go_wp2_with fail
          go_meet
          case rel => exact ⟨y, by simp [hyy], HYB.out, rfl⟩
        · subst hy
          have HYB := Lib.hid hyb
          clear h4 h4i ht hz0 hz1 hz2 hi hyb hn
          go_wp2_with fail
          go_meet
          case rel => exact ⟨y, rfl, HYB.out, rfl⟩
      case rest =>
        obtain ⟨y, rfl, hyb, HW⟩ := hcut
        obtain rfl := HW.out
        obtain ⟨k, hk, hkn⟩ : ∃ k : Nat, (y : Int) % ((n : Int) - 3) = (k : Int) ∧ k + 4 ≤ n := ⟨y % (n - 3), by rw [show (n : Int) - 3 = ((n - 3 : Nat) : Int) by omega]; simp, by have := Nat.mod_lt y (by omega : 0 < n - 3); omega⟩
        have hn3 : (n : Int) - 3 ≠ 0 := by omega
        have HO := Lib.hid (own_empty wc wc.heap.size (Nat.le_refl _))
        have HY := Lib.hid ((HR.out.below HB1.out (Nat.le_refl _)).alloc (.cells #[] 5))
        go_upto_region 7 with (fail)
        rw [hk]
        clear hk hyb hn3
        go_upto_region 8 with (at_builtin; refine wpList_append_appd _ rfl _ _ _ rfl wc.heap.size 5 i0 _ 1 1 Try.underlying22 hi hz0 hz1 hz2 rfl (by omega) _ _ _ rfl (.inr HO.out) A n c _ rfl HY.out (bvs_one _) (by simp [maxLen]; omega) (by omega) (by simp) (.inl HO.out) ?_; intro v2 w2 hown2 hb2 _; obtain ⟨A3, c3, rfl, _, _⟩ := Rd.of_own hown2; have HB2 : Hid (ExtW wc w2) := Lib.hid (((Below.refl _ _).alloc (Nat.le_refl _) _).trans hb2); rw [Nat.zero_add] at hown2 ⊢; have HA2 : Hid (w2.ownsRow wc.heap.size 5 1 (.slice A3 n c3) n (bvs xs)) := Lib.hid hown2; clear hown2 hb2 HO HY)
        have hxi := fun (a b : UInt8) => xor_u8 a b
        go_wp2_with fail
        go_loopw [9] (fun v wr => ∃ i : Nat, v = .int .i64 i ∧ i ≤ 4 ∧ Hid (wr.ownsRow wc.heap.size 5 1 (.slice A3 n c3) n (bvs (tw xs k t i))) ∧ Hid (Below wc.heap.size wc wr)) (fun v _ => 4 - (intOf v).toNat)
        case atStart => exact ⟨0, rfl, by decide, HA2, HB2⟩
        case round =>
          clear HA2 HB2
          obtain ⟨i, rfl, hi4, HA, HB⟩ := hrel
          by_cases hlt : i < 4
          · obtain ⟨g, c', hv, hg, _⟩ := own_form HA.out (by omega)
            cases hv
            obtain ⟨bi, hbi⟩ : ∃ b, b = (tw xs k t i).getD (k + i) 0 := ⟨_, rfl⟩
            have hcell : wr.cell? ⟨g, k + i, none⟩ = some (.int .u8 (bi.toNat : Int)) := by
              have hl : (tw xs k t i).length = n := by rw [tw_len, HXL.out]
              have h1 := HA.out.cellAt (k + i) (by omega)
              rw [h1, bvs_get _ (k + i) (by omega), getD_at, hbi]
            have hfr := HA.out.frozenAt (k + i)
            have HST : Hid (wr.setCell ⟨g, k + i, none⟩ (.int .u8 ((bi ^^^ tb t i).toNat : Int)) |>.ownsRow wc.heap.size 5 1 (.slice (some ⟨g, 0, none⟩) n c3) n (bvs (tw xs k t (i + 1)))) := Lib.hid (by
              have h := (HA.out.stored (k + i) (.int .u8 ((bi ^^^ tb t i).toNat : Int))).1
              have e : (bvs (tw xs k t i)).set (k + i) (.int .u8 ((bi ^^^ tb t i).toNat : Int)) = bvs (tw xs k t (i + 1)) := by
                simp only [tw, bvs]
                rw [List.map_set, ← hbi]
              rw [e] at h
              exact h)
            have HBS : Hid (Below wc.heap.size wc (wr.setCell ⟨g, k + i, none⟩ (.int .u8 ((bi ^^^ tb t i).toNat : Int)))) := Lib.hid (HB.out.setCell (p := ⟨g, k + i, none⟩) hg _)
            have hki : (k : Int) + (i : Int) < (n : Int) := by omega
            have hx2 := hxi bi (tb t i)
            clear hbi HA HB hg hxi
            rcases (by omega : i = 0 ∨ i = 1 ∨ i = 2 ∨ i = 3) with rfl | rfl | rfl | rfl
            · have htb : IntKind.u8.wrap ((t : Int)) = ((tb t 0).toNat : Int) := by unfold tb; rw [Nat.pow_zero, Nat.div_one]; exact byteAt1 t
              simp only [Nat.add_zero] at hcell hfr HST HBS
              go_wp2_with fail
              go_roundw
              case rel => exact ⟨1, by first | rfl | simp, by decide, HST, HBS⟩
              case measure => simp [intOf]
            · have htb : IntKind.u8.wrap ((t : Int) / 256) = ((tb t 1).toNat : Int) := byteAt t 256
              go_wp2_with fail
              go_roundw
              case rel => exact ⟨2, by first | rfl | simp, by decide, HST, HBS⟩
              case measure => simp [intOf]
            · have htb : IntKind.u8.wrap ((t : Int) / 65536) = ((tb t 2).toNat : Int) := byteAt t 65536
              go_wp2_with fail
              go_roundw
              case rel => exact ⟨3, by first | rfl | simp, by decide, HST, HBS⟩
              case measure => simp [intOf]
            · have htb : IntKind.u8.wrap ((t : Int) / 16777216) = ((tb t 3).toNat : Int) := byteAt t 16777216
              go_wp2_with fail
              go_roundw
              case rel => exact ⟨4, by first | rfl | simp, by decide, HST, HBS⟩
              case measure => simp [intOf]
          · obtain rfl : i = 4 := by omega
            have hne : (((crc xs : Nat) : Int) != ((crc (tw xs k t 4) : Nat) : Int)) = true := by
              rw [bne_iff_ne]
              intro h
              exact burst_crc (k := k) (by rw [HXL.out]; exact hkn) ht HT0.out (by omega)
            have HRT : Hid (Rd wr A3 n c3 1 (bvs (tw xs k t 4))) := Lib.hid (by obtain ⟨A', c', e1, h1, _⟩ := Rd.of_own HA.out; cases e1; exact h1)
            have HEB : Hid (ExtW w wr) := Lib.hid (ExtW.trans HB1.out HB.out)
            clear HA hxi
            go_wp2_with fail
            refine (crc_any A n c xs _ (HR.out.below HEB.out (Nat.le_refl _)) hn).mono ?_
            rintro e w4 ⟨rfl, rfl⟩
            go_wp2_with fail
            refine (crc_any A3 n c3 (tw xs k t 4) _ HRT.out hn).mono ?_
            rintro e w5 ⟨rfl, rfl⟩
            go_wp2
            go_ret
            exact ⟨rfl, HEB.out⟩
end Go.Proofs.Ytoibhplpbiamfaa
