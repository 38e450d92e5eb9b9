/- The document's numbers of four bytes (package marlstoneref01): walks. -/
import Derived.Test.YtegkcbkgoncnbaaFix
namespace Go.Proofs.Ytegkcbkgoncnbaa
open Go.RowKit

theorem conv4 (X Y Z U : Int) (a b c d : UInt8) (hX : X = (a.toNat : Int)) (hY : Y = (b.toNat : Int)) (hZ : Z = (c.toNat : Int)) (hU : U = (d.toNat : Int)) (W : World) :
    (convert 22 9 (.slice (some ⟨W.heap.size, 0, none⟩) 4 4)).run Try.prog (W.alloc (.cells #[.int .u8 X, .int .u8 Y, .int .u8 Z, .int .u8 U] 5)) = .ok (.string ⟨#[a, b, c, d]⟩) (W.alloc (.cells #[.int .u8 X, .int .u8 Y, .int .u8 Z, .int .u8 U] 5)) := by
  subst hX; subst hY; subst hZ; subst hU
  have h := Rd.new W [.int .u8 (a.toNat : Int), .int .u8 (b.toNat : Int), .int .u8 (c.toNat : Int), .int .u8 (d.toNat : Int)] 5 1 4 rfl (by simp [maxLen])
  exact Rd.str (xs := [a, b, c, d]) h _ _ _ Try.underlying22 Try.underlying5 Try.underlying9

set_option maxHeartbeats 400000 in
set_option maxRecDepth 100000 in
theorem refPutFixed_any (s : ByteArray) (v : Nat) (w : World) (hv : v < 4294967296) (hs : s.size ≤ 1000000000000000) :
    Calls Try.prog 25 #[.string s, .int .u32 v] w fun e w' => e = .returned (.string ⟨(s.data.toList ++ fix4 v).toArray⟩) ∧ Below w.heap.size w w' := by
  have HF : Hid ((⟨(s.data.toList ++ fix4 v).toArray⟩ : ByteArray) = s ++ ⟨(fix4 v).toArray⟩) := Lib.hid (ba_ext (by rw [app_list]))
  have hb : ∃ a b c d : UInt8, fix4 v = [a, b, c, d] ∧ (v : Int) / 16777216 = (a.toNat : Int) ∧ (v : Int) / 65536 % 256 = (b.toNat : Int) ∧ (v : Int) / 256 % 256 = (c.toNat : Int) ∧ (v : Int) % 256 = (d.toNat : Int) :=
    ⟨_, _, _, _, rfl, by simp only [UInt8.toNat_ofNat']; omega, by simp only [UInt8.toNat_ofNat']; omega, by simp only [UInt8.toNat_ofNat']; omega, by simp only [UInt8.toNat_ofNat']; omega⟩
  obtain ⟨a, b, c, d, h0, h1, h2, h3, h4⟩ := hb
  have hcv := conv4 _ _ _ _ a b c d h1 h2 h3 h4 w
  have H0 := Lib.hid h0
  have hadd : ∀ W, (Op.stringOp .add s ⟨#[a, b, c, d]⟩).run Try.prog W = .ok (.string (s ++ ⟨#[a, b, c, d]⟩)) W := fun W => run_string_add_sum _ _ _ (by rw [show (⟨#[a, b, c, d]⟩ : ByteArray).size = 4 from rfl]; omega)
  clear h0 h1 h2 h3 h4
  go_enter Try.func25, Try.ntmps25
  go_wp2
  go_ret
  exact ⟨ret_eq (by rw [HF.out, H0.out]; rfl), (Below.refl _ _).alloc (Nat.le_refl _) _⟩

set_option maxRecDepth 100000 in
theorem or4 {a b c d : Nat} (ha : a < 256) (hb : b < 256) (hc : c < 256) (hd : d < 256) :
    bits BinOp.or IntKind.u32 (bits BinOp.or IntKind.u32 (bits BinOp.or IntKind.u32 (IntKind.u32.wrap (IntKind.u32.wrap ↑a * 16777216)) (IntKind.u32.wrap (IntKind.u32.wrap ↑b * 65536))) (IntKind.u32.wrap (IntKind.u32.wrap ↑c * 256))) (IntKind.u32.wrap ↑d) =
      ((((a * 256 + b) * 256 + c) * 256 + d : Nat) : Int) := by
  have w : ∀ n : Nat, n < 4294967296 → IntKind.u32.wrap (n : Int) = n := fun n hn => by simp [IntKind.wrap, IntKind.bits, IntKind.signed]; omega
  have e1 : IntKind.u32.wrap (IntKind.u32.wrap ↑a * 16777216) = ((a * 16777216 : Nat) : Int) := by
    rw [w a (by omega), show ((a : Int) * 16777216) = ((a * 16777216 : Nat) : Int) by omega, w _ (by omega)]
  have e2 : IntKind.u32.wrap (IntKind.u32.wrap ↑b * 65536) = ((b * 65536 : Nat) : Int) := by
    rw [w b (by omega), show ((b : Int) * 65536) = ((b * 65536 : Nat) : Int) by omega, w _ (by omega)]
  have e3 : IntKind.u32.wrap (IntKind.u32.wrap ↑c * 256) = ((c * 256 : Nat) : Int) := by
    rw [w c (by omega), show ((c : Int) * 256) = ((c * 256 : Nat) : Int) by omega, w _ (by omega)]
  have o1 : a * 16777216 ||| b * 65536 = a * 16777216 + b * 65536 := by
    have := Nat.two_pow_add_eq_or_of_lt (i := 24) (b := b * 65536) (by omega) a
    rw [Nat.mul_comm (2 ^ 24)] at this; exact this.symm
  have o2 : (a * 16777216 + b * 65536) ||| c * 256 = a * 16777216 + b * 65536 + c * 256 := by
    have := Nat.two_pow_add_eq_or_of_lt (i := 16) (b := c * 256) (by omega) (a * 256 + b)
    rw [show 2 ^ 16 * (a * 256 + b) = a * 16777216 + b * 65536 by omega] at this; exact this.symm
  have o3 : (a * 16777216 + b * 65536 + c * 256) ||| d = a * 16777216 + b * 65536 + c * 256 + d := by
    have := Nat.two_pow_add_eq_or_of_lt (i := 8) (b := d) (by omega) ((a * 256 + b) * 256 + c)
    rw [show 2 ^ 8 * ((a * 256 + b) * 256 + c) = a * 16777216 + b * 65536 + c * 256 by omega] at this; exact this.symm
  rw [e1, e2, e3, w d (by omega), u32_or_nat _ _ (by omega) (by omega), o1, u32_or_nat _ _ (by omega) (by omega), o2, u32_or_nat _ _ (by omega) (by omega), o3]
  congr 1; omega

set_option maxHeartbeats 400000 in
set_option maxRecDepth 100000 in
theorem refFixed_any (s : ByteArray) (w : World) (hs : s.size ≤ 140737488351232) :
    Calls Try.prog 22 #[.string s] w fun e w' => e = .returned (fixV s.data.toList) ∧ Below w.heap.size w w' := by
  have hxl := size_list s
  have HIX := Lib.hid (index_at s)
  by_cases h4 : s.size < 4
  · have HN : Hid (fixV s.data.toList = .tuple #[.int .u32 0, .bool false]) := Lib.hid (by unfold fixV; rw [getFix_short (by omega)])
    clear hxl
    go_enter Try.func22, Try.ntmps22
    go_wp2
    go_ret2
    exact ⟨ret_eq HN.out.symm, Below.refl _ _⟩
  · obtain ⟨a, b, c, d, r, hxs⟩ : ∃ a b c d r, s.data.toList = a :: b :: c :: d :: r := by
      match h : s.data.toList, hxl with
      | a :: b :: c :: d :: r, _ => exact ⟨a, b, c, d, r, rfl⟩
      | [], hl => simp at hl; omega
      | [_], hl => simp at hl; omega
      | [_, _], hl => simp at hl; omega
      | [_, _, _], hl => simp at hl; omega
    have HN : Hid (fixV s.data.toList = .tuple #[.int .u32 (((a.toNat * 256 + b.toNat) * 256 + c.toNat) * 256 + d.toNat : Nat), .bool true]) := Lib.hid (by unfold fixV; rw [hxs]; rfl)
    have i0 : ∀ W, (Instr.index 9 (.string s) (.int .i64 0)).run Try.prog W = .ok (.int .u8 (a.toNat : Int)) W := fun W => by
      have := HIX.out 0 (by rw [hxs]; simp) W; simp only [hxs] at this; exact this
    have i1 : ∀ W, (Instr.index 9 (.string s) (.int .i64 1)).run Try.prog W = .ok (.int .u8 (b.toNat : Int)) W := fun W => by
      have := HIX.out 1 (by rw [hxs]; simp) W; simp only [hxs] at this; exact this
    have i2 : ∀ W, (Instr.index 9 (.string s) (.int .i64 2)).run Try.prog W = .ok (.int .u8 (c.toNat : Int)) W := fun W => by
      have := HIX.out 2 (by rw [hxs]; simp) W; simp only [hxs] at this; exact this
    have i3 : ∀ W, (Instr.index 9 (.string s) (.int .i64 3)).run Try.prog W = .ok (.int .u8 (d.toNat : Int)) W := fun W => by
      have := HIX.out 3 (by rw [hxs]; simp) W; simp only [hxs] at this; exact this
    have h4i : (4 : Int) ≤ (s.size : Int) := by omega
    have ha := a.toNat_lt; have hb := b.toNat_lt; have hc := c.toNat_lt; have hd := d.toNat_lt
    clear hxs hxl h4
    generalize a.toNat = a at *
    generalize b.toNat = b at *
    generalize c.toNat = c at *
    generalize d.toNat = d at *
    go_enter Try.func22, Try.ntmps22
    go_wp2_with fail
    apply wp_region_ext _ (by kernel_rfl) (by kernel_rfl)
    iterate 20 (apply wpZ_det; (intro wq hE hG; first | exact obl_non (by rfl) | (apply obl_val (by rfl); go_simp; rfl)); (intro ak hak; simp only [Act.put, List.setIfInBounds_toArray, List.set_cons_succ, List.set_cons_zero] at hak; subst hak))
    apply wpZ_nil
    intro wq hE hG
    have HE := Lib.hid hE
    clear hE hG
    have HO := Lib.hid (or4 ha hb hc hd)
    go_wp2
    go_ret2
    exact ⟨ret_eq (by rw [HN.out, ← HO.out]; rfl), (Below.refl _ _).drew.trans HE.out⟩

end Go.Proofs.Ytegkcbkgoncnbaa
