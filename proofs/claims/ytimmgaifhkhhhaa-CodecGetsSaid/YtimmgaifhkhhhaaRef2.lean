/- Walks of the document's readers (package marlstoneref01). -/
import Derived.Test.YtimmgaifhkhhhaaGet2
import Derived.Test.YtimmgaifhkhhhaaRef
namespace Go.Proofs.Ytimmgaifhkhhhaa
open Go.RowKit

theorem index_at (s : ByteArray) (j : Nat) (h : j < s.data.toList.length) (W : World) : (Instr.index 9 (.string s) (.int .i64 (j : Int))).run Try.prog W = .ok (.int .u8 (s.data.toList[j].toNat : Int)) W := by
  have hs : j < s.size := by rw [size_list] at h; exact h
  rw [run_index_string _ _ _ _ _ Try.underlying9]
  simp [hs]
  rfl


theorem or_shift2 {acc k b : Nat} (ha : acc < 128 ^ k) (hb : b < 256) (hk : k ≤ 9) (h9 : k = 9 → b ≤ 1) :
    bits .or .u64 (acc : Int) (IntKind.u64.wrap ((b : Int) % 128 * 2 ^ (7 * k))) = ((acc + b % 128 * 128 ^ k : Nat) : Int) := by
  have h := (or_shift ha hb hk h9).1
  have e0 : IntKind.u64.wrap (bits .and .u8 (b : Int) 127) = (b : Int) % 128 := by
    rw [and127 b hb, IntKind.wrap_u64]; omega
  rw [e0] at h; exact h

set_option maxHeartbeats 1000000 in
set_option maxRecDepth 100000 in
theorem refGet_any (s : ByteArray) (w : World) (hs : s.size ≤ 140737488351232) :
    Calls Try.prog 20 #[.string s] w fun e w' => e = .returned (getV s.data.toList) ∧ w = w' := by
  obtain ⟨n, hn⟩ : ∃ n, n = s.size := ⟨_, rfl⟩
  have HN0 := Lib.hid hn
  have HIX := Lib.hid (index_at s)
  have HL := Lib.hid (size_list s)
  clear hn
  obtain ⟨xs, hxs⟩ : ∃ xs, xs = s.data.toList := ⟨_, rfl⟩
  rw [← hxs] at HL ⊢
  have HXS := Lib.hid hxs; clear hxs
  go_enter Try.func20, Try.ntmps20
  go_wp2
  go_loop [5, 6] (fun v i => ∃ (acc k : Nat), v = .int .u64 acc ∧ i = .int .i64 k ∧ k ≤ 10 ∧ k ≤ s.size ∧ Hid (acc < 128 ^ k) ∧ Hid (getFrom k acc (xs.drop k) = getNum xs)) (fun _ i => 10 - (intOf i).toNat)
  case atStart => exact ⟨0, 0, rfl, rfl, by omega, by omega, Lib.hid (by simp), Lib.hid rfl⟩
  case round =>
    obtain ⟨acc, k, rfl, rfl, hk, hks, HA, HG⟩ := hrel
    by_cases hlt : k < s.size ∧ k < 10
    · obtain ⟨hlt1, hlt2⟩ := hlt
      have hkx : k < xs.length := by rw [HL.out]; exact hlt1
      have HD := Lib.hid (List.drop_eq_getElem_cons hkx)
      obtain ⟨b, hb⟩ : ∃ b, b = xs[k].toNat := ⟨_, rfl⟩
      have hb256 : b < 256 := by rw [hb]; exact xs[k].toNat_lt
      have hidx : ∀ W, (Instr.index 9 (.string s) (.int .i64 (k : Int))).run Try.prog W = .ok (.int .u8 (b : Int)) W := fun W => by
        have := HIX.out k (by rw [← HXS.out]; exact hkx) W
        rw [this, hb]; simp only [HXS.out]
      have hidx1 := hidx w
      have HB := Lib.hid hb; clear hb hidx
      have h3 : ((k : Int) == 9) = decide (k = 9) := by rw [Bool.eq_iff_iff]; simp; omega
      have h4 : ((b : Int) == 0) = decide (b = 0) := by rw [Bool.eq_iff_iff]; simp
      by_cases hbad : (k = 9 ∧ 1 < b) ∨ (0 < k ∧ b = 0)
      · have HN : Hid (getNum xs = none) := Lib.hid (by rw [← HG.out, HD.out]; exact get_bad (by rw [← HB.out]; exact hbad))
        by_cases h9 : k = 9 ∧ 1 < b
        · have b1 : ((k : Int) == 9) = true := by rw [h3]; simp; omega
          have hb1 : 1 < b := h9.2
          clear h3 h4 hbad h9
          go_wp2
          go_ret3
          exact ⟨ret_eq (getV_none HN.out).symm, rfl⟩
        · have b2 : ((b : Int) == 0) = true := by rw [h4]; simp; omega
          have hb0 : b < 128 := by omega
          have hb1 : b ≤ 1 := by omega
          have hk0 : 0 < k := by omega
          clear h4 hbad h9
          by_cases hk9 : k = 9
          · have b1 : ((k : Int) == 9) = true := by rw [h3]; simp; omega
            clear hk9 h3
            go_wp2
            all_goals (go_ret3; exact ⟨ret_eq (getV_none HN.out).symm, rfl⟩)
          · have b1 : ((k : Int) == 9) = false := by rw [h3]; simp; omega
            clear h3
            go_wp2
            all_goals (go_ret3; exact ⟨ret_eq (getV_none HN.out).symm, rfl⟩)
      · have HBAD : Hid (¬ ((k = 9 ∧ 1 < xs[k].toNat) ∨ (0 < k ∧ xs[k].toNat = 0))) := by rw [← HB.out]; exact hbad
        have HOR := Lib.hid (or_shift2 HA.out hb256 (by omega) (by omega))
        have HOR2 := Lib.hid (or_shift HA.out hb256 (by omega) (by omega)).2
        have hcases : (((k : Int) == 9) = true ∧ ((b : Int) == 0) = false ∧ b ≤ 1 ∧ 0 < k) ∨ (((k : Int) == 9) = false ∧ ((b : Int) == 0) = false ∧ 0 < k) ∨ (((k : Int) == 9) = false ∧ ¬ 0 < k) := by
          rw [h3, h4]; simp; omega
        clear hbad h3 h4
        by_cases hend : b < 128
        · have HN : Hid (getNum xs = some (acc + b % 128 * 128 ^ k, k + 1)) := Lib.hid (by rw [← HG.out, HD.out, HB.out]; exact get_end HBAD.out (by omega) (by rw [← HB.out]; exact hend))
          rcases hcases with ⟨c1, c2, c3, c4⟩ | ⟨c1, c2, c3⟩ | ⟨c1, c2⟩
          · go_wp2
            all_goals (go_ret3; exact ⟨ret_eq (by rw [getV_some HN.out, ← HOR.out]; rfl), rfl⟩)
          · go_wp2
            all_goals (go_ret3; exact ⟨ret_eq (by rw [getV_some HN.out, ← HOR.out]; rfl), rfl⟩)
          · go_wp2
            all_goals (go_ret3; exact ⟨ret_eq (by rw [getV_some HN.out, ← HOR.out]; rfl), rfl⟩)
        · have HN : Hid (getFrom (k + 1) (acc + b % 128 * 128 ^ k) (xs.drop (k + 1)) = getNum xs) := Lib.hid (by rw [← HG.out, HD.out, HB.out]; exact (get_on HBAD.out (by omega) (by rw [← HB.out]; exact hend)).symm)
          rcases hcases with ⟨c1, c2, c3, c4⟩ | ⟨c1, c2, c3⟩ | ⟨c1, c2⟩
          · omega
          · go_wp2
            all_goals
              go_round
              case rel => exact ⟨_, k + 1, by rw [HOR.out], by go_num, by omega, by omega, Lib.hid HOR2.out, HN⟩
              case measure => simp [intOf]; omega
          · go_wp2
            all_goals
              go_round
              case rel => exact ⟨_, k + 1, by rw [HOR.out], by go_num, by omega, by omega, Lib.hid HOR2.out, HN⟩
              case measure => simp [intOf]; omega
    · have HN : Hid (getNum xs = none) := Lib.hid (by rw [← HG.out]; exact get_out (by
        rcases Nat.lt_or_ge k s.size with h | h
        · left; omega
        · right; exact List.drop_eq_nil_of_le (by rw [HL.out]; exact h)))
      go_wp2
      all_goals (go_ret3; exact ⟨ret_eq (getV_none HN.out).symm, rfl⟩)

theorem extract_list (s : ByteArray) (a b : Nat) : (⟨((s.data.toList.drop a).take (b - a)).toArray⟩ : ByteArray) = s.extract a b := by
  apply ba_ext
  simp [ByteArray.data_extract, List.take_drop]

set_option maxRecDepth 100000 in
theorem or4 {a b c d : Nat} (ha : a < 256) (hb : b < 256) (hc : c < 256) (hd : d < 256) :
    bits BinOp.or IntKind.u32 (bits BinOp.or IntKind.u32 (bits BinOp.or IntKind.u32 (IntKind.u32.wrap (IntKind.u32.wrap ↑a * 16777216)) (IntKind.u32.wrap (IntKind.u32.wrap ↑b * 65536))) (IntKind.u32.wrap (IntKind.u32.wrap ↑c * 256))) (IntKind.u32.wrap ↑d) =
      ((((a * 256 + b) * 256 + c) * 256 + d : Nat) : Int) := by
  have w : ∀ n : Nat, n < 4294967296 → IntKind.u32.wrap (n : Int) = n := fun n hn => by simp [IntKind.wrap, IntKind.bits, IntKind.signed]; omega
  have e1 : IntKind.u32.wrap (IntKind.u32.wrap ↑a * 16777216) = ((a * 16777216 : Nat) : Int) := by
    rw [w a (by omega), show ((a : Int) * 16777216) = ((a * 16777216 : Nat) : Int) by omega, w _ (by omega)]
  have e2 : IntKind.u32.wrap (IntKind.u32.wrap ↑b * 65536) = ((b * 65536 : Nat) : Int) := by
    rw [w b (by omega), show ((b : Int) * 65536) = ((b * 65536 : Nat) : Int) by omega, w _ (by omega)]
  have e3 : IntKind.u32.wrap (IntKind.u32.wrap ↑c * 256) = ((c * 256 : Nat) : Int) := by
    rw [w c (by omega), show ((c : Int) * 256) = ((c * 256 : Nat) : Int) by omega, w _ (by omega)]
  have o1 : a * 16777216 ||| b * 65536 = a * 16777216 + b * 65536 := by
    have := Nat.two_pow_add_eq_or_of_lt (i := 24) (b := b * 65536) (by omega) a
    rw [Nat.mul_comm (2 ^ 24)] at this; exact this.symm
  have o2 : (a * 16777216 + b * 65536) ||| c * 256 = a * 16777216 + b * 65536 + c * 256 := by
    have := Nat.two_pow_add_eq_or_of_lt (i := 16) (b := c * 256) (by omega) (a * 256 + b)
    rw [show 2 ^ 16 * (a * 256 + b) = a * 16777216 + b * 65536 by omega] at this; exact this.symm
  have o3 : (a * 16777216 + b * 65536 + c * 256) ||| d = a * 16777216 + b * 65536 + c * 256 + d := by
    have := Nat.two_pow_add_eq_or_of_lt (i := 8) (b := d) (by omega) ((a * 256 + b) * 256 + c)
    rw [show 2 ^ 8 * ((a * 256 + b) * 256 + c) = a * 16777216 + b * 65536 + c * 256 by omega] at this; exact this.symm
  rw [e1, e2, e3, w d (by omega), u32_or_nat _ _ (by omega) (by omega), o1, u32_or_nat _ _ (by omega) (by omega), o2, u32_or_nat _ _ (by omega) (by omega), o3]
  congr 1; omega

set_option maxHeartbeats 400000 in
set_option maxRecDepth 100000 in
theorem refFixed_any (s : ByteArray) (w : World) (hs : s.size ≤ 140737488351232) :
    Calls Try.prog 23 #[.string s] w fun e w' => e = .returned (fixV s.data.toList) ∧ Below w.heap.size w w' := by
  have hxl := size_list s
  have HIX := Lib.hid (index_at s)
  by_cases h4 : s.size < 4
  · have HN : Hid (fixV s.data.toList = .tuple #[.int .u32 0, .bool false]) := Lib.hid (by unfold fixV; rw [getFix_short (by omega)])
    clear hxl
    go_enter Try.func23, Try.ntmps23
    go_wp2
    go_ret2
    exact ⟨ret_eq HN.out.symm, Below.refl _ _⟩
  · obtain ⟨a, b, c, d, r, hxs⟩ : ∃ a b c d r, s.data.toList = a :: b :: c :: d :: r := by
      match h : s.data.toList, hxl with
      | a :: b :: c :: d :: r, _ => exact ⟨a, b, c, d, r, rfl⟩
      | [], hl => simp at hl; omega
      | [_], hl => simp at hl; omega
      | [_, _], hl => simp at hl; omega
      | [_, _, _], hl => simp at hl; omega
    have HN : Hid (fixV s.data.toList = .tuple #[.int .u32 (((a.toNat * 256 + b.toNat) * 256 + c.toNat) * 256 + d.toNat : Nat), .bool true]) := Lib.hid (by unfold fixV; rw [hxs]; rfl)
    have i0 : ∀ W, (Instr.index 9 (.string s) (.int .i64 0)).run Try.prog W = .ok (.int .u8 (a.toNat : Int)) W := fun W => by
      have := HIX.out 0 (by rw [hxs]; simp) W; simp only [hxs] at this; exact this
    have i1 : ∀ W, (Instr.index 9 (.string s) (.int .i64 1)).run Try.prog W = .ok (.int .u8 (b.toNat : Int)) W := fun W => by
      have := HIX.out 1 (by rw [hxs]; simp) W; simp only [hxs] at this; exact this
    have i2 : ∀ W, (Instr.index 9 (.string s) (.int .i64 2)).run Try.prog W = .ok (.int .u8 (c.toNat : Int)) W := fun W => by
      have := HIX.out 2 (by rw [hxs]; simp) W; simp only [hxs] at this; exact this
    have i3 : ∀ W, (Instr.index 9 (.string s) (.int .i64 3)).run Try.prog W = .ok (.int .u8 (d.toNat : Int)) W := fun W => by
      have := HIX.out 3 (by rw [hxs]; simp) W; simp only [hxs] at this; exact this
    have h4i : (4 : Int) ≤ (s.size : Int) := by omega
    have ha := a.toNat_lt; have hb := b.toNat_lt; have hc := c.toNat_lt; have hd := d.toNat_lt
    clear hxs hxl h4
    generalize a.toNat = a at *
    generalize b.toNat = b at *
    generalize c.toNat = c at *
    generalize d.toNat = d at *
    go_enter Try.func23, Try.ntmps23
    go_wp2_with fail
    apply wp_region_ext _ (by kernel_rfl) (by kernel_rfl)
    iterate 20 (apply wpZ_det; (intro wq hE hG; first | exact obl_non (by rfl) | (apply obl_val (by rfl); go_simp; rfl)); (intro ak hak; simp only [Act.put, List.setIfInBounds_toArray, List.set_cons_succ, List.set_cons_zero] at hak; subst hak))
    apply wpZ_nil
    intro wq hE hG
    have HE := Lib.hid hE
    clear hE hG
    have HO := Lib.hid (or4 ha hb hc hd)
    go_wp2
    go_ret2
    exact ⟨ret_eq (by rw [HN.out, ← HO.out]; rfl), (Below.refl _ _).drew.trans HE.out⟩

set_option maxHeartbeats 400000 in
set_option maxRecDepth 100000 in
theorem refText_any (s : ByteArray) (w : World) (hs : s.size ≤ 140737488351232) :
    Calls Try.prog 21 #[.string s] w fun e w' => e = .returned (textV s.data.toList) ∧ w = w' := by
  have hxl := size_list s
  have HG := Lib.hid (fun w' => refGet_any s w' hs)
  cases hg : getNum s.data.toList with
  | none =>
    have HN : Hid (getText s.data.toList = none) := Lib.hid (by unfold getText; rw [hg])
    have HG1 := Lib.hid (getV_none hg)
    clear hg hxl
    go_enter Try.func21, Try.ntmps21
    go_wp2_with fail
    refine (HG.out _).mono ?_
    rw [HG1.out]
    rintro e w' ⟨rfl, rfl⟩
    go_wp2
    go_ret3
    exact ⟨ret_eq (textV_none HN.out).symm, rfl⟩
  | some p =>
    obtain ⟨v, k⟩ := p
    obtain ⟨_, hv64, hk1, hk10, hkl⟩ := getNum_only hg
    have HG1 := Lib.hid (getV_some hg)
    obtain ⟨n, hn⟩ : ∃ n, n = s.size := ⟨_, rfl⟩
    have hkn : k ≤ s.size := by omega
    by_cases hvl : v ≤ s.size - k
    · have HN : Hid (getText s.data.toList = some ((s.data.toList.drop k).take v, k + v)) := Lib.hid (by unfold getText; rw [hg]; exact if_pos (by omega))
      have HX : Hid ((⟨((s.data.toList.drop k).take v).toArray⟩ : ByteArray) = s.extract k (k + v)) := Lib.hid (by have := extract_list s k (k + v); rw [show k + v - k = v by omega] at this; exact this)
      clear hg hxl hn
      have hvi : (v : Int) ≤ (s.size : Int) - (k : Int) := by omega
      have hvn : v ≤ 140737488351232 := by omega
      clear hv64
      have hsl : (Instr.slice 9 (.string s) (some (.int .i64 (k : Int))) (some (.int .i64 ((k : Int) + (v : Int)))) none).run Try.prog w = .ok (.string (s.extract k (k + v))) w := by
        have h := run_slice_string (P := Try.prog) w 9 s .i64 .i64 (k : Int) ((k : Int) + (v : Int)) Try.underlying9 (by omega) (by omega) (by omega)
        rw [h]; congr 2
      go_enter Try.func21, Try.ntmps21
      go_wp2_with fail
      refine (HG.out _).mono ?_
      rw [HG1.out]
      rintro e w' ⟨rfl, rfl⟩
      go_wp2
      go_ret3
      exact ⟨ret_eq (by rw [textV_some HN.out, HX.out]; simp), rfl⟩
    · have HN : Hid (getText s.data.toList = none) := Lib.hid (by unfold getText; rw [hg]; exact if_neg (by omega))
      clear hg hxl hn
      have hvi : (s.size : Int) - (k : Int) < (v : Int) := by omega
      clear hv64
      go_enter Try.func21, Try.ntmps21
      go_wp2_with fail
      refine (HG.out _).mono ?_
      rw [HG1.out]
      rintro e w' ⟨rfl, rfl⟩
      go_wp2
      go_ret3
      exact ⟨ret_eq (textV_none HN.out).symm, rfl⟩
end Go.Proofs.Ytimmgaifhkhhhaa
