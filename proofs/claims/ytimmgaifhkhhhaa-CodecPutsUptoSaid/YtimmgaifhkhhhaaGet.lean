/- Walks of package codec's readers. -/
import Derived.Test.YtimmgaifhkhhhaaPut
namespace Go.Proofs.Ytimmgaifhkhhhaa
open Go.RowKit

def getV (xs : List UInt8) : Value := match getNum xs with
  | some (v, n) => .tuple #[.int .u64 v, .int .i64 n, .bool true]
  | none => .tuple #[.int .u64 0, .int .i64 0, .bool false]

theorem Rd.at {w : World} {A : Option Addr} {n c : Nat} {xs : List UInt8} (h : Rd w A n c 1 (bvs xs)) (j : Nat) (hj : j < xs.length) :
    ∃ a, A = some a ∧ w.cell? (a.add j) = some (.int .u8 (xs[j].toNat : Int)) := by
  rcases A with _ | a
  · have h1 := h.nil0 rfl; have h2 := h.nc; have h3 := h.len; rw [bvs_len] at h3; omega
  · exact ⟨a, rfl, h.cell a rfl j _ (bvs_get xs j hj)⟩

theorem and127 (b : Nat) (hb : b < 256) : bits .and .u8 (b : Int) 127 = ((b % 128 : Nat) : Int) := by
  have h : ∀ m : Fin 256, bits .and .u8 (m.val : Int) 127 = ((m.val % 128 : Nat) : Int) := by decide +kernel
  exact h ⟨b, hb⟩

theorem pow7 (k : Nat) : (2 : Int) ^ (7 * k) = ((128 ^ k : Nat) : Int) := by
  rw [Int.pow_mul]; simp

theorem or_shift {acc k b : Nat} (ha : acc < 128 ^ k) (hb : b < 256) (hk : k ≤ 9) (h9 : k = 9 → b ≤ 1) :
    bits .or .u64 (acc : Int) (IntKind.u64.wrap (IntKind.u64.wrap (bits .and .u8 (b : Int) 127) * 2 ^ (7 * k))) = ((acc + b % 128 * 128 ^ k : Nat) : Int) ∧ acc + b % 128 * 128 ^ k < 128 ^ (k + 1) := by
  have hx : b % 128 * 128 ^ k < 18446744073709551616 := by
    rcases Nat.lt_or_ge k 9 with h | h
    · have h1 : 128 ^ k ≤ 128 ^ 8 := Nat.pow_le_pow_right (by omega) (by omega)
      have h2 : b % 128 * 128 ^ k ≤ 127 * 128 ^ 8 := Nat.mul_le_mul (by omega) h1
      exact Nat.lt_of_le_of_lt h2 (by decide)
    · have e : k = 9 := by omega
      have h1 := h9 e
      have h2 : b % 128 * 128 ^ k ≤ 1 * 128 ^ 9 := by rw [e]; exact Nat.mul_le_mul_right _ (by omega)
      exact Nat.lt_of_le_of_lt h2 (by decide)
  have hacc : acc < 18446744073709551616 := by
    have h1 : 128 ^ k ≤ 128 ^ 9 := Nat.pow_le_pow_right (by omega) (by omega)
    exact Nat.lt_of_lt_of_le ha (Nat.le_trans h1 (by decide))
  have e0 : IntKind.u64.wrap (bits .and .u8 (b : Int) 127) = ((b % 128 : Nat) : Int) := by
    rw [and127 b hb, IntKind.wrap_u64]; omega
  have e1 : IntKind.u64.wrap (((b % 128 : Nat) : Int) * 2 ^ (7 * k)) = ((b % 128 * 128 ^ k : Nat) : Int) := by
    rw [pow7, ← Int.natCast_mul, IntKind.wrap_u64]
    generalize b % 128 * 128 ^ k = y at hx ⊢
    omega
  rw [e0, e1, u64_or_nat _ _ hacc hx]
  constructor
  · have h1 : 128 ^ k = 2 ^ (7 * k) := by rw [Nat.pow_mul]
    have h2 := Nat.two_pow_add_eq_or_of_lt (i := 7 * k) (b := acc) (by rw [← h1]; exact ha) (b % 128)
    rw [Nat.or_comm, Nat.mul_comm, h1, ← h2]; congr 1; omega
  · rw [Nat.pow_succ]
    have : b % 128 * 128 ^ k ≤ 127 * 128 ^ k := Nat.mul_le_mul_right _ (by omega)
    omega

theorem getV_some {xs : List UInt8} {v n : Nat} (h : getNum xs = some (v, n)) : getV xs = .tuple #[.int .u64 v, .int .i64 n, .bool true] := by unfold getV; rw [h]
theorem getV_none {xs : List UInt8} (h : getNum xs = none) : getV xs = .tuple #[.int .u64 0, .int .i64 0, .bool false] := by unfold getV; rw [h]

theorem get_bad {k acc : Nat} {c : UInt8} {r : List UInt8} (h : (k = 9 ∧ 1 < c.toNat) ∨ (0 < k ∧ c.toNat = 0)) : getFrom k acc (c :: r) = none := by
  rw [getFrom, if_pos]; omega
theorem get_end {k acc : Nat} {c : UInt8} {r : List UInt8} (h : ¬ ((k = 9 ∧ 1 < c.toNat) ∨ (0 < k ∧ c.toNat = 0))) (hk : k < 10) (hc : c.toNat < 128) : getFrom k acc (c :: r) = some (acc + c.toNat % 128 * 128 ^ k, k + 1) := by
  rw [getFrom, if_neg (by omega), if_pos hc]
theorem get_on {k acc : Nat} {c : UInt8} {r : List UInt8} (h : ¬ ((k = 9 ∧ 1 < c.toNat) ∨ (0 < k ∧ c.toNat = 0))) (hk : k < 10) (hc : ¬ c.toNat < 128) : getFrom k acc (c :: r) = getFrom (k + 1) (acc + c.toNat % 128 * 128 ^ k) r := by
  rw [getFrom, if_neg (by omega), if_neg hc]
theorem get_out {k acc : Nat} {l : List UInt8} (h : 10 ≤ k ∨ l = []) : getFrom k acc l = none := by
  cases l with
  | nil => rfl
  | cons c r => rw [getFrom, if_pos]; rcases h with h | h; exact .inl h; cases h
theorem ret_eq {v v' : Value} (h : v = v') : Ending.returned v = Ending.returned v' := by rw [h]

set_option maxHeartbeats 400000 in
set_option maxRecDepth 100000 in
theorem get_any (A : Option Addr) (n c : Nat) (xs : List UInt8) (w : World) (hr : Rd w A n c 1 (bvs xs)) (hn : n ≤ 140737488351232) :
    Calls Try.prog 10 #[.slice A n c] w fun e w' => e = .returned (getV xs) ∧ w = w' := by
  have hnc := hr.nc
  have hxl := hr.len
  rw [bvs_len, Nat.mul_one] at hxl
  have HX := Lib.hid hxl; clear hxl
  have HR := Lib.hid hr; clear hr
  obtain ⟨m, hm⟩ : ∃ m, m = min n 10 := ⟨_, rfl⟩
  have hm10 : m ≤ 10 := by omega
  have hmn : m ≤ n := by omega
  have HM := Lib.hid hm
  have hmin : (if 10 < (n : Int) then (10 : Int) else (n : Int)) = (m : Int) := by split <;> omega
  clear hm
  go_enter Try.func10, Try.ntmps10
  go_wp2
  go_loop [5, 14] (fun v i => ∃ (acc k : Nat), v = .int .u64 acc ∧ i = .int .i64 k ∧ k ≤ m ∧ Hid (acc < 128 ^ k) ∧ Hid (getFrom k acc (xs.drop k) = getNum xs)) (fun _ i => m - (intOf i).toNat)
  case atStart => exact ⟨0, 0, rfl, rfl, by omega, Lib.hid (by simp), Lib.hid rfl⟩
  case round =>
    obtain ⟨acc, k, rfl, rfl, hk, HA, HG⟩ := hrel
    by_cases hlt : k < m
    · have hkx : k < xs.length := by have := HX.out; omega
      obtain ⟨a, rfl, hc⟩ := HR.out.at k hkx
      have HD := Lib.hid (List.drop_eq_getElem_cons hkx)
      obtain ⟨b, hb⟩ : ∃ b, b = xs[k].toNat := ⟨_, rfl⟩
      have hb256 : b < 256 := by rw [hb]; exact xs[k].toNat_lt
      rw [← hb] at hc
      have HB := Lib.hid hb; clear hb
      by_cases hbad : (k = 9 ∧ 1 < b) ∨ (0 < k ∧ b = 0)
      · have HN : Hid (getNum xs = none) := Lib.hid (by rw [← HG.out, HD.out]; exact get_bad (by rw [← HB.out]; exact hbad))
        rcases hbad with ⟨hk9, hb1⟩ | ⟨hk0, hb0⟩
        · have b1 : ((k : Int) == 9) = true := by simp; omega
          clear hk9
          go_wp2
          go_ret3
          exact ⟨ret_eq (getV_none HN.out).symm, rfl⟩
        · have b2 : ((b : Int) == 0) = true := by simp; omega
          clear hb0
          by_cases hk9 : k = 9
          · have b1 : ((k : Int) == 9) = true := by simp; omega
            have hb1 : b ≤ 1 := by simp at b2; omega
            clear hk9
            go_wp2
            all_goals (go_ret3; exact ⟨ret_eq (getV_none HN.out).symm, rfl⟩)
          · have b1 : ((k : Int) == 9) = false := by simp; omega
            go_wp2
            all_goals (go_ret3; exact ⟨ret_eq (getV_none HN.out).symm, rfl⟩)
      · have hg1 : k = 9 → b ≤ 1 := by omega
        have hg2 : 0 < k → 0 < b := by omega
        have HBAD : Hid (¬ ((k = 9 ∧ 1 < xs[k].toNat) ∨ (0 < k ∧ xs[k].toNat = 0))) := by rw [← HB.out]; exact hbad
        have HOR := Lib.hid (or_shift HA.out hb256 (by omega) hg1)
        have hcases : (((k : Int) == 9) = true ∧ ((b : Int) == 0) = false ∧ b ≤ 1 ∧ 0 < k) ∨ (((k : Int) == 9) = false ∧ ((b : Int) == 0) = false ∧ 0 < k) ∨ (((k : Int) == 9) = false ∧ ¬ 0 < k) := by
          have h3 : ((k : Int) == 9) = decide (k = 9) := by rw [Bool.eq_iff_iff]; simp; omega
          have h4 : ((b : Int) == 0) = decide (b = 0) := by rw [Bool.eq_iff_iff]; simp
          rw [h3, h4]; simp; omega
        clear hbad hg1 hg2
        by_cases hend : b < 128
        · have HN : Hid (getNum xs = some (acc + b % 128 * 128 ^ k, k + 1)) := Lib.hid (by rw [← HG.out, HD.out, HB.out]; exact get_end HBAD.out (by omega) (by rw [← HB.out]; exact hend))
          rcases hcases with ⟨c1, c2, c3, c4⟩ | ⟨c1, c2, c3⟩ | ⟨c1, c2⟩
          · go_wp2
            all_goals (go_ret3; exact ⟨ret_eq (by rw [getV_some HN.out, ← HOR.out.1]; rfl), rfl⟩)
          · go_wp2
            all_goals (go_ret3; exact ⟨ret_eq (by rw [getV_some HN.out, ← HOR.out.1]; rfl), rfl⟩)
          · go_wp2
            all_goals (go_ret3; exact ⟨ret_eq (by rw [getV_some HN.out, ← HOR.out.1]; rfl), rfl⟩)
        · have HN : Hid (getFrom (k + 1) (acc + b % 128 * 128 ^ k) (xs.drop (k + 1)) = getNum xs) := Lib.hid (by rw [← HG.out, HD.out, HB.out]; exact (get_on HBAD.out (by omega) (by rw [← HB.out]; exact hend)).symm)
          rcases hcases with ⟨c1, c2, c3, c4⟩ | ⟨c1, c2, c3⟩ | ⟨c1, c2⟩
          · omega
          · go_wp2
            all_goals
              go_round
              case rel => exact ⟨_, k + 1, by rw [HOR.out.1], by go_num, by omega, Lib.hid HOR.out.2, HN⟩
              case measure => simp [intOf]; omega
          · go_wp2
            all_goals
              go_round
              case rel => exact ⟨_, k + 1, by rw [HOR.out.1], by go_num, by omega, Lib.hid HOR.out.2, HN⟩
              case measure => simp [intOf]; omega
    · have HN : Hid (getNum xs = none) := Lib.hid (by rw [← HG.out]; exact get_out (by
        have h1 := HM.out
        have h2 := HX.out
        rcases Nat.lt_or_ge n 10 with h | h
        · right; exact List.drop_eq_nil_of_le (by omega)
        · left; omega))
      go_wp2
      go_ret3
      exact ⟨ret_eq (getV_none HN.out).symm, rfl⟩
end Go.Proofs.Ytimmgaifhkhhhaa
