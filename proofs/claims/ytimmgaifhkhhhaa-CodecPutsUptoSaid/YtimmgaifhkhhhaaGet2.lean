/- Walks of package codec's readers of texts and of numbers of four bytes. -/
import Derived.Test.YtimmgaifhkhhhaaGet
namespace Go.Proofs.Ytimmgaifhkhhhaa
open Go.RowKit

def getText (xs : List UInt8) : Option (List UInt8 × Nat) := match getNum xs with
  | some (v, n) => if v ≤ xs.length - n then some ((xs.drop n).take v, n + v) else none
  | none => none
def textV (xs : List UInt8) : Value := match getText xs with
  | some (s, n) => .tuple #[.string ⟨s.toArray⟩, .int .i64 n, .bool true]
  | none => .tuple #[.string ⟨#[]⟩, .int .i64 0, .bool false]
theorem textV_some {xs s : List UInt8} {n : Nat} (h : getText xs = some (s, n)) : textV xs = .tuple #[.string ⟨s.toArray⟩, .int .i64 n, .bool true] := by unfold textV; rw [h]
theorem textV_none {xs : List UInt8} (h : getText xs = none) : textV xs = .tuple #[.string ⟨#[]⟩, .int .i64 0, .bool false] := by unfold textV; rw [h]

set_option maxHeartbeats 400000 in
set_option maxRecDepth 100000 in
theorem text_any (A : Option Addr) (n c : Nat) (xs : List UInt8) (w : World) (hr : Rd w A n c 1 (bvs xs)) (hn : n ≤ 140737488351232) :
    Calls Try.prog 14 #[.slice A n c] w fun e w' => e = .returned (textV xs) ∧ w = w' := by
  have hnc := hr.nc
  have hxl := hr.len
  rw [bvs_len, Nat.mul_one] at hxl
  obtain ⟨i0, hi, hz0, hz1, hz2⟩ := info_parts infoB
  have HG := Lib.hid (fun w' => get_any A n c xs w')
  have HR := Lib.hid hr; clear hr
  cases hg : getNum xs with
  | none =>
    have HN : Hid (getText xs = none) := Lib.hid (by unfold getText; rw [hg])
    have HG1 := Lib.hid (getV_none hg)
    clear hg
    have HX := Lib.hid hxl; clear hxl
    go_enter Try.func14, Try.ntmps14
    go_wp2_with (go_at_call 10; refine (HG.out _ HR.out hn).mono ?_; rw [HG1.out]; rintro e w' ⟨rfl, rfl⟩)
    go_ret3
    exact ⟨ret_eq (textV_none HN.out).symm, rfl⟩
  | some p =>
    obtain ⟨v, k⟩ := p
    obtain ⟨_, hv64, hk1, hk10, hkl⟩ := getNum_only hg
    have HG1 := Lib.hid (getV_some hg)
    have hkn : k ≤ n := by omega
    by_cases hvl : v ≤ n - k
    · have HN : Hid (getText xs = some ((xs.drop k).take v, k + v)) := Lib.hid (by unfold getText; rw [hg]; exact if_pos (by omega))
      clear hg
      have HX := Lib.hid hxl; clear hxl
      have hvi : (v : Int) ≤ (n : Int) - (k : Int) := by omega
      have hvn : v ≤ 140737488351232 := by omega
      clear hv64
      obtain ⟨A', hcut, hcr⟩ := cut_lh (P := Try.prog) Try.underlying22 hi hz1 A n c .i64 .i64 (k : Int) ((k : Int) + (v : Int)) k (k + v) rfl (by omega) (by omega) (by omega) hnc
      have hkv : k + v - k = v := by omega
      rw [hkv] at hcut hcr
      have hstr1 : (convert 22 9 (.slice A' v (c - k))).run Try.prog w = .ok (.string ⟨((xs.drop k).take v).toArray⟩) w := by
        have h2 := hcr w _ HR.out
        rw [Nat.mul_one, bvs_drop, Nat.mul_one, bvs_take] at h2
        exact h2.str _ _ _ Try.underlying22 Try.underlying5 Try.underlying9
      clear hkv hcr hz1 hz2 hz0
      have hcut1 := hcut w
      clear hcut
      go_enter Try.func14, Try.ntmps14
      go_wp2_with (go_at_call 10; refine (HG.out _ HR.out hn).mono ?_; rw [HG1.out]; rintro e w' ⟨rfl, rfl⟩)
      go_ret3
      exact ⟨ret_eq (by rw [textV_some HN.out]; simp), rfl⟩
    · have HN : Hid (getText xs = none) := Lib.hid (by unfold getText; rw [hg]; exact if_neg (by omega))
      clear hg
      have HX := Lib.hid hxl; clear hxl
      have hvi : (n : Int) - (k : Int) < (v : Int) := by omega
      go_enter Try.func14, Try.ntmps14
      go_wp2_with (go_at_call 10; refine (HG.out _ HR.out hn).mono ?_; rw [HG1.out]; rintro e w' ⟨rfl, rfl⟩)
      go_ret3
      exact ⟨ret_eq (textV_none HN.out).symm, rfl⟩

/-- the number of four bytes with which bytes begin -/
def getFix (xs : List UInt8) : Option Nat := match xs with
  | a :: b :: c :: d :: _ => some (((a.toNat * 256 + b.toNat) * 256 + c.toNat) * 256 + d.toNat)
  | _ => none
def fixV (xs : List UInt8) : Value := match getFix xs with
  | some v => .tuple #[.int .u32 v, .bool true]
  | none => .tuple #[.int .u32 0, .bool false]

def fold4 (l : List UInt8) : Nat := l.foldl (fun v c => v * 256 + c.toNat) 0
theorem getFix_short {xs : List UInt8} (h : xs.length < 4) : getFix xs = none := by
  match xs, h with
  | [], _ => rfl
  | [_], _ => rfl
  | [_, _], _ => rfl
  | [_, _, _], _ => rfl
theorem getFix_long {xs : List UInt8} (h : 4 ≤ xs.length) : getFix xs = some (fold4 (xs.take 4)) := by
  match xs, h with
  | a :: b :: c :: d :: r, _ => simp [getFix, fold4]
theorem fold4_snoc (l : List UInt8) (c : UInt8) : fold4 (l ++ [c]) = fold4 l * 256 + c.toNat := by simp [fold4]
theorem fold4_lt (l : List UInt8) : fold4 l < 256 ^ l.length := by
  suffices h : ∀ (r : List UInt8) (k m : Nat), m < 256 ^ k → r.foldl (fun v c => v * 256 + c.toNat) m < 256 ^ (k + r.length) by simpa [fold4] using h l 0 0 (by simp)
  intro r
  induction r with
  | nil => intro k m h; simpa using h
  | cons c r ih =>
    intro k m h
    have := ih (k + 1) (m * 256 + c.toNat) (by rw [Nat.pow_succ]; have := c.toNat_lt; omega)
    simp only [List.foldl_cons, List.length_cons]
    rw [show k + (r.length + 1) = k + 1 + r.length by omega]; exact this

theorem or_byte {v b : Nat} (hv : v < 16777216) (hb : b < 256) : bits .or .u32 (((v : Int) * 256)) (b : Int) = ((v * 256 + b : Nat) : Int) := by
  have h1 : ((v : Int) * 256) = ((v * 256 : Nat) : Int) := by omega
  have h2 := u32_or_nat (v * 256) b (by omega) (by omega)
  rw [h1, h2]
  have h3 := Nat.two_pow_add_eq_or_of_lt (i := 8) (b := b) (by omega) v
  congr 1
  rw [Nat.mul_comm]; exact h3.symm

set_option maxHeartbeats 400000 in
set_option maxRecDepth 100000 in
theorem fixed_any (A : Option Addr) (n c : Nat) (xs : List UInt8) (w : World) (hr : Rd w A n c 1 (bvs xs)) (hn : n ≤ 140737488351232) :
    Calls Try.prog 22 #[.slice A n c] w fun e w' => e = .returned (fixV xs) ∧ w = w' := by
  have hnc := hr.nc
  have hxl := hr.len
  rw [bvs_len, Nat.mul_one] at hxl
  by_cases h4 : n < 4
  · have HN : Hid (fixV xs = .tuple #[.int .u32 0, .bool false]) := Lib.hid (by unfold fixV; rw [getFix_short (by omega)])
    clear hxl
    go_enter Try.func22, Try.ntmps22
    go_wp2
    go_ret2
    exact ⟨ret_eq HN.out.symm, rfl⟩
  · have HN : Hid (fixV xs = .tuple #[.int .u32 (fold4 (xs.take 4) : Nat), .bool true]) := Lib.hid (by unfold fixV; rw [getFix_long (by omega)])
    have HX := Lib.hid hxl; clear hxl
    have HR := Lib.hid hr; clear hr
    go_enter Try.func22, Try.ntmps22
    go_wp2
    go_loop [4, 13] (fun v i => ∃ (k : Nat), v = .int .u32 (fold4 (xs.take k) : Nat) ∧ i = .int .i64 k ∧ k ≤ 4) (fun _ i => 4 - (intOf i).toNat)
    case atStart => exact ⟨0, rfl, rfl, by omega⟩
    case round =>
      obtain ⟨k, rfl, rfl, hk⟩ := hrel
      by_cases hlt : k < 4
      · have hkx : k < xs.length := by have := HX.out; omega
        obtain ⟨a, rfl, hc⟩ := HR.out.at k hkx
        obtain ⟨b, hb⟩ : ∃ b, b = xs[k].toNat := ⟨_, rfl⟩
        have hb256 : b < 256 := by rw [hb]; exact xs[k].toNat_lt
        rw [← hb] at hc
        have hs : xs.take (k + 1) = xs.take k ++ [xs[k]] := by rw [List.take_succ_eq_append_getElem hkx]
        have HS : Hid (fold4 (xs.take (k + 1)) = fold4 (xs.take k) * 256 + b) := Lib.hid (by rw [hs, fold4_snoc, hb])
        have hv : fold4 (xs.take k) < 16777216 := by
          have h1 := fold4_lt (xs.take k)
          have h2 : (xs.take k).length ≤ 3 := by rw [List.length_take]; omega
          have h3 : 256 ^ (xs.take k).length ≤ 256 ^ 3 := Nat.pow_le_pow_right (by omega) h2
          exact Nat.lt_of_lt_of_le h1 h3
        clear hs hb
        obtain ⟨v, hve⟩ : ∃ v, v = fold4 (xs.take k) := ⟨_, rfl⟩
        rw [← hve] at hv HS ⊢
        clear hve
        have HO := Lib.hid (or_byte hv hb256)
        go_wp2
        go_round
        case rel => exact ⟨k + 1, by rw [HS.out, ← HO.out], by go_num, by omega⟩
        case measure => simp [intOf]; omega
      · have : k = 4 := by omega
        subst this
        go_wp2
        go_ret2
        exact ⟨ret_eq HN.out.symm, rfl⟩
end Go.Proofs.Ytimmgaifhkhhhaa
