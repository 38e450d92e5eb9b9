/- Numbers of four bytes (A3): plain facts, and the walks of PutFixed and Fixed. -/
import Derived.Test.YtegkcbkgoncnbaaWa
namespace Go.Proofs.Ytegkcbkgoncnbaa
open Go.RowKit

def fix4 (v : Nat) : List UInt8 := [UInt8.ofNat (v / 16777216), UInt8.ofNat (v / 65536), UInt8.ofNat (v / 256), UInt8.ofNat v]
theorem fix4_own {w1 : World} {B e n v : Nat} {v' : Value} {xs : List UInt8} (hv : v < 4294967296)
    (h : w1.ownsRow B e 1 v' (n + 4) (bvs xs ++ [Value.int IntKind.u8 (↑v / 16777216), Value.int IntKind.u8 (↑v / 65536 % 256), Value.int IntKind.u8 (↑v / 256 % 256), Value.int IntKind.u8 (↑v % 256)])) :
    w1.ownsRow B e 1 v' (n + 4) (bvs (xs ++ fix4 v)) := by
  have e1 : bvs (xs ++ fix4 v) = bvs xs ++ [Value.int IntKind.u8 (↑v / 16777216), Value.int IntKind.u8 (↑v / 65536 % 256), Value.int IntKind.u8 (↑v / 256 % 256), Value.int IntKind.u8 (↑v % 256)] := by
    rw [bvs_app]
    congr 1
    simp only [bvs, fix4, List.map_cons, List.map_nil, UInt8.toNat_ofNat']
    have a1 : ((v / 16777216 % 2 ^ 8 : Nat) : Int) = (v : Int) / 16777216 := by omega
    have a2 : ((v / 65536 % 2 ^ 8 : Nat) : Int) = (v : Int) / 65536 % 256 := by omega
    have a3 : ((v / 256 % 2 ^ 8 : Nat) : Int) = (v : Int) / 256 % 256 := by omega
    have a4 : ((v % 2 ^ 8 : Nat) : Int) = (v : Int) % 256 := by omega
    rw [a1, a2, a3, a4]
  rw [e1]; exact h

set_option maxHeartbeats 400000 in
set_option maxRecDepth 100000 in
theorem putFixed_any (A : Option Addr) (n c : Nat) (xs : List UInt8) (v : Nat) (w : World) (hv : v < 4294967296) (hn : n ≤ 140737488351232) (hr : Rd w A n c 1 (bvs xs)) :
    Calls Try.prog 17 #[.slice A n c, .int .u32 v] w fun e w' => ∃ r, e = .returned r ∧ w'.ownsRow w.heap.size 5 1 r (n + 4) (bvs (xs ++ fix4 v)) ∧ Below w.heap.size w w' := by
  obtain ⟨i0, hi, hz0, hz1, hz2⟩ := info_parts infoB
  have hnc := hr.nc
  have HR := Lib.hid hr; clear hr
  go_enter Try.func17, Try.ntmps17
  go_wp2_with (at_builtin; refine wpList_append_appd _ rfl _ _ _ rfl w.heap.size 5 i0 _ 1 1 Try.underlying22 hi hz0 hz1 hz2 rfl (by omega) _ _ (bvs xs) rfl (.inl ⟨A, rfl, HR.out.full.alloc _⟩) _ 4 4 _ rfl (Rd.new _ [_, _, _, _] _ 1 4 rfl (by simp [maxLen])) ?_ (by simp [maxLen]; omega) (by omega) (by simp) (.inr (by omega)) ?_)
  case refine_1 => intro u hu; simp at hu; rcases hu with rfl | rfl | rfl | rfl <;> rfl
  intro v' w1 hown hbel _
  have hb2 := ((Below.refl _ _).alloc (Nat.le_refl _) _).trans hbel
  have hfin := fix4_own hv hown
  go_wp2
  go_ret
  exact ⟨v', rfl, hfin, hb2⟩
/-- the number of four bytes with which bytes begin -/
def getFix (xs : List UInt8) : Option Nat := match xs with
  | a :: b :: c :: d :: _ => some (((a.toNat * 256 + b.toNat) * 256 + c.toNat) * 256 + d.toNat)
  | _ => none
def fixV (xs : List UInt8) : Value := match getFix xs with
  | some v => .tuple #[.int .u32 v, .bool true]
  | none => .tuple #[.int .u32 0, .bool false]

def fold4 (l : List UInt8) : Nat := l.foldl (fun v c => v * 256 + c.toNat) 0
theorem getFix_short {xs : List UInt8} (h : xs.length < 4) : getFix xs = none := by
  match xs, h with
  | [], _ => rfl
  | [_], _ => rfl
  | [_, _], _ => rfl
  | [_, _, _], _ => rfl
theorem getFix_long {xs : List UInt8} (h : 4 ≤ xs.length) : getFix xs = some (fold4 (xs.take 4)) := by
  match xs, h with
  | a :: b :: c :: d :: r, _ => simp [getFix, fold4]
theorem fold4_snoc (l : List UInt8) (c : UInt8) : fold4 (l ++ [c]) = fold4 l * 256 + c.toNat := by simp [fold4]
theorem fold4_lt (l : List UInt8) : fold4 l < 256 ^ l.length := by
  suffices h : ∀ (r : List UInt8) (k m : Nat), m < 256 ^ k → r.foldl (fun v c => v * 256 + c.toNat) m < 256 ^ (k + r.length) by simpa [fold4] using h l 0 0 (by simp)
  intro r
  induction r with
  | nil => intro k m h; simpa using h
  | cons c r ih =>
    intro k m h
    have := ih (k + 1) (m * 256 + c.toNat) (by rw [Nat.pow_succ]; have := c.toNat_lt; omega)
    simp only [List.foldl_cons, List.length_cons]
    rw [show k + (r.length + 1) = k + 1 + r.length by omega]; exact this

theorem or_byte {v b : Nat} (hv : v < 16777216) (hb : b < 256) : bits .or .u32 (((v : Int) * 256)) (b : Int) = ((v * 256 + b : Nat) : Int) := by
  have h1 : ((v : Int) * 256) = ((v * 256 : Nat) : Int) := by omega
  have h2 := u32_or_nat (v * 256) b (by omega) (by omega)
  rw [h1, h2]
  have h3 := Nat.two_pow_add_eq_or_of_lt (i := 8) (b := b) (by omega) v
  congr 1
  rw [Nat.mul_comm]; exact h3.symm

set_option maxHeartbeats 400000 in
set_option maxRecDepth 100000 in
theorem fixed_any (A : Option Addr) (n c : Nat) (xs : List UInt8) (w : World) (hr : Rd w A n c 1 (bvs xs)) (hn : n ≤ 140737488351232) :
    Calls Try.prog 21 #[.slice A n c] w fun e w' => e = .returned (fixV xs) ∧ w = w' := by
  have hnc := hr.nc
  have hxl := hr.len
  rw [bvs_len, Nat.mul_one] at hxl
  by_cases h4 : n < 4
  · have HN : Hid (fixV xs = .tuple #[.int .u32 0, .bool false]) := Lib.hid (by unfold fixV; rw [getFix_short (by omega)])
    clear hxl
    go_enter Try.func21, Try.ntmps21
    go_wp2
    go_ret2
    exact ⟨ret_eq HN.out.symm, rfl⟩
  · have HN : Hid (fixV xs = .tuple #[.int .u32 (fold4 (xs.take 4) : Nat), .bool true]) := Lib.hid (by unfold fixV; rw [getFix_long (by omega)])
    have HX := Lib.hid hxl; clear hxl
    have HR := Lib.hid hr; clear hr
    go_enter Try.func21, Try.ntmps21
    go_wp2
    go_loop [4, 13] (fun v i => ∃ (k : Nat), v = .int .u32 (fold4 (xs.take k) : Nat) ∧ i = .int .i64 k ∧ k ≤ 4) (fun _ i => 4 - (intOf i).toNat)
    case atStart => exact ⟨0, rfl, rfl, by omega⟩
    case round =>
      obtain ⟨k, rfl, rfl, hk⟩ := hrel
      by_cases hlt : k < 4
      · have hkx : k < xs.length := by have := HX.out; omega
        obtain ⟨a, rfl, hc⟩ := HR.out.at k hkx
        obtain ⟨b, hb⟩ : ∃ b, b = xs[k].toNat := ⟨_, rfl⟩
        have hb256 : b < 256 := by rw [hb]; exact xs[k].toNat_lt
        rw [← hb] at hc
        have hs : xs.take (k + 1) = xs.take k ++ [xs[k]] := by rw [List.take_succ_eq_append_getElem hkx]
        have HS : Hid (fold4 (xs.take (k + 1)) = fold4 (xs.take k) * 256 + b) := Lib.hid (by rw [hs, fold4_snoc, hb])
        have hv : fold4 (xs.take k) < 16777216 := by
          have h1 := fold4_lt (xs.take k)
          have h2 : (xs.take k).length ≤ 3 := by rw [List.length_take]; omega
          have h3 : 256 ^ (xs.take k).length ≤ 256 ^ 3 := Nat.pow_le_pow_right (by omega) h2
          exact Nat.lt_of_lt_of_le h1 h3
        clear hs hb
        obtain ⟨v, hve⟩ : ∃ v, v = fold4 (xs.take k) := ⟨_, rfl⟩
        rw [← hve] at hv HS ⊢
        clear hve
        have HO := Lib.hid (or_byte hv hb256)
        go_wp2
        go_round
        case rel => exact ⟨k + 1, by rw [HS.out, ← HO.out], by go_num, by omega⟩
        case measure => simp [intOf]; omega
      · have : k = 4 := by omega
        subst this
        go_wp2
        go_ret2
        exact ⟨ret_eq HN.out.symm, rfl⟩
theorem getFix_put (v : Nat) (h : v < 4294967296) (r : List UInt8) : getFix (fix4 v ++ r) = some v := by
  simp only [fix4, List.cons_append, List.nil_append, getFix, UInt8.toNat_ofNat']
  congr 1; omega
end Go.Proofs.Ytegkcbkgoncnbaa
