/- Walk of chapter 1's small case. -/
import Derived.Test.YtimmgaifhkhhhaaPut2
import Derived.Test.YtimmgaifhkhhhaaGet2
namespace Go.Proofs.Ytimmgaifhkhhhaa
open Go.RowKit

theorem own_str {w : World} {base n : Nat} {r : Value} {xs : List UInt8} (h : w.ownsRow base 5 1 r n (bvs xs)) :
    ∃ A c, r = .slice A n c ∧ (convert 22 9 (.slice A n c)).run Try.prog w = .ok (.string ⟨xs.toArray⟩) w ∧ Rd w A n c 1 (bvs xs) ∧ (∀ a, A = some a → base ≤ a.block) := by
  obtain ⟨A, c, hv, hr, hb⟩ := Rd.of_own h
  exact ⟨A, c, hv, hr.str _ _ _ Try.underlying22 Try.underlying5 Try.underlying9, hr, hb⟩

theorem put300 (w : World) : Calls Try.prog 11 #[.slice none 0 0, .int .u64 300] w fun e w' =>
    ∃ A c, e = .returned (.slice A 2 c) ∧ (convert 22 9 (.slice A 2 c)).run Try.prog w' = .ok (.string ⟨#[172, 2]⟩) w' ∧ Below w.heap.size w w' := by
  refine (put_any none 0 0 [] 300 w (by unfold U64; omega) (Rd.nil w 1) (by omega)).mono ?_
  rintro e w' ⟨r, rfl, hown, hb⟩
  have e1 : enc 300 = [172, 2] := by rw [enc_great (by omega), enc_small (by omega)]; rfl
  rw [e1] at hown
  obtain ⟨A, c, rfl, hs, _⟩ := own_str hown
  exact ⟨A, c, rfl, hs, hb⟩

theorem putAb (w : World) : Calls Try.prog 13 #[.slice none 0 0, .string ⟨#[97, 98]⟩] w fun e w' =>
    ∃ A c, e = .returned (.slice A 3 c) ∧ (convert 22 9 (.slice A 3 c)).run Try.prog w' = .ok (.string ⟨#[2, 97, 98]⟩) w' ∧ Below w.heap.size w w' := by
  refine (putText_any none 0 0 [] ⟨#[97, 98]⟩ w (by simp [ByteArray.size]) (Rd.nil w 1)).mono ?_
  rintro e w' ⟨r, rfl, hown, hb⟩
  have e1 : encText [97, 98] = [2, 97, 98] := by unfold encText; rw [enc_small (by simp)]; rfl
  simp only [e1] at hown
  obtain ⟨A, c, rfl, hs, _⟩ := own_str hown
  exact ⟨A, c, rfl, hs, hb⟩

theorem get128 (A : Option Addr) (c : Nat) (w : World) (h : Rd w A 2 c 1 (bvs [128, 1])) : Calls Try.prog 10 #[.slice A 2 c] w fun e w' => e = .returned (.tuple #[.int .u64 128, .int .i64 2, .bool true]) ∧ w = w' :=
  get_any A 2 c [128, 1] w h (by omega)
theorem get0 (A : Option Addr) (c : Nat) (w : World) (h : Rd w A 2 c 1 (bvs [128, 0])) : Calls Try.prog 10 #[.slice A 2 c] w fun e w' => e = .returned (.tuple #[.int .u64 0, .int .i64 0, .bool false]) ∧ w = w' :=
  get_any A 2 c [128, 0] w h (by omega)

set_option maxHeartbeats 400000 in
set_option maxRecDepth 100000 in
theorem shown_any (w : World) :
    Calls Try.prog 9 #[] w fun e w' => e = .returned (.bool true) ∧ Below w.heap.size w w' := by
  have e1 : bvs [128, 1] = [.int .u8 128, .int .u8 1] := rfl
  have e2 : bvs [128, 0] = [.int .u8 128, .int .u8 0] := rfl
  have r1 : Rd (w.alloc (.cells #[.int .u8 128, .int .u8 1] 5)) (some ⟨w.heap.size, 0, Option.none⟩) 2 2 1 (bvs [128, 1]) := by rw [e1]; exact Rd.new w [.int .u8 128, .int .u8 1] 5 1 2 rfl (by simp [maxLen])
  have r2 : Rd ((w.alloc (.cells #[.int .u8 128, .int .u8 1] 5)).alloc (.cells #[.int .u8 128, .int .u8 0] 5)) (some ⟨w.heap.size + 1, 0, Option.none⟩) 2 2 1 (bvs [128, 0]) := by
    rw [e2]
    have := Rd.new (w.alloc (.cells #[.int .u8 128, .int .u8 1] 5)) [.int .u8 128, .int .u8 0] 5 1 2 rfl (by simp [maxLen])
    rw [World.size_alloc] at this
    exact this
  clear e1 e2
  have R1 := Lib.hid r1; have R2 := Lib.hid r2; clear r1 r2
  go_enter Try.func9, Try.ntmps9
  go_wp2_with fail
  refine (get128 _ _ _ R1.out).mono ?_
  rintro e w' ⟨rfl, rfl⟩
  go_wp2_with fail
  refine (get0 _ _ _ R2.out).mono ?_
  rintro e w' ⟨rfl, rfl⟩
  go_wp2_with fail
  refine (put300 _).mono ?_
  rintro e w1 ⟨A1, c1, rfl, hs1, hb1⟩
  have HB1 := Lib.hid hb1; clear hb1
  go_wp2_with fail
  refine (putAb _).mono ?_
  rintro e w2 ⟨A2, c2, rfl, hs2, hb2⟩
  have HB2 := Lib.hid hb2; clear hb2 hs1
  go_wp2
  go_ret
  refine ⟨rfl, ?_⟩
  have h0 := ((Below.refl w.heap.size w).alloc (Nat.le_refl _) (.cells #[.int .u8 128, .int .u8 1] 5)).alloc (by simp) (.cells #[.int .u8 128, .int .u8 0] 5)
  have h1 := h0.trans (HB1.out.mono (by simp; omega))
  exact h1.trans (HB2.out.mono (Nat.le_trans (by simp; omega) HB1.out.size))
end Go.Proofs.Ytimmgaifhkhhhaa
