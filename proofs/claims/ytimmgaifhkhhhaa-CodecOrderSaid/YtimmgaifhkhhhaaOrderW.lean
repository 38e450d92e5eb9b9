/- Walk of CodecOrder. -/
import Derived.Test.YtimmgaifhkhhhaaShown1
namespace Go.Proofs.Ytimmgaifhkhhhaa
open Go.RowKit

theorem enc_div (v : Nat) : (v < 128 ∧ (enc v).length = 1 ∧ (enc (v / 128)).length = 1) ∨ (128 ≤ v ∧ (enc v).length = (enc (v / 128)).length + 1) := by
  by_cases h : v < 128
  · left; exact ⟨h, by rw [enc_small h]; rfl, by rw [enc_small (by omega)]; rfl⟩
  · right; exact ⟨by omega, by rw [enc_great (v := v) (by omega)]; rfl⟩

set_option maxHeartbeats 400000 in
set_option maxRecDepth 100000 in
theorem codecOrder_walk (v x : Nat) (w : World) (hv : U64 v) (hx : U64 x) :
    Calls Try.prog 4 #[.int .u64 v, .int .u64 x] w fun e w' => e = .returned (.bool true) ∧ Below w.heap.size w w' := by
  -- the two in order
  obtain ⟨a, b, hab, hsw⟩ : ∃ a b : Nat, a ≤ b ∧ ((x < v ∧ a = x ∧ b = v) ∨ (v ≤ x ∧ a = v ∧ b = x)) := by
    rcases Nat.lt_or_ge x v with h | h
    · exact ⟨x, v, by omega, .inl ⟨h, rfl, rfl⟩⟩
    · exact ⟨v, x, h, .inr ⟨h, rfl, rfl⟩⟩
  have ha : U64 a := by rcases hsw with ⟨_, rfl, _⟩ | ⟨_, rfl, _⟩ <;> assumption
  have hb : U64 b := by rcases hsw with ⟨_, _, rfl⟩ | ⟨_, _, rfl⟩ <;> assumption
  have hd : U64 (a / 128) := by unfold U64 at *; omega
  have S1 := Lib.hid fun w => size_any a w ha
  have S2 := Lib.hid fun w => size_any b w hb
  have S3 := Lib.hid fun w => size_any (a / 128) w hd
  have hm := enc_mono b b a (Nat.le_refl _) hab
  have hdv := enc_div a
  have h10 : (enc a).length ≤ 10 := enc_le10 ha
  have h11 : (enc b).length ≤ 10 := enc_le10 hb
  have h12 : (enc (a / 128)).length ≤ 10 := enc_le10 hd
  obtain ⟨p, hp⟩ : ∃ p, p = (enc a).length := ⟨_, rfl⟩
  obtain ⟨q, hq⟩ : ∃ q, q = (enc b).length := ⟨_, rfl⟩
  obtain ⟨r, hr⟩ : ∃ r, r = (enc (a / 128)).length := ⟨_, rfl⟩
  rw [← hp] at hm hdv S1 h10
  rw [← hq] at hm S2 h11
  rw [← hr] at hdv S3 h12
  clear hp hq hr hv hx ha hb hd
  have HS := Lib.hid fun w => shown_any w
  rcases hsw with ⟨hlt, rfl, rfl⟩ | ⟨hle, rfl, rfl⟩
  all_goals
    rcases hdv with ⟨h1, rfl, rfl⟩ | ⟨h1, h2⟩
    all_goals
      try (have E1 : ((p : Int) == (r : Int) + 1) = true := by simp; omega)
      try have H2 := Lib.hid h2
      try clear h2
      go_enter Try.func4, Try.ntmps4
      go_wp2_with fail
      refine (HS.out _).mono ?_
      rintro e w1 ⟨rfl, hb1⟩
      go_wp2_with fail
      refine (S1.out _).mono ?_
      rintro e w2 ⟨rfl, rfl⟩
      go_wp2_with fail
      refine (S2.out _).mono ?_
      rintro e w2 ⟨rfl, rfl⟩
      go_wp2_with fail
      refine (S3.out _).mono ?_
      rintro e w2 ⟨rfl, rfl⟩
      go_wp2
      go_ret
      exact ⟨by first | rfl | simp, hb1⟩

end Go.Proofs.Ytimmgaifhkhhhaa
