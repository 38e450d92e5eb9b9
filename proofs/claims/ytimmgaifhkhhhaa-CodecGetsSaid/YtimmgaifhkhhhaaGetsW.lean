/- Walk of CodecGets. -/
import Derived.Test.YtimmgaifhkhhhaaShown1
import Derived.Test.YtimmgaifhkhhhaaRef2
namespace Go.Proofs.Ytimmgaifhkhhhaa
open Go.RowKit

theorem getV_form (xs : List UInt8) : ∃ (a b : Nat) (c : Bool), getV xs = .tuple #[.int .u64 a, .int .i64 b, .bool c] := by
  unfold getV; split
  · exact ⟨_, _, _, rfl⟩
  · exact ⟨0, 0, _, rfl⟩
theorem textV_form (xs : List UInt8) : ∃ (a : ByteArray) (b : Nat) (c : Bool), textV xs = .tuple #[.string a, .int .i64 b, .bool c] := by
  unfold textV; split
  · exact ⟨_, _, _, rfl⟩
  · exact ⟨_, 0, _, rfl⟩
theorem fixV_form (xs : List UInt8) : ∃ (a : Nat) (c : Bool), fixV xs = .tuple #[.int .u32 a, .bool c] := by
  unfold fixV; split
  · exact ⟨_, _, rfl⟩
  · exact ⟨0, _, rfl⟩

/-- an empty literal is the call's own -/
theorem own_empty (w : World) (base : Nat) (hb : base ≤ w.heap.size) : (w.alloc (.cells #[] 5)).ownsRow base 5 1 (.slice (some ⟨w.heap.size, 0, none⟩) 0 0) 0 (bvs []) := by
  refine ⟨rfl, .inr ⟨w.heap.size, 0, #[], rfl, hb, heap_alloc_new w _, Nat.le_refl _, by simp [maxLen], rfl, rfl⟩⟩

theorem str_bytes (xs : List UInt8) : (⟨xs.toArray⟩ : ByteArray).data.toList = xs := by simp

set_option maxHeartbeats 2000000 in
set_option maxRecDepth 100000 in
theorem codecGets_walk (A : Option Addr) (n c : Nat) (xs : List UInt8) (w : World) (hr : Rd w A n c 1 (bvs xs)) (hc : c ≤ 140737488351232) :
    Calls Try.prog 7 #[.slice A n c] w fun e w' => e = .returned (.bool true) ∧ Below w.heap.size w w' := by
  obtain ⟨i0, hi, hz0, hz1, hz2⟩ := info_parts infoB
  have HS := Lib.hid fun w => shown_any w
  have hnc := hr.nc
  have hn : n ≤ 140737488351232 := by omega
  have hxl := hr.len
  rw [bvs_len, Nat.mul_one] at hxl
  have hxs : (⟨xs.toArray⟩ : ByteArray).size ≤ 140737488351232 := by rw [← size_list, str_bytes]; omega
  have HXS := Lib.hid hxs; clear hxs hxl hc hnc
  have HR := Lib.hid hr; clear hr
  obtain ⟨g1, g2, g3, hg⟩ := getV_form xs
  obtain ⟨t1, t2, t3, ht⟩ := textV_form xs
  obtain ⟨f1, f2, hf⟩ := fixV_form xs
  have HG := Lib.hid hg; have HT := Lib.hid ht; have HF := Lib.hid hf
  have R1 : Hid (∀ W, Calls Try.prog 20 #[.string ⟨xs.toArray⟩] W fun e w' => e = .returned (.tuple #[.int .u64 g1, .int .i64 g2, .bool g3]) ∧ W = w') := Lib.hid fun W => by
    have h := refGet_any ⟨xs.toArray⟩ W HXS.out
    simp only [hg] at h
    exact h
  have R2 : Hid (∀ W, Calls Try.prog 21 #[.string ⟨xs.toArray⟩] W fun e w' => e = .returned (.tuple #[.string t1, .int .i64 t2, .bool t3]) ∧ W = w') := Lib.hid fun W => by
    have h := refText_any ⟨xs.toArray⟩ W HXS.out
    simp only [ht] at h
    exact h
  have R3 : Hid (∀ W, Calls Try.prog 23 #[.string ⟨xs.toArray⟩] W fun e w' => e = .returned (.tuple #[.int .u32 f1, .bool f2]) ∧ Below W.heap.size W w') := Lib.hid fun W => by
    have h := refFixed_any ⟨xs.toArray⟩ W HXS.out
    simp only [hf] at h
    exact h
  clear hg ht hf
  have hstr : Hid (∀ W (A : Option Addr) (n c : Nat), Rd W A n c 1 (bvs xs) → (convert 22 9 (.slice A n c)).run Try.prog W = .ok (.string ⟨xs.toArray⟩) W) := Lib.hid fun W A n c h => h.str _ _ _ Try.underlying22 Try.underlying5 Try.underlying9
  go_enter Try.func7, Try.ntmps7
  go_wp2_with fail
  refine (HS.out _).mono ?_
  rintro e w1 ⟨rfl, hb1⟩
  have HB1 := Lib.hid hb1; clear hb1
  have HO := Lib.hid (own_empty w1 w1.heap.size (Nat.le_refl _))
  have HY := Lib.hid ((HR.out.below HB1.out (Nat.le_refl _)).alloc (.cells #[] 5))
  go_wp2_with (at_builtin; refine wpList_append_appd _ rfl _ _ _ rfl w1.heap.size 5 i0 _ 1 1 Try.underlying22 hi hz0 hz1 hz2 rfl (by omega) _ _ _ rfl (.inr HO.out) A n c _ rfl HY.out (bvs_one _) (by simp [maxLen]; omega) (by omega) (by simp) (.inl HO.out) ?_; intro v3 w3 hown3 hb3 _; obtain ⟨A3, c3, rfl, hr3, _⟩ := Rd.of_own hown3)
  have HR3 := Lib.hid hr3
  rw [Nat.zero_add] at HR3
  have HB3 : Hid (Below w.heap.size w w3) := Lib.hid (HB1.out.trans ((((Below.refl _ _).alloc (Nat.le_refl _) _).trans hb3).mono HB1.out.size))
  have HRa := Lib.hid (HR.out.below HB3.out (Nat.le_refl _))
  have hs1 := hstr.out _ _ _ _ HRa.out
  have hs2 := hstr.out _ _ _ _ HR3.out
  clear hown3 hr3 hb3
  refine (get_any A3 n c3 xs _ HR3.out hn).mono ?_
  rw [HG.out]
  rintro e w4 ⟨rfl, rfl⟩
  go_wp2_with fail
  refine (R1.out _).mono ?_
  rintro e w4 ⟨rfl, rfl⟩
  go_wp2_with fail
  refine (text_any A3 n c3 xs _ HR3.out hn).mono ?_
  rw [HT.out]
  rintro e w4 ⟨rfl, rfl⟩
  go_wp2_with fail
  refine (R2.out _).mono ?_
  rintro e w4 ⟨rfl, rfl⟩
  go_wp2_with fail
  refine (fixed_any A3 n c3 xs _ HR3.out hn).mono ?_
  rw [HF.out]
  rintro e w4 ⟨rfl, rfl⟩
  go_wp2_with fail
  refine (R3.out _).mono ?_
  rintro e w4 ⟨rfl, hb4⟩
  have HB4 := Lib.hid (HB3.out.trans (hb4.mono HB3.out.size))
  have hs3 := hstr.out _ _ _ _ (HR.out.below HB4.out (Nat.le_refl _))
  have hs4 := hstr.out _ _ _ _ (HR3.out.below hb4 (Nat.le_refl _))
  clear hb4 hs1 hs2
  go_wp2
  all_goals (go_ret; exact ⟨by first | rfl | simp, HB4.out⟩)
end Go.Proofs.Ytimmgaifhkhhhaa
