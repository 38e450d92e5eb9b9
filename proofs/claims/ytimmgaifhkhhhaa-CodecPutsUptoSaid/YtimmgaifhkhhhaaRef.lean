/- Walks of the document's writers (package marlstoneref01). -/
import Derived.Test.YtimmgaifhkhhhaaPut2
import Derived.Test.YtimmgaifhkhhhaaExtW
namespace Go.Proofs.Ytimmgaifhkhhhaa
open Go.RowKit

theorem size_list (s : ByteArray) : s.data.toList.length = s.size := by rw [Array.length_toList]; rfl
theorem app_list (s t : ByteArray) : (s ++ t).data.toList = s.data.toList ++ t.data.toList := by simp
theorem ret_eq' {v v' : Value} (h : v = v') : Ending.returned v = Ending.returned v' := by rw [h]
theorem ba_ext {s t : ByteArray} (h : s.data.toList = t.data.toList) : s = t := by
  cases s; cases t; simp at h; rw [h]

theorem conv1 (X : Int) (b : UInt8) (hX : X = (b.toNat : Int)) (W : World) : (convert 22 9 (.slice (some ⟨W.heap.size, 0, none⟩) 1 1)).run Try.prog (W.alloc (.cells #[.int .u8 X] 5)) = .ok (.string ⟨#[b]⟩) (W.alloc (.cells #[.int .u8 X] 5)) := by
  subst hX
  have h := Rd.new1 W (.int .u8 (b.toNat : Int)) 5
  exact Rd.str (xs := [b]) h _ _ _ Try.underlying22 Try.underlying5 Try.underlying9

theorem size_snoc (t : ByteArray) (b : UInt8) : (t ++ (⟨#[b]⟩ : ByteArray)).size = t.size + 1 := by rw [ByteArray.size_append]; rfl
theorem add_one (t : ByteArray) (b : UInt8) (h : t.size ≤ 1000000000000010) (W : World) : (Op.stringOp .add t ⟨#[b]⟩).run Try.prog W = .ok (.string (t ++ ⟨#[b]⟩)) W :=
  run_string_add_sum _ t _ (by rw [show (⟨#[b]⟩ : ByteArray).size = 1 from rfl]; omega)

set_option maxHeartbeats 400000 in
set_option maxRecDepth 100000 in
theorem refPut_any (s : ByteArray) (v : Nat) (w : World) (hv : U64 v) (hs : s.size ≤ 1000000000000000) :
    Calls Try.prog 16 #[.string s, .int .u64 v] w fun e w' => e = .returned (.string ⟨(s.data.toList ++ enc v).toArray⟩) ∧ Below w.heap.size w w' := by
  have H10 := Lib.hid (enc_le10 hv)
  have HV := Lib.hid hv; clear hv
  obtain ⟨B, hB⟩ : ∃ B, B = w.heap.size := ⟨_, rfl⟩
  rw [← hB]
  have HB := Lib.hid hB; clear hB
  go_enter Try.func16, Try.ntmps16
  go_wp2
  go_loopw [0, 1] (fun b x wr => ∃ (y : Nat) (t : ByteArray), b = .string t ∧ x = .int .u64 y ∧ Hid (U64 y) ∧ Hid (s.data.toList ++ enc v = t.data.toList ++ enc y) ∧ Hid (Below B w wr) ∧ B ≤ wr.heap.size ∧ t.size ≤ 1000000000000010) (fun _ x _ => (intOf x).toNat)
  case atStart => exact ⟨v, s, rfl, rfl, HV, Lib.hid rfl, Lib.hid (Below.refl _ _), by rw [HB.out]; exact Nat.le_refl _, by omega⟩
  case round =>
    obtain ⟨y, t, rfl, rfl, HU, H, HL, hBw, hpre⟩ := hrel
    have h1 := H.out
    by_cases hy : y < 128
    · obtain ⟨b, hb⟩ : ∃ b, b = UInt8.ofNat y := ⟨_, rfl⟩
      have hcv := conv1 (y : Int) b (by rw [hb, ofNat_toNat_of_lt (by omega)]) wr
      have hadd := add_one t b hpre (wr.alloc (.cells #[.int .u8 (y : Int)] 5))
      have HF : Hid ((⟨(s.data.toList ++ enc v).toArray⟩ : ByteArray) = t ++ ⟨#[b]⟩) := Lib.hid (ba_ext (by rw [h1, enc_small hy, app_list, hb]))
      clear h1 hb
      go_wp2
      go_ret
      exact ⟨ret_eq' (by rw [HF.out]; rfl), HL.out.alloc hBw _⟩
    · obtain ⟨b, hb⟩ : ∃ b, b = UInt8.ofNat (y % 128 + 128) := ⟨_, rfl⟩
      have hcv := conv1 ((y : Int) % 128 + 128) b (by rw [hb, ofNat_toNat_of_lt (by omega)]; omega) wr
      have hadd := add_one t b hpre (wr.alloc (.cells #[.int .u8 ((y : Int) % 128 + 128)] 5))
      have hl : t.size + 1 ≤ 1000000000000010 := by
        have h2 := congrArg List.length h1
        rw [enc_great (v := y) (by omega), List.length_append, List.length_append, List.length_cons, size_list, size_list] at h2
        have h3 := H10.out
        have h4 := enc_pos (y / 128)
        omega
      have H2 : Hid (s.data.toList ++ enc v = (t ++ (⟨#[b]⟩ : ByteArray)).data.toList ++ enc (y / 128)) := Lib.hid (by rw [h1, enc_great (v := y) (by omega), app_list, hb]; simp)
      have hts : (t ++ (⟨#[b]⟩ : ByteArray)).size ≤ 1000000000000010 := by rw [size_snoc]; exact hl
      have hsz : B ≤ (wr.alloc (.cells #[.int .u8 ((y : Int) % 128 + 128)] 5)).heap.size := by simp; omega
      have hwr : IntKind.u64.wrap ((y : Int) / 128) = (y : Int) / 128 := by have := HU.out; unfold U64 at this; rw [IntKind.wrap_u64]; omega
      clear h1 hb
      go_wp2
      clear hwr
      go_roundw
      case rel => exact ⟨y / 128, _, rfl, by go_num, Lib.hid (by have := HU.out; unfold U64 at *; omega), H2, Lib.hid (HL.out.alloc hBw _), hsz, hts⟩
      case measure => simp [intOf]; omega

set_option maxHeartbeats 400000 in
set_option maxRecDepth 100000 in
theorem refPutText_any (s t : ByteArray) (w : World) (hs : s.size ≤ 1000000000000000) (ht : t.size ≤ 1000000000000000) :
    Calls Try.prog 17 #[.string s, .string t] w fun e w' => e = .returned (.string ⟨(s.data.toList ++ encText t.data.toList).toArray⟩) ∧ Below w.heap.size w w' := by
  have hadd : ∀ W, (Op.stringOp .add ⟨(s.data.toList ++ enc t.size).toArray⟩ t).run Try.prog W = .ok (.string (⟨(s.data.toList ++ enc t.size).toArray⟩ ++ t)) W := fun W => run_string_add_sum _ _ _ (by
    have h1 : (⟨(s.data.toList ++ enc t.size).toArray⟩ : ByteArray).size = s.size + (enc t.size).length := by
      rw [← size_list]; simp
    have h2 := enc_le10 (v := t.size) (by omega)
    rw [h1]; omega)
  have HF : Hid ((⟨(s.data.toList ++ encText t.data.toList).toArray⟩ : ByteArray) = ⟨(s.data.toList ++ enc t.size).toArray⟩ ++ t) := Lib.hid (ba_ext (by rw [app_list]; simp [encText]))
  have hz : (t.size : Int) ≤ 1000000000000000 := by omega
  go_enter Try.func17, Try.ntmps17
  go_wp2_with fail
  refine (refPut_any s t.size _ (by unfold U64; omega) hs).mono ?_
  rintro e w1 ⟨rfl, hb1⟩
  have HB1 := Lib.hid hb1; clear hb1
  have hadd1 := hadd w1
  clear hadd
  go_wp2
  go_ret
  exact ⟨ret_eq' (by rw [HF.out]; rfl), HB1.out⟩

theorem conv4 (X Y Z U : Int) (a b c d : UInt8) (hX : X = (a.toNat : Int)) (hY : Y = (b.toNat : Int)) (hZ : Z = (c.toNat : Int)) (hU : U = (d.toNat : Int)) (W : World) :
    (convert 22 9 (.slice (some ⟨W.heap.size, 0, none⟩) 4 4)).run Try.prog (W.alloc (.cells #[.int .u8 X, .int .u8 Y, .int .u8 Z, .int .u8 U] 5)) = .ok (.string ⟨#[a, b, c, d]⟩) (W.alloc (.cells #[.int .u8 X, .int .u8 Y, .int .u8 Z, .int .u8 U] 5)) := by
  subst hX; subst hY; subst hZ; subst hU
  have h := Rd.new W [.int .u8 (a.toNat : Int), .int .u8 (b.toNat : Int), .int .u8 (c.toNat : Int), .int .u8 (d.toNat : Int)] 5 1 4 rfl (by simp [maxLen])
  exact Rd.str (xs := [a, b, c, d]) h _ _ _ Try.underlying22 Try.underlying5 Try.underlying9

set_option maxHeartbeats 400000 in
set_option maxRecDepth 100000 in
theorem refPutFixed_any (s : ByteArray) (v : Nat) (w : World) (hv : v < 4294967296) (hs : s.size ≤ 1000000000000000) :
    Calls Try.prog 18 #[.string s, .int .u32 v] w fun e w' => e = .returned (.string ⟨(s.data.toList ++ fix4 v).toArray⟩) ∧ Below w.heap.size w w' := by
  have HF : Hid ((⟨(s.data.toList ++ fix4 v).toArray⟩ : ByteArray) = s ++ ⟨(fix4 v).toArray⟩) := Lib.hid (ba_ext (by rw [app_list]))
  have hb : ∃ a b c d : UInt8, fix4 v = [a, b, c, d] ∧ (v : Int) / 16777216 = (a.toNat : Int) ∧ (v : Int) / 65536 % 256 = (b.toNat : Int) ∧ (v : Int) / 256 % 256 = (c.toNat : Int) ∧ (v : Int) % 256 = (d.toNat : Int) :=
    ⟨_, _, _, _, rfl, by simp only [UInt8.toNat_ofNat']; omega, by simp only [UInt8.toNat_ofNat']; omega, by simp only [UInt8.toNat_ofNat']; omega, by simp only [UInt8.toNat_ofNat']; omega⟩
  obtain ⟨a, b, c, d, h0, h1, h2, h3, h4⟩ := hb
  have hcv := conv4 _ _ _ _ a b c d h1 h2 h3 h4 w
  have H0 := Lib.hid h0
  have hadd : ∀ W, (Op.stringOp .add s ⟨#[a, b, c, d]⟩).run Try.prog W = .ok (.string (s ++ ⟨#[a, b, c, d]⟩)) W := fun W => run_string_add_sum _ _ _ (by rw [show (⟨#[a, b, c, d]⟩ : ByteArray).size = 4 from rfl]; omega)
  clear h0 h1 h2 h3 h4
  go_enter Try.func18, Try.ntmps18
  go_wp2
  go_ret
  exact ⟨ret_eq' (by rw [HF.out, H0.out]; rfl), (Below.refl _ _).alloc (Nat.le_refl _) _⟩

set_option maxHeartbeats 400000 in
set_option maxRecDepth 100000 in
theorem refSize_any (v : Nat) (w : World) (hv : U64 v) :
    Calls Try.prog 19 #[.int .u64 v] w fun e w' => e = .returned (.int .i64 ((enc v).length : Nat)) ∧ Below w.heap.size w w' := by
  have HV := Lib.hid hv; clear hv
  have HL : Hid ((⟨(enc v).toArray⟩ : ByteArray).size = (enc v).length) := Lib.hid (by rw [← size_list])
  go_enter Try.func19, Try.ntmps19
  go_wp2_with fail
  refine (refPut_any ⟨#[]⟩ v _ HV.out (by simp [ByteArray.size])).mono ?_
  rintro e w1 ⟨rfl, hb1⟩
  have HB1 := Lib.hid hb1; clear hb1
  go_wp2
  go_ret
  exact ⟨ret_eq' (by first | rfl | (simp [ByteArray.size])), HB1.out⟩
end Go.Proofs.Ytimmgaifhkhhhaa
