/- The document's frames (package marlstoneref08): walks. -/
import Derived.Test.YtegkcbkgoncnbaaTold
import Derived.Test.YtegkcbkgoncnbaaRefFix
namespace Go.Proofs.Ytegkcbkgoncnbaa
open Go.RowKit

/-- the bytes of a text -/
def txt (xs : List UInt8) : ByteArray := ⟨xs.toArray⟩
theorem txt_list (xs : List UInt8) : (txt xs).data.toList = xs := by simp [txt]
theorem txt_size (xs : List UInt8) : (txt xs).size = xs.length := str_size xs
theorem txt_of (s : ByteArray) : txt s.data.toList = s := str_list s
theorem txt_app (xs ys : List UInt8) : txt xs ++ txt ys = txt (xs ++ ys) := ba_ext (by rw [app_list, txt_list, txt_list, txt_list])
theorem txt_cut (xs : List UInt8) (a b : Nat) : (txt xs).extract a b = txt ((xs.drop a).take (b - a)) := by
  rw [← extract_list, txt_list]; rfl
theorem txt_inj {xs ys : List UInt8} (h : txt xs = txt ys) : xs = ys := by
  have := congrArg (fun s : ByteArray => s.data.toList) h
  simpa [txt] using this
theorem txt_toList (xs : List UInt8) : (txt xs).toList = xs := by simp [txt]
theorem txt_cmp (xs ys : List UInt8) : ((txt xs).toList == (txt ys).toList) = decide (xs = ys) := by rw [txt_toList, txt_toList, Bool.eq_iff_iff]; simp
theorem add_txt {P : Program} (xs ys : List UInt8) (h : xs.length + ys.length ≤ 9223372036854775807) (W : World) : (Op.stringOp .add (txt xs) (txt ys)).run P W = .ok (.string (txt (xs ++ ys))) W := by
  rw [← txt_app]; exact run_string_add_sum _ _ _ (by rw [txt_size, txt_size]; omega)

theorem refPutFixed_txt (v : Nat) (w : World) (hv : v < 4294967296) :
    Calls Try.prog 25 #[.string ⟨#[]⟩, .int .u32 v] w fun e w' => e = .returned (.string (txt (fix4 v))) ∧ Below w.heap.size w w' :=
  (refPutFixed_any ⟨#[]⟩ v w hv (by show (0 : Nat) ≤ _; omega)).mono fun e w' h => ⟨by rw [h.1]; rfl, h.2⟩

theorem refCrc_txt (xs : List UInt8) (w : World) (hn : xs.length ≤ 140737488351232) :
    Calls Try.prog 26 #[.string (txt xs)] w fun e w' => e = .returned (.int .u32 (crc xs : Nat)) ∧ w = w' :=
  (refCrc_any (txt xs) w (by rw [txt_size]; exact hn)).mono fun e w' h => ⟨by rw [h.1, txt_list], h.2⟩

set_option maxHeartbeats 1000000 in
set_option maxRecDepth 100000 in
theorem refMade_any (xs : List UInt8) (w : World) (hn : xs.length ≤ 4000000000) :
    Calls Try.prog 20 #[.string (txt xs)] w fun e w' => e = .returned (.string (txt (frameOf xs))) ∧ Below w.heap.size w w' := by
  obtain ⟨n, hl⟩ : ∃ n, n = xs.length := ⟨_, rfl⟩
  have hsz : (txt xs).size = n := by rw [txt_size, hl]
  rw [← hl] at hn
  have hwr : IntKind.u32.wrap (n : Int) = (n : Int) := by simp [IntKind.wrap, IntKind.bits, IntKind.signed]; omega
  have HL := Lib.hid hl
  have a1 : ∀ W, (Op.stringOp .add (txt (fix4 n)) (txt xs)).run Try.prog W = .ok (.string (txt (fix4 n ++ xs))) W := add_txt _ _ (by rw [fix4_len]; omega)
  have a2 : ∀ W, (Op.stringOp .add (txt (fix4 n)) (txt (fix4 (crc (fix4 n ++ xs))))).run Try.prog W = .ok (.string (txt (fix4 n ++ fix4 (crc (fix4 n ++ xs))))) W := add_txt _ _ (by rw [fix4_len, fix4_len]; omega)
  have a3 : ∀ W, (Op.stringOp .add (txt (fix4 n ++ fix4 (crc (fix4 n ++ xs)))) (txt xs)).run Try.prog W = .ok (.string (txt (fix4 n ++ fix4 (crc (fix4 n ++ xs)) ++ xs))) W := add_txt _ _ (by rw [List.length_append, fix4_len, fix4_len]; omega)
  have HF : Hid (fix4 n ++ fix4 (crc (fix4 n ++ xs)) ++ xs = frameOf xs) := Lib.hid (by unfold frameOf; rw [← hl, List.append_assoc])
  clear hl
  go_enter Try.func20, Try.ntmps20
  go_wp2_with fail
  refine (refPutFixed_txt n _ (by omega)).mono ?_
  rintro e w1 ⟨rfl, hb⟩
  have HB1 := Lib.hid hb
  clear hb
  go_wp2_with fail
  refine (refCrc_txt (fix4 n ++ xs) _ (by rw [List.length_append, fix4_len, ← HL.out]; omega)).mono ?_
  rintro e w1' ⟨rfl, rfl⟩
  go_wp2_with fail
  refine (refPutFixed_txt (crc (fix4 n ++ xs)) _ (crc_lt _)).mono ?_
  rintro e w2 ⟨rfl, hb⟩
  have HB2 := Lib.hid (HB1.out.trans (hb.mono HB1.out.size))
  clear hb
  go_wp2
  go_ret
  exact ⟨ret_eq (by rw [← HF.out]; rfl), HB2.out⟩

theorem next_made {xs : List UInt8} (h4 : ¬ xs.length < 4) (h5 : ¬ 65536 < fold4 (xs.take 4)) (h6 : ¬ xs.length < 8 + fold4 (xs.take 4)) :
    nextF xs = if frameOf ((xs.drop 8).take (fold4 (xs.take 4))) = xs.take (8 + fold4 (xs.take 4)) then ((xs.drop 8).take (fold4 (xs.take 4)), 8 + fold4 (xs.take 4), 0) else ([], 0, 2) := by
  have hb : ((xs.drop 8).take (fold4 (xs.take 4))).length = fold4 (xs.take 4) := by rw [List.length_take, List.length_drop]; omega
  have hN : nextF xs = if fold4 ((xs.drop 4).take 4) = crc (xs.take 4 ++ (xs.drop 8).take (fold4 (xs.take 4))) then ((xs.drop 8).take (fold4 (xs.take 4)), 8 + fold4 (xs.take 4), 0) else ([], 0, 2) := by
    unfold nextF; rw [if_neg h4, if_neg h5, if_neg h6]
  by_cases hc : fold4 ((xs.drop 4).take 4) = crc (xs.take 4 ++ (xs.drop 8).take (fold4 (xs.take 4)))
  · rw [if_pos hc] at hN
    obtain ⟨_, _, t, ht⟩ := nextF_told hN
    have : xs.take (8 + fold4 (xs.take 4)) = frameOf ((xs.drop 8).take (fold4 (xs.take 4))) := by
      have hl : (frameOf ((xs.drop 8).take (fold4 (xs.take 4)))).length = 8 + fold4 (xs.take 4) := by rw [frameOf_len, hb]; omega
      generalize frameOf ((xs.drop 8).take (fold4 (xs.take 4))) = f at ht hl
      generalize 8 + fold4 (xs.take 4) = k at hl ⊢
      rw [ht, ← hl, List.take_left]
    rw [this, if_pos rfl, hN]
  · rw [if_neg hc] at hN
    rw [if_neg, hN]
    intro h
    have h2 := nextF_frame ((xs.drop 8).take (fold4 (xs.take 4))) (xs.drop (8 + fold4 (xs.take 4))) (by omega)
    rw [h, List.take_append_drop, hN] at h2
    simp at h2
end Go.Proofs.Ytegkcbkgoncnbaa
