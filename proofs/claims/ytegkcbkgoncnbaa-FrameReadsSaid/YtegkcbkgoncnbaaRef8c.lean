/- The document's All: walk. -/
import Derived.Test.YtegkcbkgoncnbaaRef8b
import Derived.Maps.AppendAt
namespace Go.Proofs.Ytegkcbkgoncnbaa
open Go.RowKit

theorem infoS : (Try.prog.info? 9).map (fun i => (i.zero, i.size, i.bytes)) = some (some (.string ByteArray.empty), 1, 16) := by kernel_rfl

def RefAllEnd (w : World) (xs : List UInt8) (e : Ending) (w' : World) : Prop :=
  ∃ (v : Value) (l : List (List UInt8 × Nat)) (q : Nat), e = .returned (.tuple #[v, .int .i64 (q : Int), .int .i64 ((if q = xs.length then 0 else (nextF (xs.drop q)).2.2 : Nat) : Int)]) ∧ PathF xs 0 l q ∧ (nextF (xs.drop q)).2.2 ≠ 0 ∧
    w'.ownsRow w.heap.size 9 1 v l.length (l.map fun x => .string (txt x.1)) ∧ Below w.heap.size w w'

theorem own_emptyS (w : World) (base : Nat) (hb : base ≤ w.heap.size) : (w.alloc (.cells #[] 9)).ownsRow base 9 1 (.slice (some ⟨w.heap.size, 0, none⟩) 0 0) 0 [] :=
  ⟨rfl, .inr ⟨w.heap.size, 0, #[], rfl, hb, World.alloc_heap_new w _, Nat.le_refl _, by simp [maxLen], rfl, rfl⟩⟩

set_option maxHeartbeats 2000000 in
set_option maxRecDepth 100000 in
theorem refAll_any (xs : List UInt8) (w : World) (hn : xs.length ≤ 1000000000) :
    Calls Try.prog 16 #[.string (txt xs)] w (RefAllEnd w xs) := by
  obtain ⟨i0, hi, hz0, hz1, hz2⟩ := info_parts infoS
  obtain ⟨n, hl⟩ : ∃ n, n = xs.length := ⟨_, rfl⟩
  have hsz : (txt xs).size = n := by rw [txt_size, hl]
  rw [← hl] at hn
  have HL := Lib.hid hl
  clear hl
  go_enter Try.func16, Try.ntmps16
  go_wp2_with fail
  go_loopw [5, 6] (fun o i wr => ∃ (p : Nat) (l : List (List UInt8 × Nat)), i = .int .i64 p ∧ p ≤ n ∧ l.length * 8 ≤ p ∧ Hid (PathF xs 0 l p) ∧ Hid (wr.ownsRow w.heap.size 9 1 o l.length (l.map fun x => .string (txt x.1))) ∧ Hid (Below w.heap.size w wr)) (fun _ i _ => n - (intOf i).toNat)
  case atStart =>
    exact ⟨0, [], rfl, Nat.zero_le _, Nat.zero_le _, rfl, own_emptyS w _ (Nat.le_refl _), (Below.refl _ _).alloc (Nat.le_refl _) _⟩
  case round =>
    obtain ⟨p, l, rfl, hp, hfew, HP, HO, HB⟩ := hrel
    by_cases hlt : p < n
    · have hki : (p : Int) < (n : Int) := by omega
      have s1 : ∀ W, (Instr.slice 9 (.string (txt xs)) (some (.int .i64 (p : Int))) none none).run Try.prog W = .ok (.string (txt (xs.drop p))) W := fun W => by
        rw [run_slice_string_from_if (P := Try.prog) W 9 (txt xs) .i64 (p : Int) Try.underlying9, if_pos (by rw [hsz]; omega), txt_cut, hsz]
        congr 3
        rw [Int.toNat_natCast, List.take_of_length_le (by rw [List.length_drop, ← HL.out]; omega)]
      have hdl : (xs.drop p).length ≤ 4000000000 := by rw [List.length_drop, ← HL.out]; omega
      rcases nextF_cases (xs.drop p) with ⟨body, k, hN, hk8, hkl, hbl⟩ | ⟨er, hN, her, her6⟩
      · have hkn : p + k ≤ n := by rw [List.length_drop, ← HL.out] at hkl; omega
        have HN := Lib.hid hN
        clear hN hbl hkl
        go_wp2_with fail
        refine (refNext_any (xs.drop p) _ hdl).mono ?_
        rintro e w1 ⟨rfl, hb⟩
        unfold refNextV
        rw [HN.out]
        have HB1 := Lib.hid (HB.out.trans (hb.mono HB.out.size))
        have HO1 := Lib.hid (own_ext HO.out (show ExtW _ w1 from hb))
        have hk2 : IntKind.i64.wrap ((p : Int) + (k : Int)) = (p : Int) + (k : Int) := by rw [IntKind.wrap_i64]; omega
        clear hb
        go_wp2_with (at_builtin; refine wpList_append_own _ rfl _ _ _ rfl w.heap.size 9 i0 _ 1 16 Try.underlying37 hi hz0 hz1 hz2 rfl (by decide) _ _ _ rfl (own_ext HO1.out (show ExtW _ _ from (Below.refl _ _).alloc (Nat.le_refl _) _)) ⟨w1.heap.size, 0, none⟩ 1 1 [.string (txt body)] rfl rfl (cell_one_new _ _ _) (by simp [Value.oneCell']) (by simp [maxLen]; omega) (by omega) (by simp; exact Nat.le_succ_of_le HB1.out.size) ?_; intro v' w2 hown' hgrow _)
        go_roundw
        case rel =>
          refine ⟨p + k, l ++ [(body, p + k)], by simp, hkn, by simp; omega, Lib.hid (PathF.snoc HN.out HP.out), Lib.hid ?_, Lib.hid ?_⟩
          · rw [List.length_append, List.map_append]; exact hown'
          · exact (HB1.out.alloc HB1.out.size _).grown hgrow (by simp; exact Nat.le_succ_of_le HB1.out.size) (own_ge HO1.out)
        case measure => simp [intOf]; omega
      · have HN := Lib.hid hN
        have herb : ((er : Int) != 0) = true := by simp; omega
        have HE := Lib.hid her
        clear hN her
        go_wp2_with fail
        refine (refNext_any (xs.drop p) _ hdl).mono ?_
        rintro e w1 ⟨rfl, hb⟩
        rw [refNextV_no HN.out]
        have HB1 := Lib.hid (HB.out.trans (hb.mono HB.out.size))
        have HO1 := Lib.hid (own_ext HO.out (show ExtW _ w1 from hb))
        clear hb
        go_wp2
        go_ret3
        refine ⟨_, l, p, ret_eq ?_, HP.out, by rw [HN.out]; exact HE.out, HO1.out, HB1.out⟩
        rw [if_neg (by rw [← HL.out]; omega), HN.out]
        rfl
    · obtain rfl : p = n := by omega
      have hki : ¬ (p : Int) < (p : Int) := by omega
      go_wp2
      go_ret3
      refine ⟨_, l, p, ret_eq ?_, HP.out, ?_, HO.out, HB.out⟩
      · rw [if_pos HL.out]; rfl
      · rw [List.drop_of_length_le (by rw [← HL.out]; exact Nat.le_refl _), nextF_nil]; simp
end Go.Proofs.Ytegkcbkgoncnbaa
