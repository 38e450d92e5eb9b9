/- Words of these proofs, continued: bytes and strings. -/
import Derived.Test.YthaoibgcgkmnbaaW
import Derived.Test.YthaoibgcgkmnbaaExt
namespace Go.Proofs.Ythaoibgcgkmnbaa
set_option maxRecDepth 100000
open Go.RowKit

theorem infoB : (Try.prog.info? 5).map (fun i => (i.zero, i.size, i.bytes)) = some (some (.int .u8 0), 1, 1) := by kernel_rfl

theorem Rd.full {w : World} {A : Option Addr} {n c size : Nat} {cs : List Value} (h : Rd w A n c size cs) : Rd w A n n size cs :=
  ⟨h.len, Nat.le_refl _, Nat.le_trans h.nc h.cm, fun ha => by have := h.nil0 ha; have := h.nc; omega, h.cell⟩

theorem Rd.at {w : World} {A : Option Addr} {n c : Nat} {xs : List UInt8} (h : Rd w A n c 1 (bvs xs)) (j : Nat) (hj : j < xs.length) :
    ∃ a, A = some a ∧ w.cell? (a.add j) = some (.int .u8 (xs[j].toNat : Int)) := by
  rcases A with _ | a
  · have h1 := h.nil0 rfl; have h2 := h.nc; have h3 := h.len; rw [bvs_len] at h3; omega
  · exact ⟨a, rfl, h.cell a rfl j _ (bvs_get xs j hj)⟩

theorem ret_eq {v v' : Value} (h : v = v') : Ending.returned v = Ending.returned v' := by rw [h]
theorem size_list (s : ByteArray) : s.data.toList.length = s.size := by rw [Array.length_toList]; rfl
theorem app_list (s t : ByteArray) : (s ++ t).data.toList = s.data.toList ++ t.data.toList := by simp
theorem ba_ext {s t : ByteArray} (h : s.data.toList = t.data.toList) : s = t := by
  cases s; cases t; simp at h; rw [h]
theorem str_bytes (xs : List UInt8) : (⟨xs.toArray⟩ : ByteArray).data.toList = xs := by simp
theorem str_list (s : ByteArray) : (⟨s.data.toList.toArray⟩ : ByteArray) = s := by rw [Array.toArray_toList]
theorem str_size (xs : List UInt8) : (⟨xs.toArray⟩ : ByteArray).size = xs.length := by rw [← size_list, str_bytes]
theorem extract_list (s : ByteArray) (a b : Nat) : (⟨((s.data.toList.drop a).take (b - a)).toArray⟩ : ByteArray) = s.extract a b := by
  apply ba_ext
  simp [ByteArray.data_extract, List.take_drop]
/-- string(b) -/
theorem conv_str {W : World} {A : Option Addr} {n c : Nat} {xs : List UInt8} (h : Rd W A n c 1 (bvs xs)) : (convert 23 9 (.slice A n c)).run Try.prog W = .ok (.string ⟨xs.toArray⟩) W :=
  h.str _ _ _ Try.underlying23 Try.underlying5 Try.underlying9
theorem index_at (s : ByteArray) (j : Nat) (h : j < s.data.toList.length) (W : World) : (Instr.index 9 (.string s) (.int .i64 (j : Int))).run Try.prog W = .ok (.int .u8 (s.data.toList[j].toNat : Int)) W := by
  have hs : j < s.size := by rw [size_list] at h; exact h
  rw [run_index_string _ _ _ _ _ Try.underlying9]
  simp [hs]
  rfl
/-- v is a slice of bytes that reads as xs -/
def IsBytes (xs : List UInt8) (v : Value) (w : World) : Prop := ∃ A n c, v = .slice A n c ∧ Rd w A n c 1 (bvs xs)
theorem IsBytes.mono (xs : List UInt8) : ∀ v w w', IsBytes xs v w → ExtW w w' → IsBytes xs v w' := by
  rintro v w w' ⟨A, n, c, h1, h2⟩ hx
  exact ⟨A, n, c, h1, h2.below hx (Nat.le_refl _)⟩
theorem IsBytes.own {xs : List UInt8} {v : Value} {w : World} {base e n : Nat} (h : w.ownsRow base e 1 v n (bvs xs)) : IsBytes xs v w := by
  obtain ⟨A, c, hv, hr, _⟩ := Rd.of_own h
  exact ⟨A, n, c, hv, hr⟩
theorem own_empty (w : World) (base : Nat) (hb : base ≤ w.heap.size) : (w.alloc (.cells #[] 5)).ownsRow base 5 1 (.slice (some ⟨w.heap.size, 0, none⟩) 0 0) 0 (bvs []) := by
  refine ⟨rfl, .inr ⟨w.heap.size, 0, #[], rfl, hb, heap_alloc_new w _, Nat.le_refl _, by simp [maxLen], rfl, rfl⟩⟩
/-- something owned lies at the head of a block -/
theorem own_form {w : World} {base e n : Nat} {v : Value} {xs : List Value} (h : w.ownsRow base e 1 v n xs) (hn : 0 < n) :
    ∃ g c, v = .slice (some ⟨g, 0, none⟩) n c ∧ base ≤ g ∧ g < w.heap.size := by
  rcases h.2 with ⟨_, h0⟩ | ⟨g, cap, cur, hv, hb, hg, _⟩
  · omega
  · refine ⟨g, cap, hv, hb, ?_⟩
    rcases Nat.lt_or_ge g w.heap.size with h1 | h1
    · exact h1
    · rw [Array.getElem?_eq_none h1] at hg; cases hg
/-- what is owned stays so, where nothing but new memory comes -/
theorem own_ext {w w' : World} {base e n : Nat} {v : Value} {xs : List Value} (h : w.ownsRow base e 1 v n xs) (hb : ExtW w w') : w'.ownsRow base e 1 v n xs := by
  refine ⟨h.1, ?_⟩
  rcases h.2 with h2 | ⟨g, cap, cur, hv, hbg, hg, rest⟩
  · exact .inl h2
  · refine .inr ⟨g, cap, cur, hv, hbg, ?_, rest⟩
    have : g < w.heap.size := by
      rcases Nat.lt_or_ge g w.heap.size with h1 | h1
      · exact h1
      · rw [Array.getElem?_eq_none h1] at hg; cases hg
    rw [hb.block g this]; exact hg

/-- what is owned, as a slice that reads -/
theorem own_rd {w : World} {base n : Nat} {r : Value} {xs : List UInt8} (h : w.ownsRow base 5 1 r n (bvs xs)) :
    ∃ A c, r = .slice A n c ∧ Rd w A n c 1 (bvs xs) ∧ (∀ a, A = some a → base ≤ a.block) := Rd.of_own h
end Go.Proofs.Ythaoibgcgkmnbaa
