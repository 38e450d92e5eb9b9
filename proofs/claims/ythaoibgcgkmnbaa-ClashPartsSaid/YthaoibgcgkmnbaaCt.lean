/- How long the texts of a clash are. -/
import Derived.Test.YthaoibgcgkmnbaaCA
namespace Go.Proofs.Ythaoibgcgkmnbaa
set_option maxRecDepth 100000
namespace T
theorem ltx_len (y : List UInt8) : (ltx y).length = y.length + 1 := rfl
theorem ntx_len {a b : List UInt8} (ha : a.length = 32) (hb : b.length = 32) : (ntx a b).length = 65 := by unfold ntx; rw [List.length_cons, List.length_append, ha, hb]
theorem getD_small {l : List (List UInt8)} {M : Nat} (hM : 1 ≤ M) (h : ∀ y ∈ l, y.length + 1 ≤ M) (j : Nat) : (l.getD j []).length + 1 ≤ M := by
  rw [List.getD_eq_getElem?_getD]
  cases hj : l[j]? with
  | none => simpa using hM
  | some y => exact h y (List.mem_of_getElem? hj)
theorem texD_small (B : Nat) {l : List (List UInt8)} {M : Nat} (hM : 65 ≤ M) (h : ∀ y ∈ l, y.length + 1 ≤ M) : (texD B l).length ≤ M := by
  unfold texD
  split
  · rw [ltx_len]; exact getD_small (by omega) h 0
  · rw [ntx_len (rootD_len _ _) (rootD_len _ _)]; exact hM
theorem diff1_mem {ps : List (List UInt8 × List UInt8)} {p : List UInt8 × List UInt8} (h : diff1 ps = some p) : p ∈ ps := List.mem_of_find?_eq_some h
theorem pairs_small (B : Nat) (leaf : List UInt8) {M : Nat} (hM : 65 ≤ M) (hf : leaf.length + 1 ≤ M) : ∀ (N : Nat) (l : List (List UInt8)) (i : Nat) (path : List (List UInt8)), l.length < N → path.length = (downs l.length i).length → (∀ d ∈ path, d.length = 32) → (∀ y ∈ l, y.length + 1 ≤ M) →
    ∀ p ∈ (pairsD B leaf l i path).1, p.1.length ≤ M ∧ p.2.length ≤ M := by
  intro N
  induction N with
  | zero => intro l i path h; omega
  | succ N ih =>
    intro l i path hN hpl h32 hl p hp
    by_cases h1 : l.length ≤ 1
    · rw [pairsD_one B leaf h1] at hp
      simp only [List.mem_singleton] at hp
      subst hp
      exact ⟨by rw [ltx_len]; exact hf, texD_small B hM hl⟩
    · have h2 : 2 ≤ l.length := by omega
      have hh := half_lt h2
      obtain ⟨y, hy, hym⟩ := path_last h2 hpl
      have hyl := h32 y hym
      by_cases hi : i < half l.length
      · rw [pairsD_lo B leaf (k := half l.length) rfl h2 rfl rfl hy hi] at hp
        rcases List.mem_cons.1 hp with rfl | hp
        · exact ⟨by rw [ntx_len (pairsD_len _ _ _ _ _) hyl]; exact hM, texD_small B hM hl⟩
        · exact ih (l.take (half l.length)) i _ (by rw [List.length_take]; omega) (by rw [low_len h2 rfl hi hpl, List.length_take, Nat.min_eq_left (by omega)]) (fun d hd => h32 d (List.mem_of_mem_take hd)) (fun y hy => hl y (List.mem_of_mem_take hy)) p hp
      · rw [pairsD_hi B leaf (k := half l.length) rfl h2 rfl rfl hy hi] at hp
        rcases List.mem_cons.1 hp with rfl | hp
        · exact ⟨by rw [ntx_len hyl (pairsD_len _ _ _ _ _)]; exact hM, texD_small B hM hl⟩
        · exact ih (l.drop (half l.length)) (i - half l.length) _ (by rw [List.length_drop]; omega) (by rw [low_len' h2 rfl hi hpl, List.length_drop]) (fun d hd => h32 d (List.mem_of_mem_take hd)) (fun y hy => hl y (List.mem_of_mem_drop hy)) p hp
theorem spots_small (B : Nat) (part : List (List UInt8)) {M : Nat} (hM : 65 ≤ M) (hf : ∀ y ∈ part, y.length + 1 ≤ M) : ∀ (N : Nat) (l : List (List UInt8)) (a : Int) (ds : List (List UInt8)), l.length < N → (∀ d ∈ ds, d.length = 32) → (∀ y ∈ l, y.length + 1 ≤ M) →
    ∀ p ∈ (spotsD B part l a ds).1, p.1.length ≤ M ∧ p.2.length ≤ M := by
  intro N
  induction N with
  | zero => intro l a ds h; omega
  | succ N ih =>
    intro l a ds hN h32 hl p hp
    by_cases hout : a + part.length ≤ 0 ∨ (l.length : Int) ≤ a
    · rw [spotsD_out B ds rfl rfl hout] at hp; cases hp
    · by_cases h1 : l.length ≤ 1
      · rw [spotsD_one B ds rfl rfl hout h1] at hp
        simp only [List.mem_singleton] at hp
        subst hp
        exact ⟨by rw [ltx_len]; exact getD_small (by omega) hf _, texD_small B hM hl⟩
      · have h2 : 2 ≤ l.length := by omega
        have hh := half_lt h2
        have hA := spotsD_len B part (l.take (half l.length)) a h32
        have hB := spotsD_len B part (l.drop (half l.length)) (a - (half l.length : Nat)) hA.2
        rw [spotsD_more B (k := half l.length) ds rfl rfl hout h2 rfl] at hp
        rcases List.mem_cons.1 hp with rfl | hp
        · exact ⟨by rw [ntx_len hA.1 hB.1]; exact hM, texD_small B hM hl⟩
        · rcases List.mem_append.1 hp with hp | hp
          · exact ih (l.take (half l.length)) a ds (by rw [List.length_take]; omega) h32 (fun y hy => hl y (List.mem_of_mem_take hy)) p hp
          · exact ih (l.drop (half l.length)) _ _ (by rw [List.length_drop]; omega) hA.2 (fun y hy => hl y (List.mem_of_mem_drop hy)) p hp
theorem ofD_small {B : Nat} {real : List (List UInt8)} {i : Int} {leaf : List UInt8} {path : List (List UInt8)} {M : Nat} (hM : 65 ≤ M) (hf : leaf.length + 1 ≤ M) (hr : ∀ y ∈ real, y.length + 1 ≤ M) (h32 : ∀ d ∈ path, d.length = 32) {x y : List UInt8} (h : ofD B real i leaf path = some (x, y)) :
    x.length ≤ M ∧ y.length ≤ M := by
  cases hc : checkD B (rootD B real) real.length i leaf path with
  | false => rw [ofD_no hc] at h; cases h
  | true =>
    obtain ⟨j, rfl, hj, hpl, _⟩ := checkD_in hc
    rw [ofD_yes hc] at h
    exact pairs_small B leaf hM hf (real.length + 1) real j path (by omega) hpl h32 hr (x, y) (diff1_mem h)
theorem ofRD_small {B : Nat} {real : List (List UInt8)} {a : Int} {part path : List (List UInt8)} {M : Nat} (hM : 65 ≤ M) (hf : ∀ y ∈ part, y.length + 1 ≤ M) (hr : ∀ y ∈ real, y.length + 1 ≤ M) (h32 : ∀ d ∈ path, d.length = 32) {x y : List UInt8} (h : ofRD B real a part path = some (x, y)) :
    x.length ≤ M ∧ y.length ≤ M := by
  cases hc : checkRD B (rootD B real) real.length a part path with
  | false => rw [ofRD_no hc] at h; cases h
  | true =>
    rw [ofRD_yes hc] at h
    exact spots_small B part hM hf (real.length + 1) real a path (by omega) h32 hr (x, y) (diff1_mem h)
theorem ofLD_small {B : Nat} {real other : List (List UInt8)} {M : Nat} (hM : 65 ≤ M) (hf : ∀ y ∈ other, y.length + 1 ≤ M) (hr : ∀ y ∈ real, y.length + 1 ≤ M) {x y : List UInt8} (h : ofLD B real other = some (x, y)) :
    x.length ≤ M ∧ y.length ≤ M := by
  unfold ofLD at h
  split at h
  · cases h
  · exact ofRD_small hM hf hr (fun d hd => by cases hd) h
end T
end Go.Proofs.Ythaoibgcgkmnbaa
