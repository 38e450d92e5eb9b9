/- The plain laws of the tree: what Path and Range tell is taken, how long they are. -/
import Derived.Test.YthaoibgcgkmnbaaT10
namespace Go.Proofs.Ythaoibgcgkmnbaa
set_option maxRecDepth 100000
namespace T

theorem pathD_len (B : Nat) (l : List (List UInt8)) (i : Nat) : (pathD B l i).length = (downs l.length i).length := by
  induction l, i using pathD.induct with
  | case1 l i h => rw [pathD, if_pos h, downs_one h]; rfl
  | case2 l i h h2 ih =>
    have hh := half_lt (n := l.length) (by omega)
    rw [List.length_take, Nat.min_eq_left (by omega)] at ih
    rw [pathD, if_neg h, if_pos h2, downs_lo (by omega) rfl h2, List.length_append, ih]
    rfl
  | case3 l i h h2 ih =>
    have hh := half_lt (n := l.length) (by omega)
    rw [List.length_drop] at ih
    rw [pathD, if_neg h, if_neg h2, downs_hi (by omega) rfl h2, List.length_append, ih]
    rfl
theorem climb_path (B : Nat) (l : List (List UInt8)) (i : Nat) (y : List UInt8) : l[i]? = some y → climb B (downs l.length i).reverse (pathD B l i) (leafD B y) = rootD B l := by
  induction l, i using pathD.induct with
  | case1 l i h =>
    intro hy
    have hi := (List.getElem?_eq_some_iff.1 hy).1
    have h1 : l.length = 1 := by omega
    obtain ⟨z, rfl⟩ := List.length_eq_one_iff.1 h1
    obtain rfl : i = 0 := by simp at hi; omega
    cases hy
    rw [pathD, if_pos h, downs_one h, rootD_one]
    rfl
  | case2 l i h h2 ih =>
    intro hy
    have hh := half_lt (n := l.length) (by omega)
    have hl := pathD_len B (l.take (half l.length)) i
    rw [List.length_take, Nat.min_eq_left (by omega)] at ih hl
    rw [pathD, if_neg h, if_pos h2, downs_lo (by omega) rfl h2, List.reverse_cons, climb_snoc _ _ _ _ _ _ (by rw [List.length_reverse, hl]), ih (by rw [List.getElem?_take_of_lt h2]; exact hy), rootD_more B (l := l) rfl (by omega) rfl]
    rfl
  | case3 l i h h2 ih =>
    intro hy
    have hh := half_lt (n := l.length) (by omega)
    have hl := pathD_len B (l.drop (half l.length)) (i - half l.length)
    rw [List.length_drop] at ih hl
    rw [pathD, if_neg h, if_neg h2, downs_hi (by omega) rfl h2, List.reverse_cons, climb_snoc _ _ _ _ _ _ (by rw [List.length_reverse, hl]), ih (by rw [List.getElem?_drop]; rw [show half l.length + (i - half l.length) = i by omega]; exact hy), rootD_more B (l := l) rfl (by omega) rfl]
    rfl
/-- Check takes Path -/
theorem checkD_path (B : Nat) {l : List (List UInt8)} {n i : Nat} {y : List UInt8} (hn : l.length = n) (hy : l[i]? = some y) : checkD B (rootD B l) n i y (pathD B l i) = true := by
  have hi := (List.getElem?_eq_some_iff.1 hy).1
  have h1 := pathD_len B l i
  have h2 := climb_path B l i y hy
  rw [hn] at h1 h2
  unfold checkD
  rw [if_neg (by omega), Int.toNat_natCast, Int.toNat_natCast, h2, h1]
  simp
theorem checkD_len (B : Nat) (r : List UInt8) {n i : Nat} (y : List UInt8) {path : List (List UInt8)} (h : path.length ≠ (downs n i).length) : checkD B r n i y path = false := by
  unfold checkD
  split
  · rfl
  · rw [Int.toNat_natCast, Int.toNat_natCast, decide_eq_false h]; rfl

/-- how many digests are used up -/
def popsD (n : Nat) (a : Int) (m : Nat) : Nat :=
  if a + m ≤ 0 ∨ (n : Int) ≤ a then 1 else if n ≤ 1 then 0 else popsD (half n) a m + popsD (n - half n) (a - half n) m
termination_by n
decreasing_by
  · have := half_lt (n := n) (by omega); omega
  · have := half_lt (n := n) (by omega); omega
theorem popsD_out {n : Nat} {a : Int} {m : Nat} (h : a + m ≤ 0 ∨ (n : Int) ≤ a) : popsD n a m = 1 := by rw [popsD, if_pos h]
theorem popsD_one {n : Nat} {a : Int} {m : Nat} (h : ¬ (a + m ≤ 0 ∨ (n : Int) ≤ a)) (h1 : n ≤ 1) : popsD n a m = 0 := by rw [popsD, if_neg h, if_pos h1]
theorem popsD_more {n k : Nat} {a : Int} {m : Nat} (h : ¬ (a + m ≤ 0 ∨ (n : Int) ≤ a)) (h1 : ¬ n ≤ 1) (hk : k = half n) : popsD n a m = popsD k a m + popsD (n - k) (a - k) m := by rw [popsD, if_neg h, if_neg h1, ← hk]

theorem openD_bad (B : Nat) (part : List (List UInt8)) (n : Nat) (a : Int) (ds : List (List UInt8)) : (openD B part n a ds true).2.2 = true := by
  generalize hb : true = bad
  induction n, a, ds, bad using openD.induct B part with
  | case1 n a bad h => rw [openD_nil rfl h]; exact hb
  | case2 n a bad h d r => rw [openD_take rfl h]
  | case3 n a ds bad h h1 => rw [openD_leaf rfl h h1]
  | case4 n a ds bad h h1 l ih1 ih2 =>
    subst hb
    rw [openD_more rfl h h1 rfl]
    exact (ih2 (ih1 rfl).symm).trans (ih1 rfl)
theorem openD_ge (B : Nat) (part : List (List UInt8)) {m : Nat} (hm : part.length = m) : ∀ (N n : Nat) (a : Int) (ds : List (List UInt8)) (bad : Bool), n < N → popsD n a m ≤ ds.length → (openD B part n a ds bad).2 = (ds.drop (popsD n a m), bad) := by
  intro N
  induction N with
  | zero => intro n a ds bad h; omega
  | succ N ih =>
    intro n a ds bad hN hp
    by_cases h : a + m ≤ 0 ∨ (n : Int) ≤ a
    · rw [popsD_out h] at hp ⊢
      cases ds with
      | nil => simp at hp
      | cons d r => rw [openD_take hm h]; rfl
    · by_cases h1 : n ≤ 1
      · rw [popsD_one h h1, openD_leaf hm h h1]; rfl
      · have hh := half_lt (n := n) (by omega)
        rw [popsD_more h h1 rfl] at hp ⊢
        rw [openD_more hm h h1 rfl]
        have h2 := ih (half n) a ds bad (by omega) (by omega)
        rw [h2]
        simp only
        rw [ih (n - half n) (a - half n) (ds.drop (popsD (half n) a m)) bad (by omega) (by rw [List.length_drop]; omega), List.drop_drop]
theorem openD_lt (B : Nat) (part : List (List UInt8)) {m : Nat} (hm : part.length = m) : ∀ (N n : Nat) (a : Int) (ds : List (List UInt8)) (bad : Bool), n < N → ds.length < popsD n a m → (openD B part n a ds bad).2.2 = true := by
  intro N
  induction N with
  | zero => intro n a ds bad h; omega
  | succ N ih =>
    intro n a ds bad hN hp
    by_cases h : a + m ≤ 0 ∨ (n : Int) ≤ a
    · rw [popsD_out h] at hp
      cases ds with
      | nil => rw [openD_nil hm h]
      | cons d r => simp at hp
    · by_cases h1 : n ≤ 1
      · rw [popsD_one h h1] at hp; omega
      · have hh := half_lt (n := n) (by omega)
        rw [popsD_more h h1 rfl] at hp
        rw [openD_more hm h h1 rfl]
        by_cases h2 : popsD (half n) a m ≤ ds.length
        · rw [openD_ge B part hm (half n + 1) (half n) a ds bad (by omega) h2]
          exact ih (n - half n) (a - half n) _ bad (by omega) (by rw [List.length_drop]; omega)
        · rw [ih (half n) a ds bad (by omega) (by omega)]
          exact openD_bad B part _ _ _
theorem besideD_pops (B : Nat) {m : Nat} : ∀ (N : Nat) (l : List (List UInt8)) (a : Int), l.length < N → 1 ≤ l.length → (besideD B l a (a + m)).length = popsD l.length a m := by
  intro N
  induction N with
  | zero => intro l a h; omega
  | succ N ih =>
    intro l a hN hl
    by_cases h : a + m ≤ 0 ∨ (l.length : Int) ≤ a
    · rw [besideD_out B rfl h, popsD_out h]; rfl
    · by_cases h1 : l.length = 1
      · rw [besideD_one B rfl h h1, popsD_one h (by omega)]; rfl
      · have hh := half_lt (n := l.length) (by omega)
        rw [besideD_more B rfl h (by omega) rfl, popsD_more h (by omega) rfl, List.length_append]
        have h2 := ih (l.take (half l.length)) a (by rw [List.length_take]; omega) (by rw [List.length_take]; omega)
        have h3 := ih (l.drop (half l.length)) (a - half l.length) (by rw [List.length_drop]; omega) (by rw [List.length_drop]; omega)
        rw [List.length_take, Nat.min_eq_left (by omega)] at h2
        rw [List.length_drop] at h3
        rw [h2, show a + (m : Int) - (half l.length : Int) = a - (half l.length : Int) + m by omega, h3]
theorem popsD_full {m : Nat} : ∀ (N n : Nat) (a : Int), n < N → 1 ≤ n → a ≤ 0 → (n : Int) ≤ a + m → popsD n a m = 0 := by
  intro N
  induction N with
  | zero => intro n a h; omega
  | succ N ih =>
    intro n a hN h1 h2 h3
    by_cases h : n ≤ 1
    · exact popsD_one (by omega) h
    · have hh := half_lt (n := n) (by omega)
      rw [popsD_more (by omega) h rfl, ih (half n) a (by omega) (by omega) h2 (by omega), ih (n - half n) (a - half n) (by omega) (by omega) (by omega) (by omega)]
theorem popsD_pos {m : Nat} : ∀ (N n : Nat) (a : Int), n < N → 1 ≤ n → ¬ (a ≤ 0 ∧ (n : Int) ≤ a + m) → 0 < popsD n a m := by
  intro N
  induction N with
  | zero => intro n a h; omega
  | succ N ih =>
    intro n a hN h1 h2
    by_cases h : a + m ≤ 0 ∨ (n : Int) ≤ a
    · rw [popsD_out h]; decide
    · by_cases h3 : n ≤ 1
      · omega
      · have hh := half_lt (n := n) (by omega)
        rw [popsD_more h h3 rfl]
        by_cases h4 : a ≤ 0 ∧ (half n : Int) ≤ a + m
        · have := ih (n - half n) (a - half n) (by omega) (by omega) (by omega)
          omega
        · have := ih (half n) a (by omega) (by omega) h4
          omega
/-- the opening of what is there: the real root -/
theorem openD_beside (B : Nat) (part : List (List UInt8)) {m : Nat} (hm : part.length = m) : ∀ (N : Nat) (l : List (List UInt8)) (a : Int) (rest : List (List UInt8)) (bad : Bool), l.length < N → 1 ≤ l.length →
    (∀ (p : Nat) (y : List UInt8), l[p]? = some y → a ≤ p → (p : Int) < a + m → part[((p : Int) - a).toNat]? = some y) → openD B part l.length a (besideD B l a (a + m) ++ rest) bad = (rootD B l, rest, bad) := by
  intro N
  induction N with
  | zero => intro l a rest bad h; omega
  | succ N ih =>
    intro l a rest bad hN hl hc
    by_cases h : a + m ≤ 0 ∨ (l.length : Int) ≤ a
    · rw [besideD_out B rfl h, List.singleton_append, openD_take hm h]
    · by_cases h1 : l.length = 1
      · rw [besideD_one B rfl h h1, List.nil_append, openD_leaf hm h (by omega)]
        obtain ⟨z, rfl⟩ := List.length_eq_one_iff.1 h1
        have := hc 0 z rfl (by simp at h; omega) (by simp at h ⊢; omega)
        rw [rootD_one, List.getD_eq_getElem?_getD, show (-a).toNat = (((0 : Nat) : Int) - a).toNat by simp, this]
        rfl
      · have hh := half_lt (n := l.length) (by omega)
        rw [besideD_more B rfl h (by omega) rfl, List.append_assoc, openD_more hm h (by omega) rfl]
        have h2 := ih (l.take (half l.length)) a (besideD B (l.drop (half l.length)) (a - half l.length) (a + m - half l.length) ++ rest) bad (by rw [List.length_take]; omega) (by rw [List.length_take]; omega)
          (fun p y hy => hc p y (by rw [List.getElem?_take] at hy; split at hy; exact hy; cases hy))
        have h3 := ih (l.drop (half l.length)) (a - half l.length) rest bad (by rw [List.length_drop]; omega) (by rw [List.length_drop]; omega)
          (fun p y hy h5 h6 => by
            rw [List.getElem?_drop] at hy
            have := hc (half l.length + p) y hy (by omega) (by omega)
            rwa [show (((half l.length + p : Nat) : Int) - a) = (p : Int) - (a - half l.length) by omega] at this)
        rw [List.length_take, Nat.min_eq_left (by omega)] at h2
        rw [List.length_drop] at h3
        rw [h2]
        simp only
        rw [show a + (m : Int) - (half l.length : Int) = a - (half l.length : Int) + m by omega, h3, rootD_more B (l := l) rfl (by omega) rfl]

theorem checkRD_takes (B : Nat) {l part : List (List UInt8)} {n m : Nat} {a : Int} (hn : l.length = n) (hm : part.length = m) (h : ¬ (m = 0 ∨ a < 0 ∨ (n : Int) < m ∨ (n : Int) - m < a))
    (hc : ∀ (p : Nat) (y : List UInt8), l[p]? = some y → a ≤ p → (p : Int) < a + m → part[((p : Int) - a).toNat]? = some y) : checkRD B (rootD B l) n a part (besideD B l a (a + m)) = true := by
  have ho := openD_beside B part hm (l.length + 1) l a [] false (by omega) (by omega) hc
  rw [List.append_nil, hn] at ho
  rw [checkRD_in hm h ho.symm]
  simp
theorem checkRD_few (B : Nat) (r : List UInt8) {part ds : List (List UInt8)} {n m : Nat} {a : Int} (hm : part.length = m) (h : ds.length < popsD n a m) : checkRD B r n a part ds = false := by
  by_cases hc : m = 0 ∨ a < 0 ∨ (n : Int) < m ∨ (n : Int) - m < a
  · exact checkRD_no hm hc
  · rw [checkRD_in hm hc rfl, openD_lt B part hm (n + 1) n a ds false (by omega) h]
    rfl
theorem checkRD_many (B : Nat) (r : List UInt8) {part ds : List (List UInt8)} {n m : Nat} {a : Int} (hm : part.length = m) (h : popsD n a m < ds.length) : checkRD B r n a part ds = false := by
  by_cases hc : m = 0 ∨ a < 0 ∨ (n : Int) < m ∨ (n : Int) - m < a
  · exact checkRD_no hm hc
  · rw [checkRD_in hm hc rfl, openD_ge B part hm (n + 1) n a ds false (by omega) (Nat.le_of_lt h)]
    have : decide (ds.drop (popsD n a m) = []) = false := by
      rw [decide_eq_false_iff_not]
      intro h2
      have := congrArg List.length h2
      rw [List.length_drop, List.length_nil] at this
      omega
    simp only [this]
    simp

/-! how long -/
theorem popsL {m : Nat} : ∀ (N n e : Nat) (a : Int), n < N → 1 ≤ n → n ≤ 2 ^ e → a ≤ 0 → 0 < a + m → popsD n a m ≤ e := by
  intro N
  induction N with
  | zero => intro n e a h; omega
  | succ N ih =>
    intro n e a hN h1 he h2 h3
    by_cases h : n ≤ 1
    · rw [popsD_one (by omega) h]; exact Nat.zero_le _
    · have hh := half_lt (n := n) (by omega)
      obtain ⟨f, rfl, p1, p2⟩ := half_pow (by omega) he
      rw [popsD_more (by omega) h rfl]
      by_cases h4 : a + m ≤ half n
      · have h5 := ih (half n) f a (by omega) (by omega) p1 h2 h3
        rw [popsD_out (n := n - half n) (a := a - half n) (by omega)]
        omega
      · rw [popsD_full (half n + 1) (half n) a (by omega) (by omega) h2 (by omega)]
        have h5 := ih (n - half n) f (a - half n) (by omega) (by omega) p2 (by omega) (by omega)
        omega
theorem popsR {m : Nat} : ∀ (N n e : Nat) (a : Int), n < N → 1 ≤ n → n ≤ 2 ^ e → a < n → (n : Int) ≤ a + m → popsD n a m ≤ e := by
  intro N
  induction N with
  | zero => intro n e a h; omega
  | succ N ih =>
    intro n e a hN h1 he h2 h3
    by_cases h : n ≤ 1
    · rw [popsD_one (by omega) h]; exact Nat.zero_le _
    · have hh := half_lt (n := n) (by omega)
      obtain ⟨f, rfl, p1, p2⟩ := half_pow (by omega) he
      rw [popsD_more (by omega) h rfl]
      by_cases h4 : (half n : Int) ≤ a
      · have h5 := ih (n - half n) f (a - half n) (by omega) (by omega) p2 (by omega) (by omega)
        rw [popsD_out (n := half n) (a := a) (by omega)]
        omega
      · have h5 := ih (half n) f a (by omega) (by omega) p1 (by omega) (by omega)
        by_cases h6 : a ≤ 0
        · rw [popsD_full (half n + 1) (half n) a (by omega) (by omega) h6 (by omega)]
          have h7 := ih (n - half n) f (a - half n) (by omega) (by omega) p2 (by omega) (by omega)
          omega
        · rw [popsD_full (n - half n + 1) (n - half n) (a - half n) (by omega) (by omega) (by omega) (by omega)]
          omega
theorem popsB {m : Nat} (hm1 : 1 ≤ m) : ∀ (N n e : Nat) (a : Int), n < N → 1 ≤ n → n ≤ 2 ^ e → a < n → 0 < a + m → popsD n a m ≤ 2 * e := by
  intro N
  induction N with
  | zero => intro n e a h; omega
  | succ N ih =>
    intro n e a hN h1 he h2 h3
    by_cases h : n ≤ 1
    · rw [popsD_one (by omega) h]; exact Nat.zero_le _
    · have hh := half_lt (n := n) (by omega)
      obtain ⟨f, rfl, p1, p2⟩ := half_pow (by omega) he
      rw [popsD_more (by omega) h rfl]
      by_cases h4 : (half n : Int) ≤ a
      · have h5 := ih (n - half n) f (a - half n) (by omega) (by omega) p2 (by omega) (by omega)
        rw [popsD_out (n := half n) (a := a) (by omega)]
        omega
      · by_cases h6 : a + m ≤ half n
        · have h5 := ih (half n) f a (by omega) (by omega) p1 (by omega) h3
          rw [popsD_out (n := n - half n) (a := a - half n) (by omega)]
          omega
        · have h5 := popsR (m := m) (half n + 1) (half n) f a (by omega) (by omega) p1 (by omega) (by omega)
          have h7 := popsL (m := m) (n - half n + 1) (n - half n) f (a - half n) (by omega) (by omega) p2 (by omega) (by omega)
          omega
/-- the row of one leaf has the path's digests -/
theorem beside_perm (B : Nat) : ∀ (N : Nat) (l : List (List UInt8)) (i : Nat), l.length < N → i < l.length → (besideD B l i (i + 1)).Perm (pathD B l i) := by
  intro N
  induction N with
  | zero => intro l i h; omega
  | succ N ih =>
    intro l i hN hi
    by_cases h1 : l.length = 1
    · rw [besideD_one B rfl (by omega) h1, pathD_one B h1]
    · have hh := half_lt (n := l.length) (by omega)
      rw [besideD_more B rfl (by omega) (by omega) rfl]
      by_cases h2 : i < half l.length
      · rw [pathD_lo B rfl (by omega) rfl h2, besideD_out B (l := l.drop (half l.length)) rfl (by omega)]
        exact List.Perm.append_right _ (ih _ i (by rw [List.length_take]; omega) (by rw [List.length_take]; omega))
      · rw [pathD_hi B rfl (by omega) rfl h2, besideD_out B (l := l.take (half l.length)) rfl (by rw [List.length_take]; omega)]
        have h3 := ih (l.drop (half l.length)) (i - half l.length) (by rw [List.length_drop]; omega) (by rw [List.length_drop]; omega)
        rw [show ((i : Int) - (half l.length : Int)) = ((i - half l.length : Nat) : Int) by omega, show ((i : Int) + 1 - (half l.length : Int)) = ((i - half l.length : Nat) : Int) + 1 by omega]
        exact (List.Perm.append_left _ h3).trans List.perm_append_comm
theorem half_two (k : Nat) (hk : 1 ≤ k) : half (2 ^ k) = 2 ^ (k - 1) := by
  obtain ⟨j, rfl⟩ : ∃ j, k = j + 1 := ⟨k - 1, by omega⟩
  have := Nat.pow_pos (a := 2) (n := j) (by decide)
  exact half_eq (by rw [Nat.pow_succ]; omega) (by rw [Nat.pow_succ, Nat.add_sub_cancel]; omega) (by rw [Nat.pow_succ, Nat.add_sub_cancel]; omega)
theorem half_two1 (k : Nat) : half (2 ^ k + 1) = 2 ^ k := by
  have := Nat.pow_pos (a := 2) (n := k) (by decide)
  exact half_eq (by omega) (by omega) (by omega)
theorem downs_two (k i : Nat) : i < 2 ^ k → (downs (2 ^ k) i).length = k := by
  induction k generalizing i with
  | zero => intro h; rw [downs_one (by decide)]; rfl
  | succ k ih =>
    intro h
    have hp := Nat.pow_pos (a := 2) (n := k) (by decide)
    have hh := half_two (k + 1) (by omega)
    rw [Nat.add_sub_cancel] at hh
    rw [Nat.pow_succ] at h hh ⊢
    by_cases h2 : i < 2 ^ k
    · rw [downs_lo (by omega) hh.symm h2, List.length_cons, ih i h2]
    · rw [downs_hi (by omega) hh.symm h2, List.length_cons, show 2 ^ k * 2 - 2 ^ k = 2 ^ k by omega, ih (i - 2 ^ k) (by omega)]
theorem downs_two1 (k i : Nat) (h : i ≤ 2 ^ k) : (downs (2 ^ k + 1) i).length = if i = 2 ^ k then 1 else k + 1 := by
  have hp := Nat.pow_pos (a := 2) (n := k) (by decide)
  have hh := half_two1 k
  by_cases h2 : i < 2 ^ k
  · rw [downs_lo (by omega) hh.symm h2, List.length_cons, downs_two k i h2, if_neg (by omega)]
  · rw [downs_hi (by omega) hh.symm h2, List.length_cons, show 2 ^ k + 1 - 2 ^ k = 1 by omega, downs_one (by decide), if_pos (by omega)]
    rfl
end T
end Go.Proofs.Ythaoibgcgkmnbaa
