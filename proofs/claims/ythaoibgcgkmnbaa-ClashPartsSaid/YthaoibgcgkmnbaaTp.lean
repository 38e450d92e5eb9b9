/- The tree in plain words. -/
import Derived.Test.YthaoibgcgkmnbaaKept
namespace Go.Proofs.Ythaoibgcgkmnbaa
set_option maxRecDepth 100000
namespace T

def leafD (B : Nat) (xs : List UInt8) : List UInt8 := keep (S.sha (0 :: xs)) B
def nodeD (B : Nat) (l r : List UInt8) : List UInt8 := keep (S.sha (1 :: (l ++ r))) B
def emptyD (B : Nat) : List UInt8 := keep (S.sha []) B
/-- the greatest power of two below n, of two or more; else 1 -/
def half (n : Nat) : Nat := if n ≤ 1 then 1 else 2 ^ Nat.log2 (n - 1)
theorem half_one {n : Nat} (h : n ≤ 1) : half n = 1 := by unfold half; rw [if_pos h]
theorem half_lt {n : Nat} (h : 2 ≤ n) : 1 ≤ half n ∧ half n < n ∧ n ≤ 2 * half n := by
  unfold half
  rw [if_neg (by omega)]
  have h1 := Nat.log2_self_le (n := n - 1) (by omega)
  have h2 := Nat.lt_log2_self (n := n - 1)
  have h3 : 0 < 2 ^ Nat.log2 (n - 1) := Nat.pow_pos (by decide)
  rw [Nat.pow_succ] at h2
  omega
theorem half_eq {n j : Nat} (h : 2 ≤ n) (h1 : 2 ^ j < n) (h2 : n ≤ 2 * 2 ^ j) : half n = 2 ^ j := by
  unfold half
  rw [if_neg (by omega)]
  congr 1
  rw [Nat.log2_eq_iff (by omega), Nat.pow_succ]
  omega

def rootD (B : Nat) (l : List (List UInt8)) : List UInt8 :=
  if l.length = 0 then emptyD B
  else if l.length = 1 then leafD B (l.headD [])
  else nodeD B (rootD B (l.take (half l.length))) (rootD B (l.drop (half l.length)))
termination_by l.length
decreasing_by
  · have := half_lt (n := l.length) (by omega); rw [List.length_take]; omega
  · have := half_lt (n := l.length) (by omega); rw [List.length_drop]; omega
/-- upwards -/
def pathD (B : Nat) (l : List (List UInt8)) (i : Nat) : List (List UInt8) :=
  if l.length ≤ 1 then []
  else if i < half l.length then pathD B (l.take (half l.length)) i ++ [rootD B (l.drop (half l.length))]
  else pathD B (l.drop (half l.length)) (i - half l.length) ++ [rootD B (l.take (half l.length))]
termination_by l.length
decreasing_by
  · have := half_lt (n := l.length) (by omega); rw [List.length_take]; omega
  · have := half_lt (n := l.length) (by omega); rw [List.length_drop]; omega
def besideD (B : Nat) (l : List (List UInt8)) (a b : Int) : List (List UInt8) :=
  if b ≤ 0 ∨ (l.length : Int) ≤ a then [rootD B l]
  else if l.length ≤ 1 then []
  else besideD B (l.take (half l.length)) a b ++ besideD B (l.drop (half l.length)) (a - half l.length) (b - half l.length)
termination_by l.length
decreasing_by
  · have := half_lt (n := l.length) (by omega); rw [List.length_take]; omega
  · have := half_lt (n := l.length) (by omega); rw [List.length_drop]; omega
/-- from the root down: is the leaf in the left part? -/
def downs (n i : Nat) : List Bool :=
  if n ≤ 1 then [] else if i < half n then true :: downs (half n) i else false :: downs (n - half n) (i - half n)
termination_by n
decreasing_by
  · have := half_lt (n := n) (by omega); omega
  · have := half_lt (n := n) (by omega); omega
def stepD (B : Nat) (left : Bool) (d x : List UInt8) : List UInt8 := if left then nodeD B d x else nodeD B x d
/-- from the bottom up -/
def climb (B : Nat) : List Bool → List (List UInt8) → List UInt8 → List UInt8
  | b :: bs, x :: xs, d => climb B bs xs (stepD B b d x)
  | _, _, d => d
def checkD (B : Nat) (root : List UInt8) (n i : Int) (leaf : List UInt8) (path : List (List UInt8)) : Bool :=
  if i < 0 ∨ n ≤ i then false
  else decide (path.length = (downs n.toNat i.toNat).length) && decide (climb B (downs n.toNat i.toNat).reverse path (leafD B leaf) = root)
/-- the root of n leaves of which some begin at a, with digests that are used up -/
def openD (B : Nat) (part : List (List UInt8)) (n : Nat) (a : Int) (path : List (List UInt8)) (bad : Bool) : List UInt8 × List (List UInt8) × Bool :=
  if a + part.length ≤ 0 ∨ (n : Int) ≤ a then
    (match path with | [] => (List.replicate 32 0, [], true) | d :: r => (d, r, bad))
  else if n ≤ 1 then (leafD B (part.getD (-a).toNat []), path, bad)
  else
    let l := openD B part (half n) a path bad
    let r := openD B part (n - half n) (a - half n) l.2.1 l.2.2
    (nodeD B l.1 r.1, r.2.1, r.2.2)
termination_by n
decreasing_by
  · have := half_lt (n := n) (by omega); omega
  · have := half_lt (n := n) (by omega); omega
def checkRD (B : Nat) (root : List UInt8) (n a : Int) (part path : List (List UInt8)) : Bool :=
  if part.length = 0 ∨ a < 0 ∨ n < part.length ∨ n - part.length < a then false
  else (let o := openD B part n.toNat a path false; !o.2.2 && decide (o.2.1 = []) && decide (o.1 = root))

theorem leafD_len (B : Nat) (xs : List UInt8) : (leafD B xs).length = 32 := by unfold leafD; rw [keep_len]; rfl
theorem nodeD_len (B : Nat) (l r : List UInt8) : (nodeD B l r).length = 32 := by unfold nodeD; rw [keep_len]; rfl
theorem emptyD_len (B : Nat) : (emptyD B).length = 32 := by unfold emptyD; rw [keep_len]; rfl
theorem rootD_len (B : Nat) (l : List (List UInt8)) : (rootD B l).length = 32 := by
  rw [rootD]
  split
  · exact emptyD_len B
  · split
    · exact leafD_len B _
    · exact nodeD_len B _ _
theorem pathD_len32 (B : Nat) (l : List (List UInt8)) (i : Nat) : ∀ d ∈ pathD B l i, d.length = 32 := by
  induction l, i using pathD.induct with
  | case1 l i h => intro d hd; rw [pathD, if_pos h] at hd; cases hd
  | case2 l i h h2 ih =>
    intro d hd
    rw [pathD, if_neg h, if_pos h2] at hd
    rcases List.mem_append.1 hd with hd | hd
    · exact ih d hd
    · rw [List.mem_singleton] at hd; rw [hd]; exact rootD_len _ _
  | case3 l i h h2 ih =>
    intro d hd
    rw [pathD, if_neg h, if_neg h2] at hd
    rcases List.mem_append.1 hd with hd | hd
    · exact ih d hd
    · rw [List.mem_singleton] at hd; rw [hd]; exact rootD_len _ _
theorem besideD_len32 (B : Nat) (l : List (List UInt8)) (a b : Int) : ∀ d ∈ besideD B l a b, d.length = 32 := by
  induction l, a, b using besideD.induct with
  | case1 l a b h => intro d hd; rw [besideD, if_pos h, List.mem_singleton] at hd; rw [hd]; exact rootD_len _ _
  | case2 l a b h h2 => intro d hd; rw [besideD, if_neg h, if_pos h2] at hd; cases hd
  | case3 l a b h h2 ih1 ih2 =>
    intro d hd
    rw [besideD, if_neg h, if_neg h2] at hd
    rcases List.mem_append.1 hd with hd | hd
    · exact ih1 d hd
    · exact ih2 d hd
end T
end Go.Proofs.Ythaoibgcgkmnbaa
