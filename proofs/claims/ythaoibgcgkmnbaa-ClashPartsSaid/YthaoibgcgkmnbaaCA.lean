/- The plain laws of the clash: the texts of an opening beside the real ones. The plain laws of the clash: what Of, OfRange, OfLists tell. -/
import Derived.Test.YthaoibgcgkmnbaaTq
namespace Go.Proofs.Ythaoibgcgkmnbaa
set_option maxRecDepth 100000
set_option maxRecDepth 100000
namespace T

/-- text of a leaf, of a node, of the root of some leaves; the sum of a text -/
def ltx (y : List UInt8) : List UInt8 := 0 :: y
def ntx (l r : List UInt8) : List UInt8 := 1 :: (l ++ r)
def texD (B : Nat) (l : List (List UInt8)) : List UInt8 := if l.length ≤ 1 then ltx (l.getD 0 []) else ntx (rootD B (l.take (half l.length))) (rootD B (l.drop (half l.length)))
def sumD (B : Nat) (t : List UInt8) : List UInt8 := keep (S.sha t) B
theorem leafD_tx (B : Nat) (y : List UInt8) : leafD B y = sumD B (ltx y) := rfl
theorem nodeD_tx (B : Nat) (l r : List UInt8) : nodeD B l r = sumD B (ntx l r) := rfl
theorem texD_one (B : Nat) (y : List UInt8) : texD B [y] = ltx y := rfl
theorem texD_more (B : Nat) {l : List (List UInt8)} {n k : Nat} (hn : l.length = n) (h2 : 2 ≤ n) (hk : k = half n) : texD B l = ntx (rootD B (l.take k)) (rootD B (l.drop k)) := by
  unfold texD; rw [hn, if_neg (by omega), hk]
theorem rootD_tx (B : Nat) {l : List (List UInt8)} (h : 1 ≤ l.length) : rootD B l = sumD B (texD B l) := by
  by_cases h1 : l.length = 1
  · obtain ⟨y, rfl⟩ := List.length_eq_one_iff.1 h1
    rw [rootD_one, texD_one]; rfl
  · rw [rootD_more B (l := l) rfl (by omega) rfl, texD_more B (l := l) rfl (by omega) rfl]; rfl
theorem ntx_inj {a b c d : List UInt8} (h : ntx a b = ntx c d) (hac : a.length = c.length) : a = c ∧ b = d := by
  unfold ntx at h
  exact List.append_inj (List.cons.inj h).2 hac

/-- an opening's texts beside the real ones, from the root down; the digest that comes out -/
def pairsD (B : Nat) (leaf : List UInt8) (l : List (List UInt8)) (i : Nat) (path : List (List UInt8)) : List (List UInt8 × List UInt8) × List UInt8 :=
  if l.length ≤ 1 then ([(ltx leaf, texD B l)], leafD B leaf)
  else if i < half l.length then
    let r := pairsD B leaf (l.take (half l.length)) i (path.take (path.length - 1))
    ((ntx r.2 (path.getD (path.length - 1) []), texD B l) :: r.1, nodeD B r.2 (path.getD (path.length - 1) []))
  else
    let r := pairsD B leaf (l.drop (half l.length)) (i - half l.length) (path.take (path.length - 1))
    ((ntx (path.getD (path.length - 1) []) r.2, texD B l) :: r.1, nodeD B (path.getD (path.length - 1) []) r.2)
termination_by l.length
decreasing_by
  · have := half_lt (n := l.length) (by omega); rw [List.length_take]; omega
  · have := half_lt (n := l.length) (by omega); rw [List.length_drop]; omega
theorem pairsD_one (B : Nat) (leaf : List UInt8) {l : List (List UInt8)} (h : l.length ≤ 1) (i : Nat) (path : List (List UInt8)) : pairsD B leaf l i path = ([(ltx leaf, texD B l)], leafD B leaf) := by
  rw [pairsD, if_pos h]
theorem pairsD_lo (B : Nat) (leaf : List UInt8) {l path : List (List UInt8)} {n k p i : Nat} {y : List UInt8} (hn : l.length = n) (h2 : 2 ≤ n) (hk : k = half n) (hp : path.length = p) (hy : path[p - 1]? = some y) (hi : i < k) :
    pairsD B leaf l i path = ((ntx (pairsD B leaf (l.take k) i (path.take (p - 1))).2 y, texD B l) :: (pairsD B leaf (l.take k) i (path.take (p - 1))).1, nodeD B (pairsD B leaf (l.take k) i (path.take (p - 1))).2 y) := by
  rw [pairsD, hn, if_neg (by omega), ← hk, if_pos hi, hp, List.getD_eq_getElem?_getD, hy]
  rfl
theorem pairsD_hi (B : Nat) (leaf : List UInt8) {l path : List (List UInt8)} {n k p i : Nat} {y : List UInt8} (hn : l.length = n) (h2 : 2 ≤ n) (hk : k = half n) (hp : path.length = p) (hy : path[p - 1]? = some y) (hi : ¬ i < k) :
    pairsD B leaf l i path = ((ntx y (pairsD B leaf (l.drop k) (i - k) (path.take (p - 1))).2, texD B l) :: (pairsD B leaf (l.drop k) (i - k) (path.take (p - 1))).1, nodeD B y (pairsD B leaf (l.drop k) (i - k) (path.take (p - 1))).2) := by
  rw [pairsD, hn, if_neg (by omega), ← hk, if_neg hi, hp, List.getD_eq_getElem?_getD, hy]
  rfl
theorem pairsD_len (B : Nat) (leaf : List UInt8) (l : List (List UInt8)) (i : Nat) (path : List (List UInt8)) : (pairsD B leaf l i path).2.length = 32 := by
  rw [pairsD]
  split
  · exact leafD_len _ _
  · split <;> exact nodeD_len _ _ _
/-- the last of a path that is long enough -/
theorem path_last {path : List (List UInt8)} {n i : Nat} (h2 : 2 ≤ n) (hp : path.length = (downs n i).length) : ∃ y, path[path.length - 1]? = some y ∧ y ∈ path := by
  have h1 : 0 < path.length := by
    rw [hp, downs, if_neg (by omega)]
    split <;> simp
  have h3 : path.length - 1 < path.length := by omega
  exact ⟨path[path.length - 1], List.getElem?_eq_getElem h3, List.getElem_mem h3⟩
theorem low_len {path : List (List UInt8)} {n i k : Nat} (h2 : 2 ≤ n) (hk : k = half n) (hi : i < k) (hp : path.length = (downs n i).length) : (path.take (path.length - 1)).length = (downs k i).length := by
  rw [downs_lo (by omega) hk hi, List.length_cons] at hp
  rw [List.length_take]; omega
theorem low_len' {path : List (List UInt8)} {n i k : Nat} (h2 : 2 ≤ n) (hk : k = half n) (hi : ¬ i < k) (hp : path.length = (downs n i).length) : (path.take (path.length - 1)).length = (downs (n - k) (i - k)).length := by
  rw [downs_hi (by omega) hk hi, List.length_cons] at hp
  rw [List.length_take]; omega
theorem split_last {path : List (List UInt8)} {y : List UInt8} (hy : path[path.length - 1]? = some y) : path = path.take (path.length - 1) ++ [y] := by
  have h0 := (List.getElem?_eq_some_iff.1 hy).1
  have h := List.take_add_one (l := path) (i := path.length - 1)
  rw [hy, show path.length - 1 + 1 = path.length by omega, List.take_of_length_le (Nat.le_refl _)] at h
  exact h
/-- the digest is the one that Check reckons -/
theorem pairsD_climb (B : Nat) (leaf : List UInt8) : ∀ (N : Nat) (l : List (List UInt8)) (i : Nat) (path : List (List UInt8)), l.length < N → path.length = (downs l.length i).length →
    (pairsD B leaf l i path).2 = climb B (downs l.length i).reverse path (leafD B leaf) := by
  intro N
  induction N with
  | zero => intro l i path h; omega
  | succ N ih =>
    intro l i path hN hp
    by_cases h1 : l.length ≤ 1
    · rw [pairsD_one B leaf h1, downs_one h1]
      cases path <;> simp [climb]
    · have hh := half_lt (n := l.length) (by omega)
      obtain ⟨y, hy, _⟩ := path_last (by omega) hp
      have hs := split_last hy
      by_cases hi : i < half l.length
      · have hl := low_len (by omega) rfl hi hp
        have h2 := ih (l.take (half l.length)) i (path.take (path.length - 1)) (by rw [List.length_take]; omega) (by rw [show (l.take (half l.length)).length = half l.length by rw [List.length_take]; omega]; exact hl)
        rw [show (l.take (half l.length)).length = half l.length by rw [List.length_take]; omega] at h2
        have h3 : climb B (downs l.length i).reverse path (leafD B leaf) = climb B (downs l.length i).reverse (path.take (path.length - 1) ++ [y]) (leafD B leaf) := congrArg (fun p => climb B (downs l.length i).reverse p (leafD B leaf)) hs
        rw [pairsD_lo B leaf rfl (by omega) rfl rfl hy hi, h2, h3, downs_lo (by omega) rfl hi, List.reverse_cons, climb_snoc _ _ _ _ _ _ (by rw [List.length_reverse, hl])]
        rfl
      · have hl := low_len' (by omega) rfl hi hp
        have h2 := ih (l.drop (half l.length)) (i - half l.length) (path.take (path.length - 1)) (by rw [List.length_drop]; omega) (by rw [show (l.drop (half l.length)).length = l.length - half l.length from List.length_drop]; exact hl)
        rw [show (l.drop (half l.length)).length = l.length - half l.length from List.length_drop] at h2
        have h3 : climb B (downs l.length i).reverse path (leafD B leaf) = climb B (downs l.length i).reverse (path.take (path.length - 1) ++ [y]) (leafD B leaf) := congrArg (fun p => climb B (downs l.length i).reverse p (leafD B leaf)) hs
        rw [pairsD_hi B leaf rfl (by omega) rfl rfl hy hi, h2, h3, downs_hi (by omega) rfl hi, List.reverse_cons, climb_snoc _ _ _ _ _ _ (by rw [List.length_reverse, hl])]
        rfl

/-- the first texts that are unlike -/
def diff1 (ps : List (List UInt8 × List UInt8)) : Option (List UInt8 × List UInt8) := ps.find? fun p => decide (p.1 ≠ p.2)
theorem diff1_cons (a b : List UInt8) (ps : List (List UInt8 × List UInt8)) : diff1 ((a, b) :: ps) = if a = b then diff1 ps else some (a, b) := by
  unfold diff1
  rw [List.find?_cons]
  by_cases h : a = b <;> simp [h]
theorem diff1_append (ps qs : List (List UInt8 × List UInt8)) : diff1 (ps ++ qs) = match diff1 ps with | some x => some x | none => diff1 qs := by
  unfold diff1
  rw [List.find?_append]
  cases List.find? (fun p => decide (p.1 ≠ p.2)) ps <;> rfl
/-- what an opening tells: unlike texts of one sum, or it is the real one -/
theorem pairs_sound (B : Nat) (leaf : List UInt8) : ∀ (N : Nat) (l : List (List UInt8)) (i : Nat) (path : List (List UInt8)), l.length < N → i < l.length → path.length = (downs l.length i).length → (∀ d ∈ path, d.length = 32) → (pairsD B leaf l i path).2 = rootD B l →
    (diff1 (pairsD B leaf l i path).1 = none → l[i]? = some leaf ∧ path = pathD B l i) ∧ ∀ a b, diff1 (pairsD B leaf l i path).1 = some (a, b) → a ≠ b ∧ sumD B a = sumD B b := by
  intro N
  induction N with
  | zero => intro l i path h; omega
  | succ N ih =>
    intro l i path hN hi hp h32 hd
    by_cases h1 : l.length ≤ 1
    · have h11 : l.length = 1 := by omega
      obtain ⟨z, rfl⟩ := List.length_eq_one_iff.1 h11
      obtain rfl : i = 0 := by simp at hi; omega
      rw [pairsD_one B leaf h1] at hd ⊢
      simp only at hd ⊢
      rw [texD_one, diff1_cons]
      rw [downs_one h1] at hp
      have hp0 : path = [] := List.length_eq_zero_iff.1 hp
      by_cases he : ltx leaf = ltx z
      · rw [if_pos he]
        refine ⟨fun _ => ⟨?_, by rw [hp0, pathD_one B h11]⟩, fun a b h => by cases h⟩
        rw [(List.cons.inj he).2]; rfl
      · rw [if_neg he]
        refine ⟨(fun h => by cases h), fun a b h => ?_⟩
        cases h
        rw [rootD_one] at hd
        exact ⟨he, hd⟩
    · have hh := half_lt (n := l.length) (by omega)
      obtain ⟨y, hy, hym⟩ := path_last (by omega) hp
      have hs := split_last hy
      have hroot := rootD_tx B (l := l) (by omega)
      have htx := texD_more B (l := l) rfl (by omega) rfl
      by_cases hik : i < half l.length
      · have hl := low_len (by omega) rfl hik hp
        rw [pairsD_lo B leaf rfl (by omega) rfl rfl hy hik] at hd ⊢
        simp only at hd ⊢
        rw [diff1_cons]
        by_cases he : ntx (pairsD B leaf (l.take (half l.length)) i (path.take (path.length - 1))).2 y = texD B l
        · rw [if_pos he]
          rw [htx] at he
          obtain ⟨e1, e2⟩ := ntx_inj he (by rw [pairsD_len, rootD_len])
          have hlen : (l.take (half l.length)).length = half l.length := by rw [List.length_take]; omega
          have h3 := ih (l.take (half l.length)) i (path.take (path.length - 1)) (by omega) (by omega) (by rw [hlen]; exact hl) (fun d hd => h32 d (List.mem_of_mem_take hd)) e1
          refine ⟨fun h => ?_, h3.2⟩
          obtain ⟨h4, h5⟩ := h3.1 h
          rw [List.getElem?_take_of_lt hik] at h4
          refine ⟨h4, ?_⟩
          rw [pathD_lo B rfl (by omega) rfl hik, ← h5, ← e2]
          exact hs
        · rw [if_neg he]
          refine ⟨(fun h => by cases h), fun a b h => ?_⟩
          cases h
          rw [hroot] at hd
          exact ⟨he, hd⟩
      · have hl := low_len' (by omega) rfl hik hp
        rw [pairsD_hi B leaf rfl (by omega) rfl rfl hy hik] at hd ⊢
        simp only at hd ⊢
        rw [diff1_cons]
        by_cases he : ntx y (pairsD B leaf (l.drop (half l.length)) (i - half l.length) (path.take (path.length - 1))).2 = texD B l
        · rw [if_pos he]
          rw [htx] at he
          obtain ⟨e1, e2⟩ := ntx_inj he (by rw [h32 y hym, rootD_len])
          have hlen : (l.drop (half l.length)).length = l.length - half l.length := List.length_drop
          have h3 := ih (l.drop (half l.length)) (i - half l.length) (path.take (path.length - 1)) (by omega) (by omega) (by rw [hlen]; exact hl) (fun d hd => h32 d (List.mem_of_mem_take hd)) e2
          refine ⟨fun h => ?_, h3.2⟩
          obtain ⟨h4, h5⟩ := h3.1 h
          rw [List.getElem?_drop, show half l.length + (i - half l.length) = i by omega] at h4
          refine ⟨h4, ?_⟩
          rw [pathD_hi B rfl (by omega) rfl hik, ← h5, ← e1]
          exact hs
        · rw [if_neg he]
          refine ⟨(fun h => by cases h), fun a b h => ?_⟩
          cases h
          rw [hroot] at hd
          exact ⟨he, hd⟩
/-- the real one tells nothing -/
theorem pairs_real (B : Nat) (leaf : List UInt8) : ∀ (N : Nat) (l : List (List UInt8)) (i : Nat), l.length < N → l[i]? = some leaf → diff1 (pairsD B leaf l i (pathD B l i)).1 = none ∧ (pairsD B leaf l i (pathD B l i)).2 = rootD B l := by
  intro N
  induction N with
  | zero => intro l i h; omega
  | succ N ih =>
    intro l i hN hy
    have hi := (List.getElem?_eq_some_iff.1 hy).1
    by_cases h1 : l.length ≤ 1
    · have h11 : l.length = 1 := by omega
      obtain ⟨z, rfl⟩ := List.length_eq_one_iff.1 h11
      obtain rfl : i = 0 := by simp at hi; omega
      cases hy
      rw [pairsD_one B _ h1, texD_one]
      simp only
      rw [diff1_cons, if_pos rfl, rootD_one]
      exact ⟨rfl, rfl⟩
    · have hh := half_lt (n := l.length) (by omega)
      by_cases hik : i < half l.length
      · have h3 := ih (l.take (half l.length)) i (by rw [List.length_take]; omega) (by rw [List.getElem?_take_of_lt hik]; exact hy)
        have hpd := pathD_lo B rfl (by omega) rfl hik (l := l)
        have hlast : (pathD B l i)[(pathD B l i).length - 1]? = some (rootD B (l.drop (half l.length))) := by rw [hpd]; simp
        have hlow : (pathD B l i).take ((pathD B l i).length - 1) = pathD B (l.take (half l.length)) i := by rw [hpd]; simp
        rw [pairsD_lo B leaf rfl (by omega) rfl rfl hlast hik, hlow]
        simp only
        rw [diff1_cons, h3.2, texD_more B (l := l) rfl (by omega) rfl, if_pos rfl]
        exact ⟨h3.1, (rootD_more B (l := l) rfl (by omega) rfl).symm⟩
      · have h3 := ih (l.drop (half l.length)) (i - half l.length) (by rw [List.length_drop]; omega) (by rw [List.getElem?_drop, show half l.length + (i - half l.length) = i by omega]; exact hy)
        have hpd := pathD_hi B rfl (by omega) rfl hik (l := l)
        have hlast : (pathD B l i)[(pathD B l i).length - 1]? = some (rootD B (l.take (half l.length))) := by rw [hpd]; simp
        have hlow : (pathD B l i).take ((pathD B l i).length - 1) = pathD B (l.drop (half l.length)) (i - half l.length) := by rw [hpd]; simp
        rw [pairsD_hi B leaf rfl (by omega) rfl rfl hlast hik, hlow]
        simp only
        rw [diff1_cons, h3.2, texD_more B (l := l) rfl (by omega) rfl, if_pos rfl]
        exact ⟨h3.1, (rootD_more B (l := l) rfl (by omega) rfl).symm⟩

/-- the texts of the opening of a part beside the real ones, each ahead of those below, left ahead of right; the digest that comes out; what is left of the path -/
def spotsD (B : Nat) (part : List (List UInt8)) (l : List (List UInt8)) (a : Int) (path : List (List UInt8)) : List (List UInt8 × List UInt8) × List UInt8 × List (List UInt8) :=
  if a + part.length ≤ 0 ∨ (l.length : Int) ≤ a then ([], path.headD (List.replicate 32 0), path.tail)
  else if l.length ≤ 1 then ([(ltx (part.getD (-a).toNat []), texD B l)], leafD B (part.getD (-a).toNat []), path)
  else
    let x := spotsD B part (l.take (half l.length)) a path
    let y := spotsD B part (l.drop (half l.length)) (a - half l.length) x.2.2
    ((ntx x.2.1 y.2.1, texD B l) :: (x.1 ++ y.1), nodeD B x.2.1 y.2.1, y.2.2)
termination_by l.length
decreasing_by
  · have := half_lt (n := l.length) (by omega); rw [List.length_take]; omega
  · have := half_lt (n := l.length) (by omega); rw [List.length_drop]; omega
theorem spotsD_out (B : Nat) {part l : List (List UInt8)} {n m : Nat} {a : Int} (path : List (List UInt8)) (hn : l.length = n) (hm : part.length = m) (h : a + m ≤ 0 ∨ (n : Int) ≤ a) : spotsD B part l a path = ([], path.headD (List.replicate 32 0), path.tail) := by
  rw [spotsD, hn, hm, if_pos h]
theorem spotsD_one (B : Nat) {part l : List (List UInt8)} {n m : Nat} {a : Int} (path : List (List UInt8)) (hn : l.length = n) (hm : part.length = m) (h : ¬ (a + m ≤ 0 ∨ (n : Int) ≤ a)) (h1 : n ≤ 1) : spotsD B part l a path = ([(ltx (part.getD (-a).toNat []), texD B l)], leafD B (part.getD (-a).toNat []), path) := by
  rw [spotsD, hn, hm, if_neg h, if_pos h1]
theorem spotsD_more (B : Nat) {part l : List (List UInt8)} {n m k : Nat} {a : Int} (path : List (List UInt8)) (hn : l.length = n) (hm : part.length = m) (h : ¬ (a + m ≤ 0 ∨ (n : Int) ≤ a)) (h2 : 2 ≤ n) (hk : k = half n) :
    spotsD B part l a path = ((ntx (spotsD B part (l.take k) a path).2.1 (spotsD B part (l.drop k) (a - k) (spotsD B part (l.take k) a path).2.2).2.1, texD B l) :: ((spotsD B part (l.take k) a path).1 ++ (spotsD B part (l.drop k) (a - k) (spotsD B part (l.take k) a path).2.2).1),
      nodeD B (spotsD B part (l.take k) a path).2.1 (spotsD B part (l.drop k) (a - k) (spotsD B part (l.take k) a path).2.2).2.1, (spotsD B part (l.drop k) (a - k) (spotsD B part (l.take k) a path).2.2).2.2) := by
  rw [spotsD, hn, hm, if_neg h, if_neg (by omega), hk]
/-- digest and path are those of the opening -/
theorem spots_open (B : Nat) (part : List (List UInt8)) : ∀ (N : Nat) (l : List (List UInt8)) (a : Int) (ds : List (List UInt8)) (bad : Bool), l.length < N → (spotsD B part l a ds).2 = ((openD B part l.length a ds bad).1, (openD B part l.length a ds bad).2.1) := by
  intro N
  induction N with
  | zero => intro l a ds bad h; omega
  | succ N ih =>
    intro l a ds bad hN
    by_cases h : a + part.length ≤ 0 ∨ (l.length : Int) ≤ a
    · rw [spotsD_out B ds rfl rfl h]
      cases ds with
      | nil => rw [openD_nil rfl h]; rfl
      | cons d r => rw [openD_take rfl h]; rfl
    · by_cases h1 : l.length ≤ 1
      · rw [spotsD_one B ds rfl rfl h h1, openD_leaf rfl h h1]
      · have hh := half_lt (n := l.length) (by omega)
        have e1 : (l.take (half l.length)).length = half l.length := by rw [List.length_take]; omega
        have e2 : (l.drop (half l.length)).length = l.length - half l.length := List.length_drop
        have i1 := ih (l.take (half l.length)) a ds bad (by omega)
        rw [e1] at i1
        have i2 := ih (l.drop (half l.length)) (a - half l.length) (openD B part (half l.length) a ds bad).2.1 (openD B part (half l.length) a ds bad).2.2 (by omega)
        rw [e2] at i2
        rw [spotsD_more B ds rfl rfl h (by omega) rfl, openD_more rfl h h1 rfl]
        simp only [i1, i2]
theorem spotsD_rest (B : Nat) {part l ds : List (List UInt8)} {a : Int} (h : popsD l.length a part.length ≤ ds.length) : (spotsD B part l a ds).2.2 = ds.drop (popsD l.length a part.length) := by
  rw [spots_open B part (l.length + 1) l a ds false (by omega), openD_ge B part rfl (l.length + 1) l.length a ds false (by omega) h]
theorem spotsD_len (B : Nat) (part l : List (List UInt8)) (a : Int) {ds : List (List UInt8)} (h : ∀ d ∈ ds, d.length = 32) : (spotsD B part l a ds).2.1.length = 32 ∧ ∀ d ∈ (spotsD B part l a ds).2.2, d.length = 32 := by
  rw [spots_open B part (l.length + 1) l a ds false (by omega)]
  exact openD_len B part l.length a ds false h
/-- what the opening of a part tells: unlike texts of one sum, or it is the real one -/
theorem spots_sound (B : Nat) (part : List (List UInt8)) {m : Nat} (hm : part.length = m) : ∀ (N : Nat) (l : List (List UInt8)) (a : Int) (ds : List (List UInt8)), l.length < N → 1 ≤ l.length → (∀ d ∈ ds, d.length = 32) → popsD l.length a m ≤ ds.length → (spotsD B part l a ds).2.1 = rootD B l →
    (diff1 (spotsD B part l a ds).1 = none → ds = besideD B l a (a + m) ++ (spotsD B part l a ds).2.2 ∧ ∀ (p : Nat) (y : List UInt8), l[p]? = some y → a ≤ p → (p : Int) < a + m → part[((p : Int) - a).toNat]? = some y) ∧
    ∀ x y, diff1 (spotsD B part l a ds).1 = some (x, y) → x ≠ y ∧ sumD B x = sumD B y := by
  intro N
  induction N with
  | zero => intro l a ds h; omega
  | succ N ih =>
    intro l a ds hN hl h32 hp hd
    by_cases h : a + m ≤ 0 ∨ (l.length : Int) ≤ a
    · rw [spotsD_out B ds rfl hm h] at hd ⊢
      rw [popsD_out h] at hp
      cases ds with
      | nil => simp at hp
      | cons d r =>
        simp only [List.headD_cons] at hd
        refine ⟨fun _ => ⟨?_, fun p y hy h1 h2 => ?_⟩, (fun x y h => by cases h)⟩
        · rw [besideD_out B rfl h, hd]; rfl
        · have := (List.getElem?_eq_some_iff.1 hy).1
          omega
    · by_cases h1 : l.length ≤ 1
      · have h11 : l.length = 1 := by omega
        rw [spotsD_one B ds rfl hm h h1] at hd ⊢
        obtain ⟨z, hz⟩ := List.length_eq_one_iff.1 h11
        subst hz
        simp only at hd ⊢
        rw [texD_one, diff1_cons]
        have hb : (-a).toNat < part.length := by
          simp only [List.length_cons, List.length_nil] at h
          omega
        by_cases he : ltx (part.getD (-a).toNat []) = ltx z
        · rw [if_pos he]
          refine ⟨fun _ => ⟨by rw [besideD_one B rfl h h11]; rfl, fun p y hy h2 h3 => ?_⟩, (fun x y h => by cases h)⟩
          have hp0 : p = 0 := by have := (List.getElem?_eq_some_iff.1 hy).1; simp at this; omega
          subst hp0
          cases hy
          have e := (List.cons.inj he).2
          rw [List.getD_eq_getElem?_getD, List.getElem?_eq_getElem hb] at e
          rw [show (((0 : Nat) : Int) - a).toNat = (-a).toNat by simp, List.getElem?_eq_getElem hb]
          exact congrArg some e
        · rw [if_neg he]
          refine ⟨(fun h => by cases h), fun x y h => ?_⟩
          cases h
          rw [rootD_one] at hd
          exact ⟨he, hd⟩
      · have hh := half_lt (n := l.length) (by omega)
        have e1 : (l.take (half l.length)).length = half l.length := by rw [List.length_take]; omega
        have e2 : (l.drop (half l.length)).length = l.length - half l.length := List.length_drop
        rw [popsD_more h h1 rfl] at hp
        have hrest := spotsD_rest B (part := part) (l := l.take (half l.length)) (a := a) (ds := ds) (by rw [hm, e1]; omega)
        rw [hm, e1] at hrest
        have hl1 := spotsD_len B part (l.take (half l.length)) a h32
        rw [spotsD_more B ds rfl hm h (by omega) rfl] at hd ⊢
        simp only at hd ⊢
        rw [diff1_cons]
        by_cases he : ntx (spotsD B part (l.take (half l.length)) a ds).2.1 (spotsD B part (l.drop (half l.length)) (a - half l.length) (spotsD B part (l.take (half l.length)) a ds).2.2).2.1 = texD B l
        · rw [if_pos he]
          rw [texD_more B (l := l) rfl (by omega) rfl] at he
          obtain ⟨g1, g2⟩ := ntx_inj he (by rw [hl1.1, rootD_len])
          have i1 := ih (l.take (half l.length)) a ds (by omega) (by omega) h32 (by rw [e1]; omega) g1
          have i2 := ih (l.drop (half l.length)) (a - half l.length) (spotsD B part (l.take (half l.length)) a ds).2.2 (by omega) (by omega) hl1.2 (by rw [e2, hrest, List.length_drop]; omega) g2
          rw [diff1_append]
          cases hx : diff1 (spotsD B part (l.take (half l.length)) a ds).1 with
          | some v =>
            refine ⟨(fun h => by cases h), fun x y h => ?_⟩
            obtain ⟨v1, v2⟩ := v
            cases h
            exact i1.2 _ _ hx
          | none =>
            simp only
            obtain ⟨j1, j2⟩ := i1.1 hx
            refine ⟨fun hn => ?_, i2.2⟩
            obtain ⟨j3, j4⟩ := i2.1 hn
            refine ⟨?_, fun p y hy h3 h4 => ?_⟩
            · rw [besideD_more B rfl h (by omega) rfl, List.append_assoc, show a + (m : Int) - (half l.length : Int) = a - (half l.length : Int) + m by omega, ← j3]
              exact j1
            · by_cases hpk : p < half l.length
              · exact j2 p y (by rw [List.getElem?_take_of_lt hpk]; exact hy) h3 h4
              · have := j4 (p - half l.length) y (by rw [List.getElem?_drop, show half l.length + (p - half l.length) = p by omega]; exact hy) (by omega) (by omega)
                rwa [show (((p - half l.length : Nat) : Int) - (a - (half l.length : Int))) = (p : Int) - a by omega] at this
        · rw [if_neg he]
          refine ⟨(fun h => by cases h), fun x y h => ?_⟩
          cases h
          rw [rootD_tx B hl] at hd
          exact ⟨he, hd⟩
/-- the real one tells nothing -/
theorem spots_real (B : Nat) (part : List (List UInt8)) {m : Nat} (hm : part.length = m) : ∀ (N : Nat) (l : List (List UInt8)) (a : Int) (rest : List (List UInt8)), l.length < N → 1 ≤ l.length →
    (∀ (p : Nat) (y : List UInt8), l[p]? = some y → a ≤ p → (p : Int) < a + m → part[((p : Int) - a).toNat]? = some y) → diff1 (spotsD B part l a (besideD B l a (a + m) ++ rest)).1 = none := by
  intro N
  induction N with
  | zero => intro l a rest h; omega
  | succ N ih =>
    intro l a rest hN hl hc
    by_cases h : a + m ≤ 0 ∨ (l.length : Int) ≤ a
    · rw [spotsD_out B _ rfl hm h]; rfl
    · by_cases h1 : l.length ≤ 1
      · have h11 : l.length = 1 := by omega
        rw [spotsD_one B _ rfl hm h h1]
        obtain ⟨z, hz⟩ := List.length_eq_one_iff.1 h11
        subst hz
        simp only [List.length_cons, List.length_nil] at h
        have := hc 0 z rfl (by omega) (by omega)
        rw [texD_one, diff1_cons, List.getD_eq_getElem?_getD, show (-a).toNat = (((0 : Nat) : Int) - a).toNat by simp, this]
        simp [diff1]
      · have hh := half_lt (n := l.length) (by omega)
        have e1 : (l.take (half l.length)).length = half l.length := by rw [List.length_take]; omega
        have e2 : (l.drop (half l.length)).length = l.length - half l.length := List.length_drop
        have c1 : ∀ (p : Nat) (y : List UInt8), (l.take (half l.length))[p]? = some y → a ≤ p → (p : Int) < a + m → part[((p : Int) - a).toNat]? = some y := fun p y hy => hc p y (by rw [List.getElem?_take] at hy; split at hy; exact hy; cases hy)
        have c2 : ∀ (p : Nat) (y : List UInt8), (l.drop (half l.length))[p]? = some y → a - half l.length ≤ p → (p : Int) < a - half l.length + m → part[((p : Int) - (a - half l.length)).toNat]? = some y := fun p y hy h5 h6 => by
          rw [List.getElem?_drop] at hy
          have := hc (half l.length + p) y hy (by omega) (by omega)
          rwa [show (((half l.length + p : Nat) : Int) - a) = (p : Int) - (a - half l.length) by omega] at this
        have o1 := openD_beside B part hm (l.length + 1) (l.take (half l.length)) a (besideD B (l.drop (half l.length)) (a - half l.length) (a - half l.length + m) ++ rest) false (by omega) (by omega) c1
        have o2 := openD_beside B part hm (l.length + 1) (l.drop (half l.length)) (a - half l.length) rest false (by omega) (by omega) c2
        have s1 := spots_open B part (l.length + 1) (l.take (half l.length)) a (besideD B (l.take (half l.length)) a (a + m) ++ (besideD B (l.drop (half l.length)) (a - half l.length) (a - half l.length + m) ++ rest)) false (by omega)
        have s2 := spots_open B part (l.length + 1) (l.drop (half l.length)) (a - half l.length) (besideD B (l.drop (half l.length)) (a - half l.length) (a - half l.length + m) ++ rest) false (by omega)
        rw [o1] at s1
        rw [o2] at s2
        rw [besideD_more B rfl h (by omega) rfl, List.append_assoc, show a + (m : Int) - (half l.length : Int) = a - (half l.length : Int) + m by omega, spotsD_more B _ rfl hm h (by omega) rfl]
        simp only [s1, s2]
        rw [diff1_cons, texD_more B (l := l) rfl (by omega) rfl, if_pos rfl, diff1_append, ih _ a _ (by omega) (by omega) c1]
        exact ih _ _ rest (by omega) (by omega) c2
end T
end Go.Proofs.Ythaoibgcgkmnbaa

namespace Go.Proofs.Ythaoibgcgkmnbaa
set_option maxRecDepth 100000
namespace T

/-- are two texts a clash? -/
def clashB (B : Nat) (a b : List UInt8) : Bool := decide (a ≠ b) && decide (sumD B a = sumD B b)
theorem clashB_yes {B : Nat} {a b : List UInt8} (h1 : a ≠ b) (h2 : sumD B a = sumD B b) : clashB B a b = true := by unfold clashB; simp [h1, h2]
/-- what Of tells -/
def ofD (B : Nat) (real : List (List UInt8)) (i : Int) (leaf : List UInt8) (path : List (List UInt8)) : Option (List UInt8 × List UInt8) :=
  if checkD B (rootD B real) real.length i leaf path then diff1 (pairsD B leaf real i.toNat path).1 else none
/-- what OfRange tells -/
def ofRD (B : Nat) (real : List (List UInt8)) (a : Int) (part path : List (List UInt8)) : Option (List UInt8 × List UInt8) :=
  if checkRD B (rootD B real) real.length a part path then diff1 (spotsD B part real a path).1 else none
/-- what OfLists tells -/
def ofLD (B : Nat) (real other : List (List UInt8)) : Option (List UInt8 × List UInt8) := if real.length ≠ other.length ∨ real.length = 0 then none else ofRD B real 0 other []

theorem ofD_no {B : Nat} {real : List (List UInt8)} {i : Int} {leaf : List UInt8} {path : List (List UInt8)} (h : checkD B (rootD B real) real.length i leaf path = false) : ofD B real i leaf path = none := by
  unfold ofD; rw [h]; rfl
theorem ofD_yes {B : Nat} {real : List (List UInt8)} {i : Int} {leaf : List UInt8} {path : List (List UInt8)} (h : checkD B (rootD B real) real.length i leaf path = true) : ofD B real i leaf path = diff1 (pairsD B leaf real i.toNat path).1 := by
  unfold ofD; rw [h]; rfl
theorem checkD_in {B : Nat} {r : List UInt8} {n : Nat} {i : Int} {leaf : List UInt8} {path : List (List UInt8)} (h : checkD B r n i leaf path = true) :
    ∃ j : Nat, i = (j : Int) ∧ j < n ∧ path.length = (downs n j).length ∧ climb B (downs n j).reverse path (leafD B leaf) = r := by
  unfold checkD at h
  split at h
  · cases h
  · rename_i hc
    obtain ⟨j, rfl⟩ : ∃ j : Nat, i = (j : Int) := ⟨i.toNat, by omega⟩
    rw [Int.toNat_natCast, Int.toNat_natCast, Bool.and_eq_true, decide_eq_true_eq, decide_eq_true_eq] at h
    exact ⟨j, rfl, by omega, h.1, h.2⟩
theorem ofD_real (B : Nat) {real : List (List UInt8)} {i : Nat} {leaf : List UInt8} (hy : real[i]? = some leaf) : ofD B real i leaf (pathD B real i) = none := by
  rw [ofD_yes (checkD_path B rfl hy), Int.toNat_natCast]
  exact (pairs_real B leaf (real.length + 1) real i (by omega) hy).1
theorem ofD_some {B : Nat} {real : List (List UInt8)} {i : Nat} {leaf : List UInt8} {path : List (List UInt8)} (h : checkD B (rootD B real) real.length i leaf path = true) (h32 : ∀ d ∈ path, d.length = 32)
    (hn : ¬ (real[i]? = some leaf ∧ path = pathD B real i)) : ∃ a b, ofD B real i leaf path = some (a, b) ∧ a ≠ b ∧ clashB B a b = true := by
  obtain ⟨j, hj, hjn, hp, hc⟩ := checkD_in h
  obtain rfl : i = j := by omega
  have hd : (pairsD B leaf real i path).2 = rootD B real := by rw [pairsD_climb B leaf (real.length + 1) real i path (by omega) hp]; exact hc
  obtain ⟨h1, h2⟩ := pairs_sound B leaf (real.length + 1) real i path (by omega) hjn hp h32 hd
  rw [ofD_yes h, Int.toNat_natCast]
  cases hx : diff1 (pairsD B leaf real i path).1 with
  | none => exact absurd (h1 hx) hn
  | some v =>
    obtain ⟨a, b⟩ := v
    obtain ⟨h3, h4⟩ := h2 a b hx
    exact ⟨a, b, rfl, h3, clashB_yes h3 h4⟩

theorem ofRD_no {B : Nat} {real : List (List UInt8)} {a : Int} {part path : List (List UInt8)} (h : checkRD B (rootD B real) real.length a part path = false) : ofRD B real a part path = none := by
  unfold ofRD; rw [h]; rfl
theorem ofRD_yes {B : Nat} {real : List (List UInt8)} {a : Int} {part path : List (List UInt8)} (h : checkRD B (rootD B real) real.length a part path = true) : ofRD B real a part path = diff1 (spotsD B part real a path).1 := by
  unfold ofRD; rw [h]; rfl
theorem checkRD_is {B : Nat} {r : List UInt8} {n m : Nat} {a : Int} {part path : List (List UInt8)} (hm : part.length = m) (h : checkRD B r n a part path = true) :
    0 < m ∧ 0 ≤ a ∧ a + m ≤ n ∧ path.length = popsD n a m ∧ (openD B part n a path false).1 = r := by
  by_cases hc : m = 0 ∨ a < 0 ∨ (n : Int) < m ∨ (n : Int) - m < a
  · rw [checkRD_no hm hc] at h; cases h
  · rw [checkRD_in hm hc rfl, Bool.and_eq_true, Bool.and_eq_true, Bool.not_eq_true', decide_eq_true_eq, decide_eq_true_eq] at h
    obtain ⟨⟨h1, h2⟩, h3⟩ := h
    refine ⟨by omega, by omega, by omega, ?_, h3⟩
    by_cases hp : popsD n a m ≤ path.length
    · rw [openD_ge B part hm (n + 1) n a path false (by omega) hp] at h2
      simp only [List.drop_eq_nil_iff] at h2
      omega
    · rw [openD_lt B part hm (n + 1) n a path false (by omega) (by omega)] at h1; cases h1
theorem ofRD_some {B : Nat} {real part path : List (List UInt8)} {m : Nat} {a : Int} (hm : part.length = m) (h : checkRD B (rootD B real) real.length a part path = true) (h32 : ∀ d ∈ path, d.length = 32)
    (hn : ¬ (path = besideD B real a (a + m) ∧ ∀ (p : Nat) (y : List UInt8), real[p]? = some y → a ≤ p → (p : Int) < a + m → part[((p : Int) - a).toNat]? = some y)) : ∃ x y, ofRD B real a part path = some (x, y) ∧ x ≠ y ∧ clashB B x y = true := by
  obtain ⟨h1, h2, h3, h4, h5⟩ := checkRD_is hm h
  have ho := spots_open B part (real.length + 1) real a path false (by omega)
  have hd : (spotsD B part real a path).2.1 = rootD B real := by rw [ho]; exact h5
  obtain ⟨g1, g2⟩ := spots_sound B part hm (real.length + 1) real a path (by omega) (by omega) h32 (by omega) hd
  have hr := spotsD_rest B (part := part) (l := real) (a := a) (ds := path) (by rw [hm]; omega)
  rw [hm, ← h4, List.drop_length] at hr
  rw [ofRD_yes h]
  cases hx : diff1 (spotsD B part real a path).1 with
  | none =>
    obtain ⟨g3, g4⟩ := g1 hx
    rw [hr, List.append_nil] at g3
    exact absurd ⟨g3, g4⟩ hn
  | some v =>
    obtain ⟨x, y⟩ := v
    obtain ⟨k1, k2⟩ := g2 x y hx
    exact ⟨x, y, rfl, k1, clashB_yes k1 k2⟩
theorem ofRD_real (B : Nat) {real part : List (List UInt8)} {m : Nat} {a : Int} (hm : part.length = m) (h0 : 0 < m) (h1 : 0 ≤ a) (h2 : a + m ≤ real.length)
    (hc : ∀ (p : Nat) (y : List UInt8), real[p]? = some y → a ≤ p → (p : Int) < a + m → part[((p : Int) - a).toNat]? = some y) : ofRD B real a part (besideD B real a (a + m)) = none := by
  rw [ofRD_yes (checkRD_takes B rfl hm (by omega) hc)]
  have := spots_real B part hm (real.length + 1) real a [] (by omega) (by omega) hc
  rwa [List.append_nil] at this
/-- all leaves need nothing beside -/
theorem besideD_full (B : Nat) {l : List (List UInt8)} (h : 1 ≤ l.length) : besideD B l 0 (0 + (l.length : Int)) = [] := by
  have h1 := besideD_pops B (m := l.length) (l.length + 1) l 0 (by omega) h
  rw [popsD_full (l.length + 1) l.length 0 (by omega) h (by omega) (by omega)] at h1
  exact List.length_eq_zero_iff.1 h1
theorem checkRD_full (B : Nat) (r : List UInt8) {other : List (List UInt8)} {n : Nat} (hn : other.length = n) (h : 1 ≤ n) : checkRD B r n 0 other [] = decide (rootD B other = r) := by
  have ho := openD_beside B other hn (n + 1) other 0 [] false (by omega) (by omega) (fun p y hy _ _ => by rw [show ((p : Int) - 0).toNat = p by simp]; exact hy)
  rw [List.append_nil] at ho
  have hb := besideD_full B (l := other) (by omega)
  rw [hn] at hb ho
  rw [hb] at ho
  rw [checkRD_in hn (by omega) ho.symm]
  simp
theorem ofLD_len {B : Nat} {real other : List (List UInt8)} (h : real.length ≠ other.length) : ofLD B real other = none := by unfold ofLD; rw [if_pos (.inl h)]
theorem ofLD_nil {B : Nat} {real other : List (List UInt8)} (h : real.length = 0) : ofLD B real other = none := by unfold ofLD; rw [if_pos (.inr h)]
theorem ofLD_same (B : Nat) (real : List (List UInt8)) : ofLD B real real = none := by
  by_cases h : real.length = 0
  · exact ofLD_nil h
  · unfold ofLD
    rw [if_neg (by omega)]
    have := ofRD_real B (real := real) (part := real) rfl (by omega) (a := 0) (by omega) (by omega) (fun p y hy _ _ => by rw [show ((p : Int) - 0).toNat = p by simp]; exact hy)
    rwa [besideD_full B (by omega)] at this
theorem ofLD_root {B : Nat} {real other : List (List UInt8)} (h : rootD B real ≠ rootD B other) : ofLD B real other = none := by
  unfold ofLD
  split
  · rfl
  · rename_i hc
    have hl : other.length = real.length := by omega
    apply ofRD_no
    rw [checkRD_full B _ hl (by omega)]
    exact decide_eq_false (Ne.symm h)
theorem ofLD_some {B : Nat} {real other : List (List UInt8)} (hl : real.length = other.length) (hr : rootD B real = rootD B other) (hne : real ≠ other) : ∃ x y, ofLD B real other = some (x, y) ∧ x ≠ y ∧ clashB B x y = true := by
  have h0 : real.length ≠ 0 := by
    intro h
    have h1 := List.length_eq_zero_iff.1 h
    have h2 := List.length_eq_zero_iff.1 (hl ▸ h : other.length = 0)
    exact hne (h1.trans h2.symm)
  unfold ofLD
  rw [if_neg (by omega)]
  refine ofRD_some (m := other.length) rfl ?_ (fun d hd => by cases hd) ?_
  · rw [checkRD_full B _ hl.symm (by omega), hr]; simp
  · rintro ⟨_, h⟩
    apply hne
    apply List.ext_getElem?
    intro p
    by_cases hp : p < real.length
    · have := h p real[p] (List.getElem?_eq_getElem hp) (by omega) (by omega)
      rw [show ((p : Int) - 0).toNat = p by simp] at this
      rw [this, List.getElem?_eq_getElem hp]
    · rw [List.getElem?_eq_none (by omega), List.getElem?_eq_none (by omega)]
end T
end Go.Proofs.Ythaoibgcgkmnbaa
