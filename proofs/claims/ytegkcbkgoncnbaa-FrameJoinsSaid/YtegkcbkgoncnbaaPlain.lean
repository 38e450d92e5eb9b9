/- Frames: what Next tells of what Put has made. Plain Lean. -/
import Derived.Test.YtegkcbkgoncnbaaAll1
namespace Go.Proofs.Ytegkcbkgoncnbaa
open Go.RowKit

theorem fold4_fix4 {v : Nat} (h : v < 4294967296) : fold4 (fix4 v) = v := by
  have h1 := getFix_put v h []
  have h2 := getFix_long (xs := fix4 v ++ []) (by simp [fix4_len])
  rw [h1] at h2
  simp only [List.append_nil, Option.some.injEq] at h2
  rw [List.take_of_length_le (by simp [fix4_len])] at h2
  exact h2.symm

theorem frame_size (ys r : List UInt8) : (frameOf ys ++ r).take 4 = fix4 ys.length := by
  unfold frameOf
  rw [List.append_assoc, List.take_append_of_le_length (by simp [fix4_len]), List.take_of_length_le (by simp [fix4_len])]
theorem frame_rest (ys r : List UInt8) : (frameOf ys ++ r).drop 4 = fix4 (crc (fix4 ys.length ++ ys)) ++ (ys ++ r) := by
  unfold frameOf
  rw [List.append_assoc, List.drop_append_of_le_length (by simp [fix4_len]), List.drop_of_length_le (by simp [fix4_len]), List.nil_append, List.append_assoc]
theorem frame_check (ys r : List UInt8) : ((frameOf ys ++ r).drop 4).take 4 = fix4 (crc (fix4 ys.length ++ ys)) := by
  rw [frame_rest, List.take_append_of_le_length (by simp [fix4_len]), List.take_of_length_le (by simp [fix4_len])]
theorem frame_body (ys r : List UInt8) : (frameOf ys ++ r).drop 8 = ys ++ r := by
  have : (frameOf ys ++ r).drop 8 = ((frameOf ys ++ r).drop 4).drop 4 := by rw [List.drop_drop]
  rw [this, frame_rest, List.drop_append_of_le_length (by simp [fix4_len]), List.drop_of_length_le (by simp [fix4_len]), List.nil_append]

theorem nextF_frame (ys r : List UInt8) (h : ys.length ≤ 65536) : nextF (frameOf ys ++ r) = (ys, ys.length + 8, 0) := by
  unfold nextF
  rw [frame_size, frame_check, frame_body, fold4_fix4 (by omega), fold4_fix4 (crc_lt _), List.take_left]
  have hl : (frameOf ys ++ r).length = ys.length + 8 + r.length := by rw [List.length_append, frameOf_len]
  rw [if_neg (by omega), if_neg (by omega), if_neg (by omega), if_pos rfl, Nat.add_comm]

theorem nextF_cut (ys : List UInt8) (k : Nat) (h : ys.length ≤ 65536) (hk : k < ys.length + 8) : nextF ((frameOf ys).take k) = ([], 0, 5) := by
  have hl : ((frameOf ys).take k).length = k := by rw [List.length_take, frameOf_len]; omega
  unfold nextF
  rw [hl]
  split
  · rfl
  · have e : ((frameOf ys).take k).take 4 = fix4 ys.length := by
      rw [List.take_take, Nat.min_eq_left (by omega)]
      have := frame_size ys []
      rwa [List.append_nil] at this
    rw [e, fold4_fix4 (by omega), if_neg (by omega), if_pos (by omega)]

theorem nextF_nil : nextF [] = ([], 0, 5) := rfl

theorem PathF.one {b : List UInt8} {x y : List UInt8 × Nat} {p : Nat} {k l : Nat} (h1 : nextF (b.drop p) = (x.1, k, 0) ∧ x.2 = p + k) (h2 : nextF (b.drop p) = (y.1, l, 0) ∧ y.2 = p + l) : x = y := by
  have := h1.1.symm.trans h2.1
  simp at this
  obtain ⟨a, b⟩ := x
  obtain ⟨c, d⟩ := y
  simp_all

/-- there is one row of frames -/
theorem PathF.det {b : List UInt8} : ∀ {xs ys : List (List UInt8 × Nat)} {p q r : Nat}, PathF b p xs q → PathF b p ys r → (nextF (b.drop q)).2.2 ≠ 0 → (nextF (b.drop r)).2.2 ≠ 0 → xs = ys ∧ q = r
  | [], [], p, q, r, hx, hy, _, _ => by
    have h1 : p = q := hx
    have h2 : p = r := hy
    exact ⟨rfl, by omega⟩
  | [], y :: ys, p, q, r, hx, ⟨k, h1, _, _⟩, hq, _ => by
    have h2 : p = q := hx
    subst h2; rw [h1] at hq; exact (hq rfl).elim
  | x :: xs, [], p, q, r, ⟨k, h1, _, _⟩, hy, _, hr => by
    have h2 : p = r := hy
    subst h2; rw [h1] at hr; exact (hr rfl).elim
  | x :: xs, y :: ys, p, q, r, ⟨k, h1, h2, h3⟩, ⟨l, g1, g2, g3⟩, hq, hr => by
    obtain rfl := PathF.one ⟨h1, h2⟩ ⟨g1, g2⟩
    obtain ⟨e1, e2⟩ := PathF.det h3 g3 hq hr
    exact ⟨by rw [e1], e2⟩

/-- what some frames one behind the other tell -/
def tells : Nat → List (List UInt8) → List (List UInt8 × Nat)
  | _, [] => []
  | p, y :: ys => (y, p + (y.length + 8)) :: tells (p + (y.length + 8)) ys
def framesOf (l : List (List UInt8)) : List UInt8 := l.flatMap frameOf

theorem path_frames (r : List UInt8) : ∀ (l : List (List UInt8)) (a : List UInt8), (∀ y, y ∈ l → y.length ≤ 65536) → PathF (a ++ (framesOf l ++ r)) a.length (tells a.length l) (a.length + (framesOf l).length)
  | [], a, _ => by simp [framesOf, tells, PathF]
  | y :: l, a, h => by
    refine ⟨y.length + 8, ?_, rfl, ?_⟩
    · rw [List.drop_left]
      simp only [framesOf, List.flatMap_cons, List.append_assoc]
      exact nextF_frame y _ (h y (by simp))
    · have := path_frames r l (a ++ frameOf y) (fun z hz => h z (by simp [hz]))
      simp only [List.length_append, frameOf_len, framesOf, List.flatMap_cons, List.append_assoc] at this ⊢
      rw [← Nat.add_assoc] at this
      simpa [Nat.add_assoc] using this

theorem tells_bodies : ∀ (p : Nat) (l : List (List UInt8)), (tells p l).map Prod.fst = l
  | _, [] => rfl
  | p, y :: ys => by simp [tells, tells_bodies]

theorem last_map : ∀ (xs : List Fram), lastAt xs = ((xs.map Fram.tell).getLast?.map Prod.snd).getD 0 := by
  intro xs
  rw [List.getLast?_map]
  unfold lastAt
  cases xs.getLast? <;> rfl

theorem path_last {b : List UInt8} : ∀ {xs : List (List UInt8 × Nat)} {p q : Nat}, PathF b p xs q → (xs.getLast?.map Prod.snd).getD p = q
  | [], p, q, h => by cases (h : p = q); rfl
  | [x], p, q, ⟨k, _, h2, h3⟩ => by cases (h3 : x.2 = q); rfl
  | x :: y :: xs, p, q, ⟨k, _, h2, h3⟩ => by
    have := path_last h3
    rw [List.getLast?_cons_cons]
    have hne : ((y :: xs).getLast?) = some ((y :: xs).getLast (by simp)) := List.getLast?_eq_some_getLast (by simp)
    rw [hne] at this ⊢
    simpa using this

/-- All of some frames, and of what stands behind them -/
theorem allF_frames {l : List (List UInt8)} {r : List UInt8} {xs : List Fram} (h : AllF (framesOf l ++ r) xs) (hl : ∀ y, y ∈ l → y.length ≤ 65536) (hr : (nextF r).2.2 ≠ 0) :
    xs.map Fram.tell = tells 0 l ∧ lastAt xs = (framesOf l).length := by
  have h0 := path_frames r l [] hl
  simp only [List.nil_append, List.length_nil, Nat.zero_add] at h0
  obtain ⟨e1, e2⟩ := PathF.det h.1 h0 h.2.2 (by rw [List.drop_left]; exact hr)
  exact ⟨e1, e2⟩

theorem allF_bodies {l : List (List UInt8)} {r : List UInt8} {xs : List Fram} (h : AllF (framesOf l ++ r) xs) (hl : ∀ y, y ∈ l → y.length ≤ 65536) (hr : (nextF r).2.2 ≠ 0) : xs.map Fram.body = l := by
  have := (allF_frames h hl hr).1
  have h2 := congrArg (List.map Prod.fst) this
  rw [tells_bodies, List.map_map] at h2
  exact h2

theorem nextF_zeros : nextF [0, 0, 0, 0, 0, 0, 0, 0] = ([], 0, 2) := by decide +kernel
end Go.Proofs.Ytegkcbkgoncnbaa
