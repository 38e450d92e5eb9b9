/- What Next tells stands there. Plain Lean. -/
import Derived.Test.YtegkcbkgoncnbaaAll
import Derived.Test.YtegkcbkgoncnbaaPlain
namespace Go.Proofs.Ytegkcbkgoncnbaa
open Go.RowKit

theorem fix4_fold4 {l : List UInt8} (h : l.length = 4) : fix4 (fold4 l) = l := by
  match l, h with
  | [a, b, c, d], _ =>
    have ha := a.toNat_lt; have hb := b.toNat_lt; have hc := c.toNat_lt; have hd := d.toNat_lt
    have e : fold4 [a, b, c, d] = ((a.toNat * 256 + b.toNat) * 256 + c.toNat) * 256 + d.toNat := by simp [fold4]
    rw [e]
    unfold fix4
    have k1 : ∀ (x : UInt8) (n : Nat), n % 256 = x.toNat → UInt8.ofNat n = x := fun x n hn => by
      apply UInt8.toNat_inj.1
      rw [UInt8.toNat_ofNat', ← hn]
    rw [k1 a _ (by omega), k1 b _ (by omega), k1 c _ (by omega), k1 d _ (by omega)]

theorem nextF_told {r body : List UInt8} {k : Nat} (h : nextF r = (body, k, 0)) : k = body.length + 8 ∧ body.length ≤ 65536 ∧ ∃ t, r = frameOf body ++ t := by
  unfold nextF at h
  split at h
  · simp at h
  · split at h
    · simp at h
    · split at h
      · simp at h
      · split at h
        · rename_i h1 h2 h3 h4
          simp only [Prod.mk.injEq, and_true] at h
          obtain ⟨hb, hk⟩ := h
          have hbl : body.length = fold4 (r.take 4) := by rw [← hb, List.length_take, List.length_drop]; omega
          rw [hb] at h4
          have e1 : fix4 body.length = r.take 4 := by rw [hbl]; exact fix4_fold4 (by rw [List.length_take]; omega)
          have e2 : fix4 (crc (r.take 4 ++ body)) = (r.drop 4).take 4 := by rw [← h4]; exact fix4_fold4 (by rw [List.length_take, List.length_drop]; omega)
          refine ⟨by omega, by omega, (r.drop 8).drop body.length, ?_⟩
          unfold frameOf
          rw [e1, e2, List.append_assoc, List.append_assoc]
          have e3 : body ++ (r.drop 8).drop body.length = r.drop 8 := by
            rw [← hb]
            rw [show ((r.drop 8).take (fold4 (r.take 4))).length = fold4 (r.take 4) by rw [hb, hbl]]
            exact List.take_append_drop _ _
          rw [e3]
          have e4 : (r.drop 4).take 4 ++ r.drop 8 = r.drop 4 := by
            have := List.take_append_drop 4 (r.drop 4)
            rwa [List.drop_drop] at this
          rw [e4, List.take_append_drop]
        · simp at h

theorem turned_told {b : List UInt8} {j : Nat} {t x : UInt8} (ht : t ≠ 0) (hx : (frameOf b)[j]? = some x) (k : Nat) : nextF ((frameOf b).set j (x ^^^ t)) ≠ (b, k, 0) := by
  intro h
  obtain ⟨_, _, r, hr⟩ := nextF_told h
  have hl := congrArg List.length hr
  rw [List.length_set, List.length_append] at hl
  obtain rfl : r = [] := List.length_eq_zero_iff.1 (by omega)
  rw [List.append_nil] at hr
  have hj := (List.getElem?_eq_some_iff.1 hx).1
  have h2 := congrArg (fun l : List UInt8 => l[j]?) hr
  simp only [List.getElem?_set, hx, hj, if_true, Option.some.injEq] at h2
  apply ht
  have h3 : x ^^^ (x ^^^ t) = x ^^^ x := by rw [h2]
  rwa [← UInt8.xor_assoc, UInt8.xor_self, UInt8.zero_xor] at h3

theorem PathF.le {b : List UInt8} : ∀ {xs : List (List UInt8 × Nat)} {p q : Nat}, PathF b p xs q → p ≤ q := fun h => by
  have := h.few
  omega

/-- the first of some frames -/
theorem allF_first {a r : List UInt8} {xs : List Fram} (h : AllF (frameOf a ++ r) xs) (ha : a.length ≤ 65536) :
    ∃ x ys, xs = x :: ys ∧ x.body = a ∧ a.length + 8 ≤ lastAt xs ∧ ∀ y zs, ys = y :: zs → ∃ k, nextF r = (y.body, k, 0) := by
  obtain ⟨hp, _, hne⟩ := h
  have h0 := nextF_frame a r ha
  match xs, hp with
  | [], hp =>
    have e : 0 = lastAt [] := hp
    rw [← e] at hne
    simp only [List.drop_zero, h0] at hne
    exact (hne rfl).elim
  | x :: ys, ⟨k, h1, h2, h3⟩ =>
    simp only [List.drop_zero, h0, Prod.mk.injEq, and_true] at h1
    obtain ⟨e1, e2⟩ := h1
    subst e2
    have hat : (Fram.tell x).2 = a.length + 8 := by rw [h2]; omega
    rw [hat] at h3
    refine ⟨x, ys, rfl, e1.symm, h3.le, ?_⟩
    rintro y zs rfl
    obtain ⟨k', g1, _, _⟩ := h3
    rw [List.drop_append_of_le_length (by rw [frameOf_len]; omega), List.drop_of_length_le (by rw [frameOf_len]; omega), List.nil_append] at g1
    exact ⟨k', g1⟩
end Go.Proofs.Ytegkcbkgoncnbaa
