/- Plain facts on the bytes of a number (A1): no program in sight. -/
import Derived.Below
namespace Go.Proofs.Ytimmgaifhkhhhaa

/-- the bytes of a number, seven bits each, the least first -/
def enc (v : Nat) : List UInt8 := if v < 128 then [UInt8.ofNat v] else UInt8.ofNat (v % 128 + 128) :: enc (v / 128)
decreasing_by omega

theorem enc_small {v : Nat} (h : v < 128) : enc v = [UInt8.ofNat v] := by rw [enc, if_pos h]
theorem enc_great {v : Nat} (h : 128 ≤ v) : enc v = UInt8.ofNat (v % 128 + 128) :: enc (v / 128) := by rw [enc, if_neg (by omega)]

theorem enc_pos (v : Nat) : 1 ≤ (enc v).length := by
  rw [enc]; split <;> simp

/-- a number below 128^k has k bytes at most (k from 1) -/
theorem enc_le (k : Nat) : ∀ v, v < 128 ^ (k + 1) → (enc v).length ≤ k + 1 := by
  induction k with
  | zero => intro v h; rw [enc_small (by simpa using h)]; simp
  | succ k ih =>
    intro v h
    by_cases hv : v < 128
    · rw [enc_small hv]; simp
    · rw [enc_great (by omega)]
      have : v / 128 < 128 ^ (k + 1) := by
        rw [Nat.div_lt_iff_lt_mul (by omega)]
        rw [Nat.pow_succ] at h; exact h
      have := ih _ this
      simp only [List.length_cons]; omega

theorem enc_le10 {v : Nat} (h : v < 18446744073709551616) : (enc v).length ≤ 10 :=
  enc_le 9 v (Nat.lt_of_lt_of_le h (by decide))

theorem enc_mono (n : Nat) : ∀ v w, v ≤ n → w ≤ v → (enc w).length ≤ (enc v).length := by
  induction n using Nat.strongRecOn with
  | _ n ih =>
    intro v w hn h
    by_cases hv : v < 128
    · rw [enc_small hv, enc_small (by omega)]; simp
    · rw [enc_great (by omega : 128 ≤ v)]
      by_cases hw : w < 128
      · rw [enc_small hw]; simp
      · rw [enc_great (by omega : 128 ≤ w)]
        simp only [List.length_cons]
        have := ih (v / 128) (by omega) (v / 128) (w / 128) (by omega) (by omega)
        omega

/-- what a reader that stands at byte i, with acc so far, tells of the bytes that are left: the number and where it ends -/
def getFrom (i acc : Nat) : List UInt8 → Option (Nat × Nat)
  | [] => none
  | c :: r =>
    if 10 ≤ i ∨ (i = 9 ∧ 1 < c.toNat) ∨ (0 < i ∧ c.toNat = 0) then none
    else if c.toNat < 128 then some (acc + c.toNat % 128 * 128 ^ i, i + 1)
    else getFrom (i + 1) (acc + c.toNat % 128 * 128 ^ i) r

def getNum (l : List UInt8) : Option (Nat × Nat) := getFrom 0 0 l

theorem getFrom_bounds : ∀ (l : List UInt8) (i acc v n : Nat), getFrom i acc l = some (v, n) → i < n ∧ n ≤ 10 ∧ n ≤ i + l.length := by
  intro l
  induction l with
  | nil => intro i acc v n h; simp [getFrom] at h
  | cons c r ih =>
    intro i acc v n h
    simp only [getFrom] at h
    split at h
    · simp at h
    · split at h
      · simp at h; simp only [List.length_cons]; omega
      · have := ih _ _ _ _ h; simp only [List.length_cons]; omega

theorem ofNat_toNat_of_lt {n : Nat} (h : n < 256) : (UInt8.ofNat n).toNat = n := by
  simp only [UInt8.toNat_ofNat']; omega

/-- ahead of what is read: what has been read -/
theorem getFrom_enc : ∀ (v i acc : Nat) (r : List UInt8), i < 10 → v < 128 ^ (9 - i) * 2 → (0 < i → 0 < v) →
    getFrom i acc (enc v ++ r) = some (acc + v * 128 ^ i, i + (enc v).length) := by
  intro v
  induction v using Nat.strongRecOn with
  | _ v ih =>
    intro i acc r hi hv h0
    by_cases h : v < 128
    · rw [enc_small h]
      have e : (UInt8.ofNat v).toNat = v := ofNat_toNat_of_lt (by omega)
      simp only [List.cons_append, List.nil_append, getFrom, e, List.length_singleton]
      have hm : v % 128 = v := Nat.mod_eq_of_lt h
      rw [if_neg, if_pos h, hm]
      intro hc
      rcases hc with hc | ⟨rfl, hc⟩ | ⟨hc, hc2⟩
      · omega
      · simp at hv; omega
      · have := h0 hc; omega
    · rw [enc_great (by omega)]
      have e : (UInt8.ofNat (v % 128 + 128)).toNat = v % 128 + 128 := ofNat_toNat_of_lt (by omega)
      have hi9 : i < 9 := by
        rcases Nat.lt_or_ge i 9 with h9 | h9
        · exact h9
        · have : i = 9 := by omega
          subst this; simp at hv; omega
      simp only [List.cons_append, getFrom, e, List.length_cons]
      rw [if_neg, if_neg (by omega)]
      · have hp : 128 ^ (9 - i) = 128 ^ (9 - (i + 1)) * 128 := by
          rw [← Nat.pow_succ]; congr 1; omega
        rw [ih (v / 128) (by omega) (i + 1) _ r (by omega) (by rw [hp] at hv; omega) (by intro _; omega)]
        have : (v % 128 + 128) % 128 = v % 128 := by omega
        rw [this, Nat.pow_succ]
        congr 2
        · have h3 : v % 128 * 128 ^ i + v / 128 * (128 ^ i * 128) = v * 128 ^ i := by
            have : v / 128 * (128 ^ i * 128) = (128 * (v / 128)) * 128 ^ i := by
              rw [Nat.mul_comm (128 ^ i) 128, ← Nat.mul_assoc, Nat.mul_comm (v / 128) 128]
            rw [this, ← Nat.add_mul]; congr 1; omega
          omega
        · omega
      · intro hc; omega

theorem getNum_enc {v : Nat} (h : v < 18446744073709551616) (r : List UInt8) : getNum (enc v ++ r) = some (v, (enc v).length) := by
  have := getFrom_enc v 0 0 r (by omega) (Nat.lt_of_lt_of_le h (by decide)) (by omega)
  simpa [getNum] using this

/-- what is read has just these bytes -/
theorem getFrom_only : ∀ (l : List UInt8) (i acc v n : Nat), acc < 128 ^ i → getFrom i acc l = some (v, n) →
    ∃ u, v = acc + u * 128 ^ i ∧ (0 < i → 0 < u) ∧ enc u = l.take (n - i) ∧ u < 128 ^ (9 - i) * 2 := by
  intro l
  induction l with
  | nil => intro i acc v n _ h; simp [getFrom] at h
  | cons c r ih =>
    intro i acc v n ha h
    have hb := getFrom_bounds _ _ _ _ _ h
    have hc256 : c.toNat < 256 := c.toNat_lt
    simp only [getFrom] at h
    split at h
    · simp at h
    · rename_i hno
      split at h
      · rename_i hc
        simp at h
        obtain ⟨h1, h2⟩ := h
        subst h2
        have hm : c.toNat % 128 = c.toNat := Nat.mod_eq_of_lt hc
        rw [hm] at h1
        refine ⟨c.toNat, by omega, by omega, ?_, ?_⟩
        · rw [enc_small hc]
          have : i + 1 - i = 1 := by omega
          rw [this]; simp
        · have : i = 9 ∨ i < 9 := by omega
          rcases this with rfl | h9
          · simp; omega
          · have : 128 ^ 1 ≤ 128 ^ (9 - i) := Nat.pow_le_pow_right (by omega) (by omega)
            omega
      · rename_i hc
        have hacc : acc + c.toNat % 128 * 128 ^ i < 128 ^ (i + 1) := by
          rw [Nat.pow_succ]
          have : c.toNat % 128 * 128 ^ i ≤ 127 * 128 ^ i := Nat.mul_le_mul_right _ (by omega)
          omega
        have hb2 := getFrom_bounds _ _ _ _ _ h
        obtain ⟨u, hu1, hu2, hu3, hu4⟩ := ih _ _ _ _ hacc h
        have hi9 : i < 9 := by omega
        refine ⟨c.toNat % 128 + 128 * u, ?_, ?_, ?_, ?_⟩
        · rw [hu1, Nat.pow_succ, Nat.add_mul, Nat.mul_comm 128 u, Nat.mul_assoc, Nat.mul_comm 128]
          omega
        · intro _; have := hu2 (by omega); omega
        · have := hu2 (by omega)
          rw [enc_great (by omega)]
          have e1 : (c.toNat % 128 + 128 * u) % 128 + 128 = c.toNat := by omega
          have e2 : (c.toNat % 128 + 128 * u) / 128 = u := by omega
          rw [e1, e2, hu3]
          have : n - i = (n - (i + 1)) + 1 := by omega
          rw [this, List.take_succ_cons]
          congr 1
          exact UInt8.toNat_inj.1 (by rw [ofNat_toNat_of_lt hc256])
        · have hp : 128 ^ (9 - i) = 128 ^ (9 - (i + 1)) * 128 := by
            rw [← Nat.pow_succ]; congr 1; omega
          rw [hp]; omega

theorem getNum_only {l : List UInt8} {v n : Nat} (h : getNum l = some (v, n)) : enc v = l.take n ∧ v < 18446744073709551616 ∧ 1 ≤ n ∧ n ≤ 10 ∧ n ≤ l.length := by
  have hb := getFrom_bounds _ _ _ _ _ h
  obtain ⟨u, h1, _, h3, h4⟩ := getFrom_only l 0 0 v n (by simp) h
  simp at h1
  subst h1
  refine ⟨by simpa using h3, Nat.lt_of_lt_of_le h4 (by decide), by omega, by omega, by omega⟩

/-- a beginning of a number is none -/
theorem getFrom_short : ∀ (l : List UInt8) (i acc v n k : Nat), getFrom i acc l = some (v, n) → k < n - i → getFrom i acc (l.take k) = none := by
  intro l
  induction l with
  | nil => intro i acc v n k h; simp [getFrom] at h
  | cons c r ih =>
    intro i acc v n k h hk
    match k with
    | 0 => simp [getFrom]
    | k + 1 =>
      simp only [getFrom, List.take_succ_cons] at h ⊢
      split at h
      · simp at h
      · rename_i hno
        rw [if_neg hno]
        split at h
        · simp at h; omega
        · rename_i hc
          rw [if_neg hc]
          exact ih _ _ _ _ _ h (by omega)

theorem getNum_short {l : List UInt8} {v n k : Nat} (h : getNum l = some (v, n)) (hk : k < n) : getNum (l.take k) = none :=
  getFrom_short l 0 0 v n k h (by omega)

end Go.Proofs.Ytimmgaifhkhhhaa
