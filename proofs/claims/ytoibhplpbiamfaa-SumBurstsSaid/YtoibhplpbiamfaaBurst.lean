/- The check and bytes that are turned: plain Lean. -/
import Derived.Test.YtoibhplpbiamfaaCrc
namespace Go.Proofs.Ytoibhplpbiamfaa

theorem crcBit_xor (c y : Nat) : crcBit (c ^^^ 2 * y) = crcBit c ^^^ y := by
  have h1 : (c ^^^ 2 * y) / 2 = c / 2 ^^^ y := by rw [Nat.xor_div_two, Nat.mul_div_cancel_left _ (by decide)]
  have h2 : (c ^^^ 2 * y) % 2 = c % 2 := by
    have := Nat.xor_mod_two_pow (a := c) (b := 2 * y) (n := 1)
    rw [Nat.pow_one] at this
    rw [this, Nat.mul_mod_right, Nat.xor_zero]
  unfold crcBit
  rw [h1, h2]
  split
  · rw [Nat.xor_assoc, Nat.xor_comm y, ← Nat.xor_assoc]
  · rfl
theorem crcSteps_xor (n : Nat) : ∀ c y : Nat, crcSteps n (c ^^^ 2 ^ n * y) = crcSteps n c ^^^ y := by
  induction n with
  | zero => intro c y; rw [Nat.pow_zero, Nat.one_mul]; rfl
  | succ n ih =>
    intro c y
    simp only [crcSteps]
    rw [Nat.pow_succ, Nat.mul_assoc, ih, crcBit_xor]
theorem crcSteps_add (m n : Nat) (c : Nat) : crcSteps (m + n) c = crcSteps m (crcSteps n c) := by
  induction m with
  | zero => rw [Nat.zero_add]; rfl
  | succ m ih => rw [Nat.succ_add]; simp only [crcSteps]; rw [ih]
theorem crcBit_inj {a b : Nat} (ha : U32 a) (hb : U32 b) (h : crcBit a = crcBit b) : a = b := by
  unfold U32 at ha hb
  have key : ∀ x y : Nat, x < 4294967296 → y < 4294967296 → x / 2 ^^^ 3988292384 ≠ y / 2 := by
    intro x y hx hy e
    have h1 : x / 2 ^^^ y / 2 = 3988292384 := by rw [← e, ← Nat.xor_assoc, Nat.xor_self, Nat.zero_xor]
    have h2 : x / 2 ^^^ y / 2 < 2 ^ 31 := Nat.xor_lt_two_pow (by omega) (by omega)
    omega
  unfold crcBit at h
  split at h <;> split at h
  · rename_i h1 h2
    have : a / 2 = b / 2 := by
      have e := congrArg (· ^^^ 3988292384) h
      simp only [Nat.xor_assoc, Nat.xor_self, Nat.xor_zero] at e
      exact e
    omega
  · exact absurd h (key a b ha hb)
  · exact absurd h.symm (key b a hb ha)
  · omega
theorem crcSteps_inj (n : Nat) : ∀ {a b : Nat}, U32 a → U32 b → crcSteps n a = crcSteps n b → a = b := by
  induction n with
  | zero => intro a b _ _ h; exact h
  | succ n ih =>
    intro a b ha hb h
    simp only [crcSteps] at h
    exact ih ha hb (crcBit_inj (crcSteps_lt n ha) (crcSteps_lt n hb) h)
theorem xor_cancel {a b x : Nat} (h : a ^^^ x = b ^^^ x) : a = b := by
  have e := congrArg (· ^^^ x) h
  simp only [Nat.xor_assoc, Nat.xor_self, Nat.xor_zero] at e
  exact e
theorem crcFrom_inj (l : List UInt8) : ∀ {a b : Nat}, U32 a → U32 b → crcFrom a l = crcFrom b l → a = b := by
  induction l with
  | nil => intro a b _ _ h; exact h
  | cons x l ih =>
    intro a b ha hb h
    have := ih (crcByte_lt ha x) (crcByte_lt hb x) h
    exact xor_cancel (crcSteps_inj 8 (xor_u32 ha (u8_lt x)) (xor_u32 hb (u8_lt x)) this)
/-- four bytes as a word, the first the least -/
def wd (x y z u : UInt8) : Nat := x.toNat ^^^ 2 ^ 8 * (y.toNat ^^^ 2 ^ 8 * (z.toNat ^^^ 2 ^ 8 * u.toNat))
theorem crcFrom_four (s : Nat) (x y z u : UInt8) : crcFrom s [x, y, z, u] = crcSteps 32 (s ^^^ wd x y z u) := by
  have e : crcFrom s [x, y, z, u] = crcSteps 8 (crcSteps 8 (crcSteps 8 (crcSteps 8 (s ^^^ x.toNat) ^^^ y.toNat) ^^^ z.toNat) ^^^ u.toNat) := rfl
  rw [e]
  unfold wd
  rw [show (32 : Nat) = 8 + (8 + (8 + 8)) from rfl, crcSteps_add, crcSteps_add, crcSteps_add, ← Nat.xor_assoc, crcSteps_xor, ← Nat.xor_assoc, crcSteps_xor, ← Nat.xor_assoc, crcSteps_xor]
theorem mul_xor_byte (x : UInt8) (z : Nat) : (x.toNat ^^^ 2 ^ 8 * z) % 2 ^ 8 = x.toNat ∧ (x.toNat ^^^ 2 ^ 8 * z) / 2 ^ 8 = z := by
  have hx := x.toNat_lt
  constructor
  · rw [Nat.xor_mod_two_pow, Nat.mul_mod_right, Nat.xor_zero, Nat.mod_eq_of_lt hx]
  · rw [Nat.xor_div_two_pow, Nat.mul_div_cancel_left _ (by decide), Nat.div_eq_of_lt hx, Nat.zero_xor]
theorem wd_inj {x y z u x' y' z' u' : UInt8} (h : wd x y z u = wd x' y' z' u') : x = x' ∧ y = y' ∧ z = z' ∧ u = u' := by
  unfold wd at h
  have s : ∀ {a b : UInt8} {m n : Nat}, a.toNat ^^^ 2 ^ 8 * m = b.toNat ^^^ 2 ^ 8 * n → a = b ∧ m = n := by
    intro a b m n e
    obtain ⟨p1, p2⟩ := mul_xor_byte a m
    obtain ⟨q1, q2⟩ := mul_xor_byte b n
    exact ⟨UInt8.toNat_inj.1 (by rw [← p1, ← q1, e]), by rw [← p2, ← q2, e]⟩
  obtain ⟨e1, h⟩ := s h
  obtain ⟨e2, h⟩ := s h
  obtain ⟨e3, h⟩ := s h
  exact ⟨e1, e2, e3, UInt8.toNat_inj.1 h⟩
theorem crcFrom_app (c : Nat) (a b : List UInt8) : crcFrom c (a ++ b) = crcFrom (crcFrom c a) b := by simp [crcFrom]
theorem wd_lt (x y z u : UInt8) : U32 (wd x y z u) := by
  have hx := x.toNat_lt; have hy := y.toNat_lt; have hz := z.toNat_lt; have hu := u.toNat_lt
  unfold wd U32
  have h1 : z.toNat ^^^ 2 ^ 8 * u.toNat < 2 ^ 16 := Nat.xor_lt_two_pow (by omega) (by omega)
  have h2 : y.toNat ^^^ 2 ^ 8 * (z.toNat ^^^ 2 ^ 8 * u.toNat) < 2 ^ 24 := Nat.xor_lt_two_pow (by omega) (by omega)
  exact Nat.xor_lt_two_pow (n := 32) (by omega) (by omega)
theorem crc_burst {p q : List UInt8} {x y z u x' y' z' u' : UInt8} (h : crc (p ++ ([x, y, z, u] ++ q)) = crc (p ++ ([x', y', z', u'] ++ q))) : x = x' ∧ y = y' ∧ z = z' ∧ u = u' := by
  unfold crc at h
  have h1 := xor_cancel h
  have h0 : U32 4294967295 := by unfold U32; omega
  rw [crcFrom_app, crcFrom_app, crcFrom_app, crcFrom_app] at h1
  have hs := crcFrom_lt p h0
  have h2 := crcFrom_inj q (crcFrom_lt _ hs) (crcFrom_lt _ hs) h1
  rw [crcFrom_four, crcFrom_four] at h2
  have h3 := crcSteps_inj 32 (xor_u32 hs (wd_lt ..)) (xor_u32 hs (wd_lt ..)) h2
  rw [Nat.xor_comm, Nat.xor_comm (crcFrom 4294967295 p)] at h3
  exact wd_inj (xor_cancel h3)
end Go.Proofs.Ytoibhplpbiamfaa
