/- The sum of bytes (B1), as plain words on lists. -/
namespace Go.Proofs.Ythaoibgcgkmnbaa.S

/-- the words K -/
def KS : List UInt32 := [
  0x428a2f98, 0x71374491, 0xb5c0fbcf, 0xe9b5dba5, 0x3956c25b, 0x59f111f1, 0x923f82a4, 0xab1c5ed5,
  0xd807aa98, 0x12835b01, 0x243185be, 0x550c7dc3, 0x72be5d74, 0x80deb1fe, 0x9bdc06a7, 0xc19bf174,
  0xe49b69c1, 0xefbe4786, 0x0fc19dc6, 0x240ca1cc, 0x2de92c6f, 0x4a7484aa, 0x5cb0a9dc, 0x76f988da,
  0x983e5152, 0xa831c66d, 0xb00327c8, 0xbf597fc7, 0xc6e00bf3, 0xd5a79147, 0x06ca6351, 0x14292967,
  0x27b70a85, 0x2e1b2138, 0x4d2c6dfc, 0x53380d13, 0x650a7354, 0x766a0abb, 0x81c2c92e, 0x92722c85,
  0xa2bfe8a1, 0xa81a664b, 0xc24b8b70, 0xc76c51a3, 0xd192e819, 0xd6990624, 0xf40e3585, 0x106aa070,
  0x19a4c116, 0x1e376c08, 0x2748774c, 0x34b0bcb5, 0x391c0cb3, 0x4ed8aa4a, 0x5b9cca4f, 0x682e6ff3,
  0x748f82ee, 0x78a5636f, 0x84c87814, 0x8cc70208, 0x90befffa, 0xa4506ceb, 0xbef9a3f7, 0xc67178f2]

/-- eight words -/
structure St where
  a : UInt32
  b : UInt32
  c : UInt32
  d : UInt32
  e : UInt32
  f : UInt32
  g : UInt32
  h : UInt32
  deriving DecidableEq
def St.list (s : St) : List UInt32 := [s.a, s.b, s.c, s.d, s.e, s.f, s.g, s.h]
def H0 : St := ⟨0x6a09e667, 0xbb67ae85, 0x3c6ef372, 0xa54ff53a, 0x510e527f, 0x9b05688c, 0x1f83d9ab, 0x5be0cd19⟩
def St.add (s t : St) : St := ⟨s.a + t.a, s.b + t.b, s.c + t.c, s.d + t.d, s.e + t.e, s.f + t.f, s.g + t.g, s.h + t.h⟩

/-- turned to the right by n bits, n from 1 to 31 -/
def rotr (x n : UInt32) : UInt32 := x >>> n ||| x <<< (32 - n)
def step (k w : UInt32) (s : St) : St :=
  let one := s.h + (rotr s.e 6 ^^^ rotr s.e 11 ^^^ rotr s.e 25) + (s.e &&& s.f ^^^ ~~~s.e &&& s.g) + k + w
  let two := (rotr s.a 2 ^^^ rotr s.a 13 ^^^ rotr s.a 22) + (s.a &&& s.b ^^^ s.a &&& s.c ^^^ s.b &&& s.c)
  ⟨one + two, s.a, s.b, s.c, s.d + one, s.e, s.f, s.g⟩

/-- four bytes as a word -/
def be32 (a b c d : UInt8) : UInt32 := UInt32.ofNat (((a.toNat * 256 + b.toNat) * 256 + c.toNat) * 256 + d.toNat)
def word (b : List UInt8) (t : Nat) : UInt32 := be32 (b.getD (4 * t) 0) (b.getD (4 * t + 1) 0) (b.getD (4 * t + 2) 0) (b.getD (4 * t + 3) 0)
def nextW (x y u v : UInt32) : UInt32 := (rotr y 17 ^^^ rotr y 19 ^^^ y >>> 10) + u + (rotr x 7 ^^^ rotr x 18 ^^^ x >>> 3) + v
/-- the first n words of a block's schedule -/
def sched (b : List UInt8) : Nat → List UInt32
  | 0 => []
  | n + 1 =>
    let w := sched b n
    w ++ [if n < 16 then word b n else nextW (w.getD (n - 15) 0) (w.getD (n - 2) 0) (w.getD (n - 7) 0) (w.getD (n - 16) 0)]
def rounds (w : List UInt32) (s : St) : Nat → St
  | 0 => s
  | n + 1 => step (KS.getD n 0) (w.getD n 0) (rounds w s n)
def blockF (s : St) (b : List UInt8) : St := s.add (rounds (sched b 64) s 64)

def absorb : Nat → St → List UInt8 → St
  | 0, s, _ => s
  | n + 1, s, l => absorb n (blockF s (l.take 64)) (l.drop 64)
/-- what all full blocks of bytes come to -/
def hs (l : List UInt8) : St := absorb (l.length / 64) H0 l
def be64 (n : Nat) : List UInt8 := [UInt8.ofNat (n / 256 ^ 7), UInt8.ofNat (n / 256 ^ 6), UInt8.ofNat (n / 256 ^ 5), UInt8.ofNat (n / 256 ^ 4), UInt8.ofNat (n / 256 ^ 3), UInt8.ofNat (n / 256 ^ 2), UInt8.ofNat (n / 256), UInt8.ofNat n]
/-- what stands behind n bytes -/
def tail (n : Nat) : List UInt8 := 128 :: List.replicate ((119 - n % 64) % 64) 0
def padded (l : List UInt8) : List UInt8 := l ++ (tail l.length ++ be64 (8 * l.length))
def be4 (x : UInt32) : List UInt8 := [UInt8.ofNat (x.toNat / 16777216), UInt8.ofNat (x.toNat / 65536), UInt8.ofNat (x.toNat / 256), UInt8.ofNat x.toNat]
def digest (s : St) : List UInt8 := s.list.flatMap be4
/-- the sum of bytes -/
def sha (l : List UInt8) : List UInt8 := digest (hs (padded l))

theorem absorb_app : ∀ (n : Nat) (s : St) (l : List UInt8) (m : Nat) (c : List UInt8), l.length = 64 * n → absorb (n + m) s (l ++ c) = absorb m (absorb n s l) c
  | 0, s, l, m, c, h => by
    obtain rfl : l = [] := List.length_eq_zero_iff.1 (by omega)
    simp [absorb]
  | n + 1, s, l, m, c, h => by
    rw [Nat.add_right_comm]
    simp only [absorb]
    rw [List.take_append_of_le_length (by omega), List.drop_append_of_le_length (by omega)]
    exact absorb_app n _ _ m c (by rw [List.length_drop]; omega)
theorem absorb_more : ∀ (n : Nat) (s : St) (l c : List UInt8), 64 * n ≤ l.length → absorb n s (l ++ c) = absorb n s l
  | 0, s, l, c, _ => rfl
  | n + 1, s, l, c, h => by
    simp only [absorb]
    rw [List.take_append_of_le_length (by omega), List.drop_append_of_le_length (by omega)]
    exact absorb_more n _ _ c (by rw [List.length_drop]; omega)
/-- a block more -/
theorem hs_block {l c : List UInt8} (h : l.length % 64 + c.length = 64) : hs (l ++ c) = blockF (hs l) (l.drop (64 * (l.length / 64)) ++ c) := by
  obtain ⟨n, hn⟩ : ∃ n, n = l.length / 64 := ⟨_, rfl⟩
  have e : (l ++ c).length / 64 = n + 1 := by rw [List.length_append]; omega
  unfold hs
  rw [e, ← hn]
  have hsp : l ++ c = l.take (64 * n) ++ (l.drop (64 * n) ++ c) := by rw [← List.append_assoc, List.take_append_drop]
  rw [hsp, absorb_app n H0 _ 1 _ (by rw [List.length_take]; omega)]
  have h2 : absorb n H0 l = absorb n H0 (l.take (64 * n)) := by
    conv => lhs; rw [← List.take_append_drop (64 * n) l]
    exact absorb_more n H0 _ _ (by rw [List.length_take]; omega)
  rw [h2]
  simp only [absorb]
  rw [List.take_of_length_le (l := List.drop (64 * n) l ++ c) (by rw [List.length_append, List.length_drop]; omega)]
/-- less than a block more -/
theorem hs_part {l c : List UInt8} (h : l.length % 64 + c.length < 64) : hs (l ++ c) = hs l := by
  have e : (l ++ c).length / 64 = l.length / 64 := by rw [List.length_append]; omega
  unfold hs
  rw [e]
  exact absorb_more _ _ _ _ (by omega)
theorem hs_nil : hs [] = H0 := rfl
theorem sched_len (b : List UInt8) (n : Nat) : (sched b n).length = n := by
  induction n with
  | zero => rfl
  | succ n ih => simp [sched, ih]
theorem sched_get (b : List UInt8) : ∀ (n m t : Nat), t < n → n ≤ m → (sched b m).getD t 0 = (sched b n).getD t 0 := by
  intro n m t ht hm
  induction m with
  | zero => omega
  | succ m ih =>
    by_cases h : n = m + 1
    · rw [h]
    · rw [← ih (by omega)]
      simp only [sched, List.getD_eq_getElem?_getD]
      rw [List.getElem?_append_left (by rw [sched_len]; omega)]
theorem KS_len : KS.length = 64 := rfl
theorem be4_len (x : UInt32) : (be4 x).length = 4 := rfl
theorem digest_len (s : St) : (digest s).length = 32 := rfl
theorem sha_len (l : List UInt8) : (sha l).length = 32 := rfl

set_option maxRecDepth 100000 in
theorem sha_nil : sha [] = [227, 176, 196, 66, 152, 252, 28, 20, 154, 251, 244, 200, 153, 111, 185, 36, 39, 174, 65, 228, 100, 155, 147, 76, 164, 149, 153, 27, 120, 82, 184, 85] := by decide +kernel
set_option maxRecDepth 100000 in
theorem sha_abc : sha [97, 98, 99] = [186, 120, 22, 191, 143, 1, 207, 234, 65, 65, 64, 222, 93, 174, 34, 35, 176, 3, 97, 163, 150, 23, 122, 156, 180, 16, 255, 97, 242, 0, 21, 173] := by decide +kernel
end Go.Proofs.Ythaoibgcgkmnbaa.S
