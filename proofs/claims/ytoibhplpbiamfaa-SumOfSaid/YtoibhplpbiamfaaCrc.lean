/- The check of bytes (B2): plain facts, and the walks of CRC and of the document's CRC. -/
import Derived.Test.YtoibhplpbiamfaaWa
namespace Go.Proofs.Ytoibhplpbiamfaa
open Go.RowKit

def crcBit (c : Nat) : Nat := if c % 2 = 1 then (c / 2) ^^^ 3988292384 else c / 2
def crcSteps : Nat → Nat → Nat
  | 0, c => c
  | n + 1, c => crcBit (crcSteps n c)
def crcByte (c x : Nat) : Nat := crcSteps 8 (c ^^^ x)
def crcFrom (c : Nat) (l : List UInt8) : Nat := l.foldl (fun c x => crcByte c x.toNat) c
def crc (l : List UInt8) : Nat := crcFrom 4294967295 l ^^^ 4294967295

def U32 (c : Nat) : Prop := c < 4294967296
theorem xor_u32 {a b : Nat} (ha : U32 a) (hb : U32 b) : U32 (a ^^^ b) := Nat.xor_lt_two_pow (n := 32) ha hb
theorem crcBit_lt {c : Nat} (h : U32 c) : U32 (crcBit c) := by
  have h2 : U32 (c / 2) := by unfold U32 at *; omega
  unfold crcBit; split
  · exact xor_u32 h2 (by unfold U32; omega)
  · exact h2
theorem crcSteps_lt {c : Nat} (n : Nat) (h : U32 c) : U32 (crcSteps n c) := by
  induction n with
  | zero => exact h
  | succ n ih => exact crcBit_lt ih
theorem u8_lt (x : UInt8) : U32 x.toNat := by have := x.toNat_lt; unfold U32; omega
theorem crcByte_lt {c : Nat} (h : U32 c) (x : UInt8) : U32 (crcByte c x.toNat) := crcSteps_lt 8 (xor_u32 h (u8_lt x))
theorem crcFrom_lt (l : List UInt8) : ∀ {c : Nat}, U32 c → U32 (crcFrom c l) := by
  induction l with
  | nil => intro c h; exact h
  | cons x l ih => intro c h; exact ih (crcByte_lt h x)
theorem crc_lt (l : List UInt8) : U32 (crc l) := xor_u32 (crcFrom_lt l (by unfold U32; omega)) (by unfold U32; omega)
theorem crcFrom_snoc (c : Nat) (l : List UInt8) (x : UInt8) : crcFrom c (l ++ [x]) = crcByte (crcFrom c l) x.toNat := by simp [crcFrom]

theorem and1 {c : Nat} (h : U32 c) : bits .and .u32 (c : Int) 1 = ((c % 2 : Nat) : Int) := by
  have := u32_and_nat c 1 h (by omega)
  rw [Nat.and_one_is_mod] at this; exact this
theorem xorI {a b : Nat} (ha : U32 a) (hb : U32 b) : bits .xor .u32 (a : Int) (b : Int) = ((a ^^^ b : Nat) : Int) := u32_xor_nat a b ha hb

theorem notI {d : Nat} (h : U32 d) : bits .xor .u32 IntKind.u32.max (d : Int) = ((d ^^^ 4294967295 : Nat) : Int) := by
  have e : IntKind.u32.max = ((4294967295 : Nat) : Int) := by decide +kernel
  rw [e, xorI (by unfold U32; omega) h, Nat.xor_comm]

set_option maxHeartbeats 1000000 in
set_option maxRecDepth 100000 in
theorem crc_any (A : Option Addr) (n c : Nat) (xs : List UInt8) (w : World) (hr : Rd w A n c 1 (bvs xs)) (hn : n ≤ 140737488351232) :
    Calls Try.prog 14 #[.slice A n c] w fun e w' => e = .returned (.int .u32 (crc xs : Nat)) ∧ w = w' := by
  have hxl := hr.len
  rw [bvs_len, Nat.mul_one] at hxl
  have HX := Lib.hid hxl; clear hxl
  have HR := Lib.hid hr; clear hr
  go_enter Try.func14, Try.ntmps14
  go_wp2
  go_loop [3, 8] (fun v i => ∃ (k d : Nat), v = .int .u32 d ∧ Hid (d = crcFrom 4294967295 (xs.take k)) ∧ i = .int .i64 k ∧ k ≤ n) (fun _ i => n - (intOf i).toNat)
  case atStart => exact ⟨0, _, rfl, Lib.hid rfl, rfl, by omega⟩
  case round =>
    obtain ⟨k, d, rfl, HD, rfl, hk⟩ := hrel
    by_cases hlt : k < n
    · have hkx : k < xs.length := by have := HX.out; omega
      obtain ⟨a, rfl, hc⟩ := HR.out.at k hkx
      obtain ⟨x, hx⟩ : ∃ x, x = xs[k] := ⟨_, rfl⟩
      rw [← hx] at hc
      have HS : Hid (crcFrom 4294967295 (xs.take (k + 1)) = crcByte d x.toNat) := Lib.hid (by rw [List.take_succ_eq_append_getElem hkx, crcFrom_snoc, hx, HD.out])
      have hdu : U32 d := by rw [HD.out]; exact crcFrom_lt _ (by unfold U32; omega)
      have HDU := Lib.hid hdu
      have hwr : IntKind.u32.wrap ((x.toNat : Nat) : Int) = ((x.toNat : Nat) : Int) := by have := x.toNat_lt; simp [IntKind.wrap, IntKind.bits, IntKind.signed]; omega
      have hxo := xorI hdu (u8_lt x)
      have HU0 : Hid (U32 (d ^^^ x.toNat)) := Lib.hid (xor_u32 hdu (u8_lt x))
      clear hdu hx
      obtain ⟨y, hy⟩ : ∃ y : Nat, y = x.toNat := ⟨_, rfl⟩
      rw [← hy] at hc hwr hxo HS HU0
      clear hy
      obtain ⟨z, hz⟩ : ∃ z : Nat, z = d ^^^ y := ⟨_, rfl⟩
      rw [← hz] at hxo HU0
      have HZ := Lib.hid hz; clear hz
      go_wp2
      go_loop [3, 16] (fun v i => ∃ (j e : Nat), v = .int .u32 e ∧ Hid (e = crcSteps j z) ∧ i = .int .i64 j ∧ j ≤ 8) (fun _ i => 8 - (intOf i).toNat)
      case atStart => exact ⟨0, z, by first | rfl | (rw [hxo]), Lib.hid rfl, rfl, by omega⟩
      case round =>
        clear hxo hwr
        obtain ⟨j, e, rfl, HE, rfl, hj⟩ := hrel
        by_cases hlt2 : j < 8
        · have heu : U32 e := by rw [HE.out]; exact crcSteps_lt _ HU0.out
          have he2 : U32 (e / 2) := by unfold U32 at *; omega
          have ha := and1 heu
          have hx2 : bits .xor .u32 ((e : Int) / 2) 3988292384 = ((e / 2 ^^^ 3988292384 : Nat) : Int) := by
            have := xorI he2 (b := 3988292384) (by unfold U32; omega)
            rw [← this]; congr 1
          have HB : Hid (crcSteps (j + 1) z = crcBit e) := Lib.hid (by rw [crcSteps, HE.out])
          clear heu he2
          by_cases hodd : e % 2 = 1
          · have HC : Hid (crcBit e = e / 2 ^^^ 3988292384) := Lib.hid (by unfold crcBit; rw [if_pos hodd])
            have h1 : (bits .and .u32 (e : Int) 1 == 1) = true := by rw [ha, hodd]; rfl
            clear hodd ha
            go_wp2
            go_round
            case rel => exact ⟨j + 1, _, rfl, Lib.hid (by rw [HB.out, HC.out]), by go_num, by omega⟩
            case measure => simp [intOf]; omega
          · have HC : Hid (crcBit e = e / 2) := Lib.hid (by unfold crcBit; rw [if_neg hodd])
            have h1 : (bits .and .u32 (e : Int) 1 == 1) = false := by rw [ha]; simp; omega
            clear hodd ha
            go_wp2
            go_round
            case rel => exact ⟨j + 1, e / 2, by go_num, Lib.hid (by rw [HB.out, HC.out]), by go_num, by omega⟩
            case measure => simp [intOf]; omega
        · have hj8 : j = 8 := by omega
          subst hj8
          go_wp2
          go_round
          case rel => exact ⟨k + 1, e, rfl, Lib.hid (by rw [HE.out, HS.out, HZ.out]; rfl), by go_num, by omega⟩
          case measure => simp [intOf]; omega
    · have hkn : k = n := by omega
      have HF : Hid (d = crcFrom 4294967295 xs) := Lib.hid (by rw [HD.out, List.take_of_length_le (by rw [HX.out]; omega)])
      have HN := Lib.hid (notI (d := d) (by rw [HD.out]; exact crcFrom_lt _ (by unfold U32; omega)))
      clear hkn
      go_wp2
      go_ret
      exact ⟨ret_eq (by rw [crc, ← HF.out, ← HN.out]; rfl), rfl⟩

set_option maxHeartbeats 1000000 in
set_option maxRecDepth 100000 in
theorem refCrc_any (s : ByteArray) (w : World) (hn : s.size ≤ 140737488351232) :
    Calls Try.prog 15 #[.string s] w fun e w' => e = .returned (.int .u32 (crc s.data.toList : Nat)) ∧ w = w' := by
  have HX := Lib.hid (size_list s)
  have HIX := Lib.hid (index_at s)
  obtain ⟨xs, hxs⟩ : ∃ xs, xs = s.data.toList := ⟨_, rfl⟩
  rw [← hxs] at HX ⊢
  have HXS := Lib.hid hxs; clear hxs
  go_enter Try.func15, Try.ntmps15
  go_wp2
  go_loop [3, 4] (fun v i => ∃ (k d : Nat), v = .int .u32 d ∧ Hid (d = crcFrom 4294967295 (xs.take k)) ∧ i = .int .i64 k ∧ k ≤ s.size) (fun _ i => s.size - (intOf i).toNat)
  case atStart => exact ⟨0, _, rfl, Lib.hid rfl, rfl, by omega⟩
  case round =>
    obtain ⟨k, d, rfl, HD, rfl, hk⟩ := hrel
    by_cases hlt : k < s.size
    · have hkx : k < xs.length := by have := HX.out; omega
      have hidx := fun W => HIX.out k (by rw [← HXS.out]; exact hkx) W
      simp only [← HXS.out] at hidx
      obtain ⟨x, hx⟩ : ∃ x, x = xs[k] := ⟨_, rfl⟩
      have HS : Hid (crcFrom 4294967295 (xs.take (k + 1)) = crcByte d x.toNat) := Lib.hid (by rw [List.take_succ_eq_append_getElem hkx, crcFrom_snoc, hx, HD.out])
      rw [← hx] at hidx
      have hdu : U32 d := by rw [HD.out]; exact crcFrom_lt _ (by unfold U32; omega)
      have hwr : IntKind.u32.wrap ((x.toNat : Nat) : Int) = ((x.toNat : Nat) : Int) := by have := x.toNat_lt; simp [IntKind.wrap, IntKind.bits, IntKind.signed]; omega
      have hxo := xorI hdu (u8_lt x)
      have HU0 : Hid (U32 (d ^^^ x.toNat)) := Lib.hid (xor_u32 hdu (u8_lt x))
      clear hdu hx
      obtain ⟨y, hy⟩ : ∃ y : Nat, y = x.toNat := ⟨_, rfl⟩
      rw [← hy] at hidx hwr hxo HS HU0
      clear hy
      obtain ⟨z, hz⟩ : ∃ z : Nat, z = d ^^^ y := ⟨_, rfl⟩
      rw [← hz] at hxo HU0
      have HZ := Lib.hid hz; clear hz
      have hidx1 := hidx w
      clear hidx
      go_wp2
      clear hidx1
      go_loop [3, 5] (fun v i => ∃ (j e : Nat), v = .int .u32 e ∧ Hid (e = crcSteps j z) ∧ i = .int .i64 j ∧ j ≤ 8) (fun _ i => 8 - (intOf i).toNat)
      case atStart => exact ⟨0, z, by first | rfl | (rw [hxo]), Lib.hid rfl, rfl, by omega⟩
      case round =>
        clear hxo hwr
        obtain ⟨j, e, rfl, HE, rfl, hj⟩ := hrel
        by_cases hlt2 : j < 8
        · have heu : U32 e := by rw [HE.out]; exact crcSteps_lt _ HU0.out
          have he2 : U32 (e / 2) := by unfold U32 at *; omega
          have hx2 : bits .xor .u32 ((e : Int) / 2) 3988292384 = ((e / 2 ^^^ 3988292384 : Nat) : Int) := by
            have := xorI he2 (b := 3988292384) (by unfold U32; omega)
            rw [← this]; congr 1
          have hw2 : IntKind.u32.wrap ((e : Int) / 2) = (e : Int) / 2 := by unfold U32 at he2; simp [IntKind.wrap, IntKind.bits, IntKind.signed]; omega
          have HB : Hid (crcSteps (j + 1) z = crcBit e) := Lib.hid (by rw [crcSteps, HE.out])
          clear heu he2
          by_cases hodd : e % 2 = 1
          · have HC : Hid (crcBit e = e / 2 ^^^ 3988292384) := Lib.hid (by unfold crcBit; rw [if_pos hodd])
            have h1 : ((e : Int) % 2 == 1) = true := by simp; omega
            clear hodd
            go_wp2
            go_round
            case rel => exact ⟨j + 1, _, rfl, Lib.hid (by rw [HB.out, HC.out]), by go_num, by omega⟩
            case measure => simp [intOf]; omega
          · have HC : Hid (crcBit e = e / 2) := Lib.hid (by unfold crcBit; rw [if_neg hodd])
            have h1 : ((e : Int) % 2 == 1) = false := by simp; omega
            clear hodd
            go_wp2
            go_round
            case rel => exact ⟨j + 1, e / 2, by go_num, Lib.hid (by rw [HB.out, HC.out]), by go_num, by omega⟩
            case measure => simp [intOf]; omega
        · have hj8 : j = 8 := by omega
          subst hj8
          go_wp2
          go_round
          case rel => exact ⟨k + 1, e, rfl, Lib.hid (by rw [HE.out, HS.out, HZ.out]; rfl), by go_num, by omega⟩
          case measure => simp [intOf]; omega
    · have hkn : k = s.size := by omega
      have HF : Hid (d = crcFrom 4294967295 xs) := Lib.hid (by rw [HD.out, List.take_of_length_le (by rw [HX.out]; omega)])
      have HN : Hid (bits .xor .u32 (d : Int) 4294967295 = ((d ^^^ 4294967295 : Nat) : Int)) := Lib.hid (by
        have := xorI (a := d) (b := 4294967295) (by rw [HD.out]; exact crcFrom_lt _ (by unfold U32; omega)) (by unfold U32; omega)
        rw [← this]; congr 1)
      clear hkn
      go_wp2
      go_ret
      exact ⟨ret_eq (by rw [crc, ← HF.out, ← HN.out]; rfl), rfl⟩
end Go.Proofs.Ytoibhplpbiamfaa
