/- Walks of frame.Put and frame.Next. -/
import Derived.Test.YtegkcbkgoncnbaaJoin
import Derived.Test.YtegkcbkgoncnbaaFix
import Derived.Test.YtegkcbkgoncnbaaCrc
namespace Go.Proofs.Ytegkcbkgoncnbaa
open Go.RowKit

def frameOf (body : List UInt8) : List UInt8 := fix4 body.length ++ (fix4 (crc (fix4 body.length ++ body)) ++ body)
theorem fix4_len (v : Nat) : (fix4 v).length = 4 := rfl
theorem frameOf_len (b : List UInt8) : (frameOf b).length = b.length + 8 := by simp [frameOf, fix4_len]; omega

theorem own_piece {w : World} {base n : Nat} {r : Value} {xs : List UInt8} (h : w.ownsRow base 5 1 r n (bvs xs)) : ∃ p : Piece, r = p.v ∧ p.n = n ∧ p.xs = xs ∧ Rd w p.A p.n p.c 1 (bvs p.xs) := by
  obtain ⟨A, c, hv, hr, _⟩ := own_rd h
  exact ⟨⟨A, n, c, xs⟩, hv, rfl, rfl, hr⟩
theorem two_pieces {w : World} {p q : Piece} (hp : Rd w p.A p.n p.c 1 (bvs p.xs)) (hq : Rd w q.A q.n q.c 1 (bvs q.xs)) : ∀ r ∈ [p, q], Rd w r.A r.n r.c 1 (bvs r.xs) := by
  intro r hr; simp at hr; rcases hr with rfl | rfl <;> assumption
theorem four_pieces {w : World} {p q s t : Piece} (hp : Rd w p.A p.n p.c 1 (bvs p.xs)) (hq : Rd w q.A q.n q.c 1 (bvs q.xs)) (hs : Rd w s.A s.n s.c 1 (bvs s.xs)) (ht : Rd w t.A t.n t.c 1 (bvs t.xs)) : ∀ r ∈ [p, q, s, t], Rd w r.A r.n r.c 1 (bvs r.xs) := by
  intro r hr; simp at hr; rcases hr with rfl | rfl | rfl | rfl <;> assumption

set_option maxHeartbeats 400000 in
set_option maxRecDepth 100000 in
theorem framePut_large (A : Option Addr) (n c : Nat) (A2 : Option Addr) (n2 c2 : Nat) (w : World) (hn : 65536 < n2) :
    Calls Try.prog 11 #[.slice A n c, .slice A2 n2 c2] w fun e w' => e = .returned (.tuple #[.slice none 0 0, .int .i64 3]) ∧ w = w' := by
  have h1 : (65536 : Int) < (n2 : Int) := by omega
  go_enter Try.func11, Try.ntmps11
  go_wp2
  go_ret2
  exact ⟨rfl, rfl⟩

set_option maxHeartbeats 1000000 in
set_option maxRecDepth 100000 in
theorem framePut_any (A : Option Addr) (n c : Nat) (xs : List UInt8) (A2 : Option Addr) (n2 c2 : Nat) (ys : List UInt8) (w : World) (hr : Rd w A n c 1 (bvs xs)) (hr2 : Rd w A2 n2 c2 1 (bvs ys)) (hn : n ≤ 1000000000) (hn2 : n2 ≤ 65536) :
    Calls Try.prog 11 #[.slice A n c, .slice A2 n2 c2] w fun e w' => ∃ r, e = .returned (.tuple #[r, .int .i64 0]) ∧ w'.ownsRow w.heap.size 5 1 r (n + (n2 + 8)) (bvs (xs ++ frameOf ys)) ∧ Below w.heap.size w w' := by
  have hl2 : ys.length = n2 := by have := hr2.len; rw [bvs_len] at this; omega
  have HL2 := Lib.hid hl2; clear hl2
  have HR := Lib.hid hr; have HR2 := Lib.hid hr2; clear hr hr2
  have hni : (n2 : Int) ≤ 65536 := by omega
  have hwr : IntKind.u32.wrap (n2 : Int) = (n2 : Int) := by simp [IntKind.wrap, IntKind.bits, IntKind.signed]; omega
  go_enter Try.func11, Try.ntmps11
  go_wp2_with fail
  refine (putFixed_any none 0 0 [] n2 _ (by omega) (by omega) (Rd.nil _ 1)).mono ?_
  rintro e w1 ⟨r1, rfl, hown, hb⟩
  rw [Nat.zero_add, List.nil_append] at hown
  obtain ⟨⟨A3, n3, c3, x3⟩, rfl, h3, h3', hr3⟩ := own_piece hown
  simp only at h3 h3' hr3; subst h3; subst h3'
  unfold Piece.v
  simp only
  have HB1 := Lib.hid hb; have HR3 := Lib.hid hr3
  clear hown hb hr3 hwr
  have HB1 : Hid (Below w.heap.size w w1) := HB1
  go_wp2_with fail
  refine (joined_any _ _ _ [⟨A3, 4, c3, fix4 n2⟩, ⟨A2, n2, c2, ys⟩] _ (Rd.new w1 [.slice A3 4 c3, .slice A2 n2 c2] 22 1 2 rfl (by simp [maxLen])) (two_pieces (HR3.out.alloc _) ((HR2.out.below HB1.out (Nat.le_refl _)).alloc _)) (by omega) (by simp [psum]; omega)).mono ?_
  rintro e w2 ⟨r2, rfl, hown, hb⟩
  obtain ⟨A4, c4, rfl, hr4, _⟩ := own_rd hown
  have HB2 : Hid (Below w.heap.size w w2) := Lib.hid (HB1.out.trans ((((Below.refl _ _).alloc (Nat.le_refl _) _).trans (hb.mono (by simp))).mono HB1.out.size))
  have HB12 : Hid (ExtW w1 w2) := Lib.hid (((Below.refl _ _).alloc (Nat.le_refl _) _).trans (hb.mono (by simp)))
  have hp1 : psum [⟨A3, 4, c3, fix4 n2⟩, ⟨A2, n2, c2, ys⟩] = 4 + n2 := by simp [psum]
  have hp2 : pieces [⟨A3, 4, c3, fix4 n2⟩, ⟨A2, n2, c2, ys⟩] = fix4 n2 ++ ys := by simp [pieces]
  rw [hp1] at hr4 ⊢
  rw [hp2] at hr4
  have HR4 := Lib.hid hr4
  clear hown hb hr4 hp1 hp2
  go_wp2_with fail
  refine (crc_any A4 (4 + n2) c4 (fix4 n2 ++ ys) _ HR4.out (by omega)).mono ?_
  rintro e w2' ⟨rfl, rfl⟩
  go_wp2_with fail
  refine (putFixed_any none 0 0 [] (crc (fix4 n2 ++ ys)) _ (crc_lt _) (by omega) (Rd.nil _ 1)).mono ?_
  rintro e w3 ⟨r1, rfl, hown, hb⟩
  rw [Nat.zero_add, List.nil_append] at hown
  obtain ⟨A5, c5, rfl, hr5, _⟩ := own_rd hown
  have HB3 : Hid (Below w.heap.size w w3) := Lib.hid (HB2.out.trans (hb.mono HB2.out.size))
  have HB13 : Hid (ExtW w1 w3) := Lib.hid (ExtW.trans HB12.out hb)
  have HR5 := Lib.hid hr5
  clear hown hb hr5
  go_wp2_with fail
  refine (joined_any _ _ _ [⟨A, n, c, xs⟩, ⟨A3, 4, c3, fix4 n2⟩, ⟨A5, 4, c5, fix4 (crc (fix4 n2 ++ ys))⟩, ⟨A2, n2, c2, ys⟩] _ (Rd.new w3 [.slice A n c, .slice A3 4 c3, .slice A5 4 c5, .slice A2 n2 c2] 22 1 4 rfl (by simp [maxLen]))
    (four_pieces ((HR.out.below HB3.out (Nat.le_refl _)).alloc _) ((HR3.out.below HB13.out (Nat.le_refl _)).alloc _) (HR5.out.alloc _) ((HR2.out.below HB3.out (Nat.le_refl _)).alloc _)) (by omega) (by simp [psum]; omega)).mono ?_
  rintro e w4 ⟨r2, rfl, hown, hb⟩
  have hp1 : psum [⟨A, n, c, xs⟩, ⟨A3, 4, c3, fix4 n2⟩, ⟨A5, 4, c5, fix4 (crc (fix4 n2 ++ ys))⟩, ⟨A2, n2, c2, ys⟩] = n + (n2 + 8) := by simp [psum]; omega
  have hp2 : pieces [⟨A, n, c, xs⟩, ⟨A3, 4, c3, fix4 n2⟩, ⟨A5, 4, c5, fix4 (crc (fix4 n2 ++ ys))⟩, ⟨A2, n2, c2, ys⟩] = xs ++ frameOf ys := by simp [pieces, frameOf, HL2.out]
  rw [hp1, hp2] at hown
  have HO := Lib.hid (own_mono hown (base' := w.heap.size) (by simp; exact Nat.le_succ_of_le HB3.out.size))
  have HB4 : Hid (Below w.heap.size w w4) := Lib.hid (HB3.out.trans ((((Below.refl _ _).alloc (Nat.le_refl _) _).trans (hb.mono (by simp))).mono HB3.out.size))
  clear hown hb hp1 hp2
  go_wp2
  go_ret2
  exact ⟨r2, rfl, HO.out, HB4.out⟩
end Go.Proofs.Ytegkcbkgoncnbaa
