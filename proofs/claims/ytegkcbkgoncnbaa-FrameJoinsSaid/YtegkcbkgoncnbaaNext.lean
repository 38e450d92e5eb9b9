/- Walk of frame.Next. -/
import Derived.Test.YtegkcbkgoncnbaaFrame
namespace Go.Proofs.Ytegkcbkgoncnbaa
open Go.RowKit

/-- what Next tells: the body, where it ends, the errno -/
def nextF (b : List UInt8) : List UInt8 × Nat × Nat :=
  if b.length < 4 then ([], 0, 5)
  else if 65536 < fold4 (b.take 4) then ([], 0, 2)
  else if b.length < 8 + fold4 (b.take 4) then ([], 0, 5)
  else if fold4 ((b.drop 4).take 4) = crc (b.take 4 ++ (b.drop 8).take (fold4 (b.take 4))) then ((b.drop 8).take (fold4 (b.take 4)), 8 + fold4 (b.take 4), 0)
  else ([], 0, 2)

theorem fixV_short {xs : List UInt8} (h : xs.length < 4) : fixV xs = .tuple #[.int .u32 0, .bool false] := by unfold fixV; rw [getFix_short h]
theorem fixV_long {xs : List UInt8} (h : 4 ≤ xs.length) : fixV xs = .tuple #[.int .u32 (fold4 (xs.take 4) : Nat), .bool true] := by unfold fixV; rw [getFix_long h]

/-- the end of Next: a body that is the call's own, or nil -/
def NextEnd (w : World) (b : List UInt8) (e : Ending) (w' : World) : Prop :=
  ∃ r, e = .returned (.tuple #[r, .int .i64 ((nextF b).2.1 : Nat), .int .i64 ((nextF b).2.2 : Nat)]) ∧ w'.ownsRow w.heap.size 5 1 r (nextF b).1.length (bvs (nextF b).1) ∧ Below w.heap.size w w'

theorem nextEnd_none {w w' : World} {b : List UInt8} {k : Nat} (h : nextF b = ([], 0, k)) (hb : Below w.heap.size w w') : NextEnd w b (.returned (.tuple #[.slice none 0 0, .int .i64 0, .int .i64 (k : Int)])) w' := by
  refine ⟨.slice none 0 0, by rw [h]; rfl, ?_, hb⟩
  rw [h]; exact ⟨rfl, .inl ⟨rfl, rfl⟩⟩

set_option maxHeartbeats 2000000 in
set_option maxRecDepth 100000 in
theorem next_any (A : Option Addr) (n c : Nat) (b : List UInt8) (w : World) (hr : Rd w A n c 1 (bvs b)) (hn : n ≤ 1000000000) :
    Calls Try.prog 13 #[.slice A n c] w (NextEnd w b) := by
  obtain ⟨i0, hi, hz0, hz1, hz2⟩ := info_parts infoB
  have hnc := hr.nc
  have hl : b.length = n := by have := hr.len; rw [bvs_len] at this; omega
  have HR := Lib.hid hr; clear hr
  by_cases h4 : n < 4
  · have HN : Hid (nextF b = ([], 0, 5)) := Lib.hid (by unfold nextF; rw [if_pos (by omega)])
    have HF := Lib.hid (fixV_short (xs := b) (by omega))
    clear hl
    go_enter Try.func13, Try.ntmps13
    go_wp2_with fail
    refine (fixed_any A n c b _ HR.out (by omega)).mono ?_
    rw [HF.out]
    rintro e w1 ⟨rfl, rfl⟩
    go_wp2
    go_ret3
    exact nextEnd_none HN.out (Below.refl _ _)
  · have HF := Lib.hid (fixV_long (xs := b) (by omega))
    obtain ⟨v, hv⟩ : ∃ v, v = fold4 (b.take 4) := ⟨_, rfl⟩
    rw [← hv] at HF
    by_cases hbig : 65536 < v
    · have HN : Hid (nextF b = ([], 0, 2)) := Lib.hid (by unfold nextF; rw [if_neg (by omega), if_pos (by omega)])
      have hbi : (65536 : Int) < (v : Int) := by omega
      clear hl hv
      go_enter Try.func13, Try.ntmps13
      go_wp2_with fail
      refine (fixed_any A n c b _ HR.out (by omega)).mono ?_
      rw [HF.out]
      rintro e w1 ⟨rfl, rfl⟩
      go_wp2
      go_ret3
      exact nextEnd_none HN.out (Below.refl _ _)
    · have hwv : IntKind.i64.wrap (v : Int) = (v : Int) := by rw [IntKind.wrap_i64]; omega
      by_cases hsh : n < 8 + v
      · have HN : Hid (nextF b = ([], 0, 5)) := Lib.hid (by unfold nextF; rw [if_neg (by omega), if_neg (by omega), if_pos (by omega)])
        have hbi : ¬ (65536 : Int) < (v : Int) := by omega
        have hsi : (n : Int) < 8 + (v : Int) := by omega
        clear hl hv
        go_enter Try.func13, Try.ntmps13
        go_wp2_with fail
        refine (fixed_any A n c b _ HR.out (by omega)).mono ?_
        rw [HF.out]
        rintro e w1 ⟨rfl, rfl⟩
        go_wp2
        go_ret3
        exact nextEnd_none HN.out (Below.refl _ _)
      · have hbi : ¬ (65536 : Int) < (v : Int) := by omega
        have hsi : ¬ (n : Int) < 8 + (v : Int) := by omega
        obtain ⟨A1, hs1, hr1⟩ := cut_l (P := Try.prog) Try.underlying22 hi hz1 A n c .i64 4 4 rfl (by omega) hnc
        obtain ⟨A2, hs2, hr2⟩ := cut_lh (P := Try.prog) Try.underlying22 hi hz1 A n c .i64 .i64 8 (8 + (v : Int)) 8 (8 + v) rfl (by omega) (by omega) (by omega) hnc
        have e1 : 8 + v - 8 = v := by omega
        rw [e1] at hs2 hr2
        have HR1 : Hid (∀ w', Rd w' A n c 1 (bvs b) → Rd w' A1 (n - 4) (c - 4) 1 (bvs (b.drop 4))) := Lib.hid fun w' h => by
          have := hr1 w' _ h
          rw [Nat.mul_one, Nat.mul_one, bvs_drop, bvs_take, List.take_of_length_le (by rw [List.length_drop]; omega)] at this; exact this
        have HR2 : Hid (∀ w', Rd w' A n c 1 (bvs b) → Rd w' A2 v (c - 8) 1 (bvs ((b.drop 8).take v))) := Lib.hid fun w' h => by
          have := hr2 w' _ h
          rw [Nat.mul_one, Nat.mul_one, bvs_drop, bvs_take] at this; exact this
        have HR3 : Hid (∀ w', Rd w' A n c 1 (bvs b) → Rd w' A 4 c 1 (bvs (b.take 4))) := Lib.hid fun w' h => by
          have := h.take 4 (by omega)
          rw [Nat.mul_one, bvs_take] at this; exact this
        have HF2 := Lib.hid (fixV_long (xs := b.drop 4) (by rw [List.length_drop]; omega))
        obtain ⟨ck, hck⟩ : ∃ ck, ck = fold4 ((b.drop 4).take 4) := ⟨_, rfl⟩
        rw [← hck] at HF2
        have hbl : ((b.drop 8).take v).length = v := by rw [List.length_take, List.length_drop]; omega
        have HBL := Lib.hid hbl
        have hN : nextF b = if ck = crc (b.take 4 ++ (b.drop 8).take v) then ((b.drop 8).take v, 8 + v, 0) else ([], 0, 2) := by
          unfold nextF; rw [if_neg (by omega), ← hv, if_neg hbig, if_neg (by omega), ← hck]
        have HNX := Lib.hid hN
        obtain ⟨body, hbody⟩ : ∃ body, body = (b.drop 8).take v := ⟨_, rfl⟩
        rw [← hbody] at HR2 HBL HNX
        obtain ⟨b4, hb4⟩ : ∃ b4, b4 = b.take 4 := ⟨_, rfl⟩
        rw [← hb4] at HR3 HNX
        have HCK := Lib.hid (crc_lt (b4 ++ body))
        obtain ⟨cr, hcr⟩ : ∃ cr, cr = crc (b4 ++ body) := ⟨_, rfl⟩
        rw [← hcr] at HNX HCK
        have HCR := Lib.hid hcr
        have hn4 : n - 4 ≤ 1000000000 := by omega
        clear hl hv hck hbl hN hbody hb4 hcr e1 hr1 hr2 hz0 hz2
        have body1 : ∀ (T : Prop), (ck = cr → T) → (¬ ck = cr → T) → T := fun T h1 h2 => by
          by_cases h : ck = cr
          · exact h1 h
          · exact h2 h
        refine body1 _ (fun heq => ?_) (fun hne => ?_)
        · have hcmp : ((ck : Int) != (cr : Int)) = false := by rw [heq]; simp
          have HN : Hid (nextF b = (body, 8 + v, 0)) := Lib.hid (by rw [HNX.out, if_pos heq])
          clear heq body1
          go_enter Try.func13, Try.ntmps13
          go_wp2_with fail
          refine (fixed_any A n c b _ HR.out (by omega)).mono ?_
          rw [HF.out]
          rintro e w1 ⟨rfl, rfl⟩
          go_wp2_with fail
          refine (fixed_any A1 (n - 4) (c - 4) (b.drop 4) _ (HR1.out _ HR.out) (by omega)).mono ?_
          rw [HF2.out]
          rintro e w1 ⟨rfl, rfl⟩
          go_wp2_with fail
          refine (joined_any _ _ _ [⟨A, 4, c, b4⟩, ⟨A2, v, c - 8, body⟩] _ (Rd.new w [.slice A 4 c, .slice A2 v (c - 8)] 22 1 2 rfl (by simp [maxLen])) (two_pieces ((HR3.out _ HR.out).alloc _) ((HR2.out _ HR.out).alloc _)) (by omega) (by simp [psum]; omega)).mono ?_
          rintro e w2 ⟨r2, rfl, hown, hb⟩
          obtain ⟨A4, c4, rfl, hr4, _⟩ := own_rd hown
          have HB2 : Hid (Below w.heap.size w w2) := Lib.hid ((((Below.refl _ _).alloc (Nat.le_refl _) _).trans (hb.mono (by simp))))
          have hp1 : psum [⟨A, 4, c, b4⟩, ⟨A2, v, c - 8, body⟩] = 4 + v := by simp [psum]
          have hp2 : pieces [⟨A, 4, c, b4⟩, ⟨A2, v, c - 8, body⟩] = b4 ++ body := by simp [pieces]
          rw [hp1] at hr4 ⊢
          rw [hp2] at hr4
          have HR4 := Lib.hid hr4
          clear hown hb hr4 hp1 hp2
          go_wp2_with fail
          refine (crc_any A4 (4 + v) c4 (b4 ++ body) _ HR4.out (by omega)).mono ?_
          rw [← HCR.out]
          rintro e w2' ⟨rfl, rfl⟩
          go_wp2_with fail
          refine (joined_any _ _ _ [⟨A2, v, c - 8, body⟩] _ (Rd.new1 w2 (.slice A2 v (c - 8)) 22) (by intro p hp; simp at hp; subst hp; exact (((HR2.out _ HR.out).below HB2.out (Nat.le_refl _)).alloc _)) (by omega) (by simp [psum]; omega)).mono ?_
          rintro e w3 ⟨r3, rfl, hown, hb⟩
          have hp1 : psum [⟨A2, v, c - 8, body⟩] = v := by simp [psum]
          have hp2 : pieces [⟨A2, v, c - 8, body⟩] = body := by simp [pieces]
          rw [hp1, hp2] at hown
          have HO := Lib.hid (own_mono hown (base' := w.heap.size) (by simp; exact Nat.le_succ_of_le HB2.out.size))
          have HB3 : Hid (Below w.heap.size w w3) := Lib.hid (HB2.out.trans ((((Below.refl _ _).alloc (Nat.le_refl _) _).trans (hb.mono (by simp))).mono HB2.out.size))
          clear hown hb hp1 hp2
          go_wp2
          go_ret3
          refine ⟨r3, ?_, ?_, HB3.out⟩
          · rw [HN.out]; simp
          · rw [HN.out]; simp only; rw [HBL.out]; exact HO.out
        · have hcmp : ((ck : Int) != (cr : Int)) = true := by simp; omega
          have HN : Hid (nextF b = ([], 0, 2)) := Lib.hid (by rw [HNX.out, if_neg hne])
          clear hne body1
          go_enter Try.func13, Try.ntmps13
          go_wp2_with fail
          refine (fixed_any A n c b _ HR.out (by omega)).mono ?_
          rw [HF.out]
          rintro e w1 ⟨rfl, rfl⟩
          go_wp2_with fail
          refine (fixed_any A1 (n - 4) (c - 4) (b.drop 4) _ (HR1.out _ HR.out) (by omega)).mono ?_
          rw [HF2.out]
          rintro e w1 ⟨rfl, rfl⟩
          go_wp2_with fail
          refine (joined_any _ _ _ [⟨A, 4, c, b4⟩, ⟨A2, v, c - 8, body⟩] _ (Rd.new w [.slice A 4 c, .slice A2 v (c - 8)] 22 1 2 rfl (by simp [maxLen])) (two_pieces ((HR3.out _ HR.out).alloc _) ((HR2.out _ HR.out).alloc _)) (by omega) (by simp [psum]; omega)).mono ?_
          rintro e w2 ⟨r2, rfl, hown, hb⟩
          obtain ⟨A4, c4, rfl, hr4, _⟩ := own_rd hown
          have HB2 : Hid (Below w.heap.size w w2) := Lib.hid ((((Below.refl _ _).alloc (Nat.le_refl _) _).trans (hb.mono (by simp))))
          have hp1 : psum [⟨A, 4, c, b4⟩, ⟨A2, v, c - 8, body⟩] = 4 + v := by simp [psum]
          have hp2 : pieces [⟨A, 4, c, b4⟩, ⟨A2, v, c - 8, body⟩] = b4 ++ body := by simp [pieces]
          rw [hp1] at hr4 ⊢
          rw [hp2] at hr4
          have HR4 := Lib.hid hr4
          clear hown hb hr4 hp1 hp2
          go_wp2_with fail
          refine (crc_any A4 (4 + v) c4 (b4 ++ body) _ HR4.out (by omega)).mono ?_
          rw [← HCR.out]
          rintro e w2' ⟨rfl, rfl⟩
          go_wp2
          go_ret3
          exact nextEnd_none HN.out HB2.out
end Go.Proofs.Ytegkcbkgoncnbaa
