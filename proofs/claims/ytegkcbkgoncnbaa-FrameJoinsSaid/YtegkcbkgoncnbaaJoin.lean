/- Rows of bytes put together: walks of slices.Grow (of nothing), slices.Concat, frame.joined. -/
import Derived.Test.YtegkcbkgoncnbaaWa
import Derived.Lib.AppendZeros
namespace Go.Proofs.Ytegkcbkgoncnbaa
open Go.RowKit

structure Piece where
  A : Option Addr
  n : Nat
  c : Nat
  xs : List UInt8
def Piece.v (p : Piece) : Value := .slice p.A p.n p.c
def pieces (ps : List Piece) : List UInt8 := ps.flatMap (·.xs)
def psum (ps : List Piece) : Nat := (ps.map (·.n)).sum
theorem psum_snoc (ps : List Piece) (p : Piece) : psum (ps ++ [p]) = psum ps + p.n := by simp [psum]
theorem pieces_snoc (ps : List Piece) (p : Piece) : pieces (ps ++ [p]) = pieces ps ++ p.xs := by simp [pieces]
theorem psum_take (ps : List Piece) (k : Nat) : psum (ps.take k) ≤ psum ps := by
  induction ps generalizing k with
  | nil => simp
  | cons p ps ih =>
    cases k with
    | zero => simp [psum]
    | succ k => have := ih k; simp only [psum, List.take_succ_cons, List.map_cons, List.sum_cons] at *; omega

theorem Rd.cellAt {w : World} {A : Option Addr} {n c : Nat} {cs : List Value} (h : Rd w A n c 1 cs) (j : Nat) (hj : j < cs.length) :
    ∃ a, A = some a ∧ w.cell? (a.add j) = some cs[j] := by
  rcases A with _ | a
  · have h1 := h.nil0 rfl; have h2 := h.nc; have h3 := h.len; omega
  · exact ⟨a, rfl, h.cell a rfl j _ (by simp [hj])⟩

set_option maxHeartbeats 400000 in
set_option maxRecDepth 100000 in
theorem grow_any (n : Nat) (w : World) (hn : n ≤ 100000000000) :
    Calls Try.prog 28 #[.slice none 0 0, .int .i64 n] w fun e w' => ∃ r, e = .returned r ∧ w'.ownsRow w.heap.size 5 1 r 0 (bvs []) ∧ Below w.heap.size w w' := by
  obtain ⟨i0, hi, hz0, hz1, hz2⟩ := info_parts infoB
  by_cases h0 : n = 0
  · subst h0
    go_enter Try.func28, Try.ntmps28
    go_wp2
    go_ret
    exact ⟨_, rfl, ⟨by simp [bvs], .inl ⟨rfl, rfl⟩⟩, Below.refl _ _⟩
  · have hp : 0 < n := by omega
    have hrun := Go.Lib.run_append_nil_zeros (P := Try.prog) w 22 3 22 5 i0 _ .i64 .i64 Try.underlying22 Try.underlying3 hi hz0 n hp (by omega) (by omega) (by rw [hz2]; omega)
    have hge := grownCap_ge w n 0 5
    have hcm := grownCap_le_maxLen w n 0 5 (by simp [maxLen]; omega)
    have HOWN : Hid (∀ cap, n ≤ cap → cap ≤ maxLen → (w.drew.alloc (.cells (Builtin.zeroCells (Value.int .u8 0).cells n ++ Builtin.zeroCells (Value.int .u8 0).cells (cap - n)) 5)).ownsRow w.heap.size 5 1 (.slice (some ⟨w.heap.size, 0, none⟩) 0 cap) 0 (bvs [])) := Lib.hid fun cap h1 h2 =>
      ⟨by simp [bvs], .inr ⟨w.heap.size, cap, _, rfl, Nat.le_refl _, heap_alloc_new w.drew _, Nat.zero_le _, h2, by simp [size_zeroCells, Value.cells]; omega, by simp [bvs]⟩⟩
    obtain ⟨cap, hcap⟩ : ∃ cap, cap = grownCap w n 0 5 := ⟨_, rfl⟩
    rw [← hcap] at hrun hge hcm
    have HC := Lib.hid hcm
    have hni : (0 : Int) < (n : Int) := by omega
    clear hcap hcm hz0 hz2
    go_enter Try.func28, Try.ntmps28
    go_wp2_with (at_builtin; refine Lib.wpList_append_run _ rfl _ _ _ _ rfl _ _ rfl rfl _ _ hrun ?_)
    go_ret
    exact ⟨_, rfl, HOWN.out cap hge HC.out, ((Below.refl _ _).drew).alloc (Nat.le_refl _) _⟩

set_option maxHeartbeats 1000000 in
set_option maxRecDepth 100000 in
theorem concat_any (A : Option Addr) (n c : Nat) (ps : List Piece) (w : World) (hr : Rd w A n c 1 (ps.map Piece.v)) (hps : ∀ p ∈ ps, Rd w p.A p.n p.c 1 (bvs p.xs)) (hn : n ≤ 1000) (hs : psum ps ≤ 10000000000) :
    Calls Try.prog 24 #[.slice A n c] w fun e w' => ∃ r, e = .returned r ∧ w'.ownsRow w.heap.size 5 1 r (psum ps) (bvs (pieces ps)) ∧ Below w.heap.size w w' := by
  obtain ⟨i0, hi, hz0, hz1, hz2⟩ := info_parts infoB
  have hl : ps.length = n := by have := hr.len; simpa using this
  have HL := Lib.hid hl; clear hl
  have HR := Lib.hid hr; clear hr
  have HP := Lib.hid hps; clear hps
  have HT := Lib.hid fun k => psum_take ps k
  have HSM := Lib.hid hs; clear hs
  obtain ⟨B, hB⟩ : ∃ B, B = w.heap.size := ⟨_, rfl⟩
  rw [← hB]
  have HB := Lib.hid hB; clear hB
  go_enter Try.func24, Try.ntmps24
  go_wp2
  go_loop [3, 11] (fun s i => ∃ (k : Nat), s = .int .i64 (psum (ps.take k) : Nat) ∧ i = .int .i64 k ∧ k ≤ n) (fun _ i => n - (intOf i).toNat)
  case atStart => exact ⟨0, by simp [psum], rfl, by omega⟩
  case round =>
    obtain ⟨k, rfl, rfl, hk⟩ := hrel
    have hsm : psum (ps.take k) ≤ 10000000000 := Nat.le_trans (HT.out k) HSM.out
    by_cases hlt : k < n
    · have hkx : k < (ps.map Piece.v).length := by rw [List.length_map, HL.out]; exact hlt
      obtain ⟨a, rfl, hc⟩ := HR.out.cellAt k hkx
      rw [List.getElem_map] at hc
      have hkp : k < ps.length := by simpa using hkx
      have h2 := List.take_succ_eq_append_getElem hkp
      obtain ⟨p, hp⟩ : ∃ p, p = ps[k] := ⟨_, rfl⟩
      rw [← hp] at hc h2
      have hs2 := psum_snoc (ps.take k) p
      rw [← h2] at hs2
      have hsm2 : psum (ps.take (k + 1)) ≤ 10000000000 := Nat.le_trans (HT.out _) HSM.out
      have hpn : p.n ≤ 10000000000 := by omega
      unfold Piece.v at hc
      have HS2 := Lib.hid hs2
      obtain ⟨q, hq⟩ : ∃ q, q = psum (ps.take k) := ⟨_, rfl⟩
      rw [← hq] at hsm HS2 ⊢
      have hsum : q + p.n ≤ 10000000000 := by rw [hq]; omega
      clear h2 hs2 hsm2 hp hq
      go_wp2
      go_round
      case rel => exact ⟨k + 1, by rw [HS2.out]; go_num, by go_num, by omega⟩
      case measure => simp [intOf]; omega
    · have hkn : k = n := by omega
      have HTK : Hid (ps.take k = ps) := Lib.hid (List.take_of_length_le (by rw [HL.out]; omega))
      obtain ⟨q, hq⟩ : ∃ q, q = psum (ps.take k) := ⟨_, rfl⟩
      rw [← hq] at hsm ⊢
      clear hkn hq
      go_wp2_with fail
      refine (grow_any q _ (by omega)).mono ?_
      rintro e w1 ⟨r, rfl, hown, hb⟩
      have HO1 : Hid (w1.ownsRow B 5 1 r 0 (bvs [])) := Lib.hid (by rw [HB.out]; exact hown)
      have HB1 : Hid (Below B w w1) := Lib.hid (by rw [HB.out]; exact hb)
      have hB1 : B ≤ w1.heap.size := by rw [HB.out]; exact hb.size
      clear hown hb
      go_wp2_with fail
      go_loopw [6, 27] (fun s i wr => ∃ (k : Nat), Hid (wr.ownsRow B 5 1 s (psum (ps.take k)) (bvs (pieces (ps.take k)))) ∧ i = .int .i64 k ∧ k ≤ n ∧ Hid (Below B w wr) ∧ B ≤ wr.heap.size) (fun _ i _ => n - (intOf i).toNat)
      case atStart => exact ⟨0, HO1, rfl, by omega, HB1, hB1⟩
      case round =>
        clear HO1 HB1 hB1 HTK
        obtain ⟨k2, HO, rfl, hk2, HBL, hBw⟩ := hrel
        by_cases hlt2 : k2 < n
        · have hkx : k2 < (ps.map Piece.v).length := by rw [List.length_map, HL.out]; exact hlt2
          have HRw := Lib.hid (HR.out.below HBL.out (by rw [HB.out]; exact Nat.le_refl _))
          obtain ⟨a, rfl, hc⟩ := HRw.out.cellAt k2 hkx
          rw [List.getElem_map] at hc
          have hkp : k2 < ps.length := by simpa using hkx
          have h2 := List.take_succ_eq_append_getElem hkp
          have hpr := (HP.out ps[k2] (List.getElem_mem hkp)).below HBL.out (by rw [HB.out]; exact Nat.le_refl _)
          obtain ⟨p, hp⟩ : ∃ p, p = ps[k2] := ⟨_, rfl⟩
          rw [← hp] at hc h2 hpr
          have hs2 := psum_snoc (ps.take k2) p
          have hx2 := pieces_snoc (ps.take k2) p
          rw [← h2] at hs2 hx2
          have hsm2 : psum (ps.take (k2 + 1)) ≤ 10000000000 := Nat.le_trans (HT.out _) HSM.out
          rw [hs2] at hsm2
          unfold Piece.v at hc
          have HS2 := Lib.hid hs2
          have HX2 := Lib.hid hx2
          have HPR := Lib.hid hpr
          have HQ := Lib.hid hsm2
          clear h2 hs2 hx2 hpr hp hsm2
          go_wp2_with (at_builtin; refine wpList_append_appd _ rfl _ _ _ rfl B 5 i0 _ 1 1 Try.underlying22 hi hz0 hz1 hz2 rfl (by omega) _ _ _ rfl (.inr HO.out) _ _ _ _ rfl HPR.out (bvs_one _) (by have := HQ.out; simp [maxLen]; omega) (by have := HQ.out; omega) hBw (.inl HO.out) ?_; intro v' w2 hown2 hbel2 _)
          have HO2 := Lib.hid hown2
          have HB2 := Lib.hid (HBL.out.trans hbel2)
          have hB2 : B ≤ w2.heap.size := Nat.le_trans hBw hbel2.size
          clear hown2 hbel2
          go_wp2
          go_roundw
          case rel => exact ⟨k2 + 1, Lib.hid (by rw [HS2.out, HX2.out, bvs_app]; exact HO2.out), by go_num, by omega, HB2, hB2⟩
          case measure => simp [intOf]; omega
        · have hkn : k2 = n := by omega
          have HTK : Hid (ps.take k2 = ps) := Lib.hid (List.take_of_length_le (by rw [HL.out]; omega))
          clear hkn
          have HOF := HO
          rw [HTK.out] at HOF
          go_wp2
          go_ret
          exact ⟨_, rfl, HOF.out, HBL.out⟩

set_option maxHeartbeats 400000 in
set_option maxRecDepth 100000 in
theorem joined_any (A : Option Addr) (n c : Nat) (ps : List Piece) (w : World) (hr : Rd w A n c 1 (ps.map Piece.v)) (hps : ∀ p ∈ ps, Rd w p.A p.n p.c 1 (bvs p.xs)) (hn : n ≤ 1000) (hs : psum ps ≤ 10000000000) :
    Calls Try.prog 19 #[.slice A n c] w fun e w' => ∃ r, e = .returned r ∧ w'.ownsRow w.heap.size 5 1 r (psum ps) (bvs (pieces ps)) ∧ Below w.heap.size w w' := by
  have HC := Lib.hid (concat_any A n c ps w hr hps hn hs)
  clear hr hps hn hs
  go_enter Try.func19, Try.ntmps19
  go_wp2_with fail
  refine HC.out.mono ?_
  rintro e w1 ⟨r, rfl, hown, hb⟩
  have HO := Lib.hid hown; have HB := Lib.hid hb
  clear hown hb
  go_wp2
  go_ret
  exact ⟨r, rfl, HO.out, HB.out⟩
end Go.Proofs.Ytegkcbkgoncnbaa
