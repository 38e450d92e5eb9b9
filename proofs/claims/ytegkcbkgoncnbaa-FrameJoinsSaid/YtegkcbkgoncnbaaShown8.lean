/- Walk of the statements' small case. -/
import Derived.Test.YtegkcbkgoncnbaaAll
import Derived.Test.YtegkcbkgoncnbaaPlain
import Derived.Lib.SlBytesConst
namespace Go.Proofs.Ytegkcbkgoncnbaa
open Go.RowKit

theorem allF_one {ys : List UInt8} {xs : List Fram} (h : AllF (frameOf ys) xs) (hl : ys.length ≤ 65536) : xs.length = 1 ∧ lastAt xs = ys.length + 8 := by
  have h' : AllF (framesOf [ys] ++ []) xs := by simpa [framesOf] using h
  have := allF_frames h' (by simpa using hl) (by rw [nextF_nil]; simp)
  have h2 := congrArg List.length this.1
  rw [List.length_map] at h2
  exact ⟨h2, by rw [this.2]; simp [framesOf, frameOf_len]⟩

theorem Rd.newM (w : World) (cs : List Value) (e size : Nat) (n : Nat) (m : Nat × Nat) (hl : cs.length = n * size) (hn : n ≤ maxLen) : Rd (w.alloc (.cells cs.toArray e m)) (some ⟨w.heap.size, 0, none⟩) n n size cs := by
  refine ⟨hl, Nat.le_refl _, hn, (fun h => by cases h), fun a ha j u hj => ?_⟩
  cases ha
  have h1 : (w.alloc (.cells cs.toArray e m)).heap[w.heap.size]? = some (.cells cs.toArray e m) := heap_alloc_new w _
  have h2 : (⟨w.heap.size, 0, none⟩ : Addr).add j = ⟨w.heap.size, j, none⟩ := by
    unfold Addr.add; split
    · rename_i h; subst h; rfl
    · simp
  rw [h2]
  simp only [World.cell?, h1]
  simpa using hj

theorem Rd.atg {w : World} {g n c : Nat} {xs : List UInt8} (h : Rd w (some ⟨g, 0, none⟩) n c 1 (bvs xs)) (j : Nat) (x : UInt8) (hj : xs[j]? = some x) : w.cell? ⟨g, j, none⟩ = some (.int .u8 (x.toNat : Int)) := by
  have hj' := List.getElem?_eq_some_iff.1 hj
  obtain ⟨hl, he⟩ := hj'
  obtain ⟨a, ha, hc⟩ := h.at j hl
  cases ha
  rw [he] at hc
  have h2 : (⟨g, 0, none⟩ : Addr).add j = ⟨g, j, none⟩ := by
    unfold Addr.add; split
    · rename_i h; subst h; rfl
    · simp
  rw [h2] at hc; exact hc

set_option maxHeartbeats 4000000 in
set_option maxRecDepth 100000 in
theorem shown_any (w : World) : Calls Try.prog 10 #[] w fun e w' => e = .returned (.bool true) ∧ Below w.heap.size w w' := by
  obtain ⟨i0, hi, hz0, hz1, hz2⟩ := info_parts infoB
  have kc := fun (w : World) (C : Array Value) (n c : Nat) => Lib.run_convert_bytes_const (P := Try.prog) w 22 5 C n c Try.underlying22 Try.underlying5
  have kc2 := kc (w.alloc (.cells #[.int .u8 120] 5 (1, 2))) #[.int .u8 97] 1 1
  rw [World.size_alloc] at kc2
  have hmk : ∀ w, (Instr.makeSlice 22 (.int .i64 8) (.int .i64 8)).run Try.prog w = .ok (.slice (some ⟨w.heap.size, 0, none⟩) 8 8) (w.alloc (.cells #[.int .u8 0, .int .u8 0, .int .u8 0, .int .u8 0, .int .u8 0, .int .u8 0, .int .u8 0, .int .u8 0] 5)) := fun _ => by kernel_rfl
  go_enter Try.func10, Try.ntmps10
  go_wp2_with fail
  refine (framePut_any (some ⟨w.heap.size, 0, none⟩) 1 1 [120] (some ⟨w.heap.size + 1, 0, none⟩) 1 1 [97] _ ((Rd.newM w [.int .u8 120] 5 1 1 (1, 2) rfl (by simp [maxLen])).alloc _) ?_ (by omega) (by omega)).mono ?_
  · have := Rd.newM (w.alloc (.cells #[.int .u8 120] 5 (1, 2))) [.int .u8 97] 5 1 1 (1, 2) rfl (by simp [maxLen])
    rw [World.size_alloc] at this; exact this
  · rintro e w1 ⟨r, rfl, hown, hb⟩
    obtain ⟨g, c, rfl, _, _⟩ := own_form hown (by omega)
    obtain ⟨A', c', hv, hrd, _⟩ := own_rd hown
    cases hv
    have hb0 : Below w.heap.size w w1 := (((Below.refl _ w).alloc (Nat.le_refl _) _).alloc (by simp) _).trans (hb.mono (by simp; omega))
    have hc0 := hrd.atg 0 120 rfl
    have hc4 := hrd.atg 4 1 rfl
    have hc9 := hrd.atg 9 97 rfl
    have hnc := hrd.nc
    obtain ⟨A1, hs1, hr1⟩ := cut_l (P := Try.prog) Try.underlying22 hi hz1 (some ⟨g, 0, none⟩) 10 c .i64 1 1 rfl (by omega) hnc
    obtain ⟨A2, hs2, hr2⟩ := cut_lh (P := Try.prog) Try.underlying22 hi hz1 (some ⟨g, 0, none⟩) 10 c .i64 .i64 1 9 1 9 rfl (by omega) (by omega) (by omega) hnc
    have HR1 : Hid (∀ w', Rd w' (some ⟨g, 0, none⟩) 10 c 1 (bvs ([120] ++ frameOf [97])) → Rd w' A1 9 (c - 1) 1 (bvs (frameOf [97]))) := Lib.hid fun w' h => hr1 w' _ h
    have HR2 : Hid (∀ w', Rd w' (some ⟨g, 0, none⟩) 10 c 1 (bvs ([120] ++ frameOf [97])) → Rd w' A2 8 (c - 1) 1 (bvs ((frameOf [97]).take 8))) := Lib.hid fun w' h => hr2 w' _ h
    have HRD := Lib.hid hrd
    have HB0 := Lib.hid hb0
    have HN1 : Hid (nextF (frameOf [97]) = ([97], 9, 0)) := Lib.hid (by have := nextF_frame [97] [] (by simp); rwa [List.append_nil] at this)
    have HN2 : Hid (nextF ((frameOf [97]).take 8) = ([], 0, 5)) := Lib.hid (nextF_cut [97] 8 (by simp) (by simp))
    clear hown hb hb0 hrd hr1 hr2 hz0 hz2
    go_wp2_with fail
    refine (next_any A1 9 (c - 1) (frameOf [97]) _ (HR1.out _ HRD.out) (by omega)).mono ?_
    rintro e w2 ⟨r1, rfl, hown, hb⟩
    rw [HN1.out] at hown ⊢
    obtain ⟨g1, c1, rfl, _, _⟩ := own_form hown (by simp)
    obtain ⟨A', c', hv, hrd1, _⟩ := own_rd hown
    cases hv
    have HRD1 := Lib.hid hrd1
    have HRD2 := Lib.hid (HRD.out.below hb (Nat.le_refl _))
    have HB1 := Lib.hid (HB0.out.trans (hb.mono HB0.out.size))
    clear hown hb hrd1 hc0 hc4 hc9
    go_wp2_with fail
    refine (all_any A1 9 (c - 1) (frameOf [97]) _ (HR1.out _ HRD2.out) (by omega)).mono ?_
    rintro e w3 ⟨v, xs, rfl, hall, _, hown, _, _, hb⟩
    obtain ⟨hxl, hla⟩ := allF_one hall (by simp)
    rw [hxl] at hown
    rw [hla, frameOf_len, if_pos rfl]
    obtain ⟨g2, c2, rfl, _, _⟩ := own_form hown (by simp)
    have HRD11 := Lib.hid (HRD1.out.below hb (Nat.le_refl _))
    have HRD3 := Lib.hid (HRD2.out.below hb (Nat.le_refl _))
    have HB2 := Lib.hid (HB1.out.trans (hb.mono HB1.out.size))
    clear hown hb hall hxl hla
    go_wp2_with fail
    refine (next_any (some ⟨w3.heap.size, 0, none⟩) 8 8 [0, 0, 0, 0, 0, 0, 0, 0] _ (Rd.new w3 [.int .u8 0, .int .u8 0, .int .u8 0, .int .u8 0, .int .u8 0, .int .u8 0, .int .u8 0, .int .u8 0] 5 1 8 rfl (by simp [maxLen])) (by omega)).mono ?_
    rintro e w4 ⟨r3, rfl, hown, hb⟩
    rw [nextF_zeros] at hown ⊢
    have hbb : Below w3.heap.size w3 w4 := ((Below.refl _ _).alloc (Nat.le_refl _) _).trans (hb.mono (by simp))
    have HRD12 := Lib.hid (HRD11.out.below hbb (Nat.le_refl _))
    have HRD4 := Lib.hid (HRD3.out.below hbb (Nat.le_refl _))
    have HB3 := Lib.hid (HB2.out.trans (hbb.mono HB2.out.size))
    clear hown hb hbb
    go_wp2_with fail
    refine (next_any A2 8 (c - 1) ((frameOf [97]).take 8) _ (HR2.out _ HRD4.out) (by omega)).mono ?_
    rintro e w5 ⟨r4, rfl, hown, hb⟩
    rw [HN2.out] at hown ⊢
    have hcs : (convert 22 9 (.slice (some ⟨g1, 0, none⟩) 1 c1)).run Try.prog w5 = .ok (.string ⟨#[97]⟩) w5 := conv_str (xs := [97]) (HRD12.out.below hb (Nat.le_refl _))
    have HB4 := Lib.hid (HB3.out.trans (hb.mono HB3.out.size))
    clear hown hb
    go_wp2
    go_ret
    exact ⟨rfl, HB4.out⟩
end Go.Proofs.Ytegkcbkgoncnbaa
