/- Walk of FrameReads. -/
import Derived.Test.YtegkcbkgoncnbaaShown8
import Derived.Test.YtegkcbkgoncnbaaRef8c
namespace Go.Proofs.Ytegkcbkgoncnbaa
open Go.RowKit

theorem own_slice {w : World} {base e sz n : Nat} {v : Value} {xs : List Value} (h : w.ownsRow base e sz v n xs) : ∃ A c, v = .slice A n c := by
  rcases h.2 with ⟨rfl, rfl⟩ | ⟨g, cap, cur, rfl, _⟩
  · exact ⟨_, _, rfl⟩
  · exact ⟨_, _, rfl⟩

theorem fram_row_at {w : World} {base e g n c i : Nat} {vs : List Value} {x : Value} (h : w.ownsRow base e 1 (.slice (some ⟨g, 0, none⟩) n c) n vs) (hx : vs[i]? = some x) : w.cell? ⟨g, i, none⟩ = some x := by
  have hi := (List.getElem?_eq_some_iff.1 hx).1
  have hl := h.1
  rw [h.cellAt i (by omega), hx]

/-- what the last loop keeps -/
structure RdInv (w5 : World) (xs : List Fram) (v v2 : Value) (j : Nat) (wr : World) : Prop where
  out : wr.ownsRow w5.heap.size 22 1 v xs.length (xs.map Fram.v)
  strs : wr.ownsRow w5.heap.size 9 1 v2 xs.length (xs.map fun x => .string (txt x.body))
  rows : ∀ i x, j ≤ i → xs[i]? = some x → wr.ownsRow w5.heap.size 5 1 x.v x.body.length (bvs x.body)
  below : Below w5.heap.size w5 wr

theorem RdInv.store {w5 wr : World} {xs : List Fram} {v v2 : Value} {j : Nat} (h : RdInv w5 xs v v2 (j + 1) wr) {x : Fram} (hx : xs[j]? = some x)
    (hap : xs.Pairwise (fun x y => ∀ k, x.v.ownBlock = some k → y.v.ownBlock ≠ some k)) {g n c a : Nat} {zs : List Value} {u : Value}
    (hv : x.v = .slice (some ⟨g, 0, none⟩) n c) (hrow : wr.ownsRow w5.heap.size 5 1 (.slice (some ⟨g, 0, none⟩) n c) n zs) :
    RdInv w5 xs v v2 (j + 1) (wr.setCell ⟨g, a, none⟩ u) := by
  have hg := own_ge hrow g rfl
  have hoth : ∀ k, k ≠ g → (wr.setCell ⟨g, a, none⟩ u).heap[k]? = wr.heap[k]? := fun k hk => Below.heap_setCell _ _ _ k hk
  refine ⟨own_same h.out fun k hk => hoth k fun e => ?_, own_same h.strs fun k hk => hoth k fun e => ?_, fun i y hi hy => own_same (h.rows i y hi hy) fun k hk => hoth k fun e => ?_, h.below.setCell (p := ⟨g, a, none⟩) hg u⟩
  · subst e; exact own_ne hrow h.out (by decide) rfl hk
  · subst e; exact own_ne hrow h.strs (by decide) rfl hk
  · subst e
    have hi' := List.getElem?_eq_some_iff.1 hx
    have hy' := List.getElem?_eq_some_iff.1 hy
    obtain ⟨h1, e1⟩ := hi'
    obtain ⟨h2, e2⟩ := hy'
    have := List.pairwise_iff_getElem.1 hap j i h1 h2 (by omega)
    rw [e1, e2] at this
    exact this k (by rw [hv]; rfl) hk

theorem RdInv.ext {w5 wr wq : World} {xs : List Fram} {v v2 : Value} {j j' : Nat} (h : RdInv w5 xs v v2 j wr) (hj : j ≤ j') (hb : ExtW wr wq) : RdInv w5 xs v v2 j' wq :=
  ⟨own_ext h.out hb, own_ext h.strs hb, fun i x hi hx => own_ext (h.rows i x (Nat.le_trans hj hi) hx) hb, h.below.trans (hb.mono h.below.size)⟩

theorem reads_same {b : List UInt8} {xs : List Fram} {l : List (List UInt8 × Nat)} {q : Nat} (h : AllF b xs) (hp : PathF b 0 l q) (hq : (nextF (b.drop q)).2.2 ≠ 0) : lastAt xs = q ∧ xs.length = l.length ∧ l.map (fun x => Value.string (txt x.1)) = xs.map (fun x => Value.string (txt x.body)) := by
  obtain ⟨e1, e2⟩ := PathF.det h.1 hp h.2.2 hq
  refine ⟨e2, by rw [← e1, List.length_map], ?_⟩
  rw [← e1, List.map_map]; rfl

set_option maxHeartbeats 8000000 in
set_option maxRecDepth 100000 in
theorem frameReads_walk (A : Option Addr) (n c : Nat) (xs : List UInt8) (w : World) (hr : Rd w A n c 1 (bvs xs)) (_hc : c ≤ 140737488351232) :
    Calls Try.prog 4 #[.slice A n c] w fun e w' => e = .returned (.bool true) ∧ Below w.heap.size w w' := by
  obtain ⟨i0, hi, hz0, hz1, hz2⟩ := info_parts infoB
  have HS := Lib.hid fun w => shown_any w
  obtain ⟨m, hm⟩ : ∃ m, m = min n 3000 := ⟨_, rfl⟩
  have hm1 : m ≤ 3000 := by omega
  have hm2 : m ≤ n := by omega
  have hmm : (if 3000 < (n : Int) then (3000 : Int) else (n : Int)) = (m : Int) := by split <;> omega
  clear hm
  have hnc := hr.nc
  have hrm := hr.take m hm2
  rw [Nat.mul_one, bvs_take] at hrm
  clear hr
  obtain ⟨a, ha⟩ : ∃ a, a = xs.take m := ⟨_, rfl⟩
  rw [← ha] at hrm
  clear ha
  have hal : a.length = m := by have := hrm.len; rw [bvs_len] at this; omega
  have HR := Lib.hid hrm
  have HAL := Lib.hid hal
  clear hrm hal
  go_enter Try.func4, Try.ntmps4
  go_wp2_with fail
  refine (HS.out _).mono ?_
  rintro e w1 ⟨rfl, hb1⟩
  have HB1 := Lib.hid hb1
  have HO := Lib.hid (own_empty w1 w1.heap.size (Nat.le_refl _))
  have HY := Lib.hid ((HR.out.below HB1.out (Nat.le_refl _)).alloc (.cells #[] 5))
  have hca : (convert 22 9 (.slice A m c)).run Try.prog w1 = .ok (.string (txt a)) w1 := conv_str (HR.out.below HB1.out (Nat.le_refl _))
  clear hb1
  go_wp2_with (at_builtin; refine wpList_append_appd _ rfl _ _ _ rfl w1.heap.size 5 i0 _ 1 1 Try.underlying22 hi hz0 hz1 hz2 rfl (by omega) _ _ _ rfl (.inr HO.out) A m c _ rfl HY.out (bvs_one _) (by simp [maxLen]; omega) (by omega) (by simp) (.inl HO.out) ?_; intro v2 w2 hown2 hb2 _; obtain ⟨A3, c3, rfl, hr3, _⟩ := Rd.of_own hown2; have HB2 : Hid (Below w.heap.size w w2) := Lib.hid (HB1.out.trans ((((Below.refl _ _).alloc (Nat.le_refl _) _).trans hb2).mono HB1.out.size)); rw [Nat.zero_add] at hr3 ⊢; have HR3 := Lib.hid hr3; clear hown2 hb2 hr3 HO HY hca)
  refine (next_any A3 m c3 a _ HR3.out (by omega)).mono ?_
  rintro e w3 ⟨r, rfl, hown, hb3⟩
  have HE3 : Hid (ExtW w2 w3) := Lib.hid hb3
  obtain ⟨bd, hbd⟩ : ∃ bd, bd = (nextF a).1 := ⟨_, rfl⟩
  obtain ⟨q, hq⟩ : ∃ q, q = (nextF a).2.1 := ⟨_, rfl⟩
  obtain ⟨er, her⟩ : ∃ er, er = (nextF a).2.2 := ⟨_, rfl⟩
  have HRV : Hid (refNextV a = .tuple #[.string (txt bd), .int .i64 (q : Nat), .int .i64 (er : Nat)]) := Lib.hid (by unfold refNextV; rw [← hbd, ← hq, ← her])
  rw [← hbd] at hown
  rw [← hq, ← her]
  obtain ⟨k, hk⟩ : ∃ k, k = bd.length := ⟨_, rfl⟩
  rw [← hk] at hown
  have hkb : k ≤ 3000 := by
    rw [hk, hbd]
    rcases nextF_cases a with ⟨bo, kk, hNN, _, h2, h3⟩ | ⟨ee, hNN, _, _⟩
    · rw [hNN]; rw [HAL.out] at h2; simp only; clear hmm; omega
    · rw [hNN]; simp
  obtain ⟨A4, c4, rfl, hr4, _⟩ := own_rd hown
  have HO3 := Lib.hid hown
  have HR4 := Lib.hid hr4
  clear hbd hq her hk hown hb3 hr4
  go_wp2_with fail
  refine (refNext_any a _ (by rw [HAL.out]; omega)).mono ?_
  rintro e w4 ⟨rfl, hb4⟩
  rw [HRV.out]
  have HE4 : Hid (ExtW w2 w4) := Lib.hid (ExtW.trans HE3.out hb4)
  have HO4 := Lib.hid (own_ext HO3.out hb4)
  have hcb : (convert 22 9 (.slice A4 k c4)).run Try.prog w4 = .ok (.string (txt bd)) w4 := conv_str (HR4.out.below hb4 (Nat.le_refl _))
  clear hb4 HO3 HR4
  go_wp2_with fail
  go_loopw [12] (fun i wr => ∃ (j : Nat) (zs : List Value), i = .int .i64 j ∧ j ≤ k ∧ Hid (wr.ownsRow w2.heap.size 5 1 (.slice A4 k c4) k zs) ∧ Hid (Below w2.heap.size w2 wr)) (fun i _ => k - (intOf i).toNat)
  case atStart => exact ⟨0, _, rfl, by omega, HO4, HE4⟩
  case round =>
    clear HO4 hcb HE4 HE3
    obtain ⟨j, zs, rfl, hj, HA, HL⟩ := hrel
    by_cases hlt : j < k
    · have hji : (j : Int) < (k : Int) := by omega
      obtain ⟨g, c', hv, hg, _⟩ := own_form HA.out (by omega)
      cases hv
      have hcell : ∃ u, wr.cell? ⟨g, j, none⟩ = some u := by
        have h1 := HA.out.cellAt j (by omega)
        have h2 := HA.out.1
        rw [List.getElem?_eq_getElem (by omega)] at h1
        exact ⟨_, h1⟩
      obtain ⟨u, hcell⟩ := hcell
      have hfr := HA.out.frozenAt j
      have HST := Lib.hid (HA.out.stored j (.int .u8 63))
      have HG := Lib.hid hg
      clear hg
      go_wp2
      go_roundw
      case rel => exact ⟨j + 1, zs.set j (.int .u8 63), by simp, by omega, Lib.hid HST.out.1, Lib.hid (HL.out.setCell (p := ⟨g, j, none⟩) HG.out _)⟩
      case measure => simp [intOf]; omega
    · obtain rfl : j = k := by omega
      have hji : ¬ (j : Int) < (j : Int) := by omega
      clear HA
      go_wp2_with fail
      refine (all_any A3 m c3 a _ (HR3.out.below HL.out (Nat.le_refl _)) (by omega)).mono ?_
      rintro e w6 ⟨v, fs, rfl, hall, hfew, hown, hrows, hap, hb6⟩
      have HE6 := Lib.hid hb6
      obtain ⟨A7, c7, rfl⟩ := own_slice hown
      have HALL := Lib.hid hall
      have HOWN := Lib.hid hown
      have HROWS := Lib.hid hrows
      have HAP := Lib.hid hap
      have HFEW := Lib.hid hfew
      obtain ⟨N, hN⟩ : ∃ N, N = fs.length := ⟨_, rfl⟩
      rw [← hN]
      have HN := Lib.hid hN
      obtain ⟨L, hL⟩ : ∃ L, L = lastAt fs := ⟨_, rfl⟩
      rw [← hL]
      have HL2 := Lib.hid hL
      obtain ⟨el, hel⟩ : ∃ el, el = (if L = a.length then 0 else (nextF (a.drop L)).2.2) := ⟨_, rfl⟩
      rw [← hel]
      have HEL := Lib.hid hel
      clear hb6 hall hfew hown hrows hap hN hL hel
      go_wp2_with fail
      refine (refAll_any a _ (by rw [HAL.out]; omega)).mono ?_
      rintro e w7 ⟨v2, l, q2, rfl, hp, hne, hown2, hb7⟩
      obtain ⟨e1, e2, e3⟩ := reads_same HALL.out hp hne
      rw [← HL2.out] at e1
      subst e1
      rw [← HEL.out]
      rw [e3, ← e2] at hown2
      obtain ⟨A8, c8, rfl⟩ := own_slice hown2
      have HINV : Hid (RdInv wr fs (.slice A7 fs.length c7) (.slice A8 fs.length c8) 0 w7) := Lib.hid ⟨own_ext HOWN.out hb7, own_mono hown2 HE6.out.size, fun i x _ hx => own_ext (HROWS.out x (List.mem_of_getElem? hx)) hb7, ExtW.trans HE6.out hb7⟩
      rw [← HN.out] at HINV ⊢
      have HNN := Lib.hid (HN.out)
      clear e2 e3 hown2 hb7 hp hne HOWN HROWS
      go_wp2_with fail
      have hNb : N ≤ 3000 := by rw [HN.out]; have := HFEW.out; rw [HAL.out] at this; exact Nat.le_trans this hm1
      clear hlt hji hj
      obtain ⟨w5, rfl⟩ : ∃ w5, w5 = wr := ⟨_, rfl⟩
      go_loopw [19] (fun i w8 => ∃ j2 : Nat, i = .int .i64 j2 ∧ j2 ≤ N ∧ Hid (RdInv w5 fs (.slice A7 N c7) (.slice A8 N c8) j2 w8)) (fun i _ => N - (intOf i).toNat)
      case atStart => exact ⟨0, rfl, Nat.zero_le _, HINV⟩
      case round =>
        obtain ⟨w8, rfl⟩ : ∃ w8, w8 = wr := ⟨_, rfl⟩
        clear HINV
        obtain ⟨j2, rfl, hj2, HI⟩ := hrel
        by_cases hlt2 : j2 < N
        · have hji2 : (j2 : Int) < (N : Int) := by clear hmm; omega
          have hout := HI.out.out
          have hstr := HI.out.strs
          rw [← HN.out] at hout hstr
          obtain ⟨g7, c7', hv7, _, _⟩ := own_form hout (by clear hmm; omega)
          cases hv7
          obtain ⟨g8, c8', hv8, _, _⟩ := own_form hstr (by clear hmm; omega)
          cases hv8
          obtain ⟨x, hx⟩ : ∃ x, fs[j2]? = some x := ⟨_, List.getElem?_eq_getElem (by rw [← HN.out]; exact hlt2)⟩
          have hcell7 := fram_row_at (i := j2) (x := x.v) hout (by rw [List.getElem?_map, hx]; rfl)
          have hcell8 := fram_row_at (i := j2) (x := .string (txt x.body)) hstr (by rw [List.getElem?_map, hx]; rfl)
          have hrow := HI.out.rows j2 x (Nat.le_refl _) hx
          obtain ⟨A9, c9, hv9, hr9, _⟩ := own_rd hrow
          rw [hv9] at hcell7
          have HX := Lib.hid hx
          have HV9 := Lib.hid hv9
          have HROW := Lib.hid hrow
          have hcw7 : ∀ wq, ExtW w8.drew wq → wq.cell? ⟨g7, j2, none⟩ = some (.slice A9 x.body.length c9) := fun wq h => (ExtW.of_drew h).cellAt hcell7
          have hcw8 : ∀ wq, ExtW w8.drew wq → wq.cell? ⟨g8, j2, none⟩ = some (.string (txt x.body)) := fun wq h => (ExtW.of_drew h).cellAt hcell8
          have hcs : ∀ wq, ExtW w8.drew wq → (convert 22 9 (.slice A9 x.body.length c9)).run Try.prog wq = .ok (.string (txt x.body)) wq := fun wq h => conv_str (hr9.below (ExtW.of_drew h) (Nat.le_refl _))
          clear hout hstr hrow hr9 hx hv9 hcell7 hcell8
          go_wp2_with fail
          apply wp_region_ext _ (by kernel_rfl) (by kernel_rfl)
          iterate 10 (apply wpZ_det; (intro wq hE hG; first | exact obl_non (by rfl) | (apply obl_val (by rfl); go_simp; rfl)); (intro ak hak; simp only [Act.put, List.setIfInBounds_toArray, List.set_cons_succ, List.set_cons_zero] at hak; subst hak))
          (apply wpZ_nil; intro wk hE hG)
          have HEK : Hid (ExtW w8 wk) := Lib.hid (ExtW.of_drew hE)
          have HIK := Lib.hid (HI.out.ext (Nat.le_succ j2) HEK.out)
          have HROWK := Lib.hid (own_ext HROW.out HEK.out)
          rw [HV9.out] at HROWK
          obtain ⟨nb, hnb⟩ : ∃ nb, nb = x.body.length := ⟨_, rfl⟩
          have hnbb : nb ≤ maxLen := by
            rcases HROWK.out.2 with ⟨_, h0⟩ | ⟨g, cap, cur, _, _, _, h2, h3, _⟩
            · rw [hnb, h0]; exact Nat.zero_le _
            · rw [hnb]; exact Nat.le_trans h2 h3
          simp only [maxLen] at hnbb
          rw [← hnb] at HROWK HV9
          clear hE hG hcw7 hcw8 hcs HROW HI HEK
          go_wp2_with fail
          go_loopw [20] (fun i w9 => ∃ (a2 : Nat) (zs : List Value), i = .int .i64 a2 ∧ a2 ≤ nb ∧ Hid (RdInv w5 fs (.slice (some ⟨g7, 0, none⟩) N c7) (.slice (some ⟨g8, 0, none⟩) N c8) (j2 + 1) w9) ∧ Hid (w9.ownsRow w5.heap.size 5 1 (.slice A9 nb c9) nb zs)) (fun i _ => nb - (intOf i).toNat)
          case atStart => exact ⟨0, _, rfl, Nat.zero_le _, HIK, HROWK⟩
          case round =>
            obtain ⟨w9, rfl⟩ : ∃ w9, w9 = wr := ⟨_, rfl⟩
            clear HIK HROWK
            obtain ⟨a2, zs, rfl, ha2, HI, HA⟩ := hrel
            have hout := HI.out.out
            rw [← HN.out] at hout
            have hcell7 := fram_row_at (i := j2) (x := x.v) hout (by rw [List.getElem?_map, HX.out]; rfl)
            rw [HV9.out] at hcell7
            by_cases hlt3 : a2 < nb
            · have hai : (a2 : Int) < (nb : Int) := by clear hmm; omega
              obtain ⟨g9, c9', hv9, _, _⟩ := own_form HA.out (by clear hmm; omega)
              cases hv9
              have hcell : ∃ u, w9.cell? ⟨g9, a2, none⟩ = some u := by
                have h1 := HA.out.cellAt a2 (by rw [Nat.mul_one]; exact hlt3)
                have h2 := HA.out.1
                rw [List.getElem?_eq_getElem (by rw [h2, Nat.mul_one]; exact hlt3)] at h1
                exact ⟨_, h1⟩
              obtain ⟨u, hcell⟩ := hcell
              have hfr := HA.out.frozenAt a2
              have HST := Lib.hid (HA.out.stored a2 (.int .u8 63)).1
              have HIS := Lib.hid (HI.out.store (a := a2) (u := .int .u8 63) HX.out HAP.out HV9.out HA.out)
              clear hout
              go_wp2
              go_roundw
              case rel => exact ⟨a2 + 1, zs.set a2 (.int .u8 63), by simp, hlt3, HIS, HST⟩
              case measure => clear hmm; simp [intOf]; omega
            · obtain rfl : a2 = nb := by clear hmm; omega
              have hai : ¬ (a2 : Int) < (a2 : Int) := by clear hmm; omega
              clear hout
              go_wp2
              go_roundw
              case rel => exact ⟨j2 + 1, by simp, hlt2, HI⟩
              case measure => clear hmm; simp [intOf]; omega
        · obtain rfl : j2 = N := by clear hmm; omega
          have hji2 : ¬ (j2 : Int) < (j2 : Int) := by clear hmm; omega
          have hcx : (convert 22 9 (.slice A3 m c3)).run Try.prog w8 = .ok (.string (txt a)) w8 := conv_str ((HR3.out.below HL.out (Nat.le_refl _)).below HI.out.below (Nat.le_refl _))
          go_wp2
          go_ret
          exact ⟨rfl, HB2.out.trans ((HL.out.trans (HI.out.below.mono HL.out.size)).mono HB2.out.size)⟩
end Go.Proofs.Ytegkcbkgoncnbaa
