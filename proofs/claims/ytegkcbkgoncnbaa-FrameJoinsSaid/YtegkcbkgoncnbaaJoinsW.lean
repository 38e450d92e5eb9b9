/- Walk of FrameJoins. -/
import Derived.Test.YtegkcbkgoncnbaaCut8
namespace Go.Proofs.Ytegkcbkgoncnbaa
open Go.RowKit

theorem infoS8 : (Try.prog.info? 9).map (fun i => (i.zero, i.size, i.bytes)) = some (some (.string ByteArray.empty), 1, 16) := by kernel_rfl
theorem infoI8 : (Try.prog.info? 3).map (fun i => (i.zero, i.size, i.bytes)) = some (some (.int .i64 0), 1, 8) := by kernel_rfl

theorem own_other {W W' : World} {o : Obj} {b1 b2 : Nat} {e1 e2 : TypeId} {s1 s2 : Nat} {v1 v2 : Value} {n1 n2 : Nat} {x1 x2 : List Value} (h1 : W.ownsRow b1 e1 s1 v1 n1 x1) (h2 : W.ownsRow b2 e2 s2 v2 n2 x2) (he : e1 ≠ e2) (hg : (W.alloc o).grownBy W' v2.ownBlock) : W'.ownsRow b1 e1 s1 v1 n1 x1 :=
  own_same h1 fun k hk => (hg.block k (by have := own_lt h1 k hk; simp; omega) (fun e => own_ne h1 h2 he hk e.symm)).trans (Below.heap_alloc W o k (own_lt h1 k hk))

/-- where frames end -/
def endsOf (l : List (List UInt8)) : List Nat := (List.range l.length).map fun i => (framesOf (l.take (i + 1))).length
theorem endsOf_len (l : List (List UInt8)) : (endsOf l).length = l.length := by simp [endsOf]
theorem endsOf_snoc (l : List (List UInt8)) (y : List UInt8) : endsOf (l ++ [y]) = endsOf l ++ [(framesOf (l ++ [y])).length] := by
  unfold endsOf
  rw [List.length_append, List.length_singleton, List.range_succ, List.map_append, List.map_singleton, List.take_of_length_le (by simp)]
  congr 1
  refine List.map_congr_left fun i hi => ?_
  rw [List.take_append_of_le_length (by have := List.mem_range.1 hi; omega)]
theorem endsOf_get {l : List (List UInt8)} {k : Nat} (h : k < l.length) : (endsOf l)[k]? = some (framesOf (l.take (k + 1))).length := by
  unfold endsOf
  rw [List.getElem?_map, List.getElem?_range h]; rfl
theorem framesOf_app (l r : List (List UInt8)) : framesOf (l ++ r) = framesOf l ++ framesOf r := by simp [framesOf]
theorem framesOf_split (l : List (List UInt8)) (k : Nat) : framesOf l = framesOf (l.take k) ++ framesOf (l.drop k) := by rw [← framesOf_app, List.take_append_drop]

/-- what All tells of some frames alone -/
theorem joins_told {l : List (List UInt8)} {xs : List Fram} (hl : ∀ y, y ∈ l → y.length ≤ 65536) (h : AllF (framesOf l) xs) :
    xs.length = l.length ∧ lastAt xs = (framesOf l).length ∧ xs.map Fram.body = l ∧ (if lastAt xs = (framesOf l).length then 0 else (nextF ((framesOf l).drop (lastAt xs))).2.2) = 0 := by
  have h' : AllF (framesOf l ++ []) xs := by rw [List.append_nil]; exact h
  have hne : (nextF []).2.2 ≠ 0 := by rw [nextF_nil]; simp
  obtain ⟨_, e2⟩ := allF_frames h' hl hne
  have e3 := allF_bodies h' hl hne
  exact ⟨by rw [← List.length_map (f := Fram.body), e3], e2, e3, by rw [if_pos e2]⟩

/-- what the first loop has made -/
structure JInv (base : Nat) (rows : List (List UInt8)) (x v v2 : Value) (wr : World) : Prop where
  x : wr.ownsRow base 5 1 x (framesOf rows).length (bvs (framesOf rows))
  strs : wr.ownsRow base 9 1 v rows.length (rows.map fun y => .string ⟨y.toArray⟩)
  ends : wr.ownsRow base 3 1 v2 rows.length ((endsOf rows).map fun k => .int .i64 (k : Nat))
theorem JInv.ext {base : Nat} {rows : List (List UInt8)} {x v v2 : Value} {w w' : World} (h : JInv base rows x v v2 w) (hb : ExtW w w') : JInv base rows x v v2 w' := ⟨own_ext h.x hb, own_ext h.strs hb, own_ext h.ends hb⟩
theorem own_none (w : World) (base e : Nat) : w.ownsRow base e 1 (.slice none 0 0) 0 [] := ⟨rfl, .inl ⟨rfl, rfl⟩⟩
theorem JInv.nil (base : Nat) (w : World) : JInv base [] (.slice none 0 0) (.slice none 0 0) (.slice none 0 0) w := ⟨own_none _ _ _, own_none _ _ _, own_none _ _ _⟩

theorem own_slice8 {w : World} {base e sz n : Nat} {v : Value} {xs : List Value} (h : w.ownsRow base e sz v n xs) : ∃ A c, v = .slice A n c := by
  rcases h.2 with ⟨rfl, rfl⟩ | ⟨g, cap, cur, rfl, _⟩
  · exact ⟨_, _, rfl⟩
  · exact ⟨_, _, rfl⟩

theorem row_of_two {w : World} {A A2 : Option Addr} {n c n2 c2 j : Nat} {la lb : List (List UInt8)} (h : Bss w A n c la) (h2 : Bss w A2 n2 c2 lb) (hj : j < n + n2) : ∃ y, (la ++ lb)[j]? = some y :=
  ⟨_, List.getElem?_eq_getElem (by rw [List.length_append, h.len, h2.len]; exact hj)⟩
theorem cutRows_le' (k : Nat) (hk : k ≤ 65536) (l : List (List UInt8)) (j : Nat) : ∀ y, y ∈ cutRows k l j → y.length ≤ 65536 := by
  intro y hy
  unfold cutRows at hy
  obtain ⟨x, _, rfl⟩ := List.mem_map.1 hy
  rw [List.length_take]; omega

set_option maxHeartbeats 8000000 in
set_option maxRecDepth 100000 in
theorem frameJoins_walk (A : Option Addr) (n c : Nat) (la : List (List UInt8)) (A2 : Option Addr) (n2 c2 : Nat) (lb : List (List UInt8)) (x : Int) (w : World)
    (hr : Bss w A n c la) (hc : c ≤ 140737488351232) (hr2 : Bss w A2 n2 c2 lb) (hc2 : c2 ≤ 140737488351232) (hx : -9223372036854775808 ≤ x ∧ x ≤ 9223372036854775807) :
    Calls Try.prog 8 #[.slice A n c, .slice A2 n2 c2, .int .i64 x] w fun e w' => e = .returned (.bool true) ∧ Below w.heap.size w w' := by
  obtain ⟨i0, hi, hz0, hz1, hz2⟩ := info_parts infoB
  have HS := Lib.hid fun w => shown_any w
  have HX := Lib.hid hx
  have hnb : n ≤ 140737488351232 := Nat.le_trans hr.nc hc
  have hnb2 : n2 ≤ 140737488351232 := Nat.le_trans hr2.nc hc2
  have HR := Lib.hid hr
  have HR2 := Lib.hid hr2
  clear hr hr2 hx hc hc2
  obtain ⟨rows, hrows⟩ : ∃ rows, rows = la ++ lb := ⟨_, rfl⟩
  have HRW := Lib.hid hrows
  clear hrows
  go_enter Try.func8, Try.ntmps8
  go_wp2_with fail
  refine (HS.out _).mono ?_
  rintro e w1 ⟨rfl, hb1⟩
  have HB1 := Lib.hid hb1
  clear hb1
  go_upto_block 0 with (fail)
  go_cut [8, 9, 10] (fun s v v2 wc => ∃ (j k : Nat) (B : Option Addr) (d : Nat) (A3 : Option Addr) (c3 : Nat) (A4 : Option Addr) (c4 : Nat), s = .slice B k d ∧ v = .slice A3 j c3 ∧ v2 = .slice A4 j c4 ∧ j ≤ 40 ∧ k ≤ j * 1008 ∧ Hid (j ≤ n + n2 ∧ k = (framesOf (cutRows 1000 rows j)).length) ∧ Hid (JInv w1.heap.size (cutRows 1000 rows j) (.slice B k d) (.slice A3 j c3) (.slice A4 j c4) wc) ∧ Hid (ExtW w1 wc))
  case first =>
    go_wp2_with fail
    go_loopw [8, 9, 10, 11] (fun s v v2 i wr => ∃ (j k : Nat) (B : Option Addr) (d : Nat) (A3 : Option Addr) (c3 : Nat) (A4 : Option Addr) (c4 : Nat), i = .int .i64 j ∧ s = .slice B k d ∧ v = .slice A3 j c3 ∧ v2 = .slice A4 j c4 ∧ j ≤ 40 ∧ k ≤ j * 1008 ∧ Hid (j ≤ n + n2 ∧ k = (framesOf (cutRows 1000 rows j)).length) ∧ Hid (JInv w1.heap.size (cutRows 1000 rows j) (.slice B k d) (.slice A3 j c3) (.slice A4 j c4) wr) ∧ Hid (ExtW w1 wr)) (fun _ _ _ i _ => 40 - (intOf i).toNat)
    case atStart => exact ⟨0, 0, none, 0, none, 0, none, 0, rfl, rfl, rfl, rfl, Nat.zero_le _, Nat.zero_le _, Lib.hid ⟨Nat.zero_le _, rfl⟩, Lib.hid (JInv.nil _ _), Lib.hid (ExtW.refl _)⟩
    case round =>
      obtain ⟨j, k, B, d, A3, c3, A4, c4, rfl, rfl, rfl, rfl, hj40, hk, HK, HJ, HE⟩ := hrel
      by_cases hlt : j < n + n2 ∧ j < 40
      · obtain ⟨hl1, hl2⟩ := hlt
        have hli : (j : Int) < (n : Int) + (n2 : Int) := by omega
        have hli2 : (j : Int) < 40 := by omega
        obtain ⟨y, hy⟩ := row_of_two HR.out HR2.out hl1
        rw [← HRW.out] at hy
        have HY := Lib.hid hy
        clear hy
        go_upto_if 47 with (fail)
        go_cut [12] (fun t wd => ∃ (D : Option Addr) (m dd : Nat), t = .slice D m dd ∧ Hid (Rd wd D m dd 1 (bvs y)) ∧ Hid (wd = wr))
        case first =>
          by_cases hjn : j < n
          · have hli3 : (j : Int) < (n : Int) := by omega
            cases hA : A with
            | none => have := HR.out.nil0 hA; have := HR.out.nc; omega
            | some a =>
              obtain ⟨D, m, dd, hcell, hrd⟩ := HR.out.row a hA j y (by have := HY.out; rw [HRW.out, List.getElem?_append_left (by rw [HR.out.len]; exact hjn)] at this; exact this)
              subst hA
              have hcell2 := (HB1.out.trans (HE.out.mono HB1.out.size)).cell (p := a.add j) (cell_lt hcell)
              rw [hcell] at hcell2
              have HRQ := Lib.hid (hrd.below (HB1.out.trans (HE.out.mono HB1.out.size)) (Nat.le_refl _))
              clear hrd hcell
              go_wp2_with fail
              go_meet
              case rel => exact ⟨D, m, dd, rfl, HRQ, rfl⟩
          · obtain ⟨t, rfl⟩ : ∃ t, j = n + t := ⟨j - n, by omega⟩
            have hli3 : ¬ ((n + t : Nat) : Int) < (n : Int) := by omega
            cases hA : A2 with
            | none => have := HR2.out.nil0 hA; have := HR2.out.nc; omega
            | some a =>
              obtain ⟨D, m, dd, hcell, hrd⟩ := HR2.out.row a hA t y (by have := HY.out; rw [HRW.out, List.getElem?_append_right (by rw [HR.out.len]; omega), HR.out.len, Nat.add_sub_cancel_left] at this; exact this)
              subst hA
              have hcell2 := (HB1.out.trans (HE.out.mono HB1.out.size)).cell (p := a.add t) (cell_lt hcell)
              rw [hcell] at hcell2
              have HRQ := Lib.hid (hrd.below (HB1.out.trans (HE.out.mono HB1.out.size)) (Nat.le_refl _))
              have e1 : ((n + t : Nat) : Int) - (n : Int) = (t : Int) := by omega
              have hb1 : (t : Int) < (n2 : Int) := by omega
              clear hrd hcell
              go_wp2_with fail
              go_meet
              case rel => exact ⟨D, m, dd, rfl, HRQ, rfl⟩
        case rest =>
          obtain ⟨D, m, dd, rfl, HRD, HW⟩ := hcut
          obtain rfl := HW.out
          obtain ⟨q, hq⟩ : ∃ q, q = min m 1000 := ⟨_, rfl⟩
          have hq1 : q ≤ 1000 := by omega
          have hq2 : q ≤ m := by omega
          have hqq : (if 1000 < (m : Int) then (1000 : Int) else (m : Int)) = (q : Int) := by split <;> omega
          obtain ⟨hsl, hslr⟩ := cut_h (P := Try.prog) Try.underlying22 hi hz1 D m dd .i64 (q : Int) q rfl hq2 HRD.out.nc
          have hrq := hslr _ _ HRD.out
          rw [Nat.mul_one, bvs_take] at hrq
          obtain ⟨z, hz⟩ : ∃ z, z = y.take q := ⟨_, rfl⟩
          rw [← hz] at hrq
          have HZ : Hid (z = y.take 1000) := Lib.hid (by
            have hyl : y.length = m := by have := HRD.out.len; rw [bvs_len] at this; omega
            rw [hz]
            by_cases hm3 : m ≤ 1000
            · rw [List.take_of_length_le (by omega), List.take_of_length_le (by omega)]
            · rw [show q = 1000 by omega])
          have HRQ := Lib.hid hrq
          have HQQ := Lib.hid hqq
          obtain ⟨fr, hfr⟩ : ∃ fr, fr = framesOf (cutRows 1000 rows j) := ⟨_, rfl⟩
          have HFR := Lib.hid hfr
          have HRX : Hid (Rd wc B k d 1 (bvs fr)) := Lib.hid (by
            rw [hfr]
            have h1 := HJ.out.x
            rw [← HK.out.2] at h1
            obtain ⟨A', c', e1, h2, _⟩ := own_rd h1
            cases e1
            exact h2)
          have HZL : Hid (z.length = q) := Lib.hid (by have := hrq.len; rw [bvs_len] at this; omega)
          have HKL : Hid (k = fr.length) := Lib.hid (by rw [hfr]; exact HK.out.2)
          have HJN : Hid (j < n + n2) := Lib.hid hl1
          clear hslr hrq hz hq hfr HRD hl1
          go_wp2_with fail
          refine (framePut_any B k d fr D q dd z _ HRX.out HRQ.out (by clear hqq; omega) (by clear hqq; omega)).mono ?_
          rintro e w3 ⟨r, rfl, hown, hb3⟩
          have HB3 : Hid (ExtW wc w3) := Lib.hid hb3
          obtain ⟨k2, hk2⟩ : ∃ k2, k2 = k + (q + 8) := ⟨_, rfl⟩
          rw [← hk2] at hown
          obtain ⟨A5, c5, rfl, _, _⟩ := own_rd hown
          have hcm : ((k2 : Int) != (k : Int) + 8 + (q : Int)) = false := by clear hqq; simp; omega
          have hk3 : k2 ≤ (j + 1) * 1008 := by clear hqq; omega
          have hk4 : k2 ≤ 100000 := by clear hqq; omega
          have HKK := Lib.hid hk2
          have HO5 := Lib.hid (own_mono hown HE.out.size)
          have HJ3 := Lib.hid (HJ.out.ext HB3.out)
          have HE3 := Lib.hid (ExtW.trans HE.out HB3.out)
          have hct : (convert 22 9 (.slice D q dd)).run Try.prog w3 = .ok (.string ⟨z.toArray⟩) w3 := conv_str (HRQ.out.below hb3 (Nat.le_refl _))
          have HLN : Hid ((cutRows 1000 rows j).length = j) := Lib.hid (by have := HJ.out.x; exact cutRows_len (by rw [HRW.out, List.length_append, HR.out.len, HR2.out.len]; exact HK.out.1))
          have HOS : Hid (w3.ownsRow w1.heap.size 9 1 (.slice A3 j c3) j ((cutRows 1000 rows j).map fun y => .string ⟨y.toArray⟩)) := Lib.hid (by have := HJ3.out.strs; rw [HLN.out] at this; exact this)
          have HOI : Hid (w3.ownsRow w1.heap.size 3 1 (.slice A4 j c4) j ((endsOf (cutRows 1000 rows j)).map fun k => .int .i64 (k : Nat))) := Lib.hid (by have := HJ3.out.ends; rw [HLN.out] at this; exact this)
          clear hown hb3 hk2 HJ HRX HRQ
          obtain ⟨i1, hi1, hy0, hy1, hy2⟩ := info_parts infoS8
          obtain ⟨i2, hi2, hu0, hu1, hu2⟩ := info_parts infoI8
          go_wp2_with (first | (at_builtin; refine wpList_append_own _ rfl _ _ _ rfl w1.heap.size 9 i1 _ 1 16 Try.underlying37 hi1 hy0 hy1 hy2 rfl (by decide) _ _ _ rfl (own_ext HOS.out (show ExtW _ _ from (Below.refl _ _).alloc (Nat.le_refl _) _)) ⟨w3.heap.size, 0, none⟩ 1 1 [.string ⟨z.toArray⟩] rfl rfl (cell_one_new _ _ _) (by simp [Value.oneCell']) (by simp [maxLen]; omega) (by omega) (by simp; exact Nat.le_succ_of_le HE3.out.size) ?_; intro v4 w4 hown4 hgrow4 _; have HO4 := Lib.hid hown4; have HOI4 := Lib.hid (own_other HOI.out HOS.out (by decide) hgrow4); have HOX4 := Lib.hid (own_other HO5.out HOS.out (by decide) hgrow4); have HE4 := Lib.hid (((Below.refl w1.heap.size w3).alloc HE3.out.size _).grown hgrow4 (by simp; exact Nat.le_succ_of_le HE3.out.size) (fun k hk => own_ge HOS.out k hk)); clear hown4 hgrow4) | (at_builtin; refine wpList_append_own _ rfl _ _ _ rfl w1.heap.size 3 i2 _ 1 8 Try.underlying44 hi2 hu0 hu1 hu2 rfl (by decide) _ _ _ rfl (own_ext HOI4.out (show ExtW _ _ from (Below.refl _ _).alloc (Nat.le_refl _) _)) ⟨w4.heap.size, 0, none⟩ 1 1 [.int .i64 (k2 : Nat)] rfl rfl (cell_one_new _ _ _) (by simp [Value.oneCell']) (by simp [maxLen]; omega) (by omega) (by simp; exact Nat.le_succ_of_le (Below.trans HE3.out HE4.out).size) ?_; intro v5 w5 hown5 hgrow5 _; have HO6 := Lib.hid hown5; have HOS5 := Lib.hid (own_other HO4.out HOI4.out (by decide) hgrow5); have HOX5 := Lib.hid (own_other HOX4.out HOI4.out (by decide) hgrow5); have HE5 := Lib.hid (((Below.refl w1.heap.size w4).alloc (Below.trans HE3.out HE4.out).size _).grown hgrow5 (by simp; exact Nat.le_succ_of_le (Below.trans HE3.out HE4.out).size) (fun k hk => own_ge HOI4.out k hk)); clear hown5 hgrow5; obtain ⟨A6, c6, hv4⟩ := own_slice8 HOS5.out; subst hv4; obtain ⟨A7, c7, hv5⟩ := own_slice8 HO6.out; subst hv5))
          go_roundw
          case rel =>
            have e1 := cutRows_succ (k := 1000) HY.out
            rw [← HZ.out] at e1
            have hkk : k2 = (framesOf (cutRows 1000 rows j ++ [z])).length := by
              rw [framesOf_snoc, List.length_append, frameOf_len, ← HFR.out, ← HKL.out, HKK.out]
              rw [HZL.out]
            refine ⟨j + 1, k2, A5, c5, A6, c6, A7, c7, by simp, rfl, rfl, rfl, hl2, hk3, Lib.hid ⟨HJN.out, by rw [e1]; exact hkk⟩, Lib.hid ?_, Lib.hid (Below.trans HE3.out (Below.trans HE4.out HE5.out))⟩
            rw [e1]
            refine ⟨?_, ?_, ?_⟩
            · rw [← hkk, framesOf_snoc, ← HFR.out]; exact HOX5.out
            · rw [List.length_append, HLN.out, List.map_append]; exact HOS5.out
            · rw [List.length_append, HLN.out, endsOf_snoc, List.map_append, ← hkk]; exact HO6.out
          case measure => clear hqq; simp [intOf]; omega
      · by_cases h1 : j < n + n2
        · have hli : (j : Int) < (n : Int) + (n2 : Int) := by omega
          have hli2 : ¬ (j : Int) < 40 := by omega
          go_wp2_with fail
          go_meet
          case rel => exact ⟨j, k, B, d, A3, c3, A4, c4, rfl, rfl, rfl, hj40, hk, HK, HJ, HE⟩
        · have hli : ¬ (j : Int) < (n : Int) + (n2 : Int) := by omega
          go_wp2_with fail
          go_meet
          case rel => exact ⟨j, k, B, d, A3, c3, A4, c4, rfl, rfl, rfl, hj40, hk, HK, HJ, HE⟩
  case rest =>
    obtain ⟨j, k, B, d, A3, c3, A4, c4, rfl, rfl, rfl, hj40, hk, HK, HJ, HE⟩ := hcut
    have HLN : Hid ((cutRows 1000 rows j).length = j) := Lib.hid (cutRows_len (by rw [HRW.out, List.length_append, HR.out.len, HR2.out.len]; exact HK.out.1))
    obtain ⟨ct, hct⟩ : ∃ ct, ct = cutRows 1000 rows j := ⟨_, rfl⟩
    have HLE : Hid (∀ y, y ∈ ct → y.length ≤ 65536) := Lib.hid (by rw [hct]; exact cutRows_le' 1000 (by decide) _ _)
    rw [← hct] at HK HJ HLN
    have HKL : Hid (k = (framesOf ct).length) := Lib.hid HK.out.2
    have HRX : Hid (Rd wc B k d 1 (bvs (framesOf ct))) := Lib.hid (by
      have h1 := HJ.out.x
      rw [← HK.out.2] at h1
      obtain ⟨A', c', e1, h2, _⟩ := own_rd h1
      cases e1
      exact h2)
    have HOS : Hid (wc.ownsRow w1.heap.size 9 1 (.slice A3 j c3) j (ct.map fun y => .string ⟨y.toArray⟩)) := Lib.hid (by have := HJ.out.strs; rw [HLN.out] at this; exact this)
    have HOI : Hid (wc.ownsRow w1.heap.size 3 1 (.slice A4 j c4) j ((endsOf ct).map fun k => .int .i64 (k : Nat))) := Lib.hid (by have := HJ.out.ends; rw [HLN.out] at this; exact this)
    have HBW : Hid (Below w.heap.size w wc) := Lib.hid (Below.trans HB1.out (Below.mono HE.out HB1.out.size))
    have hk4 : k ≤ 100000 := by omega
    clear hct HK HJ hnb hnb2 HR HR2 HB1 HE hk
    go_wp2_with fail
    refine (all_any B k d (framesOf ct) _ HRX.out (by omega)).mono ?_
    rintro e w3 ⟨v, fs, rfl, hall, _, hown, hrows, _, hb3⟩
    obtain ⟨t1, t2, t3, t4⟩ := joins_told HLE.out hall
    rw [t4, t2, ← HKL.out]
    rw [t1, HLN.out] at hown
    obtain ⟨A5, c5, rfl⟩ := own_slice8 hown
    have HB3 : Hid (ExtW wc w3) := Lib.hid hb3
    have HOWN := Lib.hid hown
    have HROWS := Lib.hid hrows
    have HT3 := Lib.hid t3
    have HTL : Hid (fs.length = j) := Lib.hid (by rw [t1, HLN.out])
    have HOI3 := Lib.hid (own_ext HOI.out hb3)
    clear hall hown hrows hb3 t1 t2 t3 t4 HOI
    go_upto_if 116 with (fail)
    go_cut [2] (fun t wd => ∃ y : Nat, t = .int .i64 y ∧ y < 9223372036854775808 ∧ Hid (wd = w3))
    case first =>
      rcases sign_of HX.out with ⟨y, hy, hx0, hyb, hyn, hyy⟩ | ⟨y, hy, hyb, hxb⟩
      · have HYB := Lib.hid hyb
        have hxb : decide (x < 0) = true := decide_eq_true hx0
        clear hj40 hz0 hz1 hz2 hi hyb hk4
        go_wp2_with fail
        go_meet
        case rel => exact ⟨y, by simp [hyy], HYB.out, rfl⟩
      · subst hy
        have HYB := Lib.hid hyb
        clear hj40 hz0 hz1 hz2 hi hyb hk4
        go_wp2_with fail
        go_meet
        case rel => exact ⟨y, rfl, HYB.out, rfl⟩
    case rest =>
      obtain ⟨y, rfl, hyb, HW⟩ := hcut
      obtain rfl := HW.out
      obtain ⟨k1, hk1, hk1j⟩ : ∃ k1 : Nat, (y : Int) % ((j : Int) + 1) = (k1 : Int) ∧ k1 ≤ j := ⟨y % (j + 1), by simp, Nat.le_of_lt_succ (Nat.mod_lt y (Nat.succ_pos j))⟩
      go_upto_if 126 with (fail)
      rw [hk1]
      clear hk1 hyb
      go_cut [18] (fun u wd => ∃ q : Nat, u = .int .i64 q ∧ q ≤ k ∧ Hid (q = (framesOf (ct.take k1)).length) ∧ Hid (wd = wc))
      case first =>
        by_cases h0 : k1 = 0
        · subst h0
          go_wp2_with fail
          go_meet
          case rel => exact ⟨0, rfl, Nat.zero_le _, Lib.hid (by simp [framesOf]), rfl⟩
        · obtain ⟨t, rfl⟩ : ∃ t, k1 = t + 1 := ⟨k1 - 1, by omega⟩
          have htj : t < j := by omega
          have HIE := endsOf_get (l := ct) (k := t) (by rw [HLN.out]; exact htj)
          obtain ⟨g4, c4', hv4, _, _⟩ := own_form HOI3.out (by omega)
          cases hv4
          obtain ⟨q, hq⟩ : ∃ q, q = (framesOf (ct.take (t + 1))).length := ⟨_, rfl⟩
          rw [← hq] at HIE
          have hqk : q ≤ k := by
            rw [hq, HKL.out]
            conv => rhs; rw [framesOf_split ct (t + 1)]
            rw [List.length_append]; exact Nat.le_add_right _ _
          have hcell4 := fram_row_at (i := t) (x := .int .i64 (q : Nat)) HOI3.out (by rw [List.getElem?_map, HIE]; rfl)
          have e1 : ((t + 1 : Nat) : Int) - 1 = (t : Int) := by omega
          have e2 : (t : Int) < (j : Int) := by omega
          have e3 : (0 : Int) < ((t + 1 : Nat) : Int) := by omega
          have HQ := Lib.hid hq
          clear HIE hq h0
          go_wp2_with fail
          go_meet
          case rel => exact ⟨q, rfl, hqk, HQ, rfl⟩
      case rest =>
        obtain ⟨q, rfl, hqk, HQ, HW⟩ := hcut
        obtain rfl := HW.out
        obtain ⟨r, HJR⟩ : ∃ r, Hid (j = k1 + r) := ⟨j - k1, Lib.hid (by omega)⟩
        have HTK : Hid ((ct.take k1).length = k1) := Lib.hid (by rw [List.length_take, HLN.out]; omega)
        have HDR : Hid ((ct.drop k1).length = r) := Lib.hid (by rw [List.length_drop, HLN.out]; have := HJR.out; omega)
        have hr0 := HRX.out.below HB3.out (Nat.le_refl _)
        have hnc := hr0.nc
        obtain ⟨hsl, hslr⟩ := cut_h (P := Try.prog) Try.underlying22 hi hz1 B k d .i64 (q : Int) q rfl hqk hnc
        obtain ⟨B2, hsl2, hslr2⟩ := cut_l (P := Try.prog) Try.underlying22 hi hz1 B k d .i64 (q : Int) q rfl hqk hnc
        have hp1 := hslr _ _ hr0
        have hp2 := hslr2 _ _ hr0
        rw [Nat.mul_one, bvs_take, HQ.out, framesOf_split ct k1, List.take_left, ← HQ.out] at hp1
        rw [Nat.mul_one, Nat.mul_one, bvs_drop, bvs_take, HQ.out, framesOf_split ct k1, List.drop_left, ← HQ.out, List.take_of_length_le (by have := HKL.out; rw [framesOf_split ct k1, List.length_append, ← HQ.out] at this; omega)] at hp2
        have HP1 := Lib.hid hp1
        have HP2 := Lib.hid hp2
        have hq4 : q ≤ 100000 := Nat.le_trans hqk hk4
        have hkq4 : k - q ≤ 100000 := Nat.le_trans (Nat.sub_le _ _) hk4
        clear hr0 hslr hslr2 hp1 hp2
        go_wp2_with fail
        refine (all_any B q d (framesOf (ct.take k1)) _ HP1.out (Nat.le_trans hq4 (by decide))).mono ?_
        rintro e w6 ⟨v, fp, rfl, hall, _, hown, hrows, _, hb6⟩
        obtain ⟨t1, t2, t3, t4⟩ := joins_told (fun y hy => HLE.out y (List.mem_of_mem_take hy)) hall
        rw [t4]
        rw [t1, HTK.out] at hown
        obtain ⟨A6, c6, rfl⟩ := own_slice8 hown
        have HB6 : Hid (ExtW wc w6) := Lib.hid hb6
        have HOWP := Lib.hid hown
        have HROWP := Lib.hid hrows
        have HTP3 := Lib.hid t3
        obtain ⟨lp, hlp⟩ : ∃ lp, lp = lastAt fp := ⟨_, rfl⟩
        rw [← hlp]
        clear hall hown hrows hb6 t1 t2 t3 t4 hlp hsl
        go_wp2_with fail
        refine (all_any B2 (k - q) (d - q) (framesOf (ct.drop k1)) _ (HP2.out.below HB6.out (Nat.le_refl _)) (Nat.le_trans hkq4 (by decide))).mono ?_
        rintro e w7 ⟨v, fq, rfl, hall, _, hown, hrows, _, hb7⟩
        obtain ⟨t1, t2, t3, t4⟩ := joins_told (fun y hy => HLE.out y (List.mem_of_mem_drop hy)) hall
        rw [t4]
        rw [t1, HDR.out] at hown
        obtain ⟨A7, c7, rfl⟩ := own_slice8 hown
        have HB7 : Hid (ExtW wc w7) := Lib.hid (ExtW.trans HB6.out hb7)
        have HOWQ := Lib.hid hown
        have HROWQ := Lib.hid hrows
        have HTQ3 := Lib.hid t3
        have HOWP7 := Lib.hid (own_ext HOWP.out hb7)
        have HROWP7 : Hid (∀ x, x ∈ fp → w7.ownsRow wc.heap.size 5 1 x.v x.body.length (bvs x.body)) := Lib.hid fun x hx => own_ext (HROWP.out x hx) hb7
        obtain ⟨lq, hlq⟩ : ∃ lq, lq = lastAt fq := ⟨_, rfl⟩
        rw [← hlq]
        have hjr2 : ((r : Int) != (j : Int) - (k1 : Int)) = false := by have := HJR.out; simp; omega
        clear hall hown hrows hb7 t1 t2 t3 t4 hlq hsl2 HOWP HROWP
        go_wp2_with fail
        clear hjr2
        go_loopw [26] (fun i wr => ∃ i2 : Nat, i = .int .i64 i2 ∧ i2 ≤ j ∧ Hid (ExtW w7 wr)) (fun i _ => j - (intOf i).toNat)
        case atStart => exact ⟨0, rfl, Nat.zero_le _, Lib.hid (ExtW.refl _)⟩
        case round =>
          obtain ⟨w8, rfl⟩ : ∃ w8, w8 = wr := ⟨_, rfl⟩
          obtain ⟨i2, rfl, hi2, HE8⟩ := hrel
          by_cases hlt : i2 < j
          · have hji : (i2 : Int) < (j : Int) := by omega
            have HX8 := Lib.hid (ExtW.trans HB7.out HE8.out)
            have HOS8 := Lib.hid (own_ext HOS.out (ExtW.trans HB3.out HX8.out))
            have HOWN8 := Lib.hid (own_ext HOWN.out HX8.out)
            have HOWP8 := Lib.hid (own_ext HOWP7.out HE8.out)
            have HOWQ8 := Lib.hid (own_ext HOWQ.out HE8.out)
            obtain ⟨z, hz⟩ : ∃ z, ct[i2]? = some z := ⟨_, List.getElem?_eq_getElem (by rw [HLN.out]; exact hlt)⟩
            have HZ := Lib.hid hz
            obtain ⟨g5, c5', hv5, _, _⟩ := own_form HOWN8.out (by omega)
            cases hv5
            obtain ⟨g3, c3', hv3, _, _⟩ := own_form HOS8.out (by omega)
            cases hv3
            obtain ⟨x5, hx5⟩ : ∃ x, fs[i2]? = some x := ⟨_, List.getElem?_eq_getElem (by rw [HTL.out]; exact hlt)⟩
            have hb5 : x5.body = z := by
              have e1 := congrArg (fun l => l[i2]?) HT3.out
              simp only [List.getElem?_map, hx5, hz] at e1
              exact Option.some.inj e1
            have hcell5 := fram_row_at (i := i2) (x := x5.v) HOWN8.out (by rw [List.getElem?_map, hx5]; rfl)
            obtain ⟨A9, c9, hv9, hr9, _⟩ := own_rd (own_ext (HROWS.out x5 (List.mem_of_getElem? hx5)) HX8.out)
            rw [hv9] at hcell5
            rw [hb5] at hr9 hcell5
            have hcell3 := fram_row_at (i := i2) (x := .string ⟨z.toArray⟩) HOS8.out (by rw [List.getElem?_map, hz]; rfl)
            have HR9 := Lib.hid hr9
            have HC3 := Lib.hid hcell3
            clear hz hx5 hb5 hv9 hr9 hcell3
            go_upto_if 183 with (fail)
            go_cut [28, 29] (fun u v wd => ∃ (g9 c9 m9 pl mm d8 : Nat) (A8 : Option Addr), u = .slice (some ⟨g9, 0, none⟩) m9 c9 ∧ v = .int .i64 pl ∧ pl < m9 ∧ Hid (wd.cell? ⟨g9, pl, none⟩ = some (.slice A8 mm d8) ∧ Rd wd A8 mm d8 1 (bvs z)) ∧ Hid (wd = w8))
            case first =>
              by_cases hik : k1 ≤ i2
              · obtain ⟨t, rfl⟩ : ∃ t, i2 = k1 + t := ⟨i2 - k1, by omega⟩
                have htr : t < r := by have := HJR.out; omega
                have hki : (k1 : Int) ≤ ((k1 + t : Nat) : Int) := by omega
                have e1 : ((k1 + t : Nat) : Int) - (k1 : Int) = (t : Int) := by omega
                have hwt : wrap64 ((k1 : Int) + (t : Int) - (k1 : Int)) = (t : Int) := by rw [show (k1 : Int) + (t : Int) - (k1 : Int) = (t : Int) by omega]; exact wrap64_small (by omega) (by omega)
                have HWT := Lib.hid hwt
                clear hwt
                obtain ⟨g7, c7', hv7, _, _⟩ := own_form HOWQ8.out (by omega)
                cases hv7
                obtain ⟨x7, hx7⟩ : ∃ x, fq[t]? = some x := ⟨_, List.getElem?_eq_getElem (by rw [← List.length_map (f := Fram.body), HTQ3.out, HDR.out]; exact htr)⟩
                have hb7 : x7.body = z := by
                  have e1 := congrArg (fun l => l[t]?) HTQ3.out
                  simp only [List.getElem?_map, hx7, List.getElem?_drop, HZ.out] at e1
                  exact Option.some.inj e1
                have hcell7 := fram_row_at (i := t) (x := x7.v) HOWQ8.out (by rw [List.getElem?_map, hx7]; rfl)
                obtain ⟨A8, c8, hv8, hr8, _⟩ := own_rd (own_ext (HROWQ.out x7 (List.mem_of_getElem? hx7)) HE8.out)
                rw [hv8] at hcell7
                rw [hb7] at hr8 hcell7
                have HC7 := Lib.hid (And.intro hcell7 hr8)
                clear hcell5 hcell7 hr8 hv8 hb7 hx7 hlt hji hi2 hqk hk4 hq4 hkq4 hj40
                go_wp2_with fail
                go_meet
                case rel => exact ⟨g7, _, _, t, _, _, A8, rfl, by simp [HWT.out], htr, HC7, rfl⟩
              · have hki : ¬ (k1 : Int) ≤ (i2 : Int) := by omega
                obtain ⟨g7, c7', hv7, _, _⟩ := own_form HOWP8.out (by omega)
                cases hv7
                obtain ⟨x7, hx7⟩ : ∃ x, fp[i2]? = some x := ⟨_, List.getElem?_eq_getElem (by rw [← List.length_map (f := Fram.body), HTP3.out, HTK.out]; omega)⟩
                have hb7 : x7.body = z := by
                  have e1 := congrArg (fun l => l[i2]?) HTP3.out
                  simp only [List.getElem?_map, hx7, List.getElem?_take] at e1
                  rw [if_pos (by omega), HZ.out] at e1
                  exact Option.some.inj e1
                have hcell7 := fram_row_at (i := i2) (x := x7.v) HOWP8.out (by rw [List.getElem?_map, hx7]; rfl)
                obtain ⟨A8, c8, hv8, hr8, _⟩ := own_rd (own_ext (HROWP7.out x7 (List.mem_of_getElem? hx7)) HE8.out)
                rw [hv8] at hcell7
                rw [hb7] at hr8 hcell7
                have HC7 := Lib.hid (And.intro hcell7 hr8)
                have hlk : i2 < k1 := by omega
                clear hcell5 hcell7 hr8 hv8 hb7 hx7 hlt hji hi2 hqk hk4 hq4 hkq4 hj40
                go_wp2_with fail
                go_meet
                case rel => exact ⟨g7, _, _, i2, _, _, A8, rfl, rfl, hlk, HC7, rfl⟩
            case rest =>
              obtain ⟨g9, c8, m9, pl, mm, d8, A8, rfl, rfl, hpl, HC9, HW9⟩ := hcut
              obtain rfl := HW9.out
              have hpm : (pl : Int) < (m9 : Int) := by omega
              have hcw9 : ∀ wq, ExtW wc.drew wq → wq.cell? ⟨g9, pl, none⟩ = some (.slice A8 mm d8) := fun wq h => (ExtW.of_drew h).cellAt HC9.out.1
              have hcw3 : ∀ wq, ExtW wc.drew wq → wq.cell? ⟨g3, i2, none⟩ = some (.string ⟨z.toArray⟩) := fun wq h => (ExtW.of_drew h).cellAt HC3.out
              have hcs : ∀ wq, ExtW wc.drew wq → (convert 22 9 (.slice A9 z.length c9)).run Try.prog wq = .ok (.string ⟨z.toArray⟩) wq := fun wq h => conv_str (HR9.out.below (ExtW.of_drew h) (Nat.le_refl _))
              have hct : ∀ wq, ExtW wc.drew wq → (convert 22 9 (.slice A8 mm d8)).run Try.prog wq = .ok (.string ⟨z.toArray⟩) wq := fun wq h => conv_str (HC9.out.2.below (ExtW.of_drew h) (Nat.le_refl _))
              have HI40 : Hid (i2 < 40) := Lib.hid (by omega)
              clear hqk hk4 hq4 hkq4 hj40 hcell5
              go_wp2_with fail
              apply wp_region_ext _ (by kernel_rfl) (by kernel_rfl)
              iterate 19 (apply wpZ_det; (intro wq hE hG; first | exact obl_non (by rfl) | (apply obl_val (by rfl); go_simp; rfl)); (intro ak hak; simp only [Act.put, List.setIfInBounds_toArray, List.set_cons_succ, List.set_cons_zero] at hak; subst hak))
              (apply wpZ_nil; intro wk hE hG)
              have HEK : Hid (ExtW w7 wk) := Lib.hid (ExtW.trans HE8.out (ExtW.of_drew hE))
              clear hE hG hcw9 hcw3 hcs hct
              have hi40 := HI40.out
              go_wp2
              go_roundw
              case rel => exact ⟨i2 + 1, by simp, hlt, HEK⟩
              case measure => simp [intOf]; omega
          · obtain rfl : i2 = j := by omega
            have hji : ¬ (i2 : Int) < (i2 : Int) := by omega
            go_wp2
            go_ret
            exact ⟨rfl, Below.trans HBW.out (Below.mono (ExtW.trans HB3.out (ExtW.trans HB7.out HE8.out)) HBW.out.size)⟩
end Go.Proofs.Ytegkcbkgoncnbaa
