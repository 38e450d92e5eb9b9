/- Walk of TreeWide. -/
import Derived.Test.YtncdgndeidbgoaaS5
import Derived.Test.YtncdgndeidbgoaaR4
namespace Go.Proofs.Ytncdgndeidbgoaa
open Go.RowKit

theorem infoBl : (Try.prog.info? 4).map (fun i => (i.zero, i.size, i.bytes)) = some (some (.bool false), 1, 1) := by kernel_rfl
theorem bools_one (l : List Bool) : ∀ u ∈ l.map Value.bool, u.oneCell' = true := by
  intro u hu
  obtain ⟨b, _, rfl⟩ := List.mem_map.1 hu
  rfl
/-- bools, in memory of the call's own -/
def OwnBs (base : Nat) (l : List Bool) (v : Value) (w : World) : Prop := w.ownsRow base 4 1 v l.length (l.map Value.bool)
theorem wpList_append_bs {ops : Array Oper} {rest : List Oper} {o : Oper} {a : Act} {w : World} {Q : Exit → Act → World → Prop} (hgd : o.guard = none) (s x : Operand)
    (ho : o.op = .call { callee := .builtin .append, args := #[s, x], argTypes := #[58, 58] }) {base : Nat} {l : List Bool} {v : Value} {b : Bool} {g : Nat}
    (hs : a.eval s = v) (hx : a.eval x = .slice (some ⟨g, 0, none⟩) 1 1) (h0 : OwnBs base l v w) (hg : w.cell? ⟨g, 0, none⟩ = some (.bool b)) (hl : l.length ≤ 1000000) (hb : base ≤ w.heap.size)
    (h : ∀ v' w', OwnBs base (l ++ [b]) v' w' → Below base w w' → wpList Try.prog ops Q rest (a.put o.dst v') w') : wpList Try.prog ops Q (o :: rest) a w := by
  obtain ⟨i0, hi, hz0, hz1, hz2⟩ := info_parts infoBl
  refine wpList_append_own_at w hgd s x _ ho base _ i0 _ 1 1 Try.underlying58 hi hz0 hz1 hz2 rfl (by omega) v l.length (l.map Value.bool) hs h0 ⟨g, 0, none⟩ 1 1 [.bool b] hx rfl
    (fun j u hj => by
      cases j with
      | zero => simp at hj; subst hj; rw [Addr.add_mid]; exact hg
      | succ j => simp at hj) (bools_one [b]) (by simp [maxLen]; omega) (by omega) hb ?_
  intro v' w' h1 h2 _ _
  refine h v' w' ?_ ((Below.refl _ _).grown h2 hb fun k hk => (World.ownsRow.lt h0 k hk).1)
  unfold OwnBs
  rw [List.length_append, List.map_append]
  exact h1
theorem OwnBs.mono (base : Nat) (l : List Bool) : ∀ v w w', OwnBs base l v w → ExtW w w' → OwnBs base l v w' := fun _ _ _ h hb => own_extG h hb
theorem OwnBs.nil (base : Nat) (w : World) : OwnBs base [] (.slice none 0 0) w := ⟨rfl, .inl ⟨rfl, rfl⟩⟩
theorem OwnBs.form {base : Nat} {l : List Bool} {v : Value} {w : World} (h : OwnBs base l v w) : ∃ A c, v = .slice A l.length c ∧ Rd w A l.length c 1 (l.map Value.bool) := by
  obtain ⟨A, c, hv, hr, _⟩ := Rd.of_own h
  exact ⟨A, c, hv, hr⟩
theorem OwnDs.setRow {base : Nat} {l : List (List UInt8)} {v : Value} {w : World} (h : OwnDs base l v w) {g : Nat} (hg : g < base) (cs : Array Value) : OwnDs base l v (w.setRow g cs) := by
  rcases h with ⟨h1, h2 | ⟨g', cap, cur, hv, hb, hh, hr⟩⟩
  · exact ⟨h1, .inl h2⟩
  · exact ⟨h1, .inr ⟨g', cap, cur, hv, hb, (setRow_other w g g' cs (by omega)).trans hh, hr⟩⟩
theorem Gr.row {w w' : World} {v v' : Value} {g : Nat} {e : TypeId} {cs : List Value} (h : Gr w w' v v') (hr : Row w g e cs) (hne : some g ≠ v.ownBlock) : Row w' g e cs := (h.grown.block g hr.lt hne).trans hr
theorem all_snoc {P : List (List UInt8)} {y : List UInt8} (h : ∀ d ∈ P, d.length = 32) (hy : y.length = 32) : ∀ d ∈ P ++ [y], d.length = 32 := by
  intro d hd
  rcases List.mem_append.1 hd with h1 | h1
  · exact h d h1
  · rw [List.mem_singleton.1 h1]; exact hy
theorem u8_up (b : UInt8) : ((b.toNat : Int) + 1) % 256 = ((b + 1).toNat : Int) := by
  have h1 : (b + 1).toNat = (b.toNat + 1) % 256 := by rw [UInt8.toNat_add]; rfl
  rw [h1]
  omega
theorem u8_ne (b : UInt8) : b + 1 ≠ b := by
  intro h
  have h1 : (b + 1).toNat = (b.toNat + 1) % 256 := by rw [UInt8.toNat_add]; rfl
  rw [h] at h1
  have h2 := b.toNat_lt
  omega
theorem climb_next {B : Nat} {bs : List Bool} {P : List (List UInt8)} {d y : List UInt8} {t : Nat} {b : Bool} (hP : P.length = t) (ht : t < bs.length) (hb : bs[bs.length - 1 - t]? = some b) :
    T.climb B (bs.reverse.take (t + 1)) (P ++ [y]) d = T.stepD B b (T.climb B (bs.reverse.take t) P d) y := by
  have h1 : bs.reverse.take (t + 1) = bs.reverse.take t ++ [b] := by rw [List.take_add_one, List.getElem?_reverse ht, hb]; rfl
  rw [h1, T.climb_snoc]
  rw [List.length_take, List.length_reverse, hP]; omega

set_option maxHeartbeats 4000000 in
set_option maxRecDepth 100000 in
theorem pcheck_no (root : List UInt8) (hroot : root.length = 32) (cn i : Int) (vl vp : Value) (w : World) (hin : i < 0 ∨ cn ≤ i) :
    Calls Try.prog 34 #[dgV root, .int .i64 cn, .int .i64 i, vl, vp] w fun e w' => e = .returned (.bool false) ∧ ExtW w w' := by
  have HIN := Lib.hid hin
  have HRL := Lib.hid hroot
  have HSR : Hid ((bvs root).toArray.size = 32) := Lib.hid (dg_size hroot)
  have HR1 : Hid (Row (w.alloc (.cells (bvs root).toArray 24)) w.heap.size 24 (bvs root)) := Lib.hid (heap_alloc_last _ _)
  have HE1 : Hid (ExtW w (w.alloc (.cells (bvs root).toArray 24))) := Lib.hid ((Below.refl _ _).alloc (Nat.le_refl _) _)
  clear hroot hin
  unfold dgV
  go_enter Try.func34, Try.ntmps34
  go_upto_region 1 with (fail)
  generalize w.alloc (.cells (bvs root).toArray 24) = w1 at HR1 HE1 ⊢
  obtain ⟨gr, hgr⟩ : ∃ g, g = w.heap.size := ⟨_, rfl⟩
  rw [← hgr] at HR1 ⊢
  clear hgr
  go_wp2_with fail
  refine (whole_any _).mono ?_
  rintro e w2 ⟨rfl, hb⟩
  have HR2 := Lib.hid (HR1.out.ext hb)
  have HE2 := Lib.hid (ExtW.trans HE1.out hb)
  clear hb
  go_wp2_with (refine wpList_ld rfl rfl ?_; refine ⟨gr, _, _, _, rfl, HR2.out, Try.underlying24, rfl, by rw [HSR.out]; kernel_rfl, ?_⟩)
  refine (mcheck_no 256 root HRL.out cn i _ _ _ HIN.out).mono ?_
  rintro e w3 ⟨rfl, hb⟩
  have HE3 := Lib.hid (ExtW.trans HE2.out hb)
  clear hb
  go_wp2
  go_ret
  exact ⟨rfl, HE3.out⟩

set_option maxHeartbeats 20000000 in
set_option maxRecDepth 100000 in
theorem treeWide_walk (count i : Int) (LA : Option Addr) (ln0 lc : Nat) (ll : List UInt8) (PA : Option Addr) (bn pc : Nat) (be : List (List UInt8)) (w : World) (hcount : -9223372036854775808 ≤ count ∧ count ≤ 9223372036854775807) (_hi : -9223372036854775808 ≤ i ∧ i ≤ 9223372036854775807)
    (hl : Rd w LA ln0 lc 1 (bvs ll)) (hlc : lc ≤ 140737488351232) (hp : Dls w PA bn pc be) :
    Calls Try.prog 10 #[.int .i64 count, .int .i64 i, .slice LA ln0 lc, .slice PA bn pc] w fun e w' => e = .returned (.bool true) ∧ Below w.heap.size w w' := by
  obtain ⟨i0, hi, hz0, hz1, hz2⟩ := info_parts infoB
  have HL0 := Lib.hid hl
  have HP := Lib.hid hp
  have HPN := Lib.hid hp.len
  have hlnc := hl.nc
  have hpnc := hp.rd.nc
  have hpcm := hp.rd.cm
  unfold maxLen at hpcm
  clear hl hp _hi
  by_cases hout : count < 1 ∨ i < 0 ∨ count ≤ i
  · have HOU : Hid (i < 0 ∨ count ≤ i) := Lib.hid (by omega)
    have hcase : count < 1 ∨ (¬ count < 1 ∧ i < 0) ∨ (¬ count < 1 ∧ ¬ i < 0 ∧ count ≤ i ∧ ¬ i < count) := by omega
    clear hout hcount
    rcases hcase with h1 | ⟨h1, h2⟩ | ⟨h1, h2, h3, h4⟩
    all_goals
      go_enter Try.func10, Try.ntmps10
      go_wp2_with fail
      refine (shown_any _).mono ?_
      rintro e w1 ⟨rfl, hb1⟩
      have HE1 := Lib.hid hb1
      clear hb1
      go_wp2_with (refine wpList_bldG rfl (by rfl) ?_; refine ⟨.agg (bvs (List.replicate 32 0)).toArray, by kernel_rfl, ?_⟩)
      refine (pcheck_no (List.replicate 32 0) rfl count i _ _ _ HOU.out).mono ?_
      rintro e w2 ⟨rfl, hb⟩
      have HE2 := Lib.hid (ExtW.trans HE1.out hb)
      clear hb
      go_wp2
      go_ret
      exact ⟨rfl, HE2.out⟩
  obtain ⟨cn, rfl⟩ : ∃ k : Nat, count = (k : Int) := ⟨count.toNat, by omega⟩
  obtain ⟨j0, rfl⟩ : ∃ k : Nat, i = (k : Int) := ⟨i.toNat, by omega⟩
  have hj0 : j0 < cn := by omega
  have hcn : cn < 9223372036854775808 := by omega
  have g1 : decide ((cn : Int) < 1) = false := by rw [decide_eq_false_iff_not]; omega
  have g2 : decide ((j0 : Int) < 0) = false := by rw [decide_eq_false_iff_not]; omega
  have g3 : decide (cn ≤ j0) = false := by rw [decide_eq_false_iff_not]; omega
  have g4 : decide (cn < 1) = false := by rw [decide_eq_false_iff_not]; omega
  obtain ⟨r, hr⟩ : ∃ r, r = min ln0 200 := ⟨_, rfl⟩
  have hrr : min (ln0 : Int) 200 = (r : Int) := by omega
  have hr1 : r ≤ ln0 := by omega
  have hr200 : r ≤ 200 := by omega
  obtain ⟨hsl, hslr⟩ := cut_h (P := Try.prog) Try.underlying36 hi hz1 LA ln0 lc .i64 (r : Int) r rfl hr1 hlnc
  have hrq := hslr _ _ HL0.out
  rw [Nat.mul_one, bvs_take] at hrq
  obtain ⟨lf, hlf⟩ : ∃ z, z = ll.take r := ⟨_, rfl⟩
  rw [← hlf] at hrq
  have HL1 := Lib.hid hrq
  clear hout hcount hr hrq hlf hslr
  go_enter Try.func10, Try.ntmps10
  go_wp2_with fail
  refine (shown_any _).mono ?_
  rintro e w1 ⟨rfl, hb1⟩
  have HE1 := Lib.hid hb1
  clear hb1
  go_upto_block 0 with (fail)
  clear hsl hrr
  go_wp2_with fail
  go_loopw [10, 11, 12] (fun uv cv iv wr => ∃ (m j : Nat) (bs : List Bool), cv = .int .i64 m ∧ iv = .int .i64 j ∧ Hid (OwnBs w1.heap.size bs uv wr) ∧ m ≤ cn ∧ j < m ∧ Hid (T.downs cn j0 = bs ++ T.downs m j) ∧ Hid (∃ e, m ≤ 2 ^ e ∧ e + bs.length ≤ 63) ∧ Hid (ExtW w1 wr)) (fun _ cv _ _ => (intOf cv).toNat)
  case atStart => exact ⟨cn, j0, [], rfl, rfl, Lib.hid (OwnBs.nil _ _), Nat.le_refl _, hj0, Lib.hid rfl, Lib.hid ⟨63, by omega, by simp⟩, Lib.hid (ExtW.refl _)⟩
  case round =>
    obtain ⟨m, j, bs, rfl, rfl, HU, hmc, hjm, HD, HLG, HEW⟩ := hrel
    by_cases hm : 1 < m
    · have hmi : (1 : Int) < (m : Int) := by omega
      have HUL : Hid (bs.length ≤ 1000000) := Lib.hid (by obtain ⟨e, _, h4⟩ := HLG.out; omega)
      go_wp2_with fail
      go_loopw [13] (fun kv wl => ∃ k : Nat, kv = .int .i64 k ∧ 1 ≤ k ∧ k ≤ m ∧ Hid (∃ e, k = 2 ^ e) ∧ Hid (k = 1 ∨ k < m) ∧ Hid (wl = wr)) (fun kv _ => m - (intOf kv).toNat)
      case atStart => exact ⟨1, rfl, Nat.le_refl _, Nat.le_of_lt hm, Lib.hid ⟨0, rfl⟩, Lib.hid (.inl rfl), Lib.hid rfl⟩
      case round =>
        obtain ⟨k, rfl, hk1, hkm, HJ, HM, HW⟩ := hrel
        obtain rfl := HW.out
        by_cases hlt : k < m - k
        · have hli : (k : Int) < (m : Int) - (k : Int) := by omega
          obtain ⟨m2, hm2⟩ : ∃ z, z = k * 2 := ⟨_, rfl⟩
          have hm2i : IntKind.i64.wrap ((k : Int) * 2) = (m2 : Int) := by rw [IntWalk.i64_in _ (by omega)]; omega
          have hm2b : m2 < m := by omega
          have HM2 := Lib.hid hm2
          clear hm2
          go_wp2_with fail
          go_roundw
          case rel => exact ⟨m2, by first | rfl | simp [hm2i], by have := HM2.out; omega, by omega, Lib.hid (by obtain ⟨e, he⟩ := HJ.out; exact ⟨e + 1, by rw [HM2.out, he, Nat.pow_succ]⟩), Lib.hid (.inr hm2b), Lib.hid trivial⟩
          case measure => simp [intOf]; have := HM2.out; omega
        · have hli : ¬ (k : Int) < (m : Int) - (k : Int) := by omega
          have HK : Hid (k = T.half m) := Lib.hid (by
            symm
            obtain ⟨e, he⟩ := HJ.out
            rw [he]
            exact T.half_eq (by omega) (by rw [← he]; rcases HM.out with h | h <;> omega) (by rw [← he]; omega))
          have hhl : k < m := by have := (T.half_lt (n := m) (by omega)).2.1; rw [← HK.out] at this; exact this
          have HPW : Hid (∃ e, k ≤ 2 ^ e ∧ m - k ≤ 2 ^ e ∧ e + (bs.length + 1) ≤ 63) := Lib.hid (by
            obtain ⟨e, h3, h4⟩ := HLG.out
            obtain ⟨f, rfl, h5, h6⟩ := T.half_pow hm h3
            exact ⟨f, by rw [HK.out]; exact h5, by rw [HK.out]; exact h6, by omega⟩)
          by_cases hjk : j < k
          · have hjki : (j : Int) < (k : Int) := by omega
            have HN := Lib.hid (T.downs_lo hm HK.out hjk)
            have HC : Hid ((wr.alloc (.cells #[.bool true] 4)).cell? ⟨wr.heap.size, 0, none⟩ = some (.bool true)) := Lib.hid (cell_new1 _ _ _)
            have HEA : Hid (ExtW wr (wr.alloc (.cells #[.bool true] 4))) := Lib.hid ((Below.refl _ _).alloc (Nat.le_refl _) _)
            go_wp2_with (at_builtin; generalize wr.alloc (.cells #[.bool true] 4) = wa at HC HEA ⊢; refine wpList_append_bs (b := true) rfl _ _ rfl rfl rfl (OwnBs.mono _ _ _ _ _ HU.out HEA.out) HC.out HUL.out (ExtW.trans HEW.out HEA.out).size ?_; intro v' w' ho' hb'; have HO' := Lib.hid ho'; have HE' := Lib.hid (Below.trans (ExtW.trans HEW.out HEA.out) hb'); clear ho' hb')
            go_roundw
            case rel => exact ⟨k, j, bs ++ [true], by first | rfl | (apply int_eq; omega), by first | rfl | (apply int_eq; omega), HO', by omega, by omega, Lib.hid (by rw [HD.out, HN.out, List.append_assoc]; rfl), Lib.hid (by obtain ⟨e, h3, h4, h5⟩ := HPW.out; exact ⟨e, h3, by rw [List.length_append]; exact h5⟩), HE'⟩
            case measure => simp [intOf]; omega
          · have hjki : ¬ (j : Int) < (k : Int) := by omega
            have HN := Lib.hid (T.downs_hi hm HK.out hjk)
            have HC : Hid ((wr.alloc (.cells #[.bool false] 4)).cell? ⟨wr.heap.size, 0, none⟩ = some (.bool false)) := Lib.hid (cell_new1 _ _ _)
            have HEA : Hid (ExtW wr (wr.alloc (.cells #[.bool false] 4))) := Lib.hid ((Below.refl _ _).alloc (Nat.le_refl _) _)
            have hs2 : IntKind.i64.wrap ((j : Int) - (k : Int)) = ((j - k : Nat) : Int) := by rw [IntWalk.i64_in _ (by omega)]; omega
            have hs3 : IntKind.i64.wrap ((m : Int) - (k : Int)) = ((m - k : Nat) : Int) := by rw [IntWalk.i64_in _ (by omega)]; omega
            go_wp2_with (at_builtin; generalize wr.alloc (.cells #[.bool false] 4) = wa at HC HEA ⊢; refine wpList_append_bs (b := false) rfl _ _ rfl rfl rfl (OwnBs.mono _ _ _ _ _ HU.out HEA.out) HC.out HUL.out (ExtW.trans HEW.out HEA.out).size ?_; intro v' w' ho' hb'; have HO' := Lib.hid ho'; have HE' := Lib.hid (Below.trans (ExtW.trans HEW.out HEA.out) hb'); clear ho' hb')
            go_roundw
            case rel => exact ⟨m - k, j - k, bs ++ [false], by first | rfl | (apply int_eq; omega), by first | rfl | (apply int_eq; omega), HO', by omega, by omega, Lib.hid (by rw [HD.out, HN.out, List.append_assoc]; rfl), Lib.hid (by obtain ⟨e, h3, h4, h5⟩ := HPW.out; exact ⟨e, h4, by rw [List.length_append]; exact h5⟩), HE'⟩
            case measure => simp [intOf]; omega
    · have hmi : ¬ (1 : Int) < (m : Int) := by omega
      have HUP : Hid (T.downs cn j0 = bs) := Lib.hid (by rw [HD.out, T.downs_one (by omega), List.append_nil])
      obtain ⟨e, he1, he2⟩ := HLG.out
      obtain ⟨UA, uc, rfl, hur⟩ := HU.out.form
      obtain ⟨L, hL⟩ : ∃ n, n = bs.length := ⟨_, rfl⟩
      have hLb : L ≤ 63 := by omega
      rw [← hL] at hur
      rw [← hL]
      have HUR := Lib.hid hur
      have huc := hur.nc
      have HLN := Lib.hid hL
      clear hur he1 he2 hL HU HD HLG
      go_wp2_with fail
      refine (pleaf_any LA r lc lf _ (HL1.out.below (ExtW.trans HE1.out HEW.out) (Nat.le_refl _)) (by omega)).mono ?_
      rintro e w4 ⟨rfl, hb⟩
      obtain ⟨d0, hd0⟩ : ∃ d, d = T.leafD 256 lf := ⟨_, rfl⟩
      have HD0L : Hid (d0.length = 32) := Lib.hid (by rw [hd0]; exact T.leafD_len _ _)
      rw [← hd0]
      have HD0 := Lib.hid hd0
      have HE4 := Lib.hid (ExtW.trans HE1.out (ExtW.trans HEW.out hb))
      have HU4 := Lib.hid (HUR.out.below hb (Nat.le_refl _))
      have HP4 := Lib.hid (HP.out.same HE4.out)
      have HL4 := Lib.hid (HL1.out.below HE4.out (Nat.le_refl _))
      clear hb hd0 HUR HEW HP HE1 HL1
      have hs1 : IntKind.i64.wrap ((L : Int) - 1) = (L : Int) - 1 := IntWalk.i64_in _ (by omega)
      unfold dgV
      go_upto_region 19 with (first
        | (refine wpList_newD rfl rfl ?_)
        | (refine wpList_newst rfl rfl rfl HD0L.out (d0 := List.replicate 32 0) rfl rfl rfl (zDig_row _) ?_))
      have HY0 := Lib.hid (stD_row w4 d0)
      have HE5 := Lib.hid (stD_ext w4 d0)
      generalize (w4.alloc (.cells zDig 24)).setRow w4.heap.size (bvs d0).toArray = w5 at HY0 HE5 ⊢
      obtain ⟨gd, hgd⟩ : ∃ g, g = w4.heap.size := ⟨_, rfl⟩
      have HGD := Lib.hid hgd
      rw [← hgd] at HY0 ⊢
      clear hgd
      go_wp2_with fail
      clear hs1
      go_loopw [14, 16] (fun pv mv wr => ∃ (t : Nat) (mz : Int) (P : List (List UInt8)), mv = .int .i64 mz ∧ t ≤ L ∧ Hid (mz = (L : Int) - 1 - t) ∧ Hid (P.length = t) ∧ Hid (∀ d ∈ P, d.length = 32) ∧ Hid (OwnDs (gd + 1) P pv wr) ∧ Hid (Row wr gd 24 (bvs (T.climb 256 (bs.reverse.take t) P d0))) ∧ Hid (Below gd w4 wr)) (fun _ mv _ => ((intOf mv) + 1).toNat)
      case atStart => exact ⟨0, (L : Int) - 1, [], rfl, Nat.zero_le _, Lib.hid (by omega), Lib.hid rfl, Lib.hid (fun d hd => by cases hd), Lib.hid (OwnDs.nil _ _), Lib.hid (by rw [List.take_zero, T.climb_nil]; exact HY0.out), Lib.hid (by rw [HGD.out]; exact HE5.out)⟩
      case round =>
        obtain ⟨t, mz, P, rfl, htL, HMZ, HPt, HP32, HOP, HY, HB⟩ := hrel
        obtain ⟨A1, c1, rfl, hd1⟩ := HOP.out.dls HP32.out
        rw [HPt.out] at hd1 HOP ⊢
        have HD1 := Lib.hid hd1
        have HBE : Hid (ExtW w4 wr) := Lib.hid (by have h := HB.out; rw [HGD.out] at h; exact h)
        obtain ⟨dt, hdt⟩ : ∃ d, d = T.climb 256 (bs.reverse.take t) P d0 := ⟨_, rfl⟩
        have HDL : Hid (dt.length = 32) := Lib.hid (by rw [hdt]; exact T.climb_len _ _ _ _ HD0L.out)
        have HDS : Hid ((bvs dt).toArray.size = 32) := Lib.hid (dg_size HDL.out)
        rw [← hdt] at HY
        have HDT := Lib.hid hdt
        clear hd1 hdt
        by_cases hge : 0 ≤ mz
        · obtain ⟨mN, rfl⟩ : ∃ n : Nat, mz = (n : Int) := ⟨mz.toNat, by omega⟩
          have hlt : t < L := by have := HMZ.out; omega
          have hmL : mN < L := by have := HMZ.out; omega
          have hmLi : (mN : Int) < (L : Int) := by omega
          have HMN : Hid (mN = L - 1 - t) := Lib.hid (by have := HMZ.out; omega)
          obtain ⟨ub, hub⟩ : ∃ u : UInt8, u.toNat = mN := ⟨UInt8.ofNat mN, by rw [UInt8.toNat_ofNat']; omega⟩
          have hcv : IntKind.u8.wrap (mN : Int) = (ub.toNat : Int) := by
            rw [hub]
            simp [IntKind.wrap, IntKind.signed, IntKind.bits]
            omega
          have hsm : IntKind.i64.wrap ((mN : Int) - 1) = (mN : Int) - 1 := IntWalk.i64_in _ (by omega)
          obtain ⟨xb, hxb⟩ : ∃ x, x = ub :: List.replicate 31 0 := ⟨_, rfl⟩
          have HXL : Hid (xb.length = 32) := Lib.hid (by rw [hxb]; rfl)
          have HXB := Lib.hid hxb
          clear hub hxb
          go_upto_region 23 with (first
            | (refine wpList_bldG rfl (by rfl) ?_; refine ⟨.agg (bvs (ub :: List.replicate 31 0)).toArray, by kernel_rfl, ?_⟩; rw [← HXB.out])
            | (refine wpList_newD rfl rfl ?_)
            | (refine wpList_newst rfl rfl rfl HXL.out (d0 := List.replicate 32 0) rfl rfl rfl (zDig_row _) ?_))
          have HX6 := Lib.hid (stD_row wr xb)
          have HE6 := Lib.hid (stD_ext wr xb)
          generalize (wr.alloc (.cells zDig 24)).setRow wr.heap.size (bvs xb).toArray = w6 at HX6 HE6 ⊢
          obtain ⟨gx, hgx⟩ : ∃ g, g = wr.heap.size := ⟨_, rfl⟩
          have HGX := Lib.hid hgx
          rw [← hgx] at HX6 ⊢
          obtain ⟨bt, hbt⟩ : ∃ bt, bs[bs.length - 1 - t]? = some bt := ⟨_, List.getElem?_eq_getElem (by rw [← HLN.out]; omega)⟩
          have HNX : Hid (∀ y, T.climb 256 (bs.reverse.take (t + 1)) (P ++ [y]) d0 = T.stepD 256 bt dt y) := Lib.hid (fun y => by
            rw [HDT.out]
            exact climb_next HPt.out (by rw [← HLN.out]; exact hlt) hbt)
          cases hUA : UA with
          | none => have h3 := HU4.out.nil0 hUA; omega
          | some ua =>
          subst hUA
          have HUC : Hid (w4.cell? (ua.add mN) = some (.bool bt)) := Lib.hid (HU4.out.cell ua rfl _ _ (by rw [List.getElem?_map, HMN.out, HLN.out, hbt]; rfl))
          clear hgx hbt hcv
          by_cases htb : t < bn
          · have htbi : (t : Int) < (bn : Int) := by omega
            obtain ⟨y, hy⟩ : ∃ y, be[t]? = some y := ⟨_, List.getElem?_eq_getElem (by rw [HPN.out]; exact htb)⟩
            have HYL : Hid (y.length = 32) := Lib.hid (HP4.out.all y (List.mem_of_getElem? hy))
            have HYZ : Hid ((bvs y).toArray.size = 32) := Lib.hid (dg_size HYL.out)
            obtain ⟨pa, hpa⟩ := HP4.out.addr (by omega)
            subst hpa
            have hld := (HP4.out.same (ExtW.trans HBE.out HE6.out)).load hy
            have HXS : Hid ((bvs xb).toArray.size = 32) := Lib.hid (dg_size HXL.out)
            clear hy
            go_upto_region 25 with (first
              | (refine wpList_ldA rfl (by rfl) rfl hld ?_; unfold dgV)
              | (refine wpList_st rfl rfl ?_; refine ⟨gx, _, _, _, rfl, rfl, HX6.out, by rw [HYZ.out]; kernel_rfl, HXS.out.trans HYZ.out.symm, dg_one _, ?_⟩))
            have HX7 : Hid (Row (w6.setRow gx (bvs y).toArray) gx 24 (bvs y)) := Lib.hid (HX6.out.setRow _)
            have HE7 : Hid (ExtW wr (w6.setRow gx (bvs y).toArray)) := Lib.hid (below_setRow HE6.out (Nat.le_of_eq HGX.out.symm) _)
            generalize w6.setRow gx (bvs y).toArray = w7 at HX7 HE7 ⊢
            clear hld HX6 HE6
            have HYS : Hid ((bvs y).toArray.size = 32) := Lib.hid (dg_size HYL.out)
            have HBR : Hid (Row (w7.alloc (.cells (bvs y).toArray 24)) w7.heap.size 24 (bvs y)) := Lib.hid (heap_alloc_last _ _)
            have HEA : Hid (ExtW w7 (w7.alloc (.cells (bvs y).toArray 24))) := Lib.hid ((Below.refl _ _).alloc (Nat.le_refl _) _)
            have HGS : Hid (gd + 1 ≤ wr.heap.size) := Lib.hid (by have := HY.out.lt; omega)
            go_upto_region 26 with (first
              | (refine wpList_ld rfl rfl ?_; refine ⟨gx, _, _, _, rfl, HX7.out, Try.underlying24, rfl, by rw [HYS.out]; kernel_rfl, ?_⟩)
              | (refine wpList_build1 rfl rfl HYL.out rfl ?_; generalize w7.alloc (.cells (bvs y).toArray 24) = w8 at HBR HEA ⊢)
              | (at_builtin; refine wpList_append_ds2 rfl _ _ rfl rfl HYL.out rfl rfl (OwnDs.mono _ _ _ _ _ HOP.out (ExtW.trans HE7.out HEA.out)) HBR.out (by rw [HPt.out]; omega) (Nat.le_trans HGS.out (ExtW.trans HE7.out HEA.out).size) ?_; intro v' w9 ho' hg'; have HO' := Lib.hid ho'; have HG' := Lib.hid hg'; clear ho' hg'))
            have HE8 := Lib.hid (ExtW.trans HE7.out HEA.out)
            have HY9 := Lib.hid (HG'.out.row (HY.out.ext HE8.out) (fun h => by have := (HOP.out.ge gd h.symm).1; omega))
            have HX9 := Lib.hid (HG'.out.row (HX7.out.ext HEA.out) (fun h => by have h1 := (HOP.out.ge gx h.symm).2; have h2 := HGX.out; omega))
            have HB9 : Hid (Below gd w4 w9) := Lib.hid (Below.trans (Below.trans HB.out (HE8.out.mono (by have := HGS.out; omega))) (HG'.out.below (by have h1 := HGS.out; have h2 := HE8.out.size; omega) (fun k hk => by have := (HOP.out.ge k hk).1; omega)))
            have kk := ExtW.cellAt (by have h := HB9.out; rw [HGD.out] at h; exact h : ExtW w4 w9) HUC.out
            clear HBR HEA HE8 HG' HX7 HE7
            cases bt
            · have HST : Hid (∀ y, T.stepD 256 false dt y = T.nodeD 256 y dt) := Lib.hid (fun y => rfl)
              go_wp2_with (refine wpList_ld rfl rfl ?_; first | refine ⟨gx, _, _, _, rfl, HX9.out, Try.underlying24, rfl, by rw [HYS.out]; kernel_rfl, ?_⟩ | refine ⟨gd, _, _, _, rfl, HY9.out, Try.underlying24, rfl, by rw [HDS.out]; kernel_rfl, ?_⟩)
              refine (pnode_any y dt _ HYL.out HDL.out).mono ?_
              rintro e w10 ⟨rfl, hb⟩
              rw [← HST.out y, ← HNX.out y]
              obtain ⟨dn, hdn⟩ : ∃ d, d = T.climb 256 (bs.reverse.take (t + 1)) (P ++ [y]) d0 := ⟨_, rfl⟩
              rw [← hdn]
              have HDN := Lib.hid hdn
              have HNS : Hid ((bvs dn).toArray.size = 32) := Lib.hid (dg_size (by rw [hdn]; exact T.climb_len _ _ _ _ HD0L.out))
              have HY10 := Lib.hid (HY9.out.ext hb)
              have HO10 := Lib.hid (OwnDs.mono _ _ _ _ _ HO'.out hb)
              have HB10 : Hid (Below gd w4 w10) := Lib.hid (Below.trans HB9.out (hb.mono (Nat.le_of_lt HY9.out.lt)))
              clear hdn hb kk
              unfold dgV
              go_wp2_with (refine wpList_st rfl rfl ?_; refine ⟨gd, _, _, _, rfl, rfl, HY10.out, by rw [HNS.out]; kernel_rfl, HDS.out.trans HNS.out.symm, dg_one _, ?_⟩)
              go_roundw
              case rel => exact ⟨t + 1, (mN : Int) - 1, P ++ [y], by first | rfl | simp [hsm], hlt, Lib.hid (by have := HMN.out; omega), Lib.hid (by rw [List.length_append, HPt.out]; rfl), Lib.hid (all_snoc HP32.out HYL.out), Lib.hid (HO10.out.setRow (Nat.lt_succ_self _) _), Lib.hid (by rw [← HDN.out]; exact HY10.out.setRow _), Lib.hid (below_setRow HB10.out (Nat.le_refl _) _)⟩
              case measure => simp [intOf]
            · have HST : Hid (∀ y, T.stepD 256 true dt y = T.nodeD 256 dt y) := Lib.hid (fun y => rfl)
              go_wp2_with (refine wpList_ld rfl rfl ?_; first | refine ⟨gx, _, _, _, rfl, HX9.out, Try.underlying24, rfl, by rw [HYS.out]; kernel_rfl, ?_⟩ | refine ⟨gd, _, _, _, rfl, HY9.out, Try.underlying24, rfl, by rw [HDS.out]; kernel_rfl, ?_⟩)
              refine (pnode_any dt y _ HDL.out HYL.out).mono ?_
              rintro e w10 ⟨rfl, hb⟩
              rw [← HST.out y, ← HNX.out y]
              obtain ⟨dn, hdn⟩ : ∃ d, d = T.climb 256 (bs.reverse.take (t + 1)) (P ++ [y]) d0 := ⟨_, rfl⟩
              rw [← hdn]
              have HDN := Lib.hid hdn
              have HNS : Hid ((bvs dn).toArray.size = 32) := Lib.hid (dg_size (by rw [hdn]; exact T.climb_len _ _ _ _ HD0L.out))
              have HY10 := Lib.hid (HY9.out.ext hb)
              have HO10 := Lib.hid (OwnDs.mono _ _ _ _ _ HO'.out hb)
              have HB10 : Hid (Below gd w4 w10) := Lib.hid (Below.trans HB9.out (hb.mono (Nat.le_of_lt HY9.out.lt)))
              clear hdn hb kk
              unfold dgV
              go_wp2_with (refine wpList_st rfl rfl ?_; refine ⟨gd, _, _, _, rfl, rfl, HY10.out, by rw [HNS.out]; kernel_rfl, HDS.out.trans HNS.out.symm, dg_one _, ?_⟩)
              go_roundw
              case rel => exact ⟨t + 1, (mN : Int) - 1, P ++ [y], by first | rfl | simp [hsm], hlt, Lib.hid (by have := HMN.out; omega), Lib.hid (by rw [List.length_append, HPt.out]; rfl), Lib.hid (all_snoc HP32.out HYL.out), Lib.hid (HO10.out.setRow (Nat.lt_succ_self _) _), Lib.hid (by rw [← HDN.out]; exact HY10.out.setRow _), Lib.hid (below_setRow HB10.out (Nat.le_refl _) _)⟩
              case measure => simp [intOf]
          · have htbi : ¬ (t : Int) < (bn : Int) := by omega
            go_upto_region 25 with (fail)
            obtain ⟨y, hyx⟩ : ∃ y, y = xb := ⟨_, rfl⟩
            obtain ⟨w7, hw7⟩ : ∃ w7, w7 = w6 := ⟨_, rfl⟩
            have HYL : Hid (y.length = 32) := Lib.hid (by rw [hyx]; exact HXL.out)
            have HX7 : Hid (Row w7 gx 24 (bvs y)) := Lib.hid (by rw [hyx, hw7]; exact HX6.out)
            have HE7 : Hid (ExtW wr w7) := Lib.hid (by rw [hw7]; exact HE6.out)
            rw [← hw7]
            clear hyx hw7 HX6 HE6
            have HYS : Hid ((bvs y).toArray.size = 32) := Lib.hid (dg_size HYL.out)
            have HBR : Hid (Row (w7.alloc (.cells (bvs y).toArray 24)) w7.heap.size 24 (bvs y)) := Lib.hid (heap_alloc_last _ _)
            have HEA : Hid (ExtW w7 (w7.alloc (.cells (bvs y).toArray 24))) := Lib.hid ((Below.refl _ _).alloc (Nat.le_refl _) _)
            have HGS : Hid (gd + 1 ≤ wr.heap.size) := Lib.hid (by have := HY.out.lt; omega)
            go_upto_region 26 with (first
              | (refine wpList_ld rfl rfl ?_; refine ⟨gx, _, _, _, rfl, HX7.out, Try.underlying24, rfl, by rw [HYS.out]; kernel_rfl, ?_⟩)
              | (refine wpList_build1 rfl rfl HYL.out rfl ?_; generalize w7.alloc (.cells (bvs y).toArray 24) = w8 at HBR HEA ⊢)
              | (at_builtin; refine wpList_append_ds2 rfl _ _ rfl rfl HYL.out rfl rfl (OwnDs.mono _ _ _ _ _ HOP.out (ExtW.trans HE7.out HEA.out)) HBR.out (by rw [HPt.out]; omega) (Nat.le_trans HGS.out (ExtW.trans HE7.out HEA.out).size) ?_; intro v' w9 ho' hg'; have HO' := Lib.hid ho'; have HG' := Lib.hid hg'; clear ho' hg'))
            have HE8 := Lib.hid (ExtW.trans HE7.out HEA.out)
            have HY9 := Lib.hid (HG'.out.row (HY.out.ext HE8.out) (fun h => by have := (HOP.out.ge gd h.symm).1; omega))
            have HX9 := Lib.hid (HG'.out.row (HX7.out.ext HEA.out) (fun h => by have h1 := (HOP.out.ge gx h.symm).2; have h2 := HGX.out; omega))
            have HB9 : Hid (Below gd w4 w9) := Lib.hid (Below.trans (Below.trans HB.out (HE8.out.mono (by have := HGS.out; omega))) (HG'.out.below (by have h1 := HGS.out; have h2 := HE8.out.size; omega) (fun k hk => by have := (HOP.out.ge k hk).1; omega)))
            have kk := ExtW.cellAt (by have h := HB9.out; rw [HGD.out] at h; exact h : ExtW w4 w9) HUC.out
            clear HBR HEA HE8 HG' HX7 HE7
            cases bt
            · have HST : Hid (∀ y, T.stepD 256 false dt y = T.nodeD 256 y dt) := Lib.hid (fun y => rfl)
              go_wp2_with (refine wpList_ld rfl rfl ?_; first | refine ⟨gx, _, _, _, rfl, HX9.out, Try.underlying24, rfl, by rw [HYS.out]; kernel_rfl, ?_⟩ | refine ⟨gd, _, _, _, rfl, HY9.out, Try.underlying24, rfl, by rw [HDS.out]; kernel_rfl, ?_⟩)
              refine (pnode_any y dt _ HYL.out HDL.out).mono ?_
              rintro e w10 ⟨rfl, hb⟩
              rw [← HST.out y, ← HNX.out y]
              obtain ⟨dn, hdn⟩ : ∃ d, d = T.climb 256 (bs.reverse.take (t + 1)) (P ++ [y]) d0 := ⟨_, rfl⟩
              rw [← hdn]
              have HDN := Lib.hid hdn
              have HNS : Hid ((bvs dn).toArray.size = 32) := Lib.hid (dg_size (by rw [hdn]; exact T.climb_len _ _ _ _ HD0L.out))
              have HY10 := Lib.hid (HY9.out.ext hb)
              have HO10 := Lib.hid (OwnDs.mono _ _ _ _ _ HO'.out hb)
              have HB10 : Hid (Below gd w4 w10) := Lib.hid (Below.trans HB9.out (hb.mono (Nat.le_of_lt HY9.out.lt)))
              clear hdn hb kk
              unfold dgV
              go_wp2_with (refine wpList_st rfl rfl ?_; refine ⟨gd, _, _, _, rfl, rfl, HY10.out, by rw [HNS.out]; kernel_rfl, HDS.out.trans HNS.out.symm, dg_one _, ?_⟩)
              go_roundw
              case rel => exact ⟨t + 1, (mN : Int) - 1, P ++ [y], by first | rfl | simp [hsm], hlt, Lib.hid (by have := HMN.out; omega), Lib.hid (by rw [List.length_append, HPt.out]; rfl), Lib.hid (all_snoc HP32.out HYL.out), Lib.hid (HO10.out.setRow (Nat.lt_succ_self _) _), Lib.hid (by rw [← HDN.out]; exact HY10.out.setRow _), Lib.hid (below_setRow HB10.out (Nat.le_refl _) _)⟩
              case measure => simp [intOf]
            · have HST : Hid (∀ y, T.stepD 256 true dt y = T.nodeD 256 dt y) := Lib.hid (fun y => rfl)
              go_wp2_with (refine wpList_ld rfl rfl ?_; first | refine ⟨gx, _, _, _, rfl, HX9.out, Try.underlying24, rfl, by rw [HYS.out]; kernel_rfl, ?_⟩ | refine ⟨gd, _, _, _, rfl, HY9.out, Try.underlying24, rfl, by rw [HDS.out]; kernel_rfl, ?_⟩)
              refine (pnode_any dt y _ HDL.out HYL.out).mono ?_
              rintro e w10 ⟨rfl, hb⟩
              rw [← HST.out y, ← HNX.out y]
              obtain ⟨dn, hdn⟩ : ∃ d, d = T.climb 256 (bs.reverse.take (t + 1)) (P ++ [y]) d0 := ⟨_, rfl⟩
              rw [← hdn]
              have HDN := Lib.hid hdn
              have HNS : Hid ((bvs dn).toArray.size = 32) := Lib.hid (dg_size (by rw [hdn]; exact T.climb_len _ _ _ _ HD0L.out))
              have HY10 := Lib.hid (HY9.out.ext hb)
              have HO10 := Lib.hid (OwnDs.mono _ _ _ _ _ HO'.out hb)
              have HB10 : Hid (Below gd w4 w10) := Lib.hid (Below.trans HB9.out (hb.mono (Nat.le_of_lt HY9.out.lt)))
              clear hdn hb kk
              unfold dgV
              go_wp2_with (refine wpList_st rfl rfl ?_; refine ⟨gd, _, _, _, rfl, rfl, HY10.out, by rw [HNS.out]; kernel_rfl, HDS.out.trans HNS.out.symm, dg_one _, ?_⟩)
              go_roundw
              case rel => exact ⟨t + 1, (mN : Int) - 1, P ++ [y], by first | rfl | simp [hsm], hlt, Lib.hid (by have := HMN.out; omega), Lib.hid (by rw [List.length_append, HPt.out]; rfl), Lib.hid (all_snoc HP32.out HYL.out), Lib.hid (HO10.out.setRow (Nat.lt_succ_self _) _), Lib.hid (by rw [← HDN.out]; exact HY10.out.setRow _), Lib.hid (below_setRow HB10.out (Nat.le_refl _) _)⟩
              case measure => simp [intOf]
        · obtain rfl : t = L := by have := HMZ.out; omega
          obtain rfl : mz = -1 := by have := HMZ.out; omega
          have HBS : Hid (bs.reverse.take t = bs.reverse) := Lib.hid (List.take_of_length_le (by rw [List.length_reverse, ← HLN.out]; exact Nat.le_refl _))
          have HCHK : Hid (∀ r : List UInt8, T.checkD 256 r cn j0 lf P = decide (dt = r)) := Lib.hid (fun r => by
            unfold T.checkD
            rw [if_neg (by omega), Int.toNat_natCast, Int.toNat_natCast, HUP.out, HPt.out, ← HLN.out, ← HD0.out, HDT.out, HBS.out]
            simp)
          obtain ⟨b0, ds, hdc⟩ : ∃ b ds, dt = b :: ds := by
            cases hd : dt with
            | nil => have := HDL.out; rw [hd] at this; cases this
            | cons b ds => exact ⟨b, ds, rfl⟩
          have HDC := Lib.hid hdc
          clear hdc
          go_upto_region 30 with (first
            | (refine wpList_ld rfl rfl ?_; refine ⟨gd, _, _, _, rfl, HY.out, Try.underlying24, rfl, by rw [HDS.out]; kernel_rfl, ?_⟩)
            | (refine wpList_newD rfl rfl ?_)
            | (refine wpList_newst rfl rfl rfl HDL.out (d0 := List.replicate 32 0) rfl rfl rfl (zDig_row _) ?_))
          have HZ1 := Lib.hid (stD_row wr dt)
          have HE6 := Lib.hid (stD_ext wr dt)
          generalize (wr.alloc (.cells zDig 24)).setRow wr.heap.size (bvs dt).toArray = w6 at HZ1 HE6 ⊢
          obtain ⟨go, hgo⟩ : ∃ g, g = wr.heap.size := ⟨_, rfl⟩
          have HGO := Lib.hid hgo
          rw [← hgo] at HZ1 ⊢
          rw [HDC.out] at HZ1
          have c0 := HZ1.out.cell (j := 0) (v := .int .u8 (b0.toNat : Int)) rfl
          have f0 := HZ1.out.frozen 0
          have HUP8 := Lib.hid (u8_up b0)
          clear hgo
          go_upto_region 31 with (fail)
          rw [HUP8.out]
          have HZ2 : Hid (Row (w6.setCell ⟨go, 0, none⟩ (.int .u8 ((b0 + 1).toNat : Int))) go 24 (bvs ((b0 + 1) :: ds))) := Lib.hid (HZ1.out.set 0 _)
          have HE7 : Hid (ExtW wr (w6.setCell ⟨go, 0, none⟩ (.int .u8 ((b0 + 1).toNat : Int)))) := Lib.hid (HE6.out.setCell (p := ⟨go, 0, none⟩) (Nat.le_of_eq HGO.out.symm) _)
          generalize w6.setCell ⟨go, 0, none⟩ (.int .u8 ((b0 + 1).toNat : Int)) = w7 at HZ2 HE7 ⊢
          obtain ⟨ot, hot⟩ : ∃ o, o = (b0 + 1) :: ds := ⟨_, rfl⟩
          rw [← hot] at HZ2
          have HOL : Hid (ot.length = 32) := Lib.hid (by rw [hot, List.length_cons]; have := HDL.out; rw [HDC.out, List.length_cons] at this; exact this)
          have HNE : Hid (decide (dt = ot) = false) := Lib.hid (by
            rw [hot, HDC.out, decide_eq_false_iff_not]
            intro h
            exact u8_ne b0 (List.cons.inj h).1.symm)
          have HY7 := Lib.hid (HY.out.ext HE7.out)
          have HX7 := Lib.hid (ExtW.trans HBE.out HE7.out)
          have HD7 := Lib.hid (HD1.out.same HE7.out)
          clear hot c0 f0 HZ1 HE6
          have HLd := Lib.hid (HL4.out.below HX7.out (Nat.le_refl _))
          go_wp2_with (refine wpList_ldG rfl (by rfl) ?_; first | refine ⟨gd, 0, _, _, rfl, HY7.out.range, Try.underlying24, rfl, sizeD HDL.out, ?_⟩ | refine ⟨go, 0, _, _, rfl, HZ2.out.range, Try.underlying24, rfl, sizeD HOL.out, ?_⟩)
          refine (pcheck_any dt HDL.out cn j0 (by omega) LA r lc lf A1 t c1 P _ HLd.out (by omega) HD7.out).mono ?_
          rintro e w8 ⟨rfl, hb⟩
          rw [HCHK.out, show decide (dt = dt) = true by simp]
          have HZ8 := Lib.hid (HZ2.out.ext hb)
          have HL8 := Lib.hid (HLd.out.below hb (Nat.le_refl _))
          have HD8 := Lib.hid (HD7.out.same hb)
          have HX8 := Lib.hid (ExtW.trans HX7.out hb)
          clear hb
          go_wp2_with (refine wpList_ldG rfl (by rfl) ?_; refine ⟨go, 0, _, _, rfl, HZ8.out.range, Try.underlying24, rfl, sizeD HOL.out, ?_⟩)
          refine (pcheck_any ot HOL.out cn j0 (by omega) LA r lc lf A1 t c1 P _ HL8.out (by omega) HD8.out).mono ?_
          rintro e w9 ⟨rfl, hb⟩
          rw [HCHK.out, HNE.out]
          have HX9 := Lib.hid (ExtW.trans HE4.out (ExtW.trans HX8.out hb))
          clear hb
          go_wp2
          go_ret
          exact ⟨rfl, HX9.out⟩
end Go.Proofs.Ytncdgndeidbgoaa
