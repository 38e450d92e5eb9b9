/- Walk of SumPieces. -/
import Derived.Test.YtoibhplpbiamfaaShown2
import Derived.Test.YtoibhplpbiamfaaBss
import Derived.Lib.SlBytesConst
namespace Go.Proofs.Ytoibhplpbiamfaa
open Go.RowKit

/-- the first j pieces, cut, one behind the other -/
def catR (l : List (List UInt8)) (j : Nat) : List UInt8 := ((l.take j).map (List.take 3000)).flatten
theorem catR_succ {l : List (List UInt8)} {j : Nat} {y : List UInt8} (h : l[j]? = some y) : catR l (j + 1) = catR l j ++ y.take 3000 := by
  unfold catR; rw [List.take_add_one, h]; simp
theorem catR_zero (l : List (List UInt8)) : catR l 0 = [] := rfl

theorem own_same {W W' : World} {base : Nat} {e : TypeId} {sz : Nat} {v : Value} {n : Nat} {xs : List Value} (h : W.ownsRow base e sz v n xs) (hb : ∀ k, v.ownBlock = some k → W'.heap[k]? = W.heap[k]?) : W'.ownsRow base e sz v n xs := by
  refine ⟨h.1, ?_⟩
  rcases h.2 with h2 | ⟨g, cap, cur, rfl, hg, hgb, r⟩
  · exact .inl h2
  · exact .inr ⟨g, cap, cur, rfl, hg, (hb g rfl).trans hgb, r⟩
theorem own_lt {w : World} {base : Nat} {e : TypeId} {sz : Nat} {v : Value} {n : Nat} {xs : List Value} (h : w.ownsRow base e sz v n xs) : ∀ k, v.ownBlock = some k → k < w.heap.size := by
  intro k hk
  rcases h.2 with ⟨rfl, _⟩ | ⟨g, cap, cur, rfl, hb, hg, _⟩
  · cases hk
  · cases hk; exact (Array.getElem?_eq_some_iff.1 hg).1
theorem own_none (w : World) (base e : Nat) : w.ownsRow base e 1 (.slice none 0 0) 0 [] := ⟨rfl, .inl ⟨rfl, rfl⟩⟩
theorem HashAt.grown {w w' : World} {g : Nat} {l : List UInt8} {T : Nat} {row : Option Nat} (h : HashAt w g l T) (hg : w.grownBy w' row) (hne : some g ≠ row) : HashAt w' g l T := by
  obtain ⟨part, h1, h2, h3⟩ := h
  exact ⟨part, h1, h2, (hg.block g h3.lt hne).trans h3⟩
theorem HashAt.lt {w : World} {g : Nat} {l : List UInt8} {T : Nat} (h : HashAt w g l T) : g < w.heap.size := by
  obtain ⟨part, h1, h2, h3⟩ := h
  exact h3.lt

theorem obl_ld {P : Program} {ops : Array Oper} {o : Oper} {a : Act} {w : World} {ty : TypeId} {x : Operand} (hw : Region.wanted o (yielded ops a.tmps) = true) (ho : o.op = .load ty x) {b off : Nat} {cs : List Value} {d : TypeDesc}
    (hx : a.eval x = .pointer (some ⟨b, off, none⟩)) (hc : w.rangeAt b off cs) (hu : P.underlying ty = some d) (hd : d.isRow = true) (hi : (P.info? ty).map (·.size) = some cs.length) : oblAt P ops o a w fun v _ => v = .agg cs.toArray :=
  obl_val hw (by
    unfold execOp
    simp only [ho, hx, Instr.loadAt, Instr.sureAddr, Sem.run_bind, Sem.run_pure, Result.andThen_ok, run_loadVar_mid w b off ty cs d hc hu hd hi])

theorem HashAt.same {w w' : World} {g : Nat} {l : List UInt8} {T : Nat} (h : HashAt w g l T) (hb : w'.heap[g]? = w.heap[g]?) : HashAt w' g l T := by
  obtain ⟨part, h1, h2, h3⟩ := h
  exact ⟨part, h1, h2, hb.trans h3⟩
theorem obl_append {P : Program} {ops : Array Oper} {o : Oper} {a : Act} {w : World} {F : Value → World → Prop} (hw : Region.wanted o (yielded ops a.tmps) = true) {s x : Operand} {t : TypeId}
    (ho : o.op = .call { callee := .builtin .append, args := #[s, x], argTypes := #[t, t] }) {v u : Value} (hs : a.eval s = v) (hx : a.eval x = u) {v' : Value} {w' : World}
    (hrun : (Builtin.append_ #[t, t] o.type #[v, u]).run P w = .ok v' w') (h1 : ExtW w w') (h2 : F v' w') : oblAt P ops o a w F :=
  obl_on hw (by
    unfold execOp
    simp only [ho, resolve, invoke, builtin, Sem.run_bind, Sem.run_pure, Result.andThen_ok, List.map_toArray, List.map_cons, List.map_nil, hs, hx, hrun]
    exact ⟨h1, h2⟩)
theorem Rd.newM1 (w : World) (b : UInt8) : Rd (w.alloc (.cells #[.int .u8 (b.toNat : Int)] 5 (1, 2))) (some ⟨w.heap.size, 0, none⟩) 1 1 1 (bvs [b]) := Rd.newM w [.int .u8 (b.toNat : Int)] 5 1 1 (1, 2) rfl (by decide)
/-- a piece that is the round's own -/
def PcF (base : Nat) (z : List UInt8) (q : Nat) (v : Value) (w : World) : Prop := ∃ A c, v = .slice A q c ∧ Rd w A q c 1 (bvs z) ∧ (0 < q → w.ownsRow base 5 1 v q (bvs z))
theorem PcF.mono (base : Nat) (z : List UInt8) (q : Nat) : ∀ v w w', PcF base z q v w → ExtW w w' → PcF base z q v w' := by
  rintro v w w' ⟨A, c, e, h, ho⟩ hb
  exact ⟨A, c, e, h.below hb (Nat.le_refl _), fun hq => own_ext (ho hq) hb⟩
def NwF (v : Value) (_w : World) : Prop := ∃ g, v = .slice (some ⟨g, 0, none⟩) 0 0
theorem NwF.mono : ∀ v w w', NwF v w → ExtW w w' → NwF v w' := fun _ _ _ h _ => h

/-- append of something onto a new slice without room, in any world -/
theorem append_new (g : Nat) (D : Option Addr) (q dd : Nat) (z : List UInt8) (W : World) (base : Nat) (hb : base ≤ W.heap.size) (hr : Rd W D q dd 1 (bvs z)) (hq : q ≤ 3000) :
    ∃ v' W', (Builtin.append_ #[22, 22] 22 #[.slice (some ⟨g, 0, none⟩) 0 0, .slice D q dd]).run Try.prog W = .ok v' W' ∧ ExtW W W' ∧ PcF base z q v' W' := by
  obtain ⟨i0, hi, hz0, hz1, hz2⟩ := info_parts infoB
  by_cases h0 : 0 < q
  · obtain ⟨v', W', h1, h2, h3, _⟩ := run_append_appd (P := Try.prog) W W.heap.size 22 22 5 i0 _ 1 1 Try.underlying22 hi hz0 hz1 hz2 rfl (by omega) (.slice (some ⟨g, 0, none⟩) 0 0) 0 []
      (.inl ⟨some ⟨g, 0, none⟩, rfl, ⟨rfl, Nat.le_refl _, by decide, (fun h => by cases h), fun a ha j u hj => by simp at hj⟩⟩) D q dd (bvs z) hr (bvs_one _) (by simp [maxLen]; omega) (by omega) (Nat.le_refl _) (.inr h0)
    rw [Nat.zero_add] at h2
    obtain ⟨A', c', e, hrd, _⟩ := Rd.of_own h2
    exact ⟨v', W', h1, h3, A', c', e, hrd, fun _ => own_mono h2 hb⟩
  · obtain rfl : q = 0 := by omega
    have hz : z = [] := by have := hr.len; rw [bvs_len] at this; exact List.length_eq_zero_iff.1 (by omega)
    subst hz
    refine ⟨.slice (some ⟨g, 0, none⟩) 0 0, W, ?_, ExtW.refl _, some ⟨g, 0, none⟩, 0, rfl, ⟨rfl, Nat.le_refl _, by decide, (fun h => by cases h), fun a ha j u hj => by simp [bvs] at hj⟩, fun h => absurd h (by omega)⟩
    cases D with
    | none =>
      have hd := hr.nil0 rfl
      subst hd
      simp [Builtin.append_, run_underlying Try.underlying22, Builtin.lenOf, Builtin.firstCells, sizeOf, typeInfo, hi, loadCells, loadCellsFrom, storeCells]
    | some a => simp [Builtin.append_, run_underlying Try.underlying22, Builtin.lenOf, Builtin.firstCells, sizeOf, typeInfo, hi, loadCells, loadCellsFrom, storeCells]

set_option maxHeartbeats 8000000 in
set_option maxRecDepth 100000 in
theorem sumPieces_walk (A : Option Addr) (n c : Nat) (l : List (List UInt8)) (w : World) (hr : Bss w A n c l) (hc : c ≤ 140737488351232) :
    Calls Try.prog 5 #[.slice A n c] w fun e w' => e = .returned (.bool true) ∧ Below w.heap.size w w' := by
  obtain ⟨i0, hi, hz0, hz1, hz2⟩ := info_parts infoB
  have hnb : n ≤ 140737488351232 := Nat.le_trans hr.nc hc
  have HR := Lib.hid hr
  clear hr hc
  go_enter Try.func5, Try.ntmps5
  go_wp2_with fail
  refine (shown_any _).mono ?_
  rintro e w1 ⟨rfl, hb1⟩
  have HB1 := Lib.hid hb1
  clear hb1
  go_wp2_with fail
  refine (new_any _).mono ?_
  rintro e w2 ⟨g1, rfl, hb2, hg2, hrow2⟩
  have HB2 := Lib.hid (ExtW.trans HB1.out hb2)
  have HG1 : Hid (w.heap.size ≤ g1) := Lib.hid (Nat.le_trans HB1.out.size hg2)
  have HH2 := Lib.hid (hash_new hrow2)
  clear hb2 hg2 hrow2
  go_wp2_with fail
  refine (new_any _).mono ?_
  rintro e w3 ⟨g2, rfl, hb3, hg3, hrow3⟩
  have HB3 := Lib.hid (ExtW.trans HB2.out hb3)
  have H12 : Hid (g1 < g2) := Lib.hid (Nat.lt_of_lt_of_le HH2.out.lt hg3)
  have HH1 := Lib.hid (HH2.out.ext hb3)
  have HHG := Lib.hid (hash_new hrow3)
  have HL2 : Hid (g2 < w3.heap.size) := Lib.hid hrow3.lt
  clear hb3 hg3 hrow3 HH2
  go_upto_block 0 with (fail)
  go_wp2_with fail
  go_loopw [6, 7] (fun v i wr => ∃ (j k : Nat) (B : Option Addr) (d : Nat), i = .int .i64 j ∧ v = .slice B k d ∧ j ≤ 50 ∧ k ≤ j * 3000 ∧ Hid (j ≤ n ∧ (catR l j).length = k) ∧ Hid (wr.ownsRow w3.heap.size 5 1 (.slice B k d) k (bvs (catR l j))) ∧
    Hid (HashAt wr g1 (catR l j) (catR l j).length) ∧ Hid (HashAt wr g2 (List.replicate j 120) j) ∧ Hid (Below w.heap.size w wr) ∧ Hid (w3.heap.size ≤ wr.heap.size)) (fun _ i _ => 50 - (intOf i).toNat)
  case atStart => exact ⟨0, 0, none, 0, rfl, rfl, by decide, by decide, Lib.hid ⟨Nat.zero_le _, rfl⟩, Lib.hid (own_none _ _ _), HH1, HHG, HB3, Lib.hid (Nat.le_refl _)⟩
  case round =>
    clear HH1 HHG
    obtain ⟨j, k, B, d, rfl, rfl, hj50, hk, HK, HO, HH1, HH2, HB, HSZ⟩ := hrel
    by_cases hlt : j < n ∧ j < 50
    · obtain ⟨hl1, hl2⟩ := hlt
      have hli : (j : Int) < (n : Int) := by omega
      have hli2 : (j : Int) < 50 := by omega
      obtain ⟨y, hy⟩ : ∃ y, l[j]? = some y := ⟨_, List.getElem?_eq_getElem (by rw [HR.out.len]; exact hl1)⟩
      cases hA : A with
      | none => have := HR.out.nil0 hA; have := HR.out.nc; omega
      | some a =>
        obtain ⟨D, m, dd, hcell, hrd⟩ := HR.out.row a hA j y hy
        subst hA
        obtain ⟨q, hq⟩ : ∃ q, q = min m 3000 := ⟨_, rfl⟩
        have hq1 : q ≤ 3000 := by omega
        have hq2 : q ≤ m := by omega
        have hqq : min (m : Int) 3000 = (q : Int) := by omega
        obtain ⟨hsl, hslr⟩ := cut_h (P := Try.prog) Try.underlying22 hi hz1 D m dd .i64 (q : Int) q rfl hq2 hrd.nc
        have hrq := hslr _ _ (hrd.below HB.out (Nat.le_refl _))
        rw [Nat.mul_one, bvs_take] at hrq
        obtain ⟨z, hz⟩ : ∃ z, z = y.take q := ⟨_, rfl⟩
        rw [← hz] at hrq
        have HZ : Hid (catR l (j + 1) = catR l j ++ z) := Lib.hid (by
          have hyl : y.length = m := by have := hrd.len; rw [bvs_len] at this; omega
          rw [catR_succ hy, hz]
          by_cases hm3 : m ≤ 3000
          · rw [List.take_of_length_le (by omega), List.take_of_length_le (by omega)]
          · rw [show q = 3000 by omega])
        have HZL : Hid (z.length = q) := Lib.hid (by have := hrq.len; rw [bvs_len] at this; omega)
        have HRQ := Lib.hid hrq
        have hcw : ∀ wq, ExtW wr.drew wq → wq.cell? (a.add j) = some (.slice D m dd) := fun wq h => (ExtW.of_drew h).cellAt (by rw [HB.out.cell (cell_lt hcell)]; exact hcell)
        have HJ1 : Hid (j + 1 ≤ n) := Lib.hid hl1
        clear hrd hslr hrq hcell hy hq hz hl1
        go_upto_region 10 with (fail)
        apply wp_region_ext _ (by kernel_rfl) (by kernel_rfl)
        apply wpZ_nd NwF NwF.mono
        · intro wq hE hG
          apply obl_on (by kernel_rfl)
          go_simp
          exact ⟨(Below.refl _ _).alloc (Nat.le_refl _) _, _, rfl⟩
        (intro u1 ak hak; simp only [Act.put, List.setIfInBounds_toArray, List.set_cons_succ, List.set_cons_zero] at hak; subst hak)
        iterate 11 (apply wpZ_det; (intro wq hE hG; first | exact obl_non (by rfl) | (apply obl_val (by rfl); go_simp; rfl)); (intro ak hak; simp only [Act.put, List.setIfInBounds_toArray, List.set_cons_succ, List.set_cons_zero] at hak; subst hak))
        apply wpZ_nd (PcF wr.heap.size z q) (PcF.mono _ _ _)
        · intro wq hE hG
          obtain ⟨g, rfl⟩ : NwF u1 wq := hG _ (List.mem_cons_self ..) (by kernel_rfl)
          obtain ⟨v', W', h1, h2, h3⟩ := append_new g D q dd z wq wr.heap.size (ExtW.of_drew hE).size (HRQ.out.below (ExtW.of_drew hE) (Nat.le_refl _)) hq1
          exact obl_append (by kernel_rfl) rfl rfl rfl h1 h2 h3
        (intro u2' ak hak; simp only [Act.put, List.setIfInBounds_toArray, List.set_cons_succ, List.set_cons_zero] at hak; subst hak)
        apply wpZ_nd (PcF wr.heap.size z q) (PcF.mono _ _ _)
        · intro wq hE hG
          have hF : PcF wr.heap.size z q u2' wq := hG _ (List.mem_cons_self ..) (by kernel_rfl)
          apply obl_on (by kernel_rfl)
          go_simp
          exact ⟨ExtW.refl _, hF⟩
        (intro u3' ak hak; simp only [Act.put, List.setIfInBounds_toArray, List.set_cons_succ, List.set_cons_zero] at hak; subst hak)
        (apply wpZ_nil; intro wq hE hG)
        obtain ⟨A1, c1, hu3, hrd1, ho1⟩ : PcF wr.heap.size z q u3' wq := hG _ (List.mem_cons_self ..)
        subst hu3
        have HE : Hid (ExtW wr wq) := Lib.hid (ExtW.of_drew hE)
        have HRD1 := Lib.hid hrd1
        have HOZ : Hid (0 < q → wq.ownsRow wr.heap.size 5 1 (.slice A1 q c1) q (bvs z)) := Lib.hid ho1
        have HOA := Lib.hid (own_ext HO.out HE.out)
        have HA1 := Lib.hid (HH1.out.ext HE.out)
        have HA2 := Lib.hid (HH2.out.ext HE.out)
        have HAB : Hid (Below w.heap.size w wq) := Lib.hid (Below.trans HB.out (Below.mono HE.out HB.out.size))
        -- the blocks are apart
        have HAP : Hid (∀ kk, (Value.slice A1 q c1).ownBlock = some kk → 0 < q → wr.heap.size ≤ kk) := Lib.hid fun kk h h0 => own_ge (HOZ.out h0) kk h
        have HAQ : Hid (∀ kk, (Value.slice B k d).ownBlock = some kk → w3.heap.size ≤ kk ∧ kk < wr.heap.size) := Lib.hid fun kk h => ⟨own_ge HO.out kk h, own_lt HO.out kk h⟩
        have hk4 : k ≤ 150000 := by omega
        clear hE hG hrd1 ho1 hcw hsl hqq HO HH1 HH2 HB
        go_upto_region 12 with (at_builtin; refine wpList_append_appd _ rfl _ _ _ rfl w3.heap.size 5 i0 _ 1 1 Try.underlying22 hi hz0 hz1 hz2 rfl (by omega) _ _ _ rfl (.inr HOA.out) A1 q c1 _ rfl HRD1.out (bvs_one _) (by simp [maxLen]; omega) (by omega) (Nat.le_trans HSZ.out HE.out.size) (.inl HOA.out) ?_; intro v4 w4 hown4 hb4 hgr4; have HGR := Lib.hid (hgr4.resolve_right (fun h => h HOA.out)); have HO4 := Lib.hid hown4; have HBB4 := Lib.hid hb4; clear hown4 hb4 hgr4; obtain ⟨A4, c4, hv4⟩ := own_slice' HO4.out; subst hv4)
        have HZ4 : Hid (0 < q → w4.ownsRow wr.heap.size 5 1 (.slice A1 q c1) q (bvs z)) := Lib.hid fun h0 => own_same (HOZ.out h0) fun kk hkk => HGR.out.1.block kk (own_lt (HOZ.out h0) kk hkk) (fun e => by have h1 := HAP.out kk hkk h0; have h2 := (HAQ.out kk e.symm).2; omega)
        have HRD4 : Hid (Rd w4 A1 q c1 1 (bvs z)) := Lib.hid (HRD1.out.same fun b hb hlen => by
          have h0 : 0 < q := by rw [bvs_len, HZL.out] at hlen; exact hlen
          have hkk : (Value.slice A1 q c1).ownBlock = some b.block := by rw [hb]; rfl
          exact HGR.out.1.block b.block (own_lt (HOZ.out h0) _ hkk) (fun e => by have h1 := HAP.out _ hkk h0; have h2 := (HAQ.out _ e.symm).2; omega))
        have HB1' : Hid (HashAt w4 g1 (catR l j) (catR l j).length) := Lib.hid (HA1.out.grown HGR.out.1 (fun e => by have h2 := (HAQ.out _ e.symm).1; have := H12.out; have := HL2.out; omega))
        have HB2' : Hid (HashAt w4 g2 (List.replicate j 120) j) := Lib.hid (HA2.out.grown HGR.out.1 (fun e => by have h2 := (HAQ.out _ e.symm).1; have := HL2.out; omega))
        -- the new row of all the bytes lies apart from the piece
        have HAR : Hid (∀ kk, (Value.slice A4 (k + q) c4).ownBlock = some kk → w3.heap.size ≤ kk ∧ (0 < q → (Value.slice A1 q c1).ownBlock ≠ some kk)) := Lib.hid fun kk h => ⟨own_ge HO4.out kk h, fun h0 h' => by
          have h1 := HAP.out kk h' h0
          have h3 := own_lt (HOZ.out h0) kk h'
          rcases HGR.out.2 with e | e
          · rw [e] at h
            have h2 := (HAQ.out kk h).2
            omega
          · rw [e] at h
            have := Option.some.inj h
            omega⟩
        have HSZ4 : Hid (wr.heap.size ≤ w4.heap.size) := Lib.hid (Nat.le_trans HE.out.size HGR.out.1.size)
        have HBW4 : Hid (Below w.heap.size w w4) := Lib.hid (Below.trans HAB.out (HBB4.out.mono HB3.out.size))
        clear HA1 HA2 HOA HOZ HRD1 HGR HBB4 HAB
        go_wp2_with fail
        refine (write_any g1 (catR l j) A1 q c1 z _ HB1'.out HRD4.out (fun h0 b hb => by have h1 := HAP.out b.block (by rw [hb]; rfl) h0; have := HL2.out; have := H12.out; have := HSZ.out; omega) (by rw [HK.out.2]; omega)).mono ?_
        rintro e w5 ⟨rfl, hg5, hh5⟩
        rw [← HZ.out] at hh5
        have HH5 := Lib.hid hh5
        have HG5 : Hid (HashAt w5 g2 (List.replicate j 120) j) := Lib.hid (HB2'.out.grown hg5 (fun e => by have h1 := Option.some.inj e; have := H12.out; omega))
        have HO5 := Lib.hid (own_same HO4.out fun kk hkk => hg5.block kk (own_lt HO4.out kk hkk) (fun e => by have h1 := Option.some.inj e; have := (HAR.out kk hkk).1; have := HL2.out; have := H12.out; omega))
        have HZ5 : Hid (0 < q → w5.ownsRow wr.heap.size 5 1 (.slice A1 q c1) q (bvs z)) := Lib.hid fun h0 => own_same (HZ4.out h0) fun kk hkk => hg5.block kk (own_lt (HZ4.out h0) kk hkk) (fun e => by have h1 := Option.some.inj e; have := HAP.out kk hkk h0; have := HL2.out; have := H12.out; have := HSZ.out; omega)
        have HBW5 : Hid (Below w.heap.size w w5) := Lib.hid (Below.trans HBW4.out (grown_below hg5 HG1.out HBW4.out.size))
        have HSZ5 : Hid (wr.heap.size ≤ w5.heap.size) := Lib.hid (Nat.le_trans HSZ4.out hg5.size)
        clear hg5 hh5 HZ4 HB1' HB2' HO4 HBW4 HRD4
        go_wp2_with fail
        obtain ⟨w0, rfl⟩ : ∃ w0, w0 = wr := ⟨_, rfl⟩
        go_loopw [9] (fun v wx => ∃ t : Nat, v = .int .i64 t ∧ t ≤ q ∧ Hid (0 < q → ∃ zs, wx.ownsRow w0.heap.size 5 1 (.slice A1 q c1) q zs) ∧ Hid (∀ kk, kk < w5.heap.size → (0 < q → (Value.slice A1 q c1).ownBlock ≠ some kk) → wx.heap[kk]? = w5.heap[kk]?) ∧ Hid (Below w0.heap.size w5 wx)) (fun v _ => q - (intOf v).toNat)
        case atStart => exact ⟨0, rfl, Nat.zero_le _, Lib.hid fun h0 => ⟨_, HZ5.out h0⟩, Lib.hid fun _ _ _ => rfl, Lib.hid (Below.refl _ _)⟩
        case round =>
          obtain ⟨wx, rfl⟩ : ∃ wx, wx = wr := ⟨_, rfl⟩
          clear HZ5
          obtain ⟨t, rfl, ht, HOT, HKP, HBX⟩ := hrel
          by_cases hlt3 : t < q
          · have hai : (t : Int) < (q : Int) := by omega
            obtain ⟨zs, hzs⟩ := HOT.out (by omega)
            obtain ⟨g9, c9, hv9, hg9, _⟩ := own_form hzs (by omega)
            cases hv9
            have HZS := Lib.hid hzs
            have hcell : ∃ u, wx.cell? ⟨g9, t, none⟩ = some u := by
              have h1 := hzs.cellAt t (by rw [Nat.mul_one]; exact hlt3)
              have h2 := hzs.1
              rw [List.getElem?_eq_getElem (by rw [h2, Nat.mul_one]; exact hlt3)] at h1
              exact ⟨_, h1⟩
            obtain ⟨u, hcell⟩ := hcell
            have hfr := hzs.frozenAt t
            have HST := Lib.hid (hzs.stored t (.int .u8 63)).1
            have HG9 := Lib.hid hg9
            clear hzs hg9
            go_wp2
            go_roundw
            case rel =>
              refine ⟨t + 1, by simp, hlt3, Lib.hid fun _ => ⟨_, HST.out⟩, Lib.hid fun kk hkk hne => ?_, Lib.hid (HBX.out.setCell (p := ⟨g9, t, none⟩) HG9.out _)⟩
              exact (Below.heap_setCell _ _ _ kk (fun e => hne (by omega) (by rw [e]; rfl))).trans (HKP.out kk hkk hne)
            case measure => simp [intOf]; omega
          · obtain rfl : t = q := by omega
            have hai : ¬ (t : Int) < (t : Int) := by omega
            have HN1 : Hid (0 < t → (Value.slice A1 t c1).ownBlock ≠ some g1) := Lib.hid fun h0 h => by have := HAP.out _ h h0; have := HL2.out; have := H12.out; have := HSZ.out; omega
            have HN2 : Hid (0 < t → (Value.slice A1 t c1).ownBlock ≠ some g2) := Lib.hid fun h0 h => by have := HAP.out _ h h0; have := HL2.out; have := HSZ.out; omega
            have HX1 : Hid (HashAt wx g1 (catR l (j + 1)) (catR l (j + 1)).length) := Lib.hid (HH5.out.same (HKP.out g1 HH5.out.lt HN1.out))
            have HX2 : Hid (HashAt wx g2 (List.replicate j 120) j) := Lib.hid (HG5.out.same (HKP.out g2 HG5.out.lt HN2.out))
            have HOX := Lib.hid (own_same HO5.out fun kk hkk => HKP.out kk (own_lt HO5.out kk hkk) (HAR.out kk hkk).2)
            have HBX2 : Hid (Below w.heap.size w wx) := Lib.hid (Below.trans HBW5.out (HBX.out.mono (Nat.le_trans HB3.out.size HSZ.out)))
            have HSX : Hid (w3.heap.size ≤ wx.heap.size) := Lib.hid (Nat.le_trans HSZ.out (Nat.le_trans HSZ5.out HBX.out.size))
            have kc := Lib.run_convert_bytes_const (P := Try.prog) wx 22 5 #[.int .u8 120] 1 1 Try.underlying22 Try.underlying5
            clear HOT HKP HBX HO5 HG5 HH5 HBW5 HSZ5
            go_wp2_with fail
            refine (write_any g2 (List.replicate j 120) _ 1 1 [120] _ (by rw [List.length_replicate]; exact HX2.out.ext ((Below.refl _ _).alloc (Nat.le_refl _) _)) (Rd.newM1 wx 120) (fun _ b hb => by cases hb; have := HX2.out.lt; exact fun e => by have e' : wx.heap.size = g2 := e; omega) (by rw [List.length_replicate]; omega)).mono ?_
            rintro e w6 ⟨rfl, hg6, hh6⟩
            have HY2 : Hid (HashAt w6 g2 (List.replicate (j + 1) 120) (j + 1)) := Lib.hid (by rw [← List.replicate_succ', List.length_replicate] at hh6; exact hh6)
            have HX6 : Hid (∀ kk, kk < wx.heap.size → kk ≠ g2 → w6.heap[kk]? = wx.heap[kk]?) := Lib.hid fun kk hkk hne => (hg6.block kk (by simp; omega) (fun e => hne (Option.some.inj e))).trans (Below.heap_alloc wx _ kk hkk)
            have HY1 : Hid (HashAt w6 g1 (catR l (j + 1)) (catR l (j + 1)).length) := Lib.hid (HX1.out.same (HX6.out g1 HX1.out.lt (Nat.ne_of_lt H12.out)))
            have HY0 := Lib.hid (own_same HOX.out fun kk hkk => HX6.out kk (own_lt HOX.out kk hkk) (fun e => by have h1 := (HAR.out kk hkk).1; have := HL2.out; omega))
            have HBW6 : Hid (Below w.heap.size w w6) := Lib.hid (Below.trans HBX2.out (Below.trans ((Below.refl _ _).alloc HBX2.out.size _) (grown_below hg6 (Nat.le_trans HG1.out (Nat.le_of_lt H12.out)) (by have := HBX2.out.size; simp; omega))))
            have HSX6 : Hid (w3.heap.size ≤ w6.heap.size) := Lib.hid (Nat.le_trans HSX.out (Nat.le_trans (by simp) hg6.size))
            have HCL : Hid ((catR l (j + 1)).length = k + t) := Lib.hid (by rw [HZ.out, List.length_append, HK.out.2, HZL.out])
            clear hg6 hh6 HX1 HX2 HX6 HOX HBX2 HSX kc HN1 HN2 HAR HAP HAQ
            go_wp2_with fail
            refine (sum_any g1 (catR l (j + 1)) _ HY1.out (by rw [HCL.out]; omega)).mono ?_
            rintro e w7 ⟨rfl, hb7⟩
            have HE7 : Hid (ExtW w6 w7) := Lib.hid hb7
            obtain ⟨dg, hdg⟩ : ∃ dg, dg = S.sha (catR l (j + 1)) := ⟨_, rfl⟩
            have HDG := Lib.hid hdg
            rw [← hdg]
            have HDL : Hid (dg.length = 32) := Lib.hid (by rw [hdg]; rfl)
            have HSL : Hid ((bvs dg).length = 32) := Lib.hid (by rw [bvs_len, HDL.out])
            have HSZ3 : Hid ((bvs dg).toArray.size = 32) := Lib.hid (dg_size HDL.out)
            clear hb7 hdg
            go_upto_region 19 with (first
              | (refine wpList_runW rfl rfl ?_; refine ⟨.pointer (some ⟨w7.heap.size, 0, none⟩), w7.alloc (.cells zDig 25), by kernel_rfl, ?_⟩)
              | (refine wpList_st rfl rfl ?_; refine ⟨w7.heap.size, _, _, _, rfl, rfl, zDig_row w7, by rw [HSZ3.out]; kernel_rfl, Eq.trans (show (bvs (List.replicate 32 0)).toArray.size = 32 from rfl) HSZ3.out.symm, dg_one _, ?_⟩))
            have HD9 : Hid (Row ((w7.alloc (.cells zDig 25)).setRow w7.heap.size (bvs dg).toArray) w7.heap.size 25 (bvs dg)) := Lib.hid ((zDig_row w7).setRow _)
            have HE9 : Hid (ExtW w6 ((w7.alloc (.cells zDig 25)).setRow w7.heap.size (bvs dg).toArray)) := Lib.hid (ExtW.trans HE7.out (below_setRow ((Below.refl _ _).alloc (Nat.le_refl _) _) (Nat.le_refl _) _))
            generalize (w7.alloc (.cells zDig 25)).setRow w7.heap.size (bvs dg).toArray = w9 at HD9 HE9 ⊢
            obtain ⟨gd, hgd⟩ : ∃ g, g = w7.heap.size := ⟨_, rfl⟩
            rw [← hgd] at HD9 ⊢
            have HRA : Hid (Rd w9 A4 (k + t) c4 1 (bvs (catR l (j + 1)))) := Lib.hid (by
              obtain ⟨A', c', e1, h1, _⟩ := Rd.of_own (own_ext HY0.out HE9.out)
              cases e1
              rw [HZ.out, bvs_app]
              exact h1)
            have HHS := Lib.hid (HY1.out.ext HE9.out)
            have heq : ∀ W, (Op.equalIn 10000 25 (.agg (bvs dg).toArray) (.agg (bvs dg).toArray)).run Try.prog W = .ok true W := fun W => by
              have h := eq_dg dg dg HDL.out HDL.out W
              rwa [decide_eq_true rfl] at h
            have hkt : k + t ≤ 200000 := by omega
            clear hgd
            apply wp_region_ext _ (by kernel_rfl) (by kernel_rfl)
            apply wpZ_det
            · intro wq' hE hG
              exact obl_ld (by kernel_rfl) rfl rfl (HD9.out.ext (ExtW.of_drew hE)).range Try.underlying25 rfl (by rw [HSL.out]; kernel_rfl)
            (intro ak hak; simp only [Act.put, List.setIfInBounds_toArray, List.set_cons_succ, List.set_cons_zero] at hak; subst hak)
            (apply wpZ_det; (intro wq hE hG; first | exact obl_non (by rfl) | (apply obl_val (by rfl); go_simp; rfl)); (intro ak hak; simp only [Act.put, List.setIfInBounds_toArray, List.set_cons_succ, List.set_cons_zero] at hak; subst hak))
            apply wpZ_det
            · intro wq' hE hG
              apply obl_on (by kernel_rfl)
              go_simp
              simp only [extUpon_enter]
              refine (of_any A4 (k + t) c4 (catR l (j + 1)) wq' (HRA.out.below (ExtW.of_drew hE) (Nat.le_refl _)) (Nat.le_trans hkt (by decide))).mono ?_
              rintro e w' ⟨rfl, hb⟩
              exact ⟨_, rfl, hb, by unfold dgV; rw [← HDG.out]⟩
            (intro ak hak; simp only [Act.put, List.setIfInBounds_toArray, List.set_cons_succ, List.set_cons_zero] at hak; subst hak)
            iterate 3 (apply wpZ_det; (intro wq hE hG; first | exact obl_non (by rfl) | (apply obl_val (by rfl); go_simp; rfl)); (intro ak hak; simp only [Act.put, List.setIfInBounds_toArray, List.set_cons_succ, List.set_cons_zero] at hak; subst hak))
            apply wpZ_det
            · intro wq' hE hG
              apply obl_on (by kernel_rfl)
              go_simp
              simp only [extUpon_enter]
              refine (sum_any g1 (catR l (j + 1)) wq' (HHS.out.ext (ExtW.of_drew hE)) (by rw [HCL.out]; omega)).mono ?_
              rintro e w' ⟨rfl, hb⟩
              exact ⟨_, rfl, hb, by rw [← HDG.out]⟩
            (intro ak hak; simp only [Act.put, List.setIfInBounds_toArray, List.set_cons_succ, List.set_cons_zero] at hak; subst hak)
            apply wpZ_det
            · intro wq' hE hG
              exact obl_ld (by kernel_rfl) rfl rfl (HD9.out.ext (ExtW.of_drew hE)).range Try.underlying25 rfl (by rw [HSL.out]; kernel_rfl)
            (intro ak hak; simp only [Act.put, List.setIfInBounds_toArray, List.set_cons_succ, List.set_cons_zero] at hak; subst hak)
            iterate 2 (apply wpZ_det; (intro wq hE hG; first | exact obl_non (by rfl) | (apply obl_val (by rfl); go_simp; rfl)); (intro ak hak; simp only [Act.put, List.setIfInBounds_toArray, List.set_cons_succ, List.set_cons_zero] at hak; subst hak))
            (apply wpZ_nil; intro wk hE hG)
            have HEK : Hid (ExtW w6 wk) := Lib.hid (ExtW.trans HE9.out (ExtW.of_drew hE))
            clear hE hG heq
            go_wp2_with fail
            go_roundw
            case rel =>
              refine ⟨j + 1, k + t, A4, c4, by simp, rfl, hl2, by omega, Lib.hid ⟨HJ1.out, HCL.out⟩, Lib.hid ?_, Lib.hid (HY1.out.ext HEK.out), Lib.hid (HY2.out.ext HEK.out), Lib.hid (Below.trans HBW6.out (Below.mono HEK.out HBW6.out.size)), Lib.hid (Nat.le_trans HSX6.out HEK.out.size)⟩
              rw [HZ.out, bvs_app]
              exact own_ext HY0.out HEK.out
            case measure => simp [intOf]; omega
    · have HRA : Hid (Rd wr B k d 1 (bvs (catR l j))) := Lib.hid (by
        obtain ⟨A', c', e1, h1, _⟩ := Rd.of_own HO.out
        cases e1
        exact h1)
      obtain ⟨dg, hdg⟩ : ∃ dg, dg = S.sha (catR l j) := ⟨_, rfl⟩
      have HDG := Lib.hid hdg
      have HDL : Hid (dg.length = 32) := Lib.hid (by rw [hdg]; rfl)
      have heq : ∀ W, (Op.equalIn 10000 25 (.agg (bvs dg).toArray) (.agg (bvs dg).toArray)).run Try.prog W = .ok true W := fun W => by
        have h := eq_dg dg dg HDL.out HDL.out W
        rwa [decide_eq_true rfl] at h
      have HKL := Lib.hid HK.out.2
      have hk4 : k ≤ 200000 := by omega
      clear hdg hk HO
      by_cases h1 : j < n
      · have hli : (j : Int) < (n : Int) := by omega
        have hli2 : ¬ (j : Int) < 50 := by omega
        go_wp2_with fail
        refine (sum_any g1 (catR l j) _ HH1.out (by rw [HKL.out]; omega)).mono ?_
        rintro e w5 ⟨rfl, hb5⟩
        rw [← HDG.out]
        have HB5 := Lib.hid hb5
        clear hb5
        go_wp2_with fail
        refine (of_any B k d (catR l j) _ (HRA.out.below HB5.out (Nat.le_refl _)) (Nat.le_trans hk4 (by decide))).mono ?_
        rintro e w6 ⟨rfl, hb6⟩
        rw [← HDG.out]
        have HB6 := Lib.hid (ExtW.trans HB5.out hb6)
        clear hb6
        unfold dgV
        go_wp2
        go_ret
        exact ⟨rfl, Below.trans HB.out (Below.mono HB6.out HB.out.size)⟩
      · have hli : ¬ (j : Int) < (n : Int) := by omega
        go_wp2_with fail
        refine (sum_any g1 (catR l j) _ HH1.out (by rw [HKL.out]; omega)).mono ?_
        rintro e w5 ⟨rfl, hb5⟩
        rw [← HDG.out]
        have HB5 := Lib.hid hb5
        clear hb5
        go_wp2_with fail
        refine (of_any B k d (catR l j) _ (HRA.out.below HB5.out (Nat.le_refl _)) (Nat.le_trans hk4 (by decide))).mono ?_
        rintro e w6 ⟨rfl, hb6⟩
        rw [← HDG.out]
        have HB6 := Lib.hid (ExtW.trans HB5.out hb6)
        clear hb6
        unfold dgV
        go_wp2
        go_ret
        exact ⟨rfl, Below.trans HB.out (Below.mono HB6.out HB.out.size)⟩
end Go.Proofs.Ytoibhplpbiamfaa
