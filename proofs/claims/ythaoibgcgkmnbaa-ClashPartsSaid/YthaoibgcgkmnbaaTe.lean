/- Digests compared and laid, in drawn regions. -/
import Derived.Test.YthaoibgcgkmnbaaT10
namespace Go.Proofs.Ythaoibgcgkmnbaa
set_option maxRecDepth 100000
open Go.RowKit

theorem run_eqD (d e : List UInt8) (hd : d.length = 32) (he : e.length = 32) (a : Act) {o : Oper} {x y : Operand} (ho : o.op = .binOp .eql 45 x y 45) (hx : a.eval x = dgV d) (hy : a.eval y = dgV e) (W : World) : (execOp a.eval o).run Try.prog W = .ok (.value (.bool (decide (d = e)))) W := by
  have h := eq_dg d e hd he
  unfold execOp
  simp only [ho, hx, hy]
  unfold dgV
  go_simp
theorem run_neD (d e : List UInt8) (hd : d.length = 32) (he : e.length = 32) (a : Act) {o : Oper} {x y : Operand} (ho : o.op = .binOp .neq 45 x y 45) (hx : a.eval x = dgV d) (hy : a.eval y = dgV e) (W : World) : (execOp a.eval o).run Try.prog W = .ok (.value (.bool (!decide (d = e)))) W := by
  have h := eq_dg d e hd he
  unfold execOp
  simp only [ho, hx, hy]
  unfold dgV
  go_simp
theorem obl_eqD {ops : Array Oper} {o : Oper} {a : Act} {w : World} {x y : Operand} {d e : List UInt8} {b : Bool} (hw : Region.wanted o (yielded ops a.tmps) = true) (ho : o.op = .binOp .eql 45 x y 45) (hx : a.eval x = dgV d) (hy : a.eval y = dgV e) (hd : d.length = 32) (he : e.length = 32) (hb : decide (d = e) = b) : oblAt Try.prog ops o a w fun v _ => v = .bool b := by
  subst hb; exact obl_val hw (run_eqD d e hd he a ho hx hy w)
theorem obl_neD {ops : Array Oper} {o : Oper} {a : Act} {w : World} {x y : Operand} {d e : List UInt8} {b : Bool} (hw : Region.wanted o (yielded ops a.tmps) = true) (ho : o.op = .binOp .neq 45 x y 45) (hx : a.eval x = dgV d) (hy : a.eval y = dgV e) (hd : d.length = 32) (he : e.length = 32) (hb : (!decide (d = e)) = b) : oblAt Try.prog ops o a w fun v _ => v = .bool b := by
  subst hb; exact obl_val hw (run_neD d e hd he a ho hx hy w)
theorem wpList_eqD {ops : Array Oper} {rest : List Oper} {o : Oper} {a : Act} {w : World} {Q : Exit → Act → World → Prop} {x y : Operand} {d e : List UInt8} {b : Bool} (hw : Region.wanted o (yielded ops a.tmps) = true) (ho : o.op = .binOp .eql 45 x y 45) (hx : a.eval x = dgV d) (hy : a.eval y = dgV e) (hd : d.length = 32) (he : e.length = 32) (hb : decide (d = e) = b)
    (h : wpList Try.prog ops Q rest (a.put o.dst (.bool b)) w) : wpList Try.prog ops Q (o :: rest) a w := by
  subst hb
  refine wpList_want hw fun K hK => ?_
  unfold Oper.wp
  rw [run_eqD d e hd he a ho hx hy w]
  exact hK _ _ h
theorem wpList_neD {ops : Array Oper} {rest : List Oper} {o : Oper} {a : Act} {w : World} {Q : Exit → Act → World → Prop} {x y : Operand} {d e : List UInt8} {b : Bool} (hw : Region.wanted o (yielded ops a.tmps) = true) (ho : o.op = .binOp .neq 45 x y 45) (hx : a.eval x = dgV d) (hy : a.eval y = dgV e) (hd : d.length = 32) (he : e.length = 32) (hb : (!decide (d = e)) = b)
    (h : wpList Try.prog ops Q rest (a.put o.dst (.bool b)) w) : wpList Try.prog ops Q (o :: rest) a w := by
  subst hb
  refine wpList_want hw fun K hK => ?_
  unfold Oper.wp
  rw [run_neD d e hd he a ho hx hy w]
  exact hK _ _ h
/-- a new cell for a digest -/
def NewD (base : Nat) (v : Value) (w : World) : Prop := ∃ g, v = .pointer (some ⟨g, 0, none⟩) ∧ base ≤ g ∧ Row w g 45 (bvs (List.replicate 32 0))
theorem NewD.mono (base : Nat) : ∀ v w w', NewD base v w → ExtW w w' → NewD base v w' := by
  rintro v w w' ⟨g, e, hb, h⟩ hx
  exact ⟨g, e, hb, h.ext hx⟩
theorem obl_newD {ops : Array Oper} {o : Oper} {a : Act} {w : World} {base : Nat} (hw : Region.wanted o (yielded ops a.tmps) = true) (ho : o.op = .alloc 45) (hb : base ≤ w.heap.size) : oblAt Try.prog ops o a w (NewD base) :=
  obl_on hw (by
    rw [show (execOp a.eval o).run Try.prog w = .ok (.value (.pointer (some ⟨w.heap.size, 0, none⟩))) (w.alloc (.cells zDig 45)) by unfold execOp; rw [ho]; kernel_rfl]
    rw [extUpon_value]
    exact ⟨(Below.refl _ _).alloc (Nat.le_refl _) _, _, rfl, hb, zDig_row w⟩)
/-- a digest laid in a new cell: the world behind it -/
theorem stD_row (w : World) (d : List UInt8) : Row ((w.alloc (.cells zDig 45)).setRow w.heap.size (bvs d).toArray) w.heap.size 45 (bvs d) := (zDig_row w).setRow _
theorem stD_ext (w : World) (d : List UInt8) : ExtW w ((w.alloc (.cells zDig 45)).setRow w.heap.size (bvs d).toArray) := below_setRow ((Below.refl _ _).alloc (Nat.le_refl _) _) (Nat.le_refl _) _
/-- x := <digest>: a new cell, and the store -/
theorem wpList_newst {ops : Array Oper} {rest : List Oper} {o : Oper} {a : Act} {w : World} {Q : Exit → Act → World → Prop} (hgd : o.guard = none) {x y : Operand} (ho : o.op = .store 45 x y) (hdst : o.dst = none) {g : Nat} {d d0 : List UInt8} (hd : d.length = 32) (hd0 : d0.length = 32) (hx : a.eval x = .pointer (some ⟨g, 0, none⟩)) (hy : a.eval y = dgV d)
    (hr : Row w g 45 (bvs d0)) (h : wpList Try.prog ops Q rest a (w.setRow g (bvs d).toArray)) : wpList Try.prog ops Q (o :: rest) a w :=
  wpList_store_rowTo hgd _ x y ho hdst g _ hx hy _ _ hr (by rw [dg_size hd]; kernel_rfl) (by rw [dg_size hd, dg_size hd0]) (dg_one _) h
theorem OwnDs.at {base : Nat} {l : List (List UInt8)} {v : Value} {w : World} (h : OwnDs base l v w) (hl : ∀ d ∈ l, d.length = 32) (h0 : 0 < l.length) : ∃ g c, v = .slice (some ⟨g, 0, none⟩) l.length c ∧ Dls w (some ⟨g, 0, none⟩) l.length c l := by
  rcases h.2 with ⟨_, h1⟩ | ⟨g, cap, cur, hv, _⟩
  · omega
  · obtain ⟨A, c, hv2, hd⟩ := h.dls hl
    rw [hv] at hv2
    cases hv2
    exact ⟨g, cap, hv, hd⟩
theorem Dls.loadAt {w : World} {g n c : Nat} {l : List (List UInt8)} (h : Dls w (some ⟨g, 0, none⟩) n c l) (k : Nat) {d : List UInt8} (hk : l[k]? = some d) {off : Nat} (ho : off = k * 32) : (loadVar 45 ⟨g, off, none⟩).run Try.prog w = .ok (dgV d) w := by
  have h1 := h.load hk
  rw [Addr.add_mid, Nat.zero_add] at h1
  rw [ho]; exact h1
/-- l[i:k], written out -/
def cutA (A : Option Addr) (c i : Nat) : Option Addr := if c = i then A else A.map (·.add i)
theorem run_cutA (A : Option Addr) (n c : Nat) (i k : Nat) (h1 : i ≤ k) (h2 : k ≤ n) (h3 : n ≤ c) (W : World) : (Instr.slice 22 (.slice A n c) (some (.int .i64 (i : Int))) (some (.int .i64 (k : Int))) none).run Try.prog W = .ok (.slice (cutA A c i) (k - i) (c - i)) W := by
  obtain ⟨i1, hi, _, hz1, _⟩ := info_parts infoS
  have hel : (Try.prog).elem 22 = 23 := by simp [Program.elem, Try.underlying22]
  have hu : (Try.prog).underlying 22 = some (.slice ((Try.prog).elem 22)) := by rw [hel]; exact Try.underlying22
  rw [run_slice_lh W _ A n c hu .i64 .i64 _ _ (by omega) (by omega) (by omega), hel]
  simp [sizeOf, typeInfo, hi, hz1, sliced, Result.andThen, cutA]
theorem Bss.cutA {w : World} {A : Option Addr} {n c : Nat} {l : List (List UInt8)} (h : Bss w A n c l) {i k : Nat} (hi : i ≤ k) (hk : k ≤ n) : Bss w (cutA A c i) (k - i) (c - i) ((l.take k).drop i) := (h.take hk).drop hi
end Go.Proofs.Ythaoibgcgkmnbaa
