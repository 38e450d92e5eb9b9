/- Digests compared. -/
import Derived.Test.YthaoibgcgkmnbaaKept
import Derived.ChangeKeysEq
namespace Go.Proofs.Ythaoibgcgkmnbaa
set_option maxRecDepth 100000
open Go.RowKit

theorem getD_at {d : List UInt8} {i : Nat} (h : i < d.length) : d[i] = d.getD i 0 := by rw [List.getD_eq_getElem?_getD, List.getElem?_eq_getElem h]; rfl
theorem part_dg (d : List UInt8) {i : Nat} (h : i < d.length) (W : World) : (part 5 (bvs d).toArray i).run Try.prog W = .ok (.int .u8 ((d.getD i 0).toNat : Int)) W := by
  have hb := bvs_get d i h
  simp only [part]
  simp
  rw [hb, getD_at h, List.getD_eq_getElem?_getD]
  rfl
theorem eqItems_dg (d e : List UInt8) (hd : d.length = 32) (he : e.length = 32) (W : World) : ∀ is : List Nat, (∀ i ∈ is, i < 32) →
    (Op.eqItems 9999 5 1 (bvs d).toArray (bvs e).toArray is).run Try.prog W = .ok (is.all fun i => d.getD i 0 == e.getD i 0) W
  | [], _ => by simp [Op.eqItems]
  | i :: is, h => by
    have hi := h i (by simp)
    have h1 := part_dg d (i := i) (by omega) W
    have h2 := part_dg e (i := i) (by omega) W
    have ih := eqItems_dg d e hd he W is (fun j hj => h j (by simp [hj]))
    have hq := run_equalIn_int (P := Try.prog) W 9998 5 .u8 .u8 ((d.getD i 0).toNat : Int) ((e.getD i 0).toNat : Int) Try.underlying5
    have hq' : (Op.equalIn 9999 5 (.int .u8 ((d.getD i 0).toNat : Int)) (.int .u8 ((e.getD i 0).toNat : Int))).run Try.prog W = .ok (((d.getD i 0).toNat : Int) == ((e.getD i 0).toNat : Int)) W := hq
    simp only [Op.eqItems, Sem.run_bind, Nat.mul_one, h1, h2, Result.andThen_ok, List.all_cons, hq']
    by_cases hx : d.getD i 0 = e.getD i 0
    · rw [hx]
      simp only [beq_self_eq_true, Bool.not_true, Bool.false_eq_true, if_false, Bool.true_and]
      exact ih
    · have hy : (((d.getD i 0).toNat : Int) == ((e.getD i 0).toNat : Int)) = false := by
        rw [beq_eq_false_iff_ne]
        intro h
        exact hx (UInt8.toNat_inj.1 (by omega))
      have hz : (d.getD i 0 == e.getD i 0) = false := by rw [beq_eq_false_iff_ne]; exact hx
      rw [hy, hz]
      simp
theorem eq_dg (d e : List UInt8) (hd : d.length = 32) (he : e.length = 32) (W : World) : (Op.equalIn 10000 45 (.agg (bvs d).toArray) (.agg (bvs e).toArray)).run Try.prog W = .ok (decide (d = e)) W := by
  obtain ⟨i0, hi, _, _, _⟩ := info_parts infoB
  have hc : Try.prog.cellsOf 5 = 1 := by kernel_rfl
  rw [show (10000 : Nat) = 9999 + 1 from rfl, run_equalIn_array W 9999 _ _ Try.underlying45 hi, hc, eqItems_dg d e hd he W _ (fun i hi => List.mem_range.1 hi)]
  congr 1
  rw [Bool.eq_iff_iff, List.all_eq_true, decide_eq_true_eq]
  constructor
  · intro h
    apply List.ext_getElem (by omega)
    intro i h1 h2
    have := h i (List.mem_range.2 (by omega))
    rw [getD_at h1, getD_at h2]
    exact eq_of_beq this
  · rintro rfl i _
    exact beq_self_eq_true _

section
variable {P : Program} {ops : Array Oper} {rest : List Oper} {o : Oper} {a : Act} {w : World} {Q : Exit → Act → World → Prop}
/-- one operation that may bear a guard -/
theorem wpList_want (hw : Region.wanted o (yielded ops a.tmps) = true) (h : ∀ K : Act → World → Prop, (∀ a w, wpList P ops Q rest a w → K a w) → o.wp P a w K Q) : wpList P ops Q (o :: rest) a w :=
  wpList_step fun K hK => by rw [if_pos hw]; exact h K hK
/-- a digest is read -/
theorem wpList_ldG {ty : TypeId} {x : Operand} (ho : o.op = .load ty x) (hw : Region.wanted o (yielded ops a.tmps) = true)
    (h : ∃ (g off : Nat) (cs : List Value) (d : TypeDesc), a.eval x = .pointer (some ⟨g, off, none⟩) ∧ w.rangeAt g off cs ∧ P.underlying ty = some d ∧ d.isRow = true ∧ (P.info? ty).map (·.size) = some cs.length ∧
      wpList P ops Q rest (a.put o.dst (.agg cs.toArray)) w) : wpList P ops Q (o :: rest) a w := by
  obtain ⟨g, off, cs, d, h1, h2, h3, h4, h5, h6⟩ := h
  exact wpList_want hw fun K hK => wp_load_mid ty x ho g off h1 cs d h2 h3 h4 h5 (hK _ _ h6)
theorem wpList_bldG {t : TypeId} {parts : Array (Nat × Operand)} (_ho : o.op = .build t parts) (hw : Region.wanted o (yielded ops a.tmps) = true)
    (h : ∃ v, (execOp a.eval o).run P w = .ok (.value v) w ∧ wpList P ops Q rest (a.put o.dst v) w) : wpList P ops Q (o :: rest) a w := by
  obtain ⟨v, h1, h2⟩ := h
  refine wpList_want hw fun K hK => ?_
  unfold Oper.wp
  rw [h1]
  exact hK _ _ h2
end
theorem Row.range {w : World} {g : Nat} {e : TypeId} {cs : List Value} (h : Row w g e cs) : w.rangeAt g 0 cs := fun j v hv => by rw [Nat.zero_add]; exact h.cell hv
end Go.Proofs.Ythaoibgcgkmnbaa
