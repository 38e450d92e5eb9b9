/- Walks of words and New. -/
import Derived.Test.YthaoibgcgkmnbaaBlk
namespace Go.Proofs.Ythaoibgcgkmnbaa
set_option maxRecDepth 100000
open Go.RowKit

theorem wpList_run {P : Program} {ops : Array Oper} {rest : List Oper} {o : Oper} {a : Act} {w : World} {Q : Exit → Act → World → Prop} (hgd : o.guard = none) (v : Value) (hrun : (execOp a.eval o).run P w = .ok (.value v) w)
    (h : wpList P ops Q rest (a.put o.dst v) w) : wpList P ops Q (o :: rest) a w := by
  refine wpList_plain hgd fun K hK => ?_
  unfold Oper.wp
  rw [hrun]
  exact hK _ _ h
theorem wpList_bld {P : Program} {ops : Array Oper} {rest : List Oper} {o : Oper} {a : Act} {w : World} {Q : Exit → Act → World → Prop} (hgd : o.guard = none) {t : TypeId} {parts : Array (Nat × Operand)} (_ho : o.op = .build t parts)
    (h : ∃ v, (execOp a.eval o).run P w = .ok (.value v) w ∧ wpList P ops Q rest (a.put o.dst v) w) : wpList P ops Q (o :: rest) a w := by
  obtain ⟨v, h1, h2⟩ := h
  exact wpList_run hgd v h1 h2

def ksV : Array Value := (S.KS.map uv).toArray
theorem ksV_one : ksV.all (·.oneCell') = true := by kernel_rfl

set_option maxHeartbeats 4000000 in
set_option maxRecDepth 100000 in
theorem words_any (w : World) :
    Calls Try.prog 73 #[] w fun e w' => e = .returned (.agg ksV) ∧ ExtW w w' := by
  go_enter Try.func73, Try.ntmps73
  go_wp2_with (first | (refine wpList_bld rfl rfl ?_; refine ⟨.agg ksV, by kernel_rfl, ?_⟩) | (refine wpList_st rfl rfl ?_; refine ⟨w.heap.size, ksV, _, _, rfl, rfl, heap_alloc_last w _, by kernel_rfl, rfl, ksV_one, ?_⟩))
  rw [World.setRow_alloc_new]
  (try simp only [Exit.inBlock, Exit.then])
  refine bodyPost_ret (v := .agg ksV) ?_ rfl ⟨rfl, (Below.refl _ _).alloc (Nat.le_refl _) _⟩
  have h := run_loadVar_new (P := Try.prog) w 116 ksV 64 _ Try.underlying116 (by kernel_rfl)
  simpa [results, Try.f73, Act.put, asAddr] using h

set_option maxHeartbeats 4000000 in
set_option maxRecDepth 100000 in
theorem new_any (w : World) :
    Calls Try.prog 66 #[] w fun e w' => ∃ g, e = .returned (.pointer (some ⟨g, 0, none⟩)) ∧ ExtW w w' ∧ w.heap.size ≤ g ∧ Row w' g 121 (objV S.H0 (List.replicate 64 0) 0 0) := by
  go_enter Try.func66, Try.ntmps66
  go_wp2_with fail
  refine (words_any _).mono ?_
  rintro e w1 ⟨rfl, hb⟩
  go_wp2_with (refine wpList_bld rfl rfl ?_; refine ⟨.agg (objV S.H0 (List.replicate 64 0) 0 0).toArray, by kernel_rfl, ?_⟩)
  go_ret
  exact ⟨w1.heap.size, rfl, ExtW.trans hb ((Below.refl _ _).alloc (Nat.le_refl _) _), hb.size, by unfold Row; rw [heap_alloc_last]; rfl⟩
end Go.Proofs.Ythaoibgcgkmnbaa
