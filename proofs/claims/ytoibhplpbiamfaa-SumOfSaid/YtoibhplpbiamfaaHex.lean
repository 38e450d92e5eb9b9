/- Walk of Hex. -/
import Derived.Test.YtoibhplpbiamfaaWrite
import Derived.BigRegion
namespace Go.Proofs.Ytoibhplpbiamfaa
open Go.RowKit

theorem wpList_ld2 {P : Program} {ops : Array Oper} {rest : List Oper} {o : Oper} {a : Act} {w : World} {Q : Exit → Act → World → Prop} (hgd : o.guard = none) {ty : TypeId} {x : Operand} (ho : o.op = .load ty x)
    (h : ∃ (g : Nat) (t : TypeId) (cs : Array Value) (d : TypeDesc), a.eval x = .pointer (some ⟨g, 0, none⟩) ∧ w.heap[g]? = some (.cells cs t (0, 0)) ∧ P.underlying ty = some d ∧
      (match d with | .struct _ | .array _ _ => true | _ => false) = true ∧ (P.info? ty).map (·.size) = some cs.size ∧ wpList P ops Q rest (a.put o.dst (.agg cs)) w) : wpList P ops Q (o :: rest) a w := by
  obtain ⟨g, t, cs, d, h1, h2, h3, h4, h5, h6⟩ := h
  exact wpList_load_row hgd ty x ho g h1 t cs (0, 0) d h2 h3 (by cases d <;> simp_all) h5 h6

theorem wpList_alloc64 {P : Program} {ops : Array Oper} {rest : List Oper} {o : Oper} {a : Act} {w : World} {Q : Exit → Act → World → Prop} (hgd : o.guard = none) {t : TypeId} (_ho : o.op = .alloc t)
    (h : ∃ v w', (execOp a.eval o).run P w = .ok (.value v) w' ∧ wpList P ops Q rest (a.put o.dst v) w') : wpList P ops Q (o :: rest) a w := by
  obtain ⟨v, w', hrun, h⟩ := h
  refine wpList_plain hgd fun K hK => ?_
  unfold Oper.wp
  rw [hrun]
  exact hK _ _ h
theorem getD_at {d : List UInt8} {i : Nat} (h : i < d.length) : d[i] = d.getD i 0 := by rw [List.getD_eq_getElem?_getD, List.getElem?_eq_getElem h]; rfl
theorem index_dg (d : List UInt8) (hd : d.length = 32) {i : Nat} (h : i < 32) (W : World) : (Instr.index 25 (.agg (bvs d).toArray) (.int .i64 (i : Int))).run Try.prog W = .ok (.int .u8 ((d.getD i 0).toNat : Int)) W := by
  have hb := bvs_get d i (by omega)
  simp only [Instr.index, run_underlying Try.underlying25, asIntOf, part, Sem.run_bind]
  simp
  rw [if_pos (show (i : Int) < 32 by omega), hb, getD_at (by omega), List.getD_eq_getElem?_getD]
  rfl

def hexDs : List UInt8 := [48, 49, 50, 51, 52, 53, 54, 55, 56, 57, 97, 98, 99, 100, 101, 102]
def hexD (n : Nat) : UInt8 := hexDs.getD n 0
def hexL (d : List UInt8) : List UInt8 := d.flatMap fun b => [hexD (b.toNat / 16), hexD (b.toNat % 16)]
theorem hexL_len (d : List UInt8) : (hexL d).length = 2 * d.length := by
  induction d with
  | nil => rfl
  | cons b d ih => simp only [hexL, List.flatMap_cons, List.length_append] at ih ⊢; rw [ih]; simp; omega
theorem hexL_app (a b : List UInt8) : hexL (a ++ b) = hexL a ++ hexL b := by simp [hexL]
theorem index_hex (n : Nat) (h : n < 16) (W : World) : (Instr.index 9 (.string ⟨#[48, 49, 50, 51, 52, 53, 54, 55, 56, 57, 97, 98, 99, 100, 101, 102]⟩) (.int .u8 (n : Int))).run Try.prog W = .ok (.int .u8 ((hexD n).toNat : Int)) W := by
  rcases (by omega : n = 0 ∨ n = 1 ∨ n = 2 ∨ n = 3 ∨ n = 4 ∨ n = 5 ∨ n = 6 ∨ n = 7 ∨ n = 8 ∨ n = 9 ∨ n = 10 ∨ n = 11 ∨ n = 12 ∨ n = 13 ∨ n = 14 ∨ n = 15) with rfl | rfl | rfl | rfl | rfl | rfl | rfl | rfl | rfl | rfl | rfl | rfl | rfl | rfl | rfl | rfl <;> rfl
/-- the cells of the digits while they are made -/
def hexV (d : List UInt8) (t : Nat) : List Value := bvs (hexL (d.take t) ++ List.replicate (64 - 2 * t) 0)
theorem hexV_len (d : List UInt8) (hd : d.length = 32) {t : Nat} (h : t ≤ 32) : (hexV d t).length = 64 := by
  unfold hexV; rw [bvs_len, List.length_append, hexL_len, List.length_take, List.length_replicate]; omega
theorem hexV_set (d : List UInt8) (hd : d.length = 32) {t : Nat} (h : t < 32) : ((hexV d t).set (2 * t) (.int .u8 ((hexD ((d.getD t 0).toNat / 16)).toNat : Int))).set (2 * t + 1) (.int .u8 ((hexD ((d.getD t 0).toNat % 16)).toNat : Int)) = hexV d (t + 1) := by
  unfold hexV
  have hl : (hexL (d.take t)).length = 2 * t := by rw [hexL_len, List.length_take]; omega
  have hb : (bvs (hexL (d.take t))).length = 2 * t := by rw [bvs_len, hl]
  rw [List.take_succ_eq_append_getElem (by omega), hexL_app, getD_at (by omega), show 64 - 2 * t = (64 - 2 * (t + 1)) + 1 + 1 by omega, List.replicate_succ, List.replicate_succ, bvs_app, bvs_app, bvs_app]
  rw [List.set_append_right (h := by omega), List.set_append_right (h := by rw [hb]; omega), hb, Nat.sub_self, show 2 * t + 1 - 2 * t = 1 by omega]
  simp [bvs, hexL, List.append_assoc]

theorem and15 (b : UInt8) : bits .and .u8 (b.toNat : Int) 15 = ((b.toNat % 16 : Nat) : Int) := by
  have := u8_and_nat b.toNat 15 b.toNat_lt (by decide)
  rw [show (15 : Nat) = 2 ^ 4 - 1 from rfl, Nat.and_two_pow_sub_one_eq_mod] at this
  exact this

set_option maxHeartbeats 4000000 in
set_option maxRecDepth 100000 in
theorem hex_any (d : List UInt8) (hd : d.length = 32) (w : World) :
    Calls Try.prog 16 #[.agg (bvs d).toArray] w fun e w' => e = .returned (.string ⟨(hexL d).toArray⟩) ∧ ExtW w w' := by
  have HD := Lib.hid hd
  have HSZ : Hid ((bvs d).toArray.size = 32) := Lib.hid (by rw [List.size_toArray, bvs_len, hd])
  clear hd
  have HB0 : Hid (Row (w.alloc (.cells (bvs d).toArray 25)) w.heap.size 25 (bvs d)) := Lib.hid (heap_alloc_last _ _)
  have HE0 : Hid (ExtW w (w.alloc (.cells (bvs d).toArray 25))) := Lib.hid ((Below.refl _ _).alloc (Nat.le_refl _) _)
  go_enter Try.func16, Try.ntmps16
  go_upto_region 1 with (fail)
  generalize w.alloc (.cells (bvs d).toArray 25) = w1 at HB0 HE0 ⊢
  go_upto_region 2 with (refine wpList_alloc64 rfl rfl ?_; refine ⟨.pointer (some ⟨w1.heap.size, 0, none⟩), w1.alloc (.cells (hexV d 0).toArray 52), by kernel_rfl, ?_⟩)
  have HY0 : Hid (Row (w1.alloc (.cells (hexV d 0).toArray 52)) w1.heap.size 52 (hexV d 0)) := Lib.hid (heap_alloc_last _ _)
  have HB1 : Hid (Row (w1.alloc (.cells (hexV d 0).toArray 52)) w.heap.size 25 (bvs d)) := Lib.hid (HB0.out.ext ((Below.refl _ _).alloc (Nat.le_refl _) _))
  have HE1 : Hid (ExtW w1 (w1.alloc (.cells (hexV d 0).toArray 52))) := Lib.hid ((Below.refl _ _).alloc (Nat.le_refl _) _)
  generalize w1.alloc (.cells (hexV d 0).toArray 52) = w2 at HY0 HB1 HE1 ⊢
  go_wp2_with (refine wpList_ld2 rfl rfl ?_; refine ⟨w.heap.size, _, _, _, rfl, HB1.out, Try.underlying25, rfl, by rw [HSZ.out]; kernel_rfl, ?_⟩)
  go_loopw [7] (fun i wr => ∃ t : Nat, i = .int .i64 t ∧ t ≤ 32 ∧ Hid (Row wr w1.heap.size 52 (hexV d t)) ∧ Hid (Below w1.heap.size w2 wr)) (fun i _ => 32 - (intOf i).toNat)
  case atStart => exact ⟨0, rfl, Nat.zero_le _, HY0, Lib.hid (Below.refl _ _)⟩
  case round =>
    obtain ⟨t, rfl, ht, HY, HB⟩ := hrel
    by_cases hlt : t < 32
    · have hti : (t : Int) < 32 := by omega
      have hidx := index_dg d HD.out hlt
      obtain ⟨b, hb⟩ : ∃ b, b = d.getD t 0 := ⟨_, rfl⟩
      have HST := Lib.hid (hexV_set d HD.out hlt)
      rw [← hb] at hidx HST
      obtain ⟨p0, hp0⟩ : ∃ k, k = 2 * t := ⟨_, rfl⟩
      obtain ⟨p1, hp1⟩ : ∃ k, k = 2 * t + 1 := ⟨_, rfl⟩
      rw [← hp1, ← hp0] at HST
      have l0 : (p0 : Int) < 64 := by omega
      have l1 : (p1 : Int) < 64 := by omega
      have q0 : IntKind.i64.wrap (2 * (t : Int)) = (p0 : Int) := by rw [IntWalk.i64_in _ (by omega)]; omega
      have q1 : IntKind.i64.wrap ((p0 : Int) + 1) = (p1 : Int) := by rw [IntWalk.i64_in _ (by omega)]; omega
      obtain ⟨u0, hu0⟩ : ∃ u, (hexV d t)[p0]? = some u := ⟨_, List.getElem?_eq_getElem (by rw [hexV_len d HD.out ht]; omega)⟩
      obtain ⟨u1, hu1⟩ : ∃ u, (hexV d t)[p1]? = some u := ⟨_, List.getElem?_eq_getElem (by rw [hexV_len d HD.out ht]; omega)⟩
      have c0 := HY.out.cell hu0
      have c1 := HY.out.cell hu1
      have f0 := HY.out.frozen p0
      have f1 := HY.out.frozen p1
      have hne : ¬ p0 = p1 := by omega
      have hne' : ¬ p1 = p0 := by omega
      obtain ⟨hi, hhi⟩ : ∃ n, n = b.toNat / 16 := ⟨_, rfl⟩
      obtain ⟨lo, hlo⟩ : ∃ n, n = b.toNat % 16 := ⟨_, rfl⟩
      have e1 : (b.toNat : Int) / 16 = (hi : Int) := by omega
      have e2 := and15 b
      rw [← hlo] at e2 HST
      rw [← hhi] at HST
      have i1 := index_hex hi (by have := b.toNat_lt; omega)
      have i2 := index_hex lo (by omega)
      clear hp0 hp1 hu0 hu1 hhi hlo hb
      go_upto_region 5 with (fail)
      go_region
      go_wp2_with fail
      go_roundw
      case rel =>
        refine ⟨t + 1, by simp, hlt, Lib.hid ?_, Lib.hid (((HB.out.setCell (p := ⟨w1.heap.size, p0, none⟩) (Nat.le_refl _) _).setCell (p := ⟨w1.heap.size, p1, none⟩) (Nat.le_refl _) _).drew)⟩
        rw [← HST.out]
        exact (HY.out.set p0 _).set p1 _
      case measure => simp [intOf]; omega
    · obtain rfl : t = 32 := by omega
      have hti : ¬ ((32 : Nat) : Int) < 32 := by omega
      have hfin : hexV d 32 = bvs (hexL d) := by
        unfold hexV
        rw [List.take_of_length_le (by rw [HD.out]; exact Nat.le_refl _), show List.replicate (64 - 2 * 32) (0 : UInt8) = [] from rfl, List.append_nil]
      have hll : (hexL d).length = 64 := by rw [hexL_len, HD.out]
      have hrd : Rd wr (some ⟨w1.heap.size, 0, none⟩) 64 64 1 (bvs (hexL d)) := ⟨by rw [bvs_len, hll], Nat.le_refl _, by decide, (fun h => by cases h), fun a ha j v hv => by
        cases ha
        rw [Addr.add_mid, Nat.zero_add]
        rw [← hfin] at hv
        exact HY.out.cell hv⟩
      have hcv := conv_str hrd
      clear hrd hll hfin
      go_wp2
      go_ret
      exact ⟨rfl, ExtW.trans HE0.out (Below.trans HE1.out HB.out)⟩
end Go.Proofs.Ytoibhplpbiamfaa
