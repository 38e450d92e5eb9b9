/- Walk of block. -/
import Derived.Test.YthaoibgcgkmnbaaRot
import Derived.Deep.MidRow
import Derived.Deep.WholeRow
import Derived.StillTailTactics
import Derived.IntWalk
namespace Go.Proofs.Ythaoibgcgkmnbaa
set_option maxRecDepth 100000
open Go.RowKit

def uv (x : UInt32) : Value := .int .u32 (un x : Nat)
/-- the words of a schedule as far as made -/
def schV (b : List UInt8) (t : Nat) : List Value := (S.sched b t).map uv ++ List.replicate (64 - t) (.int .u32 0)
theorem schV_len (b : List UInt8) (t : Nat) (h : t ≤ 64) : (schV b t).length = 64 := by unfold schV; rw [List.length_append, List.length_map, S.sched_len, List.length_replicate]; omega
/-- the cells of a Hash -/
def objV (H : S.St) (part : List UInt8) (held size : Nat) : List Value := H.list.map uv ++ (S.KS.map uv ++ (bvs part ++ [.int .i64 held, .int .u64 size]))
def Row (w : World) (g : Nat) (e : TypeId) (cs : List Value) : Prop := w.heap[g]? = some (.cells cs.toArray e (0, 0))
theorem Row.cell {w : World} {g : Nat} {e : TypeId} {cs : List Value} (h : Row w g e cs) {j : Nat} {v : Value} (hj : cs[j]? = some v) : w.cell? ⟨g, j, none⟩ = some v := by
  rw [cell_of_row w g j cs.toArray e (0, 0) h]; simpa using hj
theorem Row.lt {w : World} {g : Nat} {e : TypeId} {cs : List Value} (h : Row w g e cs) : g < w.heap.size := (Array.getElem?_eq_some_iff.1 h).1
theorem Row.frozen {w : World} {g : Nat} {e : TypeId} {cs : List Value} (h : Row w g e cs) (j : Nat) : w.frozen? ⟨g, j, none⟩ = false := by
  unfold Row at h; simp [World.frozen?, h]
theorem Row.ext {w w' : World} {g : Nat} {e : TypeId} {cs : List Value} (h : Row w g e cs) (hb : ExtW w w') : Row w' g e cs := (hb.block g h.lt).trans h
theorem Row.set {w : World} {g : Nat} {e : TypeId} {cs : List Value} (h : Row w g e cs) (j : Nat) (v : Value) : Row (w.setCell ⟨g, j, none⟩ v) g e (cs.set j v) := by
  unfold Row at *
  rw [heap_setCell_same w g j cs.toArray e v h]
  simp
theorem Row.other {w : World} {g : Nat} {e : TypeId} {cs : List Value} (h : Row w g e cs) {p : Addr} (hp : g ≠ p.block) (v : Value) : Row (w.setCell p v) g e cs := (Below.heap_setCell w p v g hp).trans h

theorem schV_get {b : List UInt8} {t i : Nat} (h : i < t) : (schV b t)[i]? = some (uv ((S.sched b t).getD i 0)) := by
  unfold schV
  rw [List.getElem?_append_left (by rw [List.length_map, S.sched_len]; exact h), List.getElem?_map, List.getD_eq_getElem?_getD, List.getElem?_eq_getElem (by rw [S.sched_len]; exact h)]
  rfl
theorem schV_some {b : List UInt8} {t i : Nat} (ht : t ≤ 64) (h : i < 64) : ∃ u, (schV b t)[i]? = some u := ⟨_, List.getElem?_eq_getElem (by rw [schV_len b t ht]; exact h)⟩
theorem schV_set {b : List UInt8} {t : Nat} {x : UInt32} (ht : t < 64) (hx : S.sched b (t + 1) = S.sched b t ++ [x]) : (schV b t).set t (uv x) = schV b (t + 1) := by
  unfold schV
  rw [hx, List.map_append, List.map_singleton, List.set_append_right (h := by rw [List.length_map, S.sched_len]; exact Nat.le_refl _), List.length_map, S.sched_len, Nat.sub_self, show 64 - t = (64 - (t + 1)) + 1 by omega, List.replicate_succ, List.set_cons_zero, List.append_assoc]
  rfl
theorem un_add4 (a b c d : UInt32) : ((un a : Int) + (un b : Int) + (un c : Int) + (un d : Int)) % 4294967296 = (un (a + b + c + d) : Int) := by
  rw [← un_add (a + b + c) d, ← un_add (a + b) c, ← un_add a b]; omega
theorem un_addw (a b : UInt32) : IntKind.u32.wrap ((un a : Int) + (un b : Int)) = (un (a + b) : Int) := by
  rw [← un_add]; have := un_lt a; have := un_lt b; simp [IntKind.wrap, IntKind.bits, IntKind.signed]
theorem objV_h (H : S.St) (part : List UInt8) (held size : Nat) : (objV H part held size)[0]? = some (uv H.a) ∧ (objV H part held size)[1]? = some (uv H.b) ∧ (objV H part held size)[2]? = some (uv H.c) ∧ (objV H part held size)[3]? = some (uv H.d) ∧ (objV H part held size)[4]? = some (uv H.e) ∧ (objV H part held size)[5]? = some (uv H.f) ∧ (objV H part held size)[6]? = some (uv H.g) ∧ (objV H part held size)[7]? = some (uv H.h) := ⟨rfl, rfl, rfl, rfl, rfl, rfl, rfl, rfl⟩
theorem objV_k (H : S.St) (part : List UInt8) (held size : Nat) {t : Nat} (h : t < 64) : (objV H part held size)[8 + t]? = some (uv (S.KS.getD t 0)) := by
  unfold objV
  have hl : (H.list.map uv).length = 8 := rfl
  have hk : S.KS.length = 64 := rfl
  rw [List.getElem?_append_right (by rw [hl]; omega), hl, Nat.add_sub_cancel_left, List.getElem?_append_left (by rw [List.length_map]; omega), List.getElem?_map, List.getD_eq_getElem?_getD, List.getElem?_eq_getElem (by omega)]
  rfl
theorem Row.setRow {w : World} {g : Nat} {e : TypeId} {cs : List Value} (h : Row w g e cs) (ds : List Value) : Row (w.setRow g ds.toArray) g e ds := by
  exact setRow_heap w g cs.toArray ds.toArray e (0, 0) h
theorem below_setRow {B : Nat} {a w : World} (h : Below B a w) {g : Nat} (hg : B ≤ g) (cs : Array Value) : Below B a (w.setRow g cs) :=
  ⟨h.os, h.tape, h.output, by rw [setRow_size]; exact h.size, fun k hk => (setRow_other w g k cs (by omega)).trans (h.block k hk)⟩
/-- the cells of a Hash while a block is added -/
def objU (H s : S.St) (t : Nat) (part : List UInt8) (held size : Nat) : List Value := (((H.add s).list.take t ++ H.list.drop t).map uv) ++ (S.KS.map uv ++ (bvs part ++ [.int .i64 held, .int .u64 size]))
theorem objU_get (H s : S.St) (part : List UInt8) (held size : Nat) {t : Nat} (h : t < 8) : (objU H s t part held size)[t]? = some (uv (H.list.getD t 0)) ∧ (s.list.map uv)[t]? = some (uv (s.list.getD t 0)) ∧
    (objU H s t part held size).set t (uv (H.list.getD t 0 + s.list.getD t 0)) = objU H s (t + 1) part held size := by
  match t, h with
  | 0, _ => exact ⟨rfl, rfl, rfl⟩
  | 1, _ => exact ⟨rfl, rfl, rfl⟩
  | 2, _ => exact ⟨rfl, rfl, rfl⟩
  | 3, _ => exact ⟨rfl, rfl, rfl⟩
  | 4, _ => exact ⟨rfl, rfl, rfl⟩
  | 5, _ => exact ⟨rfl, rfl, rfl⟩
  | 6, _ => exact ⟨rfl, rfl, rfl⟩
  | 7, _ => exact ⟨rfl, rfl, rfl⟩
theorem wpList_st {P : Program} {ops : Array Oper} {rest : List Oper} {o : Oper} {a : Act} {w : World} {Q : Exit → Act → World → Prop} (hgd : o.guard = none) {ty : TypeId} {x y : Operand} (ho : o.op = .store ty x y)
    (h : ∃ (g : Nat) (cells : Array Value) (t : TypeId) (old : Array Value), a.eval x = .pointer (some ⟨g, 0, none⟩) ∧ a.eval y = .agg cells ∧ w.heap[g]? = some (.cells old t (0, 0)) ∧ (P.info? ty).map (·.size) = some cells.size ∧
      old.size = cells.size ∧ cells.all (·.oneCell') = true ∧ wpList P ops Q rest (a.put o.dst undef) (w.setRow g cells)) : wpList P ops Q (o :: rest) a w := by
  obtain ⟨g, cells, t, old, h1, h2, h3, h4, h5, h6, h7⟩ := h
  exact wpList_store_row hgd ty x y ho g cells h1 h2 t old h3 h4 h5 h6 h7
theorem grown_but {a c : World} (h : a.grownBy c none) (row : Option Nat) : a.grownBy c row := ⟨h.os, h.tape, h.output, h.size, fun i hi _ => h.block i hi (by simp)⟩
theorem grown_drew {a c : World} {row : Option Nat} (h : a.grownBy c row) : a.grownBy c.drew row := ⟨h.os, h.tape, h.output, h.size, h.block⟩
theorem grown_set {a c : World} {g : Nat} (h : a.grownBy c (some g)) (j : Nat) (v : Value) : a.grownBy (c.setCell ⟨g, j, none⟩ v) (some g) :=
  ⟨h.os, h.tape, h.output, Nat.le_trans h.size (by simp [World.setCell]), fun k hk hn => (Below.heap_setCell _ _ _ k (fun e => hn (by rw [e]))).trans (h.block k hk hn)⟩
theorem grown_of_below {W W' : World} (h : Below W.heap.size W W') : W.grownBy W' none := ⟨h.os, h.tape, h.output, h.size, fun k hk _ => h.block k hk⟩
/-- the cells that a round reads -/
def RC (gw gs g t : Nat) (s : S.St) (kt wt : UInt32) (w : World) : Prop :=
  w.cell? ⟨gw, t, none⟩ = some (.int .u32 (un wt : Nat)) ∧ w.cell? ⟨g, 8 + t, none⟩ = some (.int .u32 (un kt : Nat)) ∧
  w.cell? ⟨gs, 0, none⟩ = some (.int .u32 (un s.a : Nat)) ∧ w.cell? ⟨gs, 1, none⟩ = some (.int .u32 (un s.b : Nat)) ∧ w.cell? ⟨gs, 2, none⟩ = some (.int .u32 (un s.c : Nat)) ∧ w.cell? ⟨gs, 3, none⟩ = some (.int .u32 (un s.d : Nat)) ∧
  w.cell? ⟨gs, 4, none⟩ = some (.int .u32 (un s.e : Nat)) ∧ w.cell? ⟨gs, 5, none⟩ = some (.int .u32 (un s.f : Nat)) ∧ w.cell? ⟨gs, 6, none⟩ = some (.int .u32 (un s.g : Nat)) ∧ w.cell? ⟨gs, 7, none⟩ = some (.int .u32 (un s.h : Nat))
theorem u32w (x : UInt8) : IntKind.u32.wrap (x.toNat : Int) = (x.toNat : Int) := by have := x.toNat_lt; simp [IntKind.wrap, IntKind.bits, IntKind.signed]; omega
theorem be_or (b0 b1 b2 b3 : UInt8) : bits .or .u32 (bits .or .u32 (bits .or .u32 (IntKind.u32.wrap (IntKind.u32.wrap (b0.toNat : Int) * 16777216)) (IntKind.u32.wrap (IntKind.u32.wrap (b1.toNat : Int) * 65536))) (IntKind.u32.wrap (IntKind.u32.wrap (b2.toNat : Int) * 256))) (IntKind.u32.wrap (b3.toNat : Int)) = (un (S.be32 b0 b1 b2 b3) : Int) := by
  have h0 := b0.toNat_lt
  have h1 := b1.toNat_lt
  have h2 := b2.toNat_lt
  have h3 := b3.toNat_lt
  have w0 : IntKind.u32.wrap ((b0.toNat : Int) * 16777216) = ((2 ^ 24 * b0.toNat : Nat) : Int) := by simp [IntKind.wrap, IntKind.bits, IntKind.signed]; omega
  have w1 : IntKind.u32.wrap ((b1.toNat : Int) * 65536) = ((2 ^ 16 * b1.toNat : Nat) : Int) := by simp [IntKind.wrap, IntKind.bits, IntKind.signed]; omega
  have w2 : IntKind.u32.wrap ((b2.toNat : Int) * 256) = ((2 ^ 8 * b2.toNat : Nat) : Int) := by simp [IntKind.wrap, IntKind.bits, IntKind.signed]; omega
  rw [u32w, u32w, u32w, u32w, w0, w1, w2, u32_or_nat _ _ (by omega) (by omega), ← Nat.two_pow_add_eq_or_of_lt (i := 24) (by omega)]
  rw [show 2 ^ 24 * b0.toNat + 2 ^ 16 * b1.toNat = 2 ^ 16 * (256 * b0.toNat + b1.toNat) by omega, u32_or_nat _ _ (by omega) (by omega), ← Nat.two_pow_add_eq_or_of_lt (i := 16) (by omega)]
  rw [show 2 ^ 16 * (256 * b0.toNat + b1.toNat) + 2 ^ 8 * b2.toNat = 2 ^ 8 * (256 * (256 * b0.toNat + b1.toNat) + b2.toNat) by omega, u32_or_nat _ _ (by omega) (by omega), ← Nat.two_pow_add_eq_or_of_lt (i := 8) (by omega)]
  unfold S.be32
  rw [un_of _ (by omega)]
  omega

set_option maxHeartbeats 4000000 in
set_option maxRecDepth 100000 in
theorem block_any (g : Nat) (H : S.St) (part : List UInt8) (held size : Nat) (a : Addr) (b : List UInt8) (w : World) (ho : Row w g 121 (objV H part held size)) (hr : Rd w (some a) 64 64 1 (bvs b)) :
    Calls Try.prog 74 #[.pointer (some ⟨g, 0, none⟩), .slice (some a) 64 64] w fun e w' => e = .returned (.tuple #[]) ∧ w.grownBy w' (some g) ∧ Row w' g 121 (objV (S.blockF H b) part held size) := by
  have HO := Lib.hid ho
  have HR := Lib.hid hr
  clear ho hr
  go_enter Try.func74, Try.ntmps74
  go_wp2_with fail
  go_loopw [18] (fun i wr => ∃ t : Nat, i = .int .i64 t ∧ t ≤ 16 ∧ Hid (Row wr w.heap.size 116 (schV b t)) ∧ Hid (Below w.heap.size w wr)) (fun i _ => 16 - (intOf i).toNat)
  case atStart => exact ⟨0, rfl, Nat.zero_le _, Lib.hid (by unfold Row; rw [heap_alloc_last]; rfl), Lib.hid ((Below.refl _ _).alloc (Nat.le_refl _) _)⟩
  case round =>
    obtain ⟨t, rfl, ht, HW, HB⟩ := hrel
    by_cases hlt : t < 16
    · -- devbegin
      have hti : (t : Int) < 16 := by omega
      have hbl : b.length = 64 := by have := HR.out.len; rw [bvs_len] at this; omega
      have hrd := HR.out.below HB.out (Nat.le_refl _)
      have hcell : ∀ i, i < 4 → wr.cell? (a.add (4 * t + i)) = some (.int .u8 ((b.getD (4 * t + i) 0).toNat : Int)) := fun i hi => by
        have := hrd.cell a rfl (4 * t + i) _ (bvs_get b (4 * t + i) (by omega))
        rw [this, List.getD_eq_getElem?_getD, List.getElem?_eq_getElem (by omega)]; rfl
      obtain ⟨p0, hp0⟩ : ∃ p0, p0 = 4 * t := ⟨_, rfl⟩
      obtain ⟨p1, hp1⟩ : ∃ p1, p1 = 4 * t + 1 := ⟨_, rfl⟩
      obtain ⟨p2, hp2⟩ : ∃ p2, p2 = 4 * t + 2 := ⟨_, rfl⟩
      obtain ⟨p3, hp3⟩ : ∃ p3, p3 = 4 * t + 3 := ⟨_, rfl⟩
      have h0 := hcell 0 (by omega)
      have h1 := hcell 1 (by omega)
      have h2 := hcell 2 (by omega)
      have h3 := hcell 3 (by omega)
      rw [Nat.add_zero, ← hp0] at h0
      rw [← hp1] at h1
      rw [← hp2] at h2
      rw [← hp3] at h3
      have l0 : (p0 : Int) < 64 := by omega
      have l1 : (p1 : Int) < 64 := by omega
      have l2 : (p2 : Int) < 64 := by omega
      have l3 : (p3 : Int) < 64 := by omega
      have q0 : IntKind.i64.wrap (4 * (t : Int)) = (p0 : Int) := by rw [IntWalk.i64_in _ (by omega)]; omega
      have q1 : IntKind.i64.wrap ((p0 : Int) + 1) = (p1 : Int) := by rw [IntWalk.i64_in _ (by omega)]; omega
      have q2 : IntKind.i64.wrap ((p0 : Int) + 2) = (p2 : Int) := by rw [IntWalk.i64_in _ (by omega)]; omega
      have q3 : IntKind.i64.wrap ((p0 : Int) + 3) = (p3 : Int) := by rw [IntWalk.i64_in _ (by omega)]; omega
      obtain ⟨b0, hb0⟩ : ∃ b0, b0 = b.getD p0 0 := ⟨_, rfl⟩
      obtain ⟨b1, hb1⟩ : ∃ b1, b1 = b.getD p1 0 := ⟨_, rfl⟩
      obtain ⟨b2, hb2⟩ : ∃ b2, b2 = b.getD p2 0 := ⟨_, rfl⟩
      obtain ⟨b3, hb3⟩ : ∃ b3, b3 = b.getD p3 0 := ⟨_, rfl⟩
      rw [← hb0] at h0
      rw [← hb1] at h1
      rw [← hb2] at h2
      rw [← hb3] at h3
      have HWW : Hid (S.word b t = S.be32 b0 b1 b2 b3) := Lib.hid (by unfold S.word; rw [hb0, hb1, hb2, hb3, hp0, hp1, hp2, hp3])
      have hBE := be_or b0 b1 b2 b3
      have ht64 : (t : Int) < 64 := by omega
      clear hcell hrd hp0 hp1 hp2 hp3 hb0 hb1 hb2 hb3 hbl
      go_wp2_with fail
      go_still_tail 35, (by kernel_rfl)
      change wpList _ _ _ _ _ wr.drew
      have HWD : Hid (Row wr.drew w.heap.size 116 (schV b t)) := Lib.hid HW.out
      have HBD : Hid (Below w.heap.size w wr.drew) := Lib.hid HB.out.drew
      generalize wr.drew = wd at HWD HBD ⊢
      obtain ⟨u, hu⟩ := schV_some (b := b) (t := t) (i := t) (by omega) (by omega)
      have hcw := HWD.out.cell hu
      have hfw := HWD.out.frozen t
      clear hu
      go_wp2_with fail
      go_roundw
      case rel =>
        refine ⟨t + 1, by simp, by omega, Lib.hid ?_, Lib.hid (HBD.out.setCell (Nat.le_refl _) _)⟩
        rw [← schV_set (b := b) (t := t) (x := S.be32 b0 b1 b2 b3) (by omega) (by simp only [S.sched, hlt, if_true, HWW.out])]
        exact HWD.out.set t _
      case measure => simp [intOf]; omega
      -- devend
    · obtain rfl : t = 16 := by omega
      have hti : ¬ ((16 : Nat) : Int) < 16 := by omega
      go_wp2_with fail
      go_loopw [6] (fun i wr => ∃ t : Nat, i = .int .i64 t ∧ 16 ≤ t ∧ t ≤ 64 ∧ Hid (Row wr w.heap.size 116 (schV b t)) ∧ Hid (Below w.heap.size w wr)) (fun i _ => 64 - (intOf i).toNat)
      case atStart => exact ⟨16, rfl, Nat.le_refl _, by decide, HW, HB⟩
      case round =>
        clear HW HB
        obtain ⟨t, rfl, ht1, ht2, HW, HB⟩ := hrel
        by_cases hlt2 : t < 64
        · -- devbegin
          have hti2 : (t : Int) < 64 := by omega
          obtain ⟨i15, hi15⟩ : ∃ k, k = t - 15 := ⟨_, rfl⟩
          obtain ⟨i2, hi2⟩ : ∃ k, k = t - 2 := ⟨_, rfl⟩
          obtain ⟨i7, hi7⟩ : ∃ k, k = t - 7 := ⟨_, rfl⟩
          obtain ⟨i16, hi16⟩ : ∃ k, k = t - 16 := ⟨_, rfl⟩
          have q15 : IntKind.i64.wrap ((t : Int) - 15) = (i15 : Int) := by rw [IntWalk.i64_in _ (by omega)]; omega
          have q2 : IntKind.i64.wrap ((t : Int) - 2) = (i2 : Int) := by rw [IntWalk.i64_in _ (by omega)]; omega
          have q7 : IntKind.i64.wrap ((t : Int) - 7) = (i7 : Int) := by rw [IntWalk.i64_in _ (by omega)]; omega
          have q16 : IntKind.i64.wrap ((t : Int) - 16) = (i16 : Int) := by rw [IntWalk.i64_in _ (by omega)]; omega
          have l15 : (i15 : Int) < 64 := by omega
          have l2 : (i2 : Int) < 64 := by omega
          have l7 : (i7 : Int) < 64 := by omega
          have l16 : (i16 : Int) < 64 := by omega
          obtain ⟨x, hx⟩ : ∃ x, x = (S.sched b t).getD i15 0 := ⟨_, rfl⟩
          obtain ⟨y, hy⟩ : ∃ x, x = (S.sched b t).getD i2 0 := ⟨_, rfl⟩
          obtain ⟨u7, hu7⟩ : ∃ x, x = (S.sched b t).getD i7 0 := ⟨_, rfl⟩
          obtain ⟨u16, hu16⟩ : ∃ x, x = (S.sched b t).getD i16 0 := ⟨_, rfl⟩
          have c15 := HW.out.cell (schV_get (b := b) (show i15 < t by omega))
          have c2 := HW.out.cell (schV_get (b := b) (show i2 < t by omega))
          have c7 := HW.out.cell (schV_get (b := b) (show i7 < t by omega))
          have c16 := HW.out.cell (schV_get (b := b) (show i16 < t by omega))
          rw [← hx] at c15
          rw [← hy] at c2
          rw [← hu7] at c7
          rw [← hu16] at c16
          simp only [uv] at c15 c2 c7 c16
          obtain ⟨s0, hs0⟩ : ∃ s, s = S.rotr x 7 ^^^ S.rotr x 18 ^^^ x >>> 3 := ⟨_, rfl⟩
          obtain ⟨s1, hs1⟩ : ∃ s, s = S.rotr y 17 ^^^ S.rotr y 19 ^^^ y >>> 10 := ⟨_, rfl⟩
          have f1 := un_xor (S.rotr x 7) (S.rotr x 18)
          have f2 := un_shr3 x
          have f3 := un_xor (S.rotr x 7 ^^^ S.rotr x 18) (x >>> 3)
          have f4 := un_xor (S.rotr y 17) (S.rotr y 19)
          have f5 := un_shr10 y
          have f6 := un_xor (S.rotr y 17 ^^^ S.rotr y 19) (y >>> 10)
          rw [← hs0, ← f2] at f3
          rw [← hs1, ← f5] at f6
          have F3 := Lib.hid f3
          have F6 := Lib.hid f6
          clear f2 f5 f3 f6
          have HNX : Hid (S.sched b (t + 1) = S.sched b t ++ [s1 + u7 + s0 + u16]) := Lib.hid (by
            simp only [S.sched]
            rw [if_neg (by omega), ← hi15, ← hi2, ← hi7, ← hi16, ← hx, ← hy, ← hu7, ← hu16]
            unfold S.nextW; rw [← hs0, ← hs1])
          clear hi15 hi2 hi7 hi16 hx hy hu7 hu16 hs0 hs1
          go_wp2_with fail
          go_still (by kernel_rfl)
          change Exit.then _ _ _ _ wr.drew
          have HWD : Hid (Row wr.drew w.heap.size 116 (schV b t)) := Lib.hid HW.out
          have HBD : Hid (Below w.heap.size w wr.drew) := Lib.hid HB.out.drew
          have c7' : wr.drew.cell? ⟨w.heap.size, i7, none⟩ = some (.int .u32 (un u7 : Nat)) := c7
          have c16' : wr.drew.cell? ⟨w.heap.size, i16, none⟩ = some (.int .u32 (un u16 : Nat)) := c16
          generalize wr.drew = wd at HWD HBD c7' c16' ⊢
          clear c15 c2 c7 c16 l15 l2 q15 q2
          go_wp2_with fail
          refine (rot7 _ _).mono ?_
          rintro e w' ⟨rfl, rfl⟩
          go_wp2_with fail
          refine (rot18 _ _).mono ?_
          rintro e w' ⟨rfl, rfl⟩
          go_wp2_with fail
          refine (rot17 _ _).mono ?_
          rintro e w' ⟨rfl, rfl⟩
          go_wp2_with fail
          refine (rot19 _ _).mono ?_
          rintro e w' ⟨rfl, rfl⟩
          go_wp2_with fail
          go_still_tail 15, (by kernel_rfl)
          change wpList _ _ _ _ _ w'.drew
          replace HWD : Hid (Row w'.drew w.heap.size 116 (schV b t)) := Lib.hid HWD.out
          replace HBD : Hid (Below w.heap.size w w'.drew) := Lib.hid HBD.out.drew
          clear c7' c16' f1 f4 q7 q16
          generalize w'.drew = wd at HWD HBD ⊢
          obtain ⟨u, hu⟩ := schV_some (b := b) (t := t) (i := t) ht2 hlt2
          have hcw := HWD.out.cell hu
          have hfw := HWD.out.frozen t
          clear hu
          go_wp2_with fail
          go_roundw
          case rel =>
            refine ⟨t + 1, by simp, by omega, hlt2, Lib.hid ?_, Lib.hid (HBD.out.setCell (Nat.le_refl _) _)⟩
            rw [← schV_set (b := b) hlt2 HNX.out, F6.out, F3.out, un_add4]
            exact HWD.out.set t _
          case measure => simp [intOf]; omega
          -- devend
        · obtain rfl : t = 64 := by omega
          have hti2 : ¬ ((64 : Nat) : Int) < 64 := by omega
          have HO2 : Hid (Row wr g 121 (objV H part held size)) := Lib.hid (HO.out.ext HB.out)
          go_upto_region 13 with (fail)
          obtain ⟨e0, e1, e2, e3, e4, e5, e6, e7⟩ := objV_h H part held size
          have c0 := HO2.out.cell e0
          have c1 := HO2.out.cell e1
          have c2 := HO2.out.cell e2
          have c3 := HO2.out.cell e3
          have c4 := HO2.out.cell e4
          have c5 := HO2.out.cell e5
          have c6 := HO2.out.cell e6
          have c7 := HO2.out.cell e7
          simp only [uv] at c0 c1 c2 c3 c4 c5 c6 c7
          clear e0 e1 e2 e3 e4 e5 e6 e7
          go_wp2_with fail
          clear c0 c1 c2 c3 c4 c5 c6 c7
          obtain ⟨w3, rfl⟩ : ∃ w3, w3 = wr := ⟨_, rfl⟩
          go_loopw [104] (fun i wr => ∃ t : Nat, i = .int .i64 t ∧ t ≤ 64 ∧ Hid (Row wr w3.heap.size 115 ((S.rounds (S.sched b 64) H t).list.map uv)) ∧ Hid (Below w3.heap.size w3 wr)) (fun i _ => 64 - (intOf i).toNat)
          case atStart => exact ⟨0, rfl, Nat.zero_le _, Lib.hid (by unfold Row; rw [heap_alloc_last]; rfl), Lib.hid ((Below.refl _ _).alloc (Nat.le_refl _) _)⟩
          case round =>
            obtain ⟨t, rfl, ht, HS, HB3⟩ := hrel
            have HW3 : Hid (Row wr w.heap.size 116 (schV b 64)) := Lib.hid (HW.out.ext HB3.out)
            have HO3 : Hid (Row wr g 121 (objV H part held size)) := Lib.hid (HO2.out.ext HB3.out)
            by_cases hlt3 : t < 64
            · -- devbegin
              have hti3 : (t : Int) < 64 := by omega
              obtain ⟨s, hs⟩ : ∃ s, s = S.rounds (S.sched b 64) H t := ⟨_, rfl⟩
              obtain ⟨kt, hkt⟩ : ∃ k, k = S.KS.getD t 0 := ⟨_, rfl⟩
              obtain ⟨wt, hwt⟩ : ∃ k, k = (S.sched b 64).getD t 0 := ⟨_, rfl⟩
              have HST : Hid (S.rounds (S.sched b 64) H (t + 1) = S.step kt wt s) := Lib.hid (by rw [S.rounds, ← hkt, ← hwt, ← hs])
              rw [← hs] at HS
              have cw : wr.cell? ⟨w.heap.size, t, none⟩ = some (.int .u32 (un wt : Nat)) := by rw [hwt]; exact HW3.out.cell (schV_get hlt3)
              have ck : wr.cell? ⟨g, 8 + t, none⟩ = some (.int .u32 (un kt : Nat)) := by rw [hkt]; exact HO3.out.cell (objV_k H part held size hlt3)
              have c0 : wr.cell? ⟨w3.heap.size, 0, none⟩ = some (.int .u32 (un s.a : Nat)) := HS.out.cell rfl
              have c1 : wr.cell? ⟨w3.heap.size, 1, none⟩ = some (.int .u32 (un s.b : Nat)) := HS.out.cell rfl
              have c2 : wr.cell? ⟨w3.heap.size, 2, none⟩ = some (.int .u32 (un s.c : Nat)) := HS.out.cell rfl
              have c3 : wr.cell? ⟨w3.heap.size, 3, none⟩ = some (.int .u32 (un s.d : Nat)) := HS.out.cell rfl
              have c4 : wr.cell? ⟨w3.heap.size, 4, none⟩ = some (.int .u32 (un s.e : Nat)) := HS.out.cell rfl
              have c5 : wr.cell? ⟨w3.heap.size, 5, none⟩ = some (.int .u32 (un s.f : Nat)) := HS.out.cell rfl
              have c6 : wr.cell? ⟨w3.heap.size, 6, none⟩ = some (.int .u32 (un s.g : Nat)) := HS.out.cell rfl
              have c7 : wr.cell? ⟨w3.heap.size, 7, none⟩ = some (.int .u32 (un s.h : Nat)) := HS.out.cell rfl
              obtain ⟨r1, hr1⟩ : ∃ x, x = S.rotr s.e 6 ^^^ S.rotr s.e 11 ^^^ S.rotr s.e 25 := ⟨_, rfl⟩
              obtain ⟨ch, hch⟩ : ∃ x, x = s.e &&& s.f ^^^ ~~~s.e &&& s.g := ⟨_, rfl⟩
              obtain ⟨one, hone⟩ : ∃ x, x = s.h + r1 + ch + kt + wt := ⟨_, rfl⟩
              obtain ⟨r2, hr2⟩ : ∃ x, x = S.rotr s.a 2 ^^^ S.rotr s.a 13 ^^^ S.rotr s.a 22 := ⟨_, rfl⟩
              obtain ⟨mj, hmj⟩ : ∃ x, x = s.a &&& s.b ^^^ s.a &&& s.c ^^^ s.b &&& s.c := ⟨_, rfl⟩
              obtain ⟨two, htwo⟩ : ∃ x, x = r2 + mj := ⟨_, rfl⟩
              have HFN : Hid (S.step kt wt s = ⟨one + two, s.a, s.b, s.c, s.d + one, s.e, s.f, s.g⟩) := Lib.hid (by unfold S.step; simp only [hone, htwo, hr1, hch, hr2, hmj])
              have g1 := un_xor (S.rotr s.e 6) (S.rotr s.e 11)
              have g2 := un_xor (S.rotr s.e 6 ^^^ S.rotr s.e 11) (S.rotr s.e 25)
              rw [← hr1] at g2
              have g3 := un_addw s.h r1
              have g4 := un_and s.e s.f
              have g5 : bits .xor .u32 (if IntKind.u32.signed = true then -1 else IntKind.u32.max) (un s.e : Int) = (un (~~~s.e) : Int) := un_not s.e
              have g6 := un_and (~~~s.e) s.g
              have g7 := un_xor (s.e &&& s.f) (~~~s.e &&& s.g)
              rw [← hch] at g7
              have g8 := un_addw (s.h + r1) ch
              have g9 := un_addw (s.h + r1 + ch) kt
              have g10 := un_addw (s.h + r1 + ch + kt) wt
              rw [← hone] at g10
              have k1 := un_xor (S.rotr s.a 2) (S.rotr s.a 13)
              have k2 := un_xor (S.rotr s.a 2 ^^^ S.rotr s.a 13) (S.rotr s.a 22)
              rw [← hr2] at k2
              have k3 := un_and s.a s.b
              have k4 := un_and s.a s.c
              have k5 := un_and s.b s.c
              have k6 := un_xor (s.a &&& s.b) (s.a &&& s.c)
              have k7 := un_xor (s.a &&& s.b ^^^ s.a &&& s.c) (s.b &&& s.c)
              rw [← hmj] at k7
              have k8 := un_addw r2 mj
              rw [← htwo] at k8
              have k9 := un_add one two
              have k10 := un_add s.d one
              clear hone htwo hr1 hr2 hch hmj hs hkt hwt
              have HRC : RC w.heap.size w3.heap.size g t s kt wt wr := ⟨cw, ck, c0, c1, c2, c3, c4, c5, c6, c7⟩
              clear cw ck c1 c2 c3 c5 c6 c7
              go_upto_region 17 with (fail)
              go_still (by kernel_rfl)
              change Exit.then _ _ _ _ wr.drew
              replace HRC : RC w.heap.size w3.heap.size g t s kt wt wr.drew := HRC
              have HSD : Hid (Row wr.drew w3.heap.size 115 (s.list.map uv)) := Lib.hid HS.out
              have HBD : Hid (Below w3.heap.size w3 wr.drew) := Lib.hid HB3.out.drew
              generalize wr.drew = wd at HRC HSD HBD ⊢
              clear c0 c4
              obtain ⟨cw, ck, c0, c1, c2, c3, c4, c5, c6, c7⟩ := id HRC
              clear c0 c1 c2 c3 c4
              go_upto_region 18 with (fail)
              refine wp_region_still_lit (by kernel_rfl) (by kernel_rfl) ?_
              repeat still_step
              still_call (rot6 _ _)
              repeat still_step
              still_call (rot11 _ _)
              repeat still_step
              still_call (rot25 _ _)
              repeat still_step
              refine wpStill_nil ?_
              change Exit.then _ _ _ _ wd.drew
              replace HRC : RC w.heap.size w3.heap.size g t s kt wt wd.drew := HRC
              replace HSD : Hid (Row wd.drew w3.heap.size 115 (s.list.map uv)) := Lib.hid HSD.out
              replace HBD : Hid (Below w3.heap.size w3 wd.drew) := Lib.hid HBD.out.drew
              generalize wd.drew = we at HRC HSD HBD ⊢
              clear cw ck c5 c6 c7 g1 g2 g3 g4 g5 g6 g7 g8 g9 g10
              obtain ⟨cw, ck, c0, c1, c2, c3, c4, c5, c6, c7⟩ := id HRC
              clear cw ck c0 c3 c4 c5 c6 c7
              go_upto_region 19 with (fail)
              refine wp_region_still_lit (by kernel_rfl) (by kernel_rfl) ?_
              repeat still_step
              still_call (rot2 _ _)
              repeat still_step
              still_call (rot13 _ _)
              repeat still_step
              still_call (rot22 _ _)
              repeat still_step
              refine wpStill_nil ?_
              change Exit.then _ _ _ _ we.drew
              replace HRC : RC w.heap.size w3.heap.size g t s kt wt we.drew := HRC
              replace HSD : Hid (Row we.drew w3.heap.size 115 (s.list.map uv)) := Lib.hid HSD.out
              replace HBD : Hid (Below w3.heap.size w3 we.drew) := Lib.hid HBD.out.drew
              generalize we.drew = wf at HRC HSD HBD ⊢
              clear c1 c2 k1 k2 k3 k4 k5 k6 k7 k8
              obtain ⟨cw, ck, c0, c1, c2, c3, c4, c5, c6, c7⟩ := id HRC
              clear cw ck
              go_upto_region 20 with (fail)
              go_wp2_with (refine wpList_st rfl rfl ?_; refine ⟨w3.heap.size, _, _, _, rfl, rfl, HSD.out, by kernel_rfl, rfl, by simp [Value.oneCell'], ?_⟩)
              go_roundw
              case rel =>
                refine ⟨t + 1, by simp, hlt3, Lib.hid ?_, Lib.hid (below_setRow HBD.out (Nat.le_refl _) _)⟩
                rw [HST.out, HFN.out]
                exact HSD.out.setRow (List.map uv (S.St.list ⟨one + two, s.a, s.b, s.c, s.d + one, s.e, s.f, s.g⟩))
              case measure => simp [intOf]; omega
              -- devend
            · obtain rfl : t = 64 := by omega
              have hti3 : ¬ ((64 : Nat) : Int) < 64 := by omega
              obtain ⟨s, hs⟩ : ∃ s, s = S.rounds (S.sched b 64) H 64 := ⟨_, rfl⟩
              rw [← hs] at HS
              have HBF : Hid (S.blockF H b = H.add s) := Lib.hid (by unfold S.blockF; rw [← hs])
              clear hs
              have HG3 : Hid (w.grownBy wr (some g)) := Lib.hid (grown_but (grown_of_below (Below.trans HB.out (HB3.out.mono HB.out.size))) _)
              obtain ⟨w4, rfl⟩ : ∃ w4, w4 = wr := ⟨_, rfl⟩
              go_wp2_with fail
              go_loopw [187] (fun i wr => ∃ t : Nat, i = .int .i64 t ∧ t ≤ 8 ∧ Hid (Row wr w3.heap.size 115 (s.list.map uv)) ∧ Hid (Row wr g 121 (objU H s t part held size)) ∧ Hid (w.grownBy wr (some g))) (fun i _ => 8 - (intOf i).toNat)
              case atStart => exact ⟨0, rfl, Nat.zero_le _, HS, HO3, HG3⟩
              case round =>
                clear HS HO3 HG3
                obtain ⟨t, rfl, ht, HS, HO3, HG3⟩ := hrel
                by_cases hlt4 : t < 8
                · -- devbegin
                  have hti4 : (t : Int) < 8 := by omega
                  have hgs : g ≠ w3.heap.size := Nat.ne_of_lt HO2.out.lt
                  obtain ⟨h1, h2, h3⟩ := objU_get H s part held size hlt4
                  obtain ⟨hv, hhv⟩ : ∃ x, x = H.list.getD t 0 := ⟨_, rfl⟩
                  obtain ⟨sv, hsv⟩ : ∃ x, x = s.list.getD t 0 := ⟨_, rfl⟩
                  rw [← hhv] at h1 h3
                  rw [← hsv] at h2 h3
                  have H3 := Lib.hid h3
                  have c1 := HO3.out.cell h1
                  have c2 := HS.out.cell h2
                  simp only [uv] at c1 c2
                  have f1 := un_addw hv sv
                  clear h1 h2 h3 hhv hsv
                  go_upto_region 25 with (fail)
                  go_still_tail 13, (by kernel_rfl)
                  change wpList _ _ _ _ _ wr.drew
                  replace HO3 : Hid (Row wr.drew g 121 (objU H s t part held size)) := Lib.hid HO3.out
                  replace HS : Hid (Row wr.drew w3.heap.size 115 (s.list.map uv)) := Lib.hid HS.out
                  replace HG3 : Hid (w.grownBy wr.drew (some g)) := Lib.hid (grown_drew HG3.out)
                  have c1' : wr.drew.cell? ⟨g, t, none⟩ = some (.int .u32 (un hv : Nat)) := c1
                  generalize wr.drew = wd at HO3 HS HG3 c1' ⊢
                  have hfz := HO3.out.frozen t
                  clear c1 c2
                  go_wp2_with fail
                  go_roundw
                  case rel =>
                    refine ⟨t + 1, by simp, hlt4, Lib.hid (HS.out.other (p := ⟨g, t, none⟩) (Ne.symm hgs) _), Lib.hid ?_, Lib.hid (grown_set HG3.out _ _)⟩
                    rw [← H3.out]
                    exact HO3.out.set t _
                  case measure => simp [intOf]; omega
                  -- devend
                · obtain rfl : t = 8 := by omega
                  have hti4 : ¬ ((8 : Nat) : Int) < 8 := by omega
                  go_wp2
                  go_end0
                  refine ⟨rfl, HG3.out, ?_⟩
                  rw [HBF.out]
                  exact HO3.out
end Go.Proofs.Ythaoibgcgkmnbaa
