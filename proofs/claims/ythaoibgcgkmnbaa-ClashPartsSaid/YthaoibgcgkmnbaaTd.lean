/- Lists of digests; cuts of lists of leaves; words for the walks over the tree. -/
import Derived.Test.YthaoibgcgkmnbaaT2
import Derived.Test.YthaoibgcgkmnbaaDgt
import Derived.Test.YthaoibgcgkmnbaaBss
namespace Go.Proofs.Ythaoibgcgkmnbaa
set_option maxRecDepth 100000
open Go.RowKit

theorem int_eq {k : IntKind} {a b : Int} (h : a = b) : Value.int k a = .int k b := by rw [h]
theorem Bss.same {w w' : World} {A : Option Addr} {n c : Nat} {l : List (List UInt8)} (h : Bss w A n c l) (hb : ExtW w w') : Bss w' A n c l := h.below hb (Nat.le_refl _)
theorem Bss.take {w : World} {A : Option Addr} {n c : Nat} {l : List (List UInt8)} (h : Bss w A n c l) {m : Nat} (hm : m ≤ n) : Bss w A m c (l.take m) :=
  ⟨by rw [List.length_take, h.len]; omega, Nat.le_trans hm h.nc, h.cm, h.nil0, fun a ha i x hx => by
    rw [List.getElem?_take] at hx
    split at hx
    · exact h.row a ha i x hx
    · cases hx⟩
theorem Bss.drop {w : World} {A : Option Addr} {n c : Nat} {l : List (List UInt8)} (h : Bss w A n c l) {k : Nat} (hk : k ≤ n) :
    Bss w (if c = k then A else A.map (·.add k)) (n - k) (c - k) (l.drop k) := by
  have hnc := h.nc
  refine ⟨by rw [List.length_drop, h.len], by omega, Nat.le_trans (Nat.sub_le _ _) h.cm, ?_, ?_⟩
  · intro ha
    split at ha
    · omega
    · cases A with
      | none => have := h.nil0 rfl; omega
      | some a => simp at ha
  · intro a ha i x hx
    rw [List.getElem?_drop] at hx
    have hl : k + i < n := by
      have := (List.getElem?_eq_some_iff.1 hx).1; rw [h.len] at this; exact this
    rw [if_neg (by omega)] at ha
    cases A with
    | none => cases ha
    | some b =>
      cases ha
      rw [add_add]; exact h.row b rfl _ x hx

section
variable {P : Program} {t e : TypeId} {i : TypeInfo} (ht : P.underlying t = some (.slice e)) (hi : P.info? e = some i) (hsz : i.size = 1)
include ht hi hsz
/-- l[:k] -/
theorem cutB_h (A : Option Addr) (n c : Nat) (kh : IntKind) (h : Int) (hh : Nat) (hhh : h = hh) (h2 : hh ≤ n) (h3 : n ≤ c) :
    (∀ W : World, (Instr.slice t (.slice A n c) none (some (.int kh h)) none).run P W = .ok (.slice A hh c) W) := (cut_h ht hi hsz A n c kh h hh hhh h2 h3).1
/-- l[k:] -/
theorem cutB_l (A : Option Addr) (n c : Nat) (kl : IntKind) (l : Int) (lo : Nat) (hl : l = lo) (h1 : lo ≤ n) (_h3 : n ≤ c) :
    ∃ A', (∀ W : World, (Instr.slice t (.slice A n c) (some (.int kl l)) none none).run P W = .ok (.slice A' (n - lo) (c - lo)) W) ∧ ∀ (w : World) (xs : List (List UInt8)), Bss w A n c xs → Bss w A' (n - lo) (c - lo) (xs.drop lo) := by
  have hel : P.elem t = e := by simp [Program.elem, ht]
  have hu : P.underlying t = some (.slice (P.elem t)) := by rw [hel]; exact ht
  refine ⟨if c = lo then A else A.map (·.add lo), fun W => ?_, fun w xs hr => hr.drop h1⟩
  rw [run_slice_l W t A n c hu kl l (by omega) (by omega), hel]
  simp [sizeOf, typeInfo, hi, hsz, sliced, Result.andThen, hl]
/-- l[k:m] -/
theorem cutB_lh (A : Option Addr) (n c : Nat) (kl kh : IntKind) (l h : Int) (lo hh : Nat) (hl : l = lo) (hhh : h = hh) (h1 : lo ≤ hh) (h2 : hh ≤ n) (h3 : n ≤ c) :
    ∃ A', (∀ W : World, (Instr.slice t (.slice A n c) (some (.int kl l)) (some (.int kh h)) none).run P W = .ok (.slice A' (hh - lo) (c - lo)) W) ∧ ∀ (w : World) (xs : List (List UInt8)), Bss w A n c xs → Bss w A' (hh - lo) (c - lo) ((xs.take hh).drop lo) := by
  have hel : P.elem t = e := by simp [Program.elem, ht]
  have hu : P.underlying t = some (.slice (P.elem t)) := by rw [hel]; exact ht
  refine ⟨if c = lo then A else A.map (·.add lo), fun W => ?_, fun w xs hr => (hr.take h2).drop h1⟩
  rw [run_slice_lh W t A n c hu kl kh l h (by omega) (by omega) (by omega), hel]
  simp [sizeOf, typeInfo, hi, hsz, sliced, Result.andThen, hl, hhh]
end

/-- digests, as cells -/
def dcs (l : List (List UInt8)) : List Value := l.flatMap bvs
theorem dcs_nil : dcs [] = [] := rfl
theorem dcs_cons (d : List UInt8) (l : List (List UInt8)) : dcs (d :: l) = bvs d ++ dcs l := rfl
theorem dcs_app (l r : List (List UInt8)) : dcs (l ++ r) = dcs l ++ dcs r := by simp [dcs]
theorem dcs_one (l : List (List UInt8)) : ∀ u ∈ dcs l, u.oneCell' = true := by
  intro u hu
  simp only [dcs, List.mem_flatMap] at hu
  obtain ⟨d, _, hd⟩ := hu
  exact bvs_one d u hd
theorem dcs_len {l : List (List UInt8)} (h : ∀ d ∈ l, d.length = 32) : (dcs l).length = l.length * 32 := by
  induction l with
  | nil => rfl
  | cons d l ih => rw [dcs_cons, List.length_append, ih fun x hx => h x (by simp [hx]), bvs_len, h d (by simp)]; simp; omega
theorem dcs_take {l : List (List UInt8)} (h : ∀ d ∈ l, d.length = 32) (k : Nat) : (dcs l).take (k * 32) = dcs (l.take k) := by
  induction l generalizing k with
  | nil => simp [dcs]
  | cons d l ih =>
    cases k with
    | zero => simp [dcs]
    | succ k =>
      have hd := h d (by simp)
      rw [dcs_cons, List.take_succ_cons, dcs_cons, List.take_append, bvs_len, hd, List.take_of_length_le (by rw [bvs_len, hd]; omega), show (k + 1) * 32 - 32 = k * 32 by omega, ih fun x hx => h x (by simp [hx])]
theorem dcs_drop {l : List (List UInt8)} (h : ∀ d ∈ l, d.length = 32) (k : Nat) : (dcs l).drop (k * 32) = dcs (l.drop k) := by
  induction l generalizing k with
  | nil => simp [dcs]
  | cons d l ih =>
    cases k with
    | zero => simp [dcs]
    | succ k =>
      have hd := h d (by simp)
      rw [dcs_cons, List.drop_succ_cons, List.drop_append, bvs_len, hd, List.drop_of_length_le (by rw [bvs_len, hd]; omega), show (k + 1) * 32 - 32 = k * 32 by omega, ih fun x hx => h x (by simp [hx]), List.nil_append]
theorem dcs_at {l : List (List UInt8)} (h : ∀ d ∈ l, d.length = 32) {k : Nat} {d : List UInt8} (hk : l[k]? = some d) (j : Nat) {v : Value} (hv : (bvs d)[j]? = some v) : (dcs l)[k * 32 + j]? = some v := by
  have h1 := dcs_drop h k
  have h2 : l.drop k = d :: l.drop (k + 1) := by
    obtain ⟨hl, he⟩ := List.getElem?_eq_some_iff.1 hk
    rw [List.drop_eq_getElem_cons hl, he]
  have h3 : ((dcs l).drop (k * 32))[j]? = some v := by
    rw [h1, h2, dcs_cons, List.getElem?_append_left]
    · exact hv
    · exact (List.getElem?_eq_some_iff.1 hv).1
  rwa [List.getElem?_drop] at h3

/-- a slice of digests that reads as l -/
structure Dls (w : World) (A : Option Addr) (n c : Nat) (l : List (List UInt8)) : Prop where
  len : l.length = n
  all : ∀ d ∈ l, d.length = 32
  rd : Rd w A n c 32 (dcs l)
theorem Dls.same {w w' : World} {A : Option Addr} {n c : Nat} {l : List (List UInt8)} (h : Dls w A n c l) (hb : ExtW w w') : Dls w' A n c l := ⟨h.len, h.all, h.rd.below hb (Nat.le_refl _)⟩
theorem Dls.nil (w : World) : Dls w none 0 0 [] := ⟨rfl, (fun d h => by cases h), Rd.nil w 32⟩
/-- the digest at a place -/
theorem Dls.range {w : World} {a : Addr} {n c : Nat} {l : List (List UInt8)} (h : Dls w (some a) n c l) {k : Nat} {d : List UInt8} (hk : l[k]? = some d) :
    ∀ j v, (bvs d)[j]? = some v → w.cell? (a.add (k * 32 + j)) = some v := fun j _ hv => h.rd.cell a rfl _ _ (dcs_at h.all hk j hv)
theorem Dls.own {w : World} {base e n : Nat} {v : Value} {l : List (List UInt8)} (h : w.ownsRow base e 32 v n (dcs l)) (hl : ∀ d ∈ l, d.length = 32) : ∃ A c, v = .slice A n c ∧ Dls w A n c l := by
  obtain ⟨A, c, hv, hr, _⟩ := Rd.of_own h
  refine ⟨A, c, hv, ?_, hl, hr⟩
  have := hr.len
  rw [dcs_len hl] at this
  omega
theorem infoD : (Try.prog.info? 45).map (fun i => (i.zero, i.size, i.bytes)) = some (some (.agg zDig), 32, 32) := by kernel_rfl
theorem infoS : (Try.prog.info? 23).map (fun i => (i.zero, i.size, i.bytes)) = some (some (.slice none 0 0), 1, 24) := by kernel_rfl

theorem obl_ldg {P : Program} {ops : Array Oper} {o : Oper} {a : Act} {w : World} {ty : TypeId} {x : Operand} (hw : Region.wanted o (yielded ops a.tmps) = true) (ho : o.op = .load ty x) {g : Nat} {e : TypeId} {d : List UInt8}
    (hx : a.eval x = .pointer (some ⟨g, 0, none⟩)) (hc : Row w g e (bvs d)) {ds : TypeDesc} (hu : P.underlying ty = some ds) (hd : ds.isRow = true) (hi : (P.info? ty).map (·.size) = some (bvs d).length) : oblAt P ops o a w fun v _ => v = dgV d :=
  obl_val hw (by
    unfold execOp
    simp only [ho, hx, Instr.loadAt, Instr.sureAddr, Sem.run_bind, Sem.run_pure, Result.andThen_ok, run_loadVar_mid w g 0 ty (bvs d) ds hc.range hu hd hi]
    rfl)
theorem sizeD {d : List UInt8} (h : d.length = 32) : (Try.prog.info? 45).map (·.size) = some (bvs d).length := by rw [bvs_len, h]; kernel_rfl
/-- a digest is read from wherever it lies -/
theorem run_loadDg (W : World) (a : Addr) {d : List UInt8} (hd : d.length = 32) (hc : ∀ j v, (bvs d)[j]? = some v → W.cell? (a.add j) = some v) : (loadVar 45 a).run Try.prog W = .ok (dgV d) W := by
  have hl : (loadCells a (bvs d).length).run Try.prog W = .ok (bvs d).toArray W := run_loadCells_list (P := Try.prog) W a (bvs d) hc
  obtain ⟨i0, hi, hz0, hz1, hz2⟩ := info_parts infoD
  have hagg : (isAgg 45).run Try.prog W = .ok true W := by
    unfold isAgg
    rw [Sem.run_bind, run_underlying Try.underlying45 W]
    simp
  rw [bvs_len, hd] at hl
  simp [loadVar, Sem.run_bind, hagg, sizeOf, typeInfo, hi, hz1, hl, dgV]
theorem wpList_ldA {P : Program} {ops : Array Oper} {rest : List Oper} {o : Oper} {a : Act} {w : World} {Q : Exit → Act → World → Prop} {ty : TypeId} {x : Operand} (ho : o.op = .load ty x) (hw : Region.wanted o (yielded ops a.tmps) = true) {ad : Addr} {v : Value}
    (hx : a.eval x = .pointer (some ad)) (hr : (loadVar ty ad).run P w = .ok v w) (h : wpList P ops Q rest (a.put o.dst v) w) : wpList P ops Q (o :: rest) a w :=
  wpList_want hw fun K hK => by
    unfold Oper.wp execOp
    simp only [ho, hx, Instr.loadAt, Instr.sureAddr, Sem.run_bind, Sem.run_pure, Result.andThen_ok, hr]
    exact hK _ _ h
theorem obl_ldA {P : Program} {ops : Array Oper} {o : Oper} {a : Act} {w : World} {ty : TypeId} {x : Operand} (hw : Region.wanted o (yielded ops a.tmps) = true) (ho : o.op = .load ty x) {ad : Addr} {v : Value}
    (hx : a.eval x = .pointer (some ad)) (hr : (loadVar ty ad).run P w = .ok v w) : oblAt P ops o a w fun u _ => u = v :=
  obl_val hw (by
    unfold execOp
    simp only [ho, hx, Instr.loadAt, Instr.sureAddr, Sem.run_bind, Sem.run_pure, Result.andThen_ok, hr])
theorem Dls.load {w : World} {a : Addr} {n c : Nat} {l : List (List UInt8)} (h : Dls w (some a) n c l) {k : Nat} {d : List UInt8} (hk : l[k]? = some d) : (loadVar 45 (a.add (k * 32))).run Try.prog w = .ok (dgV d) w :=
  run_loadDg w _ (h.all d (List.mem_of_getElem? hk)) fun j v hv => by rw [add_add]; exact h.range hk j v hv
end Go.Proofs.Ythaoibgcgkmnbaa
