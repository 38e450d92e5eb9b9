/- Walks of bytes.Equal and compare; what differ tells. Walks of leafText and nodeText. Walks of seek and its deferred function. What is held ready: the function literals of Of, a list of them, the loop over it. -/
import Derived.Test.YthaoibgcgkmnbaaT8
import Derived.Test.YthaoibgcgkmnbaaCA
import Derived.Recover
import Derived.Defers
namespace Go.Proofs.Ythaoibgcgkmnbaa
set_option maxRecDepth 100000
set_option maxRecDepth 100000
open Go.RowKit

theorem ba_inj {xs ys : List UInt8} (h : (⟨xs.toArray⟩ : ByteArray) = ⟨ys.toArray⟩) : xs = ys := by
  have h1 := congrArg (fun b : ByteArray => b.data.toList) h
  simpa using h1

set_option maxHeartbeats 4000000 in
set_option maxRecDepth 100000 in
theorem equal_any (A : Option Addr) (n c : Nat) (xs : List UInt8) (B : Option Addr) (m d : Nat) (ys : List UInt8) (w : World) (hx : Rd w A n c 1 (bvs xs)) (hy : Rd w B m d 1 (bvs ys)) :
    Calls Try.prog 44 #[.slice A n c, .slice B m d] w fun e w' => e = .returned (.bool (decide (xs = ys))) ∧ ExtW w w' := by
  have hcx := conv_str hx
  have hcy := conv_str hy
  obtain ⟨sx, hsx⟩ : ∃ s, s = (⟨xs.toArray⟩ : ByteArray) := ⟨_, rfl⟩
  obtain ⟨sy, hsy⟩ : ∃ s, s = (⟨ys.toArray⟩ : ByteArray) := ⟨_, rfl⟩
  rw [← hsx] at hcx
  rw [← hsy] at hcy
  clear hx hy
  by_cases h : xs = ys
  · have hss : sx = sy := by rw [hsx, hsy, h]
    have HD : Hid (decide (xs = ys) = true) := Lib.hid (by simp [h])
    clear hsx hsy h
    subst hss
    go_enter Try.func44, Try.ntmps44
    go_wp2
    go_ret
    exact ⟨by rw [HD.out]; rfl, ExtW.refl _⟩
  · have hss : ¬ sx = sy := fun e => h (ba_inj (by rw [← hsx, ← hsy, e]))
    have HD : Hid (decide (xs = ys) = false) := Lib.hid (by simp [h])
    have hs2 : (sx.toList == sy.toList) = false := by
      rw [beq_eq_false_iff_ne, hsx, hsy, ByteArray.toList_eq, ByteArray.toList_eq]
      simpa using h
    clear hsx hsy h
    go_enter Try.func44, Try.ntmps44
    go_wp2
    go_ret
    exact ⟨by rw [HD.out]; rfl, ExtW.refl _⟩

/-- how a comparison ends: nothing, or a panic that tells two texts -/
def DiffPost (o : Option (List UInt8 × List UInt8)) (w : World) (e : Ending) (w' : World) : Prop :=
  ExtW w w' ∧ match o with
  | none => e = .returned (.tuple #[])
  | some (x, y) => ∃ A n c B m d, e = .panicked [{ v := .iface 94 (.agg #[.slice A n c, .slice B m d]), recovered := false }] ∧ Rd w' A n c 1 (bvs x) ∧ Rd w' B m d 1 (bvs y)

set_option maxHeartbeats 4000000 in
set_option maxRecDepth 100000 in
theorem compare_any (A : Option Addr) (n c : Nat) (xs : List UInt8) (B : Option Addr) (m d : Nat) (ys : List UInt8) (w : World) (hx : Rd w A n c 1 (bvs xs)) (hy : Rd w B m d 1 (bvs ys)) :
    Calls Try.prog 30 #[.slice A n c, .slice B m d] w (DiffPost (T.diff1 [(xs, ys)]) w) := by
  have HX := Lib.hid hx
  have HY := Lib.hid hy
  clear hx hy
  by_cases h : xs = ys
  · have HD : Hid (decide (xs = ys) = true) := Lib.hid (by simp [h])
    have HO : Hid (T.diff1 [(xs, ys)] = none) := Lib.hid (by rw [T.diff1_cons, if_pos h]; rfl)
    clear h
    go_enter Try.func30, Try.ntmps30
    go_wp2_with fail
    refine (equal_any A n c xs B m d ys _ HX.out HY.out).mono ?_
    rintro e w1 ⟨rfl, hb⟩
    rw [HD.out]
    have HE := Lib.hid hb
    clear hb
    go_wp2
    go_end0
    unfold DiffPost
    rw [HO.out]
    exact ⟨HE.out, rfl⟩
  · have HD : Hid (decide (xs = ys) = false) := Lib.hid (by simp [h])
    have HO : Hid (T.diff1 [(xs, ys)] = some (xs, ys)) := Lib.hid (by rw [T.diff1_cons, if_neg h])
    clear h
    go_enter Try.func30, Try.ntmps30
    go_wp2_with fail
    refine (equal_any A n c xs B m d ys _ HX.out HY.out).mono ?_
    rintro e w1 ⟨rfl, hb⟩
    rw [HD.out]
    have HE := Lib.hid hb
    clear hb
    go_wp2
    refine ⟨rfl, ?_⟩
    unfold DiffPost
    rw [HO.out]
    exact ⟨HE.out, A, n, c, B, m, d, rfl, HX.out.below HE.out (Nat.le_refl _), HY.out.below HE.out (Nat.le_refl _)⟩
end Go.Proofs.Ythaoibgcgkmnbaa

namespace Go.Proofs.Ythaoibgcgkmnbaa
set_option maxRecDepth 100000
open Go.RowKit

theorem own1 (w : World) (b : UInt8) : (w.alloc (.cells #[.int .u8 (b.toNat : Int)] 5)).ownsRow w.heap.size 5 1 (.slice (some ⟨w.heap.size, 0, none⟩) 1 1) 1 (bvs [b]) :=
  ⟨rfl, .inr ⟨w.heap.size, 1, #[.int .u8 (b.toNat : Int)], rfl, Nat.le_refl _, heap_alloc_new w _, Nat.le_refl _, by simp [maxLen], rfl, rfl⟩⟩

set_option maxHeartbeats 4000000 in
set_option maxRecDepth 100000 in
theorem leafText_any (A : Option Addr) (n c : Nat) (xs : List UInt8) (w : World) (hx : Rd w A n c 1 (bvs xs)) (hn : n ≤ 100000000000000) :
    Calls Try.prog 31 #[.slice A n c] w fun e w' => ∃ v, e = .returned v ∧ BytesF (1 + n) (T.ltx xs) v w' ∧ ExtW w w' := by
  obtain ⟨i0, hi, hz0, hz1, hz2⟩ := info_parts infoB
  have HX := Lib.hid hx
  have HO : Hid ((w.alloc (.cells #[.int .u8 (((0 : UInt8).toNat : Nat) : Int)] 5)).ownsRow w.heap.size 5 1 (.slice (some ⟨w.heap.size, 0, none⟩) 1 1) 1 (bvs [0])) := Lib.hid (own1 w 0)
  have HE : Hid (ExtW w (w.alloc (.cells #[.int .u8 (((0 : UInt8).toNat : Nat) : Int)] 5))) := Lib.hid ((Below.refl _ _).alloc (Nat.le_refl _) _)
  clear hx
  go_enter Try.func31, Try.ntmps31
  go_wp2_with (at_builtin; refine wpList_append_appd _ rfl _ _ 23 rfl w.heap.size 5 i0 _ 1 1 Try.underlying23 hi hz0 hz1 hz2 rfl (by omega) _ 1 (bvs [0]) rfl (.inr HO.out) A n c (bvs xs) rfl (HX.out.below HE.out (Nat.le_refl _)) (bvs_one _) (by simp [maxLen]; omega) (by omega) HE.out.size (.inl HO.out) ?_; intro v' w' ho' hb' _; have HO' := Lib.hid ho'; have HB' := Lib.hid hb'; clear ho' hb')
  go_ret
  refine ⟨_, rfl, ?_, Below.trans HE.out HB'.out⟩
  obtain ⟨A', c', e, hrd, _⟩ := Rd.of_own HO'.out
  rw [← bvs_app] at hrd
  exact ⟨A', c', e, hrd⟩

set_option maxHeartbeats 4000000 in
set_option maxRecDepth 100000 in
theorem nodeText_any (l r : List UInt8) (w : World) (hl : l.length = 32) (hr : r.length = 32) :
    Calls Try.prog 35 #[dgV l, dgV r] w fun e w' => ∃ v, e = .returned v ∧ BytesF 65 (T.ntx l r) v w' ∧ ExtW w w' := by
  obtain ⟨i0, hi, hz0, hz1, hz2⟩ := info_parts infoB
  have HLL := Lib.hid hl
  have HRL := Lib.hid hr
  clear hl hr
  unfold dgV
  go_enter Try.func35, Try.ntmps35
  go_upto_region 1 with (fail)
  have HL1 : Hid (Row (w.alloc (.cells (bvs l).toArray 45)) w.heap.size 45 (bvs l)) := Lib.hid (heap_alloc_last _ _)
  have HE1 : Hid (ExtW w (w.alloc (.cells (bvs l).toArray 45))) := Lib.hid ((Below.refl _ _).alloc (Nat.le_refl _) _)
  have HA1 : Hid ((w.alloc (.cells (bvs l).toArray 45)).heap.size = w.heap.size + 1) := Lib.hid (by simp)
  generalize w.alloc (.cells (bvs l).toArray 45) = wb at HL1 HE1 HA1 ⊢
  have HR2 : Hid (Row (wb.alloc (.cells (bvs r).toArray 45)) (w.heap.size + 1) 45 (bvs r)) := Lib.hid (by rw [← HA1.out]; exact heap_alloc_last _ _)
  have HE2 : Hid (ExtW wb (wb.alloc (.cells (bvs r).toArray 45))) := Lib.hid ((Below.refl _ _).alloc (Nat.le_refl _) _)
  generalize wb.alloc (.cells (bvs r).toArray 45) = wc at HR2 HE2 ⊢
  have HL2 := Lib.hid (HL1.out.ext HE2.out)
  have HW2 := Lib.hid (ExtW.trans HE1.out HE2.out)
  obtain ⟨gl, hgl⟩ : ∃ g, g = w.heap.size := ⟨_, rfl⟩
  obtain ⟨gr, hgr⟩ : ∃ g, g = w.heap.size + 1 := ⟨_, rfl⟩
  rw [← hgl] at HL2
  rw [← hgr] at HR2
  rw [← hgr, ← hgl]
  clear hgl hgr HL1 HE1 HE2 HA1
  have HO : Hid ((wc.alloc (.cells #[.int .u8 (((1 : UInt8).toNat : Nat) : Int)] 5)).ownsRow wc.heap.size 5 1 (.slice (some ⟨wc.heap.size, 0, none⟩) 1 1) 1 (bvs [1])) := Lib.hid (own1 wc 1)
  have HE : Hid (ExtW wc (wc.alloc (.cells #[.int .u8 (((1 : UInt8).toNat : Nat) : Int)] 5))) := Lib.hid ((Below.refl _ _).alloc (Nat.le_refl _) _)
  go_upto_region 2 with (at_builtin; refine wpList_append_appd _ rfl _ _ 23 rfl wc.heap.size 5 i0 _ 1 1 Try.underlying23 hi hz0 hz1 hz2 rfl (by omega) _ 1 (bvs [1]) rfl (.inr HO.out) (some ⟨gl, 0, none⟩) 32 32 (bvs l) rfl ((HL2.out.ext HE.out).rd32 HLL.out) (bvs_one _) (by simp [maxLen]) (by omega) HE.out.size (.inl HO.out) ?_; intro v1 w1 ho1 hb1 _; have HO1 := Lib.hid ho1; have HB1 : Hid (ExtW wc w1) := Lib.hid (Below.trans HE.out hb1); clear ho1 hb1)
  go_wp2_with (at_builtin; refine wpList_append_appd _ rfl _ _ 23 rfl wc.heap.size 5 i0 _ 1 1 Try.underlying23 hi hz0 hz1 hz2 rfl (by omega) _ (1 + 32) _ rfl (.inr HO1.out) (some ⟨gr, 0, none⟩) 32 32 (bvs r) rfl ((HR2.out.ext HB1.out).rd32 HRL.out) (bvs_one _) (by simp [maxLen]) (by omega) HB1.out.size (.inl HO1.out) ?_; intro v2 w2 ho2 hb2 _; have HO2 := Lib.hid ho2; have HB2 : Hid (ExtW wc w2) := Lib.hid (Below.trans HB1.out hb2); clear ho2 hb2)
  go_ret
  refine ⟨_, rfl, ?_, ExtW.trans HW2.out HB2.out⟩
  obtain ⟨A', c', e, hrd, _⟩ := Rd.of_own HO2.out
  rw [← bvs_app, ← bvs_app, List.append_assoc] at hrd
  exact ⟨A', c', e, hrd⟩
end Go.Proofs.Ythaoibgcgkmnbaa

namespace Go.Proofs.Ythaoibgcgkmnbaa
set_option maxRecDepth 100000
open Go.RowKit

/-- all that was there is as it was, but for the blocks S -/
structure Kp (S : Nat → Prop) (w W : World) : Prop where
  os : W.os = w.os
  tape : W.tape = w.tape
  output : W.output = w.output
  size : w.heap.size ≤ W.heap.size
  block : ∀ k, k < w.heap.size → ¬ S k → W.heap[k]? = w.heap[k]?
theorem Kp.refl (S : Nat → Prop) (w : World) : Kp S w w := ⟨rfl, rfl, rfl, Nat.le_refl _, fun _ _ _ => rfl⟩
theorem Kp.trans {S : Nat → Prop} {a b c : World} (h : Kp S a b) (k : Kp S b c) : Kp S a c :=
  ⟨k.os.trans h.os, k.tape.trans h.tape, k.output.trans h.output, Nat.le_trans h.size k.size, fun j hj hs => (k.block j (Nat.lt_of_lt_of_le hj h.size) hs).trans (h.block j hj hs)⟩
theorem Kp.of_ext (S : Nat → Prop) {a b : World} (k : ExtW a b) : Kp S a b := ⟨k.os, k.tape, k.output, k.size, fun j hj _ => k.block j hj⟩
theorem Kp.ext {S : Nat → Prop} {a b c : World} (h : Kp S a b) (k : ExtW b c) : Kp S a c := h.trans (Kp.of_ext S k)
theorem Kp.mono {S T : Nat → Prop} {a b : World} (h : Kp S a b) (hst : ∀ k, S k → T k) : Kp T a b := ⟨h.os, h.tape, h.output, h.size, fun j hj hs => h.block j hj fun e => hs (hst j e)⟩
theorem Kp.set {S : Nat → Prop} {a b : World} (h : Kp S a b) {g : Nat} (hg : S g ∨ a.heap.size ≤ g) (cs : Array Value) : Kp S a (b.setRow g cs) :=
  ⟨h.os, h.tape, h.output, by rw [setRow_size]; exact h.size, fun k hk hs => (setRow_other b g k cs (by rintro rfl; rcases hg with h1 | h1; exact hs h1; omega)).trans (h.block k hk hs)⟩
theorem Kp.below {S : Nat → Prop} {a b : World} (h : Kp S a b) {B : Nat} (hB : ∀ k, S k → B ≤ k) (hs : B ≤ a.heap.size) : Below B a b :=
  ⟨h.os, h.tape, h.output, h.size, fun k hk => h.block k (by omega) (fun hs' => by have := hB k hs'; omega)⟩
theorem Kp.row {S : Nat → Prop} {a b : World} (h : Kp S a b) {g : Nat} {e : TypeId} {cs : List Value} (hr : Row a g e cs) (hg : ¬ S g) : Row b g e cs := (h.block g hr.lt hg).trans hr

theorem Rd.apart {w : World} {A : Option Addr} {n c : Nat} {xs : List UInt8} (h : Rd w A n c 1 (bvs xs)) {g : Nat} {e : TypeId} {v : Value} (hr : Row w g e [v]) (hv : ∀ b : Int, v ≠ .int .u8 b) :
    ∀ a, A = some a → 0 < (bvs xs).length → a.block ≠ g := by
  intro a ha hl he
  have hl' : 0 < xs.length := by simpa [bvs] using hl
  have hc := h.cell a ha 0 _ (bvs_get xs 0 hl')
  unfold World.cell? at hc
  rw [add_block, he, hr] at hc
  simp only at hc
  split at hc
  · cases hc
  · generalize (a.add 0).off = o at hc
    cases o with
    | zero => simp at hc; exact hv _ hc
    | succ o => simp at hc
theorem Rd.kp {S : Nat → Prop} {w W : World} {A : Option Addr} {n c : Nat} {xs : List UInt8} (h : Rd w A n c 1 (bvs xs)) (k : Kp S w W) (hS : ∀ g, S g → ∃ e v, Row w g e [v] ∧ ∀ b : Int, v ≠ .int .u8 b) : Rd W A n c 1 (bvs xs) :=
  h.same fun a ha hl => k.block a.block (by subst ha; exact h.blk hl) fun hs => by
    obtain ⟨e, v, hr, hv⟩ := hS _ hs
    exact h.apart hr hv a ha hl rfl

theorem run_found (v : Value) (xt : TypeId) (W : World) : (Instr.typeAssert (.iface 94 v) xt 94 true).run Try.prog W = .ok (.tuple #[v, .bool true]) W := by
  unfold Instr.typeAssert
  simp [Sem.run_bind, run_underlying Try.underlying94 W]

def zFound : Array Value := #[.slice none 0 0, .slice none 0 0]
theorem zF_row (w : World) : Row (w.alloc (.cells zFound 94)) w.heap.size 94 [.slice none 0 0, .slice none 0 0] := heap_alloc_last _ _
/-- a new cell for what was found -/
theorem wpList_newF {ops : Array Oper} {rest : List Oper} {o : Oper} {a : Act} {w : World} {Q : Exit → Act → World → Prop} (hgd : o.guard = none) (ho : o.op = .alloc 94)
    (h : wpList Try.prog ops Q rest (a.put o.dst (.pointer (some ⟨w.heap.size, 0, none⟩))) (w.alloc (.cells zFound 94))) : wpList Try.prog ops Q (o :: rest) a w := by
  refine wpList_plain hgd fun K hK => ?_
  unfold Oper.wp
  rw [show (execOp a.eval o).run Try.prog w = .ok (.value (.pointer (some ⟨w.heap.size, 0, none⟩))) (w.alloc (.cells zFound 94)) by unfold execOp; rw [ho]; kernel_rfl]
  exact hK _ _ h
theorem infoF : (Try.prog.info? 94).map (·.size) = some 2 := by kernel_rfl
theorem heap_setCell_other (w : World) (p : Addr) (v : Value) (k : Nat) (h : k ≠ p.block) : (w.setCell p v).heap[k]? = w.heap[k]? := Below.heap_setCell w p v k h
theorem Kp.setCell {S : Nat → Prop} {a b : World} (h : Kp S a b) {g j : Nat} (hg : S g ∨ a.heap.size ≤ g) (v : Value) : Kp S a (b.setCell ⟨g, j, none⟩ v) :=
  ⟨h.os, h.tape, h.output, Nat.le_trans h.size (by simp [World.setCell]), fun k hk hs => (Below.heap_setCell b _ v k (fun e => by
    have e' : k = g := e
    subst e'
    rcases hg with h1 | h1
    · exact hs h1
    · omega)).trans (h.block k hk hs)⟩
theorem results_nil {fn : Func} (h : fn.results = #[]) (tmps : Array Value) (P : Program) (w : World) : (results fn tmps).run P w = .ok (.tuple #[]) w := by
  simp [results, h]
def S3 (ga gb gk : Nat) (k : Nat) : Prop := k = ga ∨ k = gb ∨ k = gk

set_option maxHeartbeats 20000000 in
set_option maxRecDepth 100000 in
theorem seek1_found (ga gb gk : Nat) (hab : ga < gb) (hbk : gb < gk) (A : Option Addr) (n c : Nat) (B : Option Addr) (m d : Nat) (older : List PanicEntry) (w : World) (va vb vk : Value)
    (ha : Row w ga 23 [va]) (hb : Row w gb 23 [vb]) (hk : Row w gk 4 [vk]) :
    CallsD Try.prog 57 #[.pointer (some ⟨ga, 0, none⟩), .pointer (some ⟨gb, 0, none⟩), .pointer (some ⟨gk, 0, none⟩)]
      (.panicking ({ v := .iface 94 (.agg #[.slice A n c, .slice B m d]), recovered := false } :: older)) w fun e u' w' =>
      e = .returned (.tuple #[]) ∧ u' = .panicking ({ v := .iface 94 (.agg #[.slice A n c, .slice B m d]), recovered := true } :: older) ∧
        Row w' ga 23 [.slice A n c] ∧ Row w' gb 23 [.slice B m d] ∧ Row w' gk 4 [.bool true] ∧ Kp (S3 ga gb gk) w w' := by
  have HA := Lib.hid ha
  have HB := Lib.hid hb
  have HK := Lib.hid hk
  have HLT : Hid (ga < gb ∧ gb < gk) := Lib.hid ⟨hab, hbk⟩
  clear ha hb hk hab hbk
  refine callsD_of_wpS Try.func57 rfl fun c₀ cs hu => ?_
  apply wpS_seq
  apply wpS_region
  simp [wpOpsS, go_sem, recoverD, hu, Try.ntmps57, Exit.thenS]
  refine wpS_of_wp ?_
  generalize hQ : (fun (e : Exit) (a' : Act) (w' : World) => bodyPostS Try.prog Try.f57 c₀ cs _ e a' _ w') = Q
  have HQ := Lib.hid hQ
  clear hQ hu
  simp only [Array.replicate_succ, Array.replicate_zero, List.push_toArray, List.append_toArray, List.nil_append, List.cons_append, List.setIfInBounds_toArray, List.set_cons_succ, List.set_cons_zero]
  obtain ⟨fd, hfd⟩ : ∃ fd : Array Value, fd = #[.slice A n c, .slice B m d] := ⟨_, rfl⟩
  rw [← hfd] at HQ ⊢
  have HFS : Hid (fd.size = 2 ∧ fd.all (·.oneCell') = true) := Lib.hid (by subst hfd; exact ⟨rfl, by simp [Value.oneCell']⟩)
  have HFD := Lib.hid hfd
  clear hfd
  have hta := run_found
  go_upto_region 6 with (fail)
  clear hta
  go_upto_region 7 with (first | (refine wpList_newF rfl rfl ?_) | (refine wpList_st rfl rfl ?_; refine ⟨w.heap.size, fd, _, _, rfl, rfl, zF_row w, infoF.trans (congrArg some HFS.out.1.symm), HFS.out.1.symm, HFS.out.2, ?_⟩))
  obtain rfl := HFD.out
  clear HFS HFD
  have HF : Hid (Row ((w.alloc (.cells zFound 94)).setRow w.heap.size #[.slice A n c, .slice B m d]) w.heap.size 94 [.slice A n c, .slice B m d]) := Lib.hid ((zF_row w).setRow _)
  have HE : Hid (ExtW w ((w.alloc (.cells zFound 94)).setRow w.heap.size #[.slice A n c, .slice B m d])) := Lib.hid (below_setRow ((Below.refl _ _).alloc (Nat.le_refl _) _) (Nat.le_refl _) _)
  generalize (w.alloc (.cells zFound 94)).setRow w.heap.size #[.slice A n c, .slice B m d] = w1 at HF HE ⊢
  obtain ⟨gf, hgf⟩ : ∃ g, g = w.heap.size := ⟨_, rfl⟩
  have HGF : Hid (ga < gf ∧ gb < gf ∧ gk < gf) := Lib.hid (by have h1 := HA.out.lt; have h2 := HB.out.lt; have h3 := HK.out.lt; omega)
  rw [← hgf] at HF ⊢
  have HA1 := Lib.hid (HA.out.ext HE.out)
  have HB1 := Lib.hid (HB.out.ext HE.out)
  have HK1 := Lib.hid (HK.out.ext HE.out)
  clear hgf HA HB HK
  apply wp_region_mut 5 4 (fun b W => Kp (S3 ga gb gk) w1 W ∧ Row W gf 94 [.slice A n c, .slice B m d] ∧ Row W gb 23 [vb] ∧ Row W gk 4 [vk] ∧ Row W ga 23 [if b then .slice A n c else va]) _ (by kernel_rfl) (by kernel_rfl) (by decide)
    (fun b W W' h1 h2 => ⟨h1.1.ext h2, h1.2.1.ext h2, h1.2.2.1.ext h2, h1.2.2.2.1.ext h2, h1.2.2.2.2.ext h2⟩)
    ⟨Kp.of_ext _ (Below.refl _ _).drew, HF.out.ext (Below.refl _ _).drew, HB1.out.ext (Below.refl _ _).drew, HK1.out.ext (Below.refl _ _).drew, HA1.out.ext (Below.refl _ _).drew⟩
  simp only [List.take_succ_cons, List.take_zero, List.drop_succ_cons, List.drop_zero]
  (apply wpM_det (by decide); (intro bq wq hJ hG; first | exact obl_non (by rfl) | (apply obl_val (by rfl); go_simp <;> rfl)); (intro ak hak; simp only [Act.put, List.setIfInBounds_toArray, List.set_cons_succ, List.set_cons_zero] at hak; subst hak))
  (apply wpM_det (by decide); (intro bq wq hJ hG; have kk := hJ.2.1.cell (j := 0) rfl; apply obl_val (by rfl); go_simp; rfl); (intro ak hak; simp only [Act.put, List.setIfInBounds_toArray, List.set_cons_succ, List.set_cons_zero] at hak; subst hak))
  (apply wpM_det (by decide); (intro bq wq hJ hG; first | exact obl_non (by rfl) | (apply obl_val (by rfl); go_simp <;> rfl)); (intro ak hak; simp only [Act.put, List.setIfInBounds_toArray, List.set_cons_succ, List.set_cons_zero] at hak; subst hak))
  (apply wpM_det (by decide); (intro bq wq hJ hG; have kk := hJ.2.1.cell (j := 1) rfl; apply obl_val (by rfl); go_simp; rfl); (intro ak hak; simp only [Act.put, List.setIfInBounds_toArray, List.set_cons_succ, List.set_cons_zero] at hak; subst hak))
  apply wpM_nd (fun v W => v = undef) rfl (fun v W W' h1 _ => h1)
  · intro wq hJ
    have k1 := hJ.2.2.2.2.cell (j := 0) rfl
    have k2 := hJ.2.2.2.2.frozen 0
    apply oblMut_on (by kernel_rfl)
    go_simp
    simp only [mutUpon]
    exact ⟨⟨hJ.1.setCell (.inl (.inl rfl)) _, hJ.2.1.other (by have := HGF.out; show gf ≠ ga; omega) _, hJ.2.2.1.other (by have := HLT.out; show gb ≠ ga; omega) _, hJ.2.2.2.1.other (by have := HLT.out; show gk ≠ ga; omega) _, hJ.2.2.2.2.set 0 _⟩, trivial⟩
  (intro u4 ak hak; simp only [Act.put] at hak; subst hak)
  (apply wpM_nil; intro wq hJ hG)
  obtain ⟨hJ1, hJ2, hJ3, hJ4, hJ5⟩ := hJ
  have k1 := hJ3.cell (j := 0) rfl
  have k2 := hJ3.frozen 0
  have hJ4' := hJ4.other (p := ⟨gb, 0, none⟩) (by have := HLT.out; show gk ≠ gb; omega) (.slice B m d)
  have k3 := hJ4'.cell (j := 0) rfl
  have k4 := hJ4'.frozen 0
  have HP : Hid (Row ((wq.setCell ⟨gb, 0, none⟩ (.slice B m d)).setCell ⟨gk, 0, none⟩ (.bool true)) ga 23 [.slice A n c] ∧ Row ((wq.setCell ⟨gb, 0, none⟩ (.slice B m d)).setCell ⟨gk, 0, none⟩ (.bool true)) gb 23 [.slice B m d] ∧
      Row ((wq.setCell ⟨gb, 0, none⟩ (.slice B m d)).setCell ⟨gk, 0, none⟩ (.bool true)) gk 4 [.bool true] ∧ Kp (S3 ga gb gk) w ((wq.setCell ⟨gb, 0, none⟩ (.slice B m d)).setCell ⟨gk, 0, none⟩ (.bool true))) := Lib.hid
    ⟨(hJ5.other (by have := HLT.out; show ga ≠ gb; omega) _).other (by have := HLT.out; show ga ≠ gk; omega) _, (hJ3.set 0 _).other (by have := HLT.out; show gb ≠ gk; omega) _, hJ4'.set 0 _,
      (Kp.of_ext _ HE.out).trans (Kp.setCell (Kp.setCell hJ1 (.inl (.inr (.inl rfl))) _) (.inl (.inr (.inr rfl))) _)⟩
  clear hG hJ1 hJ2 hJ3 hJ4 hJ5 hJ4'
  go_wp2
  (try simp only [Exit.inBlock, Exit.then])
  rw [← HQ.out]
  obtain ⟨p1, p2, p3, p4⟩ := HP.out
  exact ⟨rfl, _, rfl, _, results_nil rfl _ _ _, rfl, rfl, p1, p2, p3, p4⟩

set_option maxHeartbeats 20000000 in
set_option maxRecDepth 100000 in
theorem seek1_idle (ga gb gk : Nat) (w : World) :
    CallsD Try.prog 57 #[.pointer (some ⟨ga, 0, none⟩), .pointer (some ⟨gb, 0, none⟩), .pointer (some ⟨gk, 0, none⟩)] .returning w fun e u' w' =>
      e = .returned (.tuple #[]) ∧ u' = .returning ∧ w' = w := by
  refine callsD_of_wpS Try.func57 rfl fun c₀ cs hu => ?_
  apply wpS_seq
  apply wpS_region
  simp [wpOpsS, go_sem, recoverD, hu, Try.ntmps57, Exit.thenS]
  refine wpS_of_wp ?_
  generalize hQ : (fun (e : Exit) (a' : Act) (w' : World) => bodyPostS Try.prog Try.f57 c₀ cs _ e a' _ w') = Q
  have HQ := Lib.hid hQ
  have HU := Lib.hid hu
  clear hQ hu
  simp only [Array.replicate_succ, Array.replicate_zero, List.push_toArray, List.append_toArray, List.nil_append, List.cons_append, List.setIfInBounds_toArray, List.set_cons_succ, List.set_cons_zero]
  go_wp2
  rw [← HQ.out]
  exact ⟨rfl, c₀.mode, rfl, _, results_nil rfl _ _ _, rfl, HU.out, rfl⟩

theorem load_bs (w : World) (g : Nat) (v : Value) (h : w.cell? ⟨g, 0, none⟩ = some v) : (loadVar 23 ⟨g, 0, none⟩).run Try.prog w = .ok v w := by simp [go_sem, h]
theorem load_bl (w : World) (g : Nat) (v : Value) (h : w.cell? ⟨g, 0, none⟩ = some v) : (loadVar 4 ⟨g, 0, none⟩).run Try.prog w = .ok v w := by simp [go_sem, h]
theorem results_ccc {fn : Func} {p q r : Tmp} {ty tz tu : TypeId} (h : fn.results = #[.cell p ty, .cell q tz, .cell r tu]) (tmps : Array Value) (P : Program) (w : World) {a b c : Addr} {va vb vc : Value}
    (h1 : tmps.getD p undef = .pointer (some a)) (h2 : tmps.getD q undef = .pointer (some b)) (h3 : tmps.getD r undef = .pointer (some c))
    (k1 : (loadVar ty a).run P w = .ok va w) (k2 : (loadVar tz b).run P w = .ok vb w) (k3 : (loadVar tu c).run P w = .ok vc w) : (results fn tmps).run P w = .ok (.tuple #[va, vb, vc]) w := by
  have h1' : tmps[p]?.getD undef = .pointer (some a) := by simpa using h1
  have h2' : tmps[q]?.getD undef = .pointer (some b) := by simpa using h2
  have h3' : tmps[r]?.getD undef = .pointer (some c) := by simpa using h3
  simp only [results, h]
  simp [Result.andThen, h1', h2', h3', asAddr, k1, k2, k3]

/-- what Of and its like hand back -/
def OfPost (o : Option (List UInt8 × List UInt8)) (w : World) (e : Ending) (w' : World) : Prop :=
  ExtW w w' ∧ match o with
  | none => e = .returned (.tuple #[.slice none 0 0, .slice none 0 0, .bool false])
  | some (x, y) => ∃ A n c B m d, e = .returned (.tuple #[.slice A n c, .slice B m d, .bool true]) ∧ Rd w' A n c 1 (bvs x) ∧ Rd w' B m d 1 (bvs y)
theorem OfPost.up {o : Option (List UInt8 × List UInt8)} {w wq : World} {e : Ending} {w' : World} (h : OfPost o wq e w') (hb : ExtW w wq) : OfPost o w e w' := ⟨ExtW.trans hb h.1, h.2⟩

set_option maxHeartbeats 20000000 in
set_option maxRecDepth 100000 in
theorem seek_any (f : FuncId) (caps : Array Value) (o : Option (List UInt8 × List UInt8)) (w : World) (hf : ∀ W, (callFunc f caps).run Try.prog W = .ok (.enter f caps) W) (hc : ∀ W, ExtW w W → Calls Try.prog f caps W (DiffPost o W)) :
    Calls Try.prog 37 #[.func (.func f) #[] caps] w (OfPost o w) := by
  have hmf : ∀ (fn : Fn) (first cap : Array Value) (w : World), (Instr.makeFunc fn first cap).run Try.prog w = .ok (.func fn first cap) w := fun _ _ _ _ => rfl
  have HC := Lib.hid hc
  clear hc
  go_enter_defers Try.func37, Try.ntmps37
  go_upto_region 1 with (fail)
  have H1 : Hid (Row (w.alloc (.cells #[.slice none 0 0] 23)) w.heap.size 23 [.slice none 0 0]) := Lib.hid (heap_alloc_last _ _)
  have E1 : Hid (ExtW w (w.alloc (.cells #[.slice none 0 0] 23))) := Lib.hid ((Below.refl _ _).alloc (Nat.le_refl _) _)
  have Z1 : Hid ((w.alloc (.cells #[.slice none 0 0] 23)).heap.size = w.heap.size + 1) := Lib.hid (by simp)
  generalize w.alloc (.cells #[.slice none 0 0] 23) = w1 at H1 E1 Z1 ⊢
  have H2 : Hid (Row (w1.alloc (.cells #[.slice none 0 0] 23)) w1.heap.size 23 [.slice none 0 0]) := Lib.hid (heap_alloc_last _ _)
  have E2 : Hid (ExtW w1 (w1.alloc (.cells #[.slice none 0 0] 23))) := Lib.hid ((Below.refl _ _).alloc (Nat.le_refl _) _)
  have Z2 : Hid ((w1.alloc (.cells #[.slice none 0 0] 23)).heap.size = w1.heap.size + 1) := Lib.hid (by simp)
  rw [Z1.out] at H2 Z2
  generalize w1.alloc (.cells #[.slice none 0 0] 23) = w2 at H2 E2 Z2 ⊢
  have H3 : Hid (Row (w2.alloc (.cells #[.bool false] 4)) w2.heap.size 4 [.bool false]) := Lib.hid (heap_alloc_last _ _)
  have E3 : Hid (ExtW w2 (w2.alloc (.cells #[.bool false] 4))) := Lib.hid ((Below.refl _ _).alloc (Nat.le_refl _) _)
  rw [Z2.out] at H3
  generalize w2.alloc (.cells #[.bool false] 4) = w3 at H3 E3 ⊢
  have HA := Lib.hid ((H1.out.ext E2.out).ext E3.out)
  have HB := Lib.hid (H2.out.ext E3.out)
  have HE := Lib.hid (ExtW.trans E1.out (ExtW.trans E2.out E3.out))
  obtain ⟨ga, hga⟩ : ∃ g, g = w.heap.size := ⟨_, rfl⟩
  obtain ⟨gb, hgb⟩ : ∃ g, g = w.heap.size + 1 := ⟨_, rfl⟩
  obtain ⟨gk, hgk⟩ : ∃ g, g = w.heap.size + 1 + 1 := ⟨_, rfl⟩
  rw [← hga] at HA
  rw [← hgb] at HB
  rw [← hgk] at H3
  rw [← hgk, ← hgb, ← hga]
  have HG : Hid (w.heap.size ≤ ga ∧ ga < gb ∧ gb < gk) := Lib.hid (by omega)
  clear hga hgb hgk H1 H2 E1 E2 E3 Z1 Z2
  go_wp2_with fail
  refine (HC.out w3 HE.out).mono ?_
  intro e w4 h
  have HA4 := Lib.hid (HA.out.ext h.1)
  have HB4 := Lib.hid (HB.out.ext h.1)
  have HK4 := Lib.hid (H3.out.ext h.1)
  have HE4 := Lib.hid (ExtW.trans HE.out h.1)
  obtain ⟨_, h⟩ := h
  clear HA HB H3 HE
  cases o with
  | none =>
    simp only at h
    subst h
    have k1 := HA4.out.cell (j := 0) rfl
    have k2 := HA4.out.frozen 0
    have hB5 := HB4.out.other (p := ⟨ga, 0, none⟩) (by have := HG.out; show gb ≠ ga; omega) (.slice none 0 0)
    have k3 := hB5.cell (j := 0) rfl
    have k4 := hB5.frozen 0
    have hK5 := (HK4.out.other (p := ⟨ga, 0, none⟩) (by have := HG.out; show gk ≠ ga; omega) (.slice none 0 0)).other (p := ⟨gb, 0, none⟩) (by have := HG.out; show gk ≠ gb; omega) (.slice none 0 0)
    have k5 := hK5.cell (j := 0) rfl
    have k6 := hK5.frozen 0
    have HP : Hid (Row (((w4.setCell ⟨ga, 0, none⟩ (.slice none 0 0)).setCell ⟨gb, 0, none⟩ (.slice none 0 0)).setCell ⟨gk, 0, none⟩ (.bool false)) ga 23 [.slice none 0 0] ∧
        Row (((w4.setCell ⟨ga, 0, none⟩ (.slice none 0 0)).setCell ⟨gb, 0, none⟩ (.slice none 0 0)).setCell ⟨gk, 0, none⟩ (.bool false)) gb 23 [.slice none 0 0] ∧
        Row (((w4.setCell ⟨ga, 0, none⟩ (.slice none 0 0)).setCell ⟨gb, 0, none⟩ (.slice none 0 0)).setCell ⟨gk, 0, none⟩ (.bool false)) gk 4 [.bool false] ∧
        ExtW w (((w4.setCell ⟨ga, 0, none⟩ (.slice none 0 0)).setCell ⟨gb, 0, none⟩ (.slice none 0 0)).setCell ⟨gk, 0, none⟩ (.bool false))) := Lib.hid
      ⟨((HA4.out.set 0 _).other (by have := HG.out; show ga ≠ gb; omega) _).other (by have := HG.out; show ga ≠ gk; omega) _, (hB5.set 0 _).other (by have := HG.out; show gb ≠ gk; omega) _, hK5.set 0 _,
        Kp.below (S := fun _ => False) (Kp.setCell (Kp.setCell (Kp.setCell (Kp.of_ext _ HE4.out) (.inr (by have := HG.out; omega)) _) (.inr (by have := HG.out; omega)) _) (.inr (by have := HG.out; omega)) _) (fun k hk => hk.elim) (Nat.le_refl _)⟩
    clear hB5 hK5
    go_wp2
    refine leaves_cons (f := 57) (args := #[.pointer (some ⟨ga, 0, none⟩), .pointer (some ⟨gb, 0, none⟩), .pointer (some ⟨gk, 0, none⟩)]) (by simp) (by simp [go_sem]) ?_
    refine (seek1_idle ga gb gk _).mono ?_
    rintro e u' w'' ⟨rfl, rfl, rfl⟩
    obtain ⟨p1, p2, p3, p4⟩ := HP.out
    exact ⟨_, results_ccc rfl _ _ _ rfl rfl rfl (load_bs _ _ _ (p1.cell (j := 0) rfl)) (load_bs _ _ _ (p2.cell (j := 0) rfl)) (load_bl _ _ _ (p3.cell (j := 0) rfl)), p4, rfl⟩
  | some p =>
    obtain ⟨x, y⟩ := p
    obtain ⟨A, n, c, B, m, d, rfl, hx, hy⟩ := h
    refine leaves_cons (f := 57) (args := #[.pointer (some ⟨ga, 0, none⟩), .pointer (some ⟨gb, 0, none⟩), .pointer (some ⟨gk, 0, none⟩)]) (by simp) (by simp [go_sem]) ?_
    refine (seek1_found ga gb gk (by have := HG.out; omega) (by have := HG.out; omega) A n c B m d [] w4 _ _ _ HA4.out HB4.out HK4.out).mono ?_
    rintro e u' w'' ⟨rfl, rfl, p1, p2, p3, p4⟩
    have hS : ∀ g, S3 ga gb gk g → ∃ e v, Row w4 g e [v] ∧ ∀ b : Int, v ≠ .int .u8 b := by
      rintro g (rfl | rfl | rfl)
      · exact ⟨_, _, HA4.out, fun b e => by cases e⟩
      · exact ⟨_, _, HB4.out, fun b e => by cases e⟩
      · exact ⟨_, _, HK4.out, fun b e => by cases e⟩
    exact ⟨_, results_ccc rfl _ _ _ rfl rfl rfl (load_bs _ _ _ (p1.cell (j := 0) rfl)) (load_bs _ _ _ (p2.cell (j := 0) rfl)) (load_bl _ _ _ (p3.cell (j := 0) rfl)),
      Below.trans HE4.out (p4.below (by rintro k (rfl | rfl | rfl) <;> have := HG.out <;> omega) HE4.out.size), A, n, c, B, m, d, rfl, hx.kp p4 hS, hy.kp p4 hS⟩
end Go.Proofs.Ythaoibgcgkmnbaa

namespace Go.Proofs.Ythaoibgcgkmnbaa
set_option maxRecDepth 100000
open Go.RowKit

theorem DiffPost.up {o : Option (List UInt8 × List UInt8)} {w wq : World} {e : Ending} {w' : World} (h : DiffPost o wq e w') (hb : ExtW w wq) : DiffPost o w e w' := ⟨ExtW.trans hb h.1, h.2⟩
theorem DiffPost.two {o : Option (List UInt8 × List UInt8)} {w : World} {e : Ending} {w' : World} (h : DiffPost o w e w') : (o = none ∧ e = .returned (.tuple #[])) ∨ ∃ p ch, o = some p ∧ e = .panicked ch := by
  obtain ⟨_, h⟩ := h
  cases o with
  | none => exact .inl ⟨rfl, h⟩
  | some p =>
    obtain ⟨x, y⟩ := p
    obtain ⟨A, n, c, B, m, d, h, _⟩ := h
    exact .inr ⟨_, _, rfl, h⟩

/-- a function that compares the pair p, whatever is done to the blocks S -/
def Clos (S : Nat → Prop) (w : World) (v : Value) (p : List UInt8 × List UInt8) : Prop :=
  ∃ f caps, v = .func (.func f) #[] caps ∧ (∀ W, (callFunc f caps).run Try.prog W = .ok (.enter f caps) W) ∧ ∀ W, Kp S w W → Calls Try.prog f caps W (DiffPost (T.diff1 [p]) W)
theorem Clos.kp {S : Nat → Prop} {w w' : World} {v : Value} {p : List UInt8 × List UInt8} (h : Clos S w v p) (k : Kp S w w') : Clos S w' v p := by
  obtain ⟨f, caps, e, hf, h⟩ := h
  exact ⟨f, caps, e, hf, fun W hW => h W (k.trans hW)⟩
theorem Clos.sub {S T : Nat → Prop} {w : World} {v : Value} {p : List UInt8 × List UInt8} (h : Clos T w v p) (hst : ∀ k, S k → T k) : Clos S w v p := by
  obtain ⟨f, caps, e, hf, h⟩ := h
  exact ⟨f, caps, e, hf, fun W hW => h W (hW.mono hst)⟩
theorem Clos.one {S : Nat → Prop} {w : World} {v : Value} {p : List UInt8 × List UInt8} (h : Clos S w v p) : v.oneCell' = true := by
  obtain ⟨f, caps, rfl, _⟩ := h
  rfl

/-- a list of such functions in memory of the call's own -/
def OwnCl (S : Nat → Prop) (base : Nat) (ps : List (List UInt8 × List UInt8)) (v : Value) (w : World) : Prop :=
  ∃ xs : List Value, w.ownsRow base 1 1 v ps.length xs ∧ ∀ (i : Nat) (x : Value) (p : List UInt8 × List UInt8), xs[i]? = some x → ps[i]? = some p → Clos (fun k => S k ∨ v.ownBlock = some k) w x p
theorem OwnCl.kp {S : Nat → Prop} {base : Nat} {ps : List (List UInt8 × List UInt8)} {v : Value} {w w' : World} (h : OwnCl S base ps v w) (k : Kp S w w') (hS : ∀ j, S j → j < base) : OwnCl S base ps v w' := by
  obtain ⟨xs, ho, hc⟩ := h
  refine ⟨xs, ⟨ho.1, ?_⟩, fun i x p h1 h2 => (hc i x p h1 h2).kp (k.mono fun j hj => .inl hj)⟩
  rcases ho.2 with h2 | ⟨g, cap, cur, hv, hbg, hg, rest⟩
  · exact .inl h2
  · refine .inr ⟨g, cap, cur, hv, hbg, ?_, rest⟩
    have : g < w.heap.size := (Array.getElem?_eq_some_iff.1 hg).1
    rw [k.block g this (fun e => by have := hS g e; omega)]; exact hg
theorem OwnCl.ext {S : Nat → Prop} {base : Nat} {ps : List (List UInt8 × List UInt8)} {v : Value} {w w' : World} (h : OwnCl S base ps v w) (hb : ExtW w w') : OwnCl S base ps v w' := by
  obtain ⟨xs, ho, hc⟩ := h
  exact ⟨xs, own_extG ho hb, fun i x p h1 h2 => (hc i x p h1 h2).kp (Kp.of_ext _ hb)⟩
theorem OwnCl.sub {S T : Nat → Prop} {base : Nat} {ps : List (List UInt8 × List UInt8)} {v : Value} {w : World} (h : OwnCl T base ps v w) (hst : ∀ k, S k → T k) : OwnCl S base ps v w := by
  obtain ⟨xs, ho, hc⟩ := h
  exact ⟨xs, ho, fun i x p h1 h2 => (hc i x p h1 h2).sub fun k hk => hk.elim (fun e => .inl (hst k e)) .inr⟩
theorem OwnCl.le {S : Nat → Prop} {base base' : Nat} {ps : List (List UInt8 × List UInt8)} {v : Value} {w : World} (h : OwnCl S base ps v w) (hb : base' ≤ base) : OwnCl S base' ps v w := by
  obtain ⟨xs, ho, hc⟩ := h
  exact ⟨xs, own_mono ho hb, hc⟩
theorem OwnCl.own {S : Nat → Prop} {base : Nat} {ps : List (List UInt8 × List UInt8)} {v : Value} {w : World} (h : OwnCl S base ps v w) : ∀ k, v.ownBlock = some k → base ≤ k ∧ k < w.heap.size := by
  obtain ⟨xs, ho, hc⟩ := h
  exact fun k hk => World.ownsRow.lt ho k hk

theorem infoC : (Try.prog.info? 1).map (fun i => (i.zero, i.size, i.bytes)) = some (some .nilFunc, 1, 8) := by kernel_rfl
theorem OwnCl.one (S : Nat → Prop) {base g : Nat} {p : List UInt8 × List UInt8} {f : Value} {w : World} (hb : base ≤ g) (hg : Row w g 1 [f]) (hc : Clos (fun k => S k ∨ k = g) w f p) : OwnCl S base [p] (.slice (some ⟨g, 0, none⟩) 1 1) w := by
  refine ⟨[f], ⟨rfl, .inr ⟨g, 1, #[f], rfl, hb, hg, Nat.le_refl _, by simp [maxLen], rfl, rfl⟩⟩, fun i x q hx hq => ?_⟩
  cases i with
  | zero =>
    simp at hx hq
    subst hx hq
    exact hc.sub fun k hk => hk.elim .inl fun e => .inr (Option.some.inj e).symm
  | succ i => simp at hx

theorem wpList_append_cl {ops : Array Oper} {rest : List Oper} {o : Oper} {a : Act} {w : World} {Q : Exit → Act → World → Prop} (hgd : o.guard = none) (s x : Operand)
    (ho : o.op = .call { callee := .builtin .append, args := #[s, x], argTypes := #[57, 57] }) {S : Nat → Prop} {base : Nat} {ps : List (List UInt8 × List UInt8)} {v f : Value} {p : List UInt8 × List UInt8} {g : Nat}
    (hs : a.eval s = v) (hx : a.eval x = .slice (some ⟨g, 0, none⟩) 1 1) (h0 : OwnCl S base ps v w) (hg : w.cell? ⟨g, 0, none⟩ = some f) (hf : Clos (fun k => S k ∨ v.ownBlock = some k) w f p) (hl : ps.length ≤ 1000000) (hb : base ≤ w.heap.size)
    (h : ∀ v' w', OwnCl S base (ps ++ [p]) v' w' → Below base w w' → wpList Try.prog ops Q rest (a.put o.dst v') w') : wpList Try.prog ops Q (o :: rest) a w := by
  obtain ⟨i0, hi, hz0, hz1, hz2⟩ := info_parts infoC
  obtain ⟨xs, hown, hc⟩ := h0
  have hlen : xs.length = ps.length := by have := hown.1; omega
  refine wpList_append_own_at w hgd s x _ ho base _ i0 _ 1 8 Try.underlying57 hi hz0 hz1 hz2 rfl (by omega) v ps.length xs hs hown ⟨g, 0, none⟩ 1 1 [f] hx rfl
    (fun j u hj => by
      cases j with
      | zero => simp at hj; subst hj; rw [Addr.add_mid]; exact hg
      | succ j => simp at hj) (fun u hu => by rw [List.mem_singleton.1 hu]; exact hf.one) (by simp [maxLen]; omega) (by omega) hb ?_
  intro v' w' h1 h2 _ h4
  have hkp : ∀ W, Kp (fun k => S k ∨ v'.ownBlock = some k) w' W → Kp (fun k => S k ∨ v.ownBlock = some k) w W := by
    intro W hW
    refine ⟨hW.os.trans h2.os, hW.tape.trans h2.tape, hW.output.trans h2.output, Nat.le_trans h2.size hW.size, fun k hk hs => ?_⟩
    have hne : v.ownBlock ≠ some k := fun e => hs (.inr e)
    refine (hW.block k (Nat.lt_of_lt_of_le hk h2.size) ?_).trans (h2.block k hk (fun e => hne e.symm))
    rintro (e | e)
    · exact hs (.inl e)
    · rcases h4 with h5 | h5
      · exact hne (h5 ▸ e)
      · rw [h5] at e
        have := Option.some.inj e
        omega
  refine h v' w' ⟨xs ++ [f], by rw [List.length_append]; exact h1, fun i y q hy hq => ?_⟩ ((Below.refl _ _).grown h2 hb fun k hk => (World.ownsRow.lt hown k hk).1)
  have key : Clos (fun k => S k ∨ v.ownBlock = some k) w y q := by
    rcases Nat.lt_or_ge i ps.length with hi2 | hi2
    · rw [List.getElem?_append_left (by omega)] at hy
      rw [List.getElem?_append_left hi2] at hq
      exact hc i y q hy hq
    · rw [List.getElem?_append_right (by omega)] at hy
      rw [List.getElem?_append_right hi2] at hq
      rw [hlen] at hy
      generalize i - ps.length = j at hy hq
      cases j with
      | zero => simp at hy hq; subst hy hq; exact hf
      | succ j => simp at hy
  obtain ⟨f', caps, e, hcf, hcl⟩ := key
  exact ⟨f', caps, e, hcf, fun W hW => hcl W (hkp W hW)⟩

set_option maxHeartbeats 4000000 in
set_option maxRecDepth 100000 in
theorem leafC_any (gl gs : Nat) (A : Option Addr) (n c : Nat) (xs : List UInt8) (B : Option Addr) (m d : Nat) (ys : List UInt8) (w : World) (hgl : Row w gl 23 [.slice A n c]) (hgs : Row w gs 22 [.slice B m d])
    (hx : Rd w A n c 1 (bvs xs)) (hn : n ≤ 1000000) (hl : Bss w B m d [ys]) (hlv : ys.length ≤ 1000000) :
    Calls Try.prog 29 #[.pointer (some ⟨gl, 0, none⟩), .pointer (some ⟨gs, 0, none⟩)] w (DiffPost (T.diff1 [(T.ltx xs, T.ltx ys)]) w) := by
  have hm : m = 1 := hl.len.symm
  subst hm
  cases hB : B with
  | none => have h1 := hl.nil0 hB; have h2 := hl.nc; omega
  | some b =>
  subst hB
  obtain ⟨D, q, dd, hcell, hrd⟩ := hl.row b rfl 0 ys rfl
  rw [show b.add 0 = b by unfold Addr.add; simp] at hcell
  have HM : Hid (q ≤ 1000000) := Lib.hid (by have h2 := hrd.len; rw [bvs_len] at h2; omega)
  have HX := Lib.hid hx
  have HN := Lib.hid hn
  have HGL := Lib.hid (hgl.cell (j := 0) rfl)
  have HGS := Lib.hid (hgs.cell (j := 0) rfl)
  have HC := Lib.hid hcell
  have HRD := Lib.hid hrd
  clear hgl hgs hx hn hl hlv hcell hrd
  go_enter Try.func29, Try.ntmps29
  apply wp_region_ext_tail 6 _ (by kernel_rfl) (by kernel_rfl)
  simp only [List.take_succ_cons, List.take_zero, List.drop_succ_cons, List.drop_zero]
  (apply wpZ_det; (intro wq hE hG; have kk := (ExtW.of_drew hE).cellAt HGL.out; apply obl_val (by rfl); go_simp <;> rfl); (intro ak hak; simp only [Act.put, List.setIfInBounds_toArray, List.set_cons_succ, List.set_cons_zero] at hak; subst hak))
  apply wpZ_nd (BytesF (1 + n) (T.ltx xs)) (BytesF.mono _ _)
  · intro wq hE hG
    apply obl_on (by kernel_rfl)
    go_simp
    simp only [extUpon_enter]
    refine (leafText_any A n c xs _ (HX.out.below (ExtW.of_drew hE) (Nat.le_refl _)) (Nat.le_trans HN.out (by decide))).mono ?_
    rintro e w' ⟨v, rfl, ho, hb⟩
    exact ⟨v, rfl, hb, ho⟩
  (intro u ak hak; simp only [Act.put, List.setIfInBounds_toArray, List.set_cons_succ, List.set_cons_zero] at hak; subst hak)
  (apply wpZ_det; (intro wq hE hG; have kk := (ExtW.of_drew hE).cellAt HGS.out; apply obl_val (by rfl); go_simp <;> rfl); (intro ak hak; simp only [Act.put, List.setIfInBounds_toArray, List.set_cons_succ, List.set_cons_zero] at hak; subst hak))
  (apply wpZ_det; (intro wq hE hG; first | exact obl_non (by rfl) | (apply obl_val (by rfl); go_simp <;> rfl)); (intro ak hak; simp only [Act.put, List.setIfInBounds_toArray, List.set_cons_succ, List.set_cons_zero] at hak; subst hak))
  (apply wpZ_det; (intro wq hE hG; have kk := (ExtW.of_drew hE).cellAt HC.out; apply obl_val (by rfl); go_simp <;> rfl); (intro ak hak; simp only [Act.put, List.setIfInBounds_toArray, List.set_cons_succ, List.set_cons_zero] at hak; subst hak))
  apply wpZ_nd (BytesF (1 + q) (T.ltx ys)) (BytesF.mono _ _)
  · intro wq hE hG
    apply obl_on (by kernel_rfl)
    go_simp
    simp only [extUpon_enter]
    refine (leafText_any D q dd ys _ (HRD.out.below (ExtW.of_drew hE) (Nat.le_refl _)) (Nat.le_trans HM.out (by decide))).mono ?_
    rintro e w' ⟨v, rfl, ho, hb⟩
    exact ⟨v, rfl, hb, ho⟩
  (intro u2 ak hak; simp only [Act.put, List.setIfInBounds_toArray, List.set_cons_succ, List.set_cons_zero] at hak; subst hak)
  (apply wpZ_nil; intro wq hE hG)
  obtain ⟨A1, c1, rfl, h1⟩ : BytesF (1 + n) (T.ltx xs) u wq := hG _ (List.mem_cons_of_mem _ (List.mem_cons_self ..))
  obtain ⟨B1, d1, rfl, h2⟩ : BytesF (1 + q) (T.ltx ys) u2 wq := hG _ (List.mem_cons_self ..)
  have H1 := Lib.hid h1
  have H2 := Lib.hid h2
  have HE := Lib.hid (ExtW.of_drew hE)
  clear hE hG h1 h2
  go_wp2_with fail
  refine (compare_any A1 _ c1 _ B1 _ d1 _ wq H1.out H2.out).mono ?_
  intro e w1 h
  have HD := Lib.hid (h.up HE.out)
  rcases h.two with ⟨_, rfl⟩ | ⟨p, ch, _, rfl⟩
  · clear h
    go_wp2
    go_end0
    exact HD.out
  · exact ⟨rfl, HD.out⟩

set_option maxHeartbeats 4000000 in
set_option maxRecDepth 100000 in
theorem loC_any (gd gp ga gb : Nat) (d p a b : List UInt8) (w : World) (hd : d.length = 32) (hp : p.length = 32) (ha : a.length = 32) (hb : b.length = 32)
    (rd : Row w gd 45 (bvs d)) (rp : Row w gp 45 (bvs p)) (ra : Row w ga 45 (bvs a)) (rb : Row w gb 45 (bvs b)) :
    Calls Try.prog 34 #[.pointer (some ⟨gd, 0, none⟩), .pointer (some ⟨gp, 0, none⟩), .pointer (some ⟨ga, 0, none⟩), .pointer (some ⟨gb, 0, none⟩)] w (DiffPost (T.diff1 [(T.ntx d p, T.ntx a b)]) w) := by
  have HLD := Lib.hid hd
  have HLP := Lib.hid hp
  have HLA := Lib.hid ha
  have HLB := Lib.hid hb
  have HD := Lib.hid rd
  have HP := Lib.hid rp
  have HA := Lib.hid ra
  have HB := Lib.hid rb
  clear hd hp ha hb rd rp ra rb
  go_enter Try.func34, Try.ntmps34
  apply wp_region_ext_tail 6 _ (by kernel_rfl) (by kernel_rfl)
  simp only [List.take_succ_cons, List.take_zero, List.drop_succ_cons, List.drop_zero]
  (apply wpZ_det; (intro wq hE hG; exact obl_ldg (by rfl) rfl (by rfl) (HD.out.ext (ExtW.of_drew hE)) Try.underlying45 rfl (sizeD HLD.out)); (intro ak hak; simp only [Act.put, List.setIfInBounds_toArray, List.set_cons_succ, List.set_cons_zero] at hak; subst hak))
  (apply wpZ_det; (intro wq hE hG; exact obl_ldg (by rfl) rfl (by rfl) (HP.out.ext (ExtW.of_drew hE)) Try.underlying45 rfl (sizeD HLP.out)); (intro ak hak; simp only [Act.put, List.setIfInBounds_toArray, List.set_cons_succ, List.set_cons_zero] at hak; subst hak))
  apply wpZ_nd (BytesF 65 (T.ntx d p)) (BytesF.mono _ _)
  · intro wq hE hG
    apply obl_on (by kernel_rfl)
    go_simp
    simp only [extUpon_enter]
    refine (nodeText_any d p _ HLD.out HLP.out).mono ?_
    rintro e w' ⟨v, rfl, ho, hb⟩
    exact ⟨v, rfl, hb, ho⟩
  (intro u ak hak; simp only [Act.put, List.setIfInBounds_toArray, List.set_cons_succ, List.set_cons_zero] at hak; subst hak)
  (apply wpZ_det; (intro wq hE hG; exact obl_ldg (by rfl) rfl (by rfl) (HA.out.ext (ExtW.of_drew hE)) Try.underlying45 rfl (sizeD HLA.out)); (intro ak hak; simp only [Act.put, List.setIfInBounds_toArray, List.set_cons_succ, List.set_cons_zero] at hak; subst hak))
  (apply wpZ_det; (intro wq hE hG; exact obl_ldg (by rfl) rfl (by rfl) (HB.out.ext (ExtW.of_drew hE)) Try.underlying45 rfl (sizeD HLB.out)); (intro ak hak; simp only [Act.put, List.setIfInBounds_toArray, List.set_cons_succ, List.set_cons_zero] at hak; subst hak))
  apply wpZ_nd (BytesF 65 (T.ntx a b)) (BytesF.mono _ _)
  · intro wq hE hG
    apply obl_on (by kernel_rfl)
    go_simp
    simp only [extUpon_enter]
    refine (nodeText_any a b _ HLA.out HLB.out).mono ?_
    rintro e w' ⟨v, rfl, ho, hb⟩
    exact ⟨v, rfl, hb, ho⟩
  (intro u2 ak hak; simp only [Act.put, List.setIfInBounds_toArray, List.set_cons_succ, List.set_cons_zero] at hak; subst hak)
  (apply wpZ_nil; intro wq hE hG)
  obtain ⟨A1, c1, rfl, h1⟩ : BytesF 65 (T.ntx d p) u wq := hG _ (List.mem_cons_of_mem _ (List.mem_cons_self ..))
  obtain ⟨B1, d1, rfl, h2⟩ : BytesF 65 (T.ntx a b) u2 wq := hG _ (List.mem_cons_self ..)
  have H1 := Lib.hid h1
  have H2 := Lib.hid h2
  have HE := Lib.hid (ExtW.of_drew hE)
  clear hE hG h1 h2
  go_wp2_with fail
  refine (compare_any A1 _ c1 _ B1 _ d1 _ wq H1.out H2.out).mono ?_
  intro e w1 h
  have HD := Lib.hid (h.up HE.out)
  rcases h.two with ⟨_, rfl⟩ | ⟨p, ch, _, rfl⟩
  · clear h
    go_wp2
    go_end0
    exact HD.out
  · exact ⟨rfl, HD.out⟩

set_option maxHeartbeats 4000000 in
set_option maxRecDepth 100000 in
theorem hiC_any (gd gp ga gb : Nat) (d p a b : List UInt8) (w : World) (hd : d.length = 32) (hp : p.length = 32) (ha : a.length = 32) (hb : b.length = 32)
    (rd : Row w gd 45 (bvs d)) (rp : Row w gp 45 (bvs p)) (ra : Row w ga 45 (bvs a)) (rb : Row w gb 45 (bvs b)) :
    Calls Try.prog 36 #[.pointer (some ⟨gd, 0, none⟩), .pointer (some ⟨gp, 0, none⟩), .pointer (some ⟨ga, 0, none⟩), .pointer (some ⟨gb, 0, none⟩)] w (DiffPost (T.diff1 [(T.ntx d p, T.ntx a b)]) w) := by
  have HLD := Lib.hid hd
  have HLP := Lib.hid hp
  have HLA := Lib.hid ha
  have HLB := Lib.hid hb
  have HD := Lib.hid rd
  have HP := Lib.hid rp
  have HA := Lib.hid ra
  have HB := Lib.hid rb
  clear hd hp ha hb rd rp ra rb
  go_enter Try.func36, Try.ntmps36
  apply wp_region_ext_tail 6 _ (by kernel_rfl) (by kernel_rfl)
  simp only [List.take_succ_cons, List.take_zero, List.drop_succ_cons, List.drop_zero]
  (apply wpZ_det; (intro wq hE hG; exact obl_ldg (by rfl) rfl (by rfl) (HD.out.ext (ExtW.of_drew hE)) Try.underlying45 rfl (sizeD HLD.out)); (intro ak hak; simp only [Act.put, List.setIfInBounds_toArray, List.set_cons_succ, List.set_cons_zero] at hak; subst hak))
  (apply wpZ_det; (intro wq hE hG; exact obl_ldg (by rfl) rfl (by rfl) (HP.out.ext (ExtW.of_drew hE)) Try.underlying45 rfl (sizeD HLP.out)); (intro ak hak; simp only [Act.put, List.setIfInBounds_toArray, List.set_cons_succ, List.set_cons_zero] at hak; subst hak))
  apply wpZ_nd (BytesF 65 (T.ntx d p)) (BytesF.mono _ _)
  · intro wq hE hG
    apply obl_on (by kernel_rfl)
    go_simp
    simp only [extUpon_enter]
    refine (nodeText_any d p _ HLD.out HLP.out).mono ?_
    rintro e w' ⟨v, rfl, ho, hb⟩
    exact ⟨v, rfl, hb, ho⟩
  (intro u ak hak; simp only [Act.put, List.setIfInBounds_toArray, List.set_cons_succ, List.set_cons_zero] at hak; subst hak)
  (apply wpZ_det; (intro wq hE hG; exact obl_ldg (by rfl) rfl (by rfl) (HA.out.ext (ExtW.of_drew hE)) Try.underlying45 rfl (sizeD HLA.out)); (intro ak hak; simp only [Act.put, List.setIfInBounds_toArray, List.set_cons_succ, List.set_cons_zero] at hak; subst hak))
  (apply wpZ_det; (intro wq hE hG; exact obl_ldg (by rfl) rfl (by rfl) (HB.out.ext (ExtW.of_drew hE)) Try.underlying45 rfl (sizeD HLB.out)); (intro ak hak; simp only [Act.put, List.setIfInBounds_toArray, List.set_cons_succ, List.set_cons_zero] at hak; subst hak))
  apply wpZ_nd (BytesF 65 (T.ntx a b)) (BytesF.mono _ _)
  · intro wq hE hG
    apply obl_on (by kernel_rfl)
    go_simp
    simp only [extUpon_enter]
    refine (nodeText_any a b _ HLA.out HLB.out).mono ?_
    rintro e w' ⟨v, rfl, ho, hb⟩
    exact ⟨v, rfl, hb, ho⟩
  (intro u2 ak hak; simp only [Act.put, List.setIfInBounds_toArray, List.set_cons_succ, List.set_cons_zero] at hak; subst hak)
  (apply wpZ_nil; intro wq hE hG)
  obtain ⟨A1, c1, rfl, h1⟩ : BytesF 65 (T.ntx d p) u wq := hG _ (List.mem_cons_of_mem _ (List.mem_cons_self ..))
  obtain ⟨B1, d1, rfl, h2⟩ : BytesF 65 (T.ntx a b) u2 wq := hG _ (List.mem_cons_self ..)
  have H1 := Lib.hid h1
  have H2 := Lib.hid h2
  have HE := Lib.hid (ExtW.of_drew hE)
  clear hE hG h1 h2
  go_wp2_with fail
  refine (compare_any A1 _ c1 _ B1 _ d1 _ wq H1.out H2.out).mono ?_
  intro e w1 h
  have HD := Lib.hid (h.up HE.out)
  rcases h.two with ⟨_, rfl⟩ | ⟨p, ch, _, rfl⟩
  · clear h
    go_wp2
    go_end0
    exact HD.out
  · exact ⟨rfl, HD.out⟩
end Go.Proofs.Ythaoibgcgkmnbaa
