/- Walk of frame.frames and of its closure. -/
import Derived.Test.YtegkcbkgoncnbaaNext
import Derived.Test.YtegkcbkgoncnbaaRf
namespace Go.Proofs.Ytegkcbkgoncnbaa
open Go.RowKit Go.Shelf

attribute [local go_sem] Oper.semAt_some

/-- what a round is handed: the body's slice, its bytes, where the next frame begins -/
structure Fram where
  v : Value
  body : List UInt8
  at' : Nat

def Fram.enc (x : Fram) : Array Value := #[x.v, .int .i64 (x.at' : Int)]
def Fram.tell (x : Fram) : List UInt8 × Nat := (x.body, x.at')

/-- frames one behind the other from p to q -/
def PathF (b : List UInt8) : Nat → List (List UInt8 × Nat) → Nat → Prop
  | p, [], q => p = q
  | p, x :: xs, q => ∃ k, nextF (b.drop p) = (x.1, k, 0) ∧ x.2 = p + k ∧ PathF b x.2 xs q

theorem PathF.snoc {b : List UInt8} {body : List UInt8} {k q : Nat} (h : nextF (b.drop q) = (body, k, 0)) : ∀ {xs : List (List UInt8 × Nat)} {p : Nat}, PathF b p xs q → PathF b p (xs ++ [(body, q + k)]) (q + k)
  | [], p, e => by cases (e : p = q); exact ⟨k, h, rfl, rfl⟩
  | x :: xs, p, ⟨k', h1, h2, h3⟩ => ⟨k', h1, h2, PathF.snoc h h3⟩

theorem nextF_cases (r : List UInt8) : (∃ body k, nextF r = (body, k, 0) ∧ 8 ≤ k ∧ k ≤ r.length ∧ body.length = k - 8) ∨ (∃ e, nextF r = ([], 0, e) ∧ e ≠ 0 ∧ e < 6) := by
  unfold nextF
  split
  · exact .inr ⟨5, rfl, by omega, by omega⟩
  · split
    · exact .inr ⟨2, rfl, by omega, by omega⟩
    · split
      · exact .inr ⟨5, rfl, by omega, by omega⟩
      · split
        · exact .inl ⟨_, _, rfl, by omega, by omega, by rw [List.length_take, List.length_drop]; omega⟩
        · exact .inr ⟨2, rfl, by omega, by omega⟩

theorem own_lt {w : World} {base : Nat} {e : TypeId} {sz : Nat} {v : Value} {n : Nat} {xs : List Value} (h : w.ownsRow base e sz v n xs) : ∀ k, v.ownBlock = some k → k < w.heap.size := by
  intro k hk
  rcases h.2 with ⟨rfl, _⟩ | ⟨g, cap, cur, rfl, _, hgb, _⟩
  · cases hk
  · cases hk; exact (Array.getElem?_eq_some_iff.1 hgb).1

theorem own_ge {w : World} {base : Nat} {e : TypeId} {sz : Nat} {v : Value} {n : Nat} {xs : List Value} (h : w.ownsRow base e sz v n xs) : ∀ k, v.ownBlock = some k → base ≤ k := by
  intro k hk
  rcases h.2 with ⟨rfl, _⟩ | ⟨g, cap, cur, rfl, hb, _⟩
  · cases hk
  · cases hk; exact hb

/-- what a round keeps: all that lay when All began, and the box of b -/
structure KpF (n₀ Bb : Nat) (W W' : World) : Prop where
  below : Below n₀ W W'
  box : W'.heap[Bb]? = W.heap[Bb]?

theorem KpF.trans {n₀ Bb : Nat} {X Y Z : World} (h : KpF n₀ Bb X Y) (k : KpF n₀ Bb Y Z) : KpF n₀ Bb X Z := ⟨h.below.trans k.below, k.box.trans h.box⟩

/-- what a round may lean on -/
def PxF (base : Nat) (pre : List Fram) (x : Fram) (W : World) : Prop :=
  pre.length ≤ 1000000000 ∧ ∃ b', base ≤ b' ∧ (∀ y, y ∈ pre → ∀ k, y.v.ownBlock = some k → k < b') ∧ W.ownsRow b' 5 1 x.v x.body.length (bvs x.body)

/-- where the last frame ends -/
def lastAt (xs : List Fram) : Nat := match xs.getLast? with | some x => x.at' | none => 0
theorem lastAt_snoc (xs : List Fram) (x : Fram) : lastAt (xs ++ [x]) = x.at' := by simp [lastAt]

/-- all frames have come -/
def AllF (b : List UInt8) (xs : List Fram) : Prop := PathF b 0 (xs.map Fram.tell) (lastAt xs) ∧ lastAt xs ≤ b.length ∧ (nextF (b.drop (lastAt xs))).2.2 ≠ 0

theorem grown_of_below {W W' : World} (h : Below W.heap.size W W') : W.grownBy W' none := ⟨h.os, h.tape, h.output, h.size, fun k hk _ => h.block k hk⟩

set_option maxHeartbeats 2000000 in
theorem frames_in (A : Option Addr) (n c : Nat) (w : World) (m : Nat) :
    CallsIn Fence.wide m Try.prog 23 #[.slice A n c] w fun e w' => e = .returned (.func (.func 27) #[] #[.pointer (some ⟨w.heap.size, 0, none⟩)]) ∧ w' = w.alloc (.cells #[.slice A n c] 22) := by
  refine callsIn_of_wp Try.func23 rfl trivial ?_ rfl
  simp only [Try.ntmps23, List.size_toArray, List.length_cons, List.length_nil, Nat.reduceAdd, Nat.reduceSub, Array.replicate_succ, Array.replicate_zero, List.push_toArray, List.append_toArray, List.nil_append, List.cons_append]
  gi_wp2
  go_ret
  exact ⟨rfl, rfl⟩

/-- the closure's own loop -/
structure OnF (b : List UInt8) (base : Nat) (J : List Fram → World → Prop) (n₀ Bb : Nat) (w : World) (A : Option Addr) (n c : Nat) (p : Nat) (pre : List Fram) (wr : World) : Prop where
  path : PathF b 0 (pre.map Fram.tell) p
  last : lastAt pre = p
  le : p ≤ n
  few : pre.length * 8 ≤ p
  held : J pre wr
  low : ∀ y, y ∈ pre → ∀ k, y.v.ownBlock = some k → k < wr.heap.size
  below : Below n₀ w wr
  box : wr.heap[Bb]? = some (.cells #[.slice A n c] 22 (0, 0))
  size : base ≤ wr.heap.size

set_option maxRecDepth 100000 in
set_option maxHeartbeats 4000000 in
theorem frames1_in (A : Option Addr) (n c : Nat) (b : List UInt8) (w : World) (hr : Rd w A n c 1 (bvs b)) (hn : n ≤ 1000000000) (Bb base : Nat) (m : Nat) (l : Nat) (J : List Fram → World → Prop)
    (hJ : ∀ s X Y, J s X → X.grownBy Y none → J s Y)
    (hY : ∀ pre x W1, J pre W1 → PxF base pre x W1 → YieldAt Fence.wide (m - 1) Try.prog l x.enc W1 fun e W' => e = .returned (.bool true) ∧ J (pre ++ [x]) W' ∧ KpF w.heap.size Bb W1 W')
    (W : World) (hW : Below w.heap.size w W) (hsz : base ≤ W.heap.size) (hbox : Boxed W Bb 22 (.slice A n c)) (h0 : J [] W) :
    CallsIn Fence.wide m Try.prog 27 #[.func (.yield l) #[] #[], .pointer (some ⟨Bb, 0, none⟩)] W fun e W' => (∃ v, e = .returned v) ∧ ∃ xs, AllF b xs ∧ J xs W' := by
  obtain ⟨i0, hi, hz0, hz1, hz2⟩ := info_parts infoB
  have hnc := hr.nc
  have hl : b.length = n := by have := hr.len; rw [bvs_len] at this; omega
  have HR := Lib.hid hr; clear hr
  have HL := Lib.hid hl
  refine callsIn_of_wp Try.func27 rfl trivial ?_ rfl
  simp only [Try.ntmps27, List.size_toArray, List.length_cons, List.length_nil, Nat.reduceAdd, Nat.reduceSub, Array.replicate_succ, Array.replicate_zero, List.push_toArray, List.append_toArray, List.nil_append, List.cons_append]
  gi_wp2
  gi_loopw [3] (fun i wr => ∃ (p : Nat) (pre : List Fram), i = .int .i64 p ∧ OnF b base J w.heap.size Bb w A n c p pre wr) (fun i _ => n - (intOf i).toNat)
  case atStart =>
    exact ⟨0, [], rfl, rfl, rfl, Nat.zero_le _, Nat.zero_le _, h0, by simp, hW, hbox, hsz⟩
  case round =>
    obtain ⟨p, pre, rfl, ho⟩ := hrel
    obtain ⟨A1, hs1, hr1⟩ := cut_l (P := Try.prog) Try.underlying22 hi hz1 A n c .i64 p p rfl ho.le hnc
    have HR1 : Hid (∀ w', Rd w' A n c 1 (bvs b) → Rd w' A1 (n - p) (c - p) 1 (bvs (b.drop p))) := Lib.hid fun w' h => by
      have := hr1 w' _ h
      rw [Nat.mul_one, Nat.mul_one, bvs_drop, bvs_take, List.take_of_length_le (by rw [List.length_drop]; omega)] at this; exact this
    have HRW := Lib.hid (HR.out.below ho.below (Nat.le_refl _))
    have hbc : wr.cell? ⟨Bb, 0, none⟩ = some (.slice A n c) := Boxed.cell ho.box
    have hle := ho.le
    have hnp : n - p ≤ 1000000000 := by omega
    have HO := Lib.hid ho
    clear ho hr1 hl hz0 hz2
    rcases nextF_cases (b.drop p) with ⟨body, k, hN, hk8, hkl, hbl⟩ | ⟨er, hN, her, her6⟩
    · have hkn : p + k ≤ n := by rw [List.length_drop, HL.out] at hkl; omega
      have HN := Lib.hid hN
      have HBL := Lib.hid hbl
      clear hN hbl hkl
      gi_wp2_with fail
      refine ⟨trivial, (fun h => by cases h), ?_⟩
      refine (callsIn_wide.2 (next_any A1 (n - p) (c - p) (b.drop p) _ (HR1.out _ HRW.out) hnp)).mono ?_
      rintro e w2 ⟨r, rfl, hown, hb⟩
      rw [HN.out] at hown ⊢
      have hk2 : IntKind.i64.wrap ((p : Int) + (k : Int)) = (p : Int) + (k : Int) := by rw [IntKind.wrap_i64]; omega
      have HB := Lib.hid hb
      have HOW := Lib.hid hown
      have hjs := hJ _ _ _ HO.out.held (grown_of_below hb)
      have hpx : PxF base pre ⟨r, body, p + k⟩ w2 := ⟨by have := HO.out.few; omega, wr.heap.size, HO.out.size, HO.out.low, hown⟩
      obtain ⟨fn, tmps, assign, bd, hy, hR⟩ := hY _ _ _ hjs hpx
      dsimp only [Fram.enc] at hy
      rw [show ((p + k : Nat) : Int) = (p : Int) + (k : Int) from by omega] at hy
      have HR2 := Lib.hid hR
      clear hR hpx hown hb
      gi_wp2
      refine ⟨(fun h => by cases h), HR2.out.mono ?_⟩
      rintro e W3 ⟨rfl, hJ3, hk3⟩
      have HJ3 := Lib.hid hJ3
      clear hy HR2 hJ3 hjs
      gi_wp2
      go_roundw
      case rel =>
        have hB2 : Below w.heap.size wr w2 := HB.out.mono HO.out.below.size
        have hbl := (Array.getElem?_eq_some_iff.1 HO.out.box).1
        refine ⟨p + k, pre ++ [⟨r, body, p + k⟩], by simp, ?_, lastAt_snoc _ _, hkn, by have := HO.out.few; simp; omega, HJ3.out, ?_, (HO.out.below.trans hB2).trans hk3.below, hk3.box.trans ((HB.out.block _ hbl).trans HO.out.box), Nat.le_trans HO.out.size (Nat.le_trans HB.out.size hk3.below.size)⟩
        · rw [List.map_append]; exact PathF.snoc HN.out HO.out.path
        · intro y hy q hq
          rcases List.mem_append.1 hy with hy | hy
          · exact Nat.lt_of_lt_of_le (HO.out.low y hy q hq) (Nat.le_trans HB.out.size hk3.below.size)
          · simp at hy; subst hy
            exact Nat.lt_of_lt_of_le (own_lt HOW.out q hq) hk3.below.size
      case measure => simp [intOf]; omega
    · have HN := Lib.hid hN
      have herb : ((er : Int) != 0) = true := by simp; omega
      have HE : Hid ((nextF (b.drop p)).2.2 ≠ 0) := Lib.hid (by rw [hN]; exact her)
      clear hN her
      gi_wp2_with fail
      refine ⟨trivial, (fun h => by cases h), ?_⟩
      refine (callsIn_wide.2 (next_any A1 (n - p) (c - p) (b.drop p) _ (HR1.out _ HRW.out) hnp)).mono ?_
      rintro e w2 ⟨r, rfl, hown, hb⟩
      rw [HN.out]
      have hk2 : IntKind.i64.wrap ((p : Int)) = (p : Int) := by rw [IntKind.wrap_i64]; omega
      have hjs := Lib.hid (hJ _ _ _ HO.out.held (grown_of_below hb))
      clear hown hb
      gi_wp2
      refine ⟨(fun _ h => (by cases h)), ?_⟩
      gi_wp2
      refine bodyPost_ret (results_none rfl _ _ _) rfl ?_
      have hla := HO.out.last
      refine ⟨⟨_, rfl⟩, pre, ⟨?_, ?_, ?_⟩, hjs.out⟩
      · rw [hla]; exact HO.out.path
      · rw [hla, HL.out]; exact HO.out.le
      · rw [hla]; exact HE.out
end Go.Proofs.Ytegkcbkgoncnbaa
