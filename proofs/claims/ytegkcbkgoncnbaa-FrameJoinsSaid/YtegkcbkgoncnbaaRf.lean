/- A range over a function whose iterator tells its rounds a fact of the world ('Px'), and whose body never leaves. -/
import Derived.RangeFuncNested
import Derived.RangeFuncBound
import Derived.RangeFuncCalls
import Derived.RangeFuncLeaves
import Derived.Shelf.Abstract
import Derived.WalkKit
import Derived.OwnWalkIn
import Derived.TacticsInMore
import Derived.LoopNIn
import Derived.LoopIn
import Derived.Maps.AppendAt
namespace Go.Proofs.Ytegkcbkgoncnbaa
open Go.RowKit

/-- the iterator's contract: each round may lean on Px at the world where it begins -/
def SeqW {α : Type} (F : Fence) (n : Nat) (P : Program) (g : Nat) (lb : Array Value) (encs : α → Array Value) (Kp : World → World → Prop) (Px : List α → α → World → Prop) (S : List α → Prop) (w : World) : Prop :=
  ∀ (l : Nat) (J : List α → World → Prop) (W : World), Below w.heap.size w W →
    (∀ s A B, J s A → A.grownBy B none → J s B) →
    (∀ pre x W1, J pre W1 → Px pre x W1 → YieldAt F (n - 1) P l (encs x) W1 fun e W' => e = .returned (.bool true) ∧ J (pre ++ [x]) W' ∧ Kp W1 W') →
    J [] W →
    CallsIn F n P g (#[.func (.yield l) #[] #[]] ++ lb) W fun e W' => (∃ v, e = .returned v) ∧ ∃ xs, S xs ∧ J xs W'

/-- the end of a round's body -/
def StaysIn {α : Type} (B : Nat) (Kp : World → World → Prop) (I : List α → World → Prop) (xs : List α) (W : World) : Exit → Act → World → Prop
  | .normal, _, W' => KeepsFrom B W W' ∧ Kp W W' ∧ I xs W'
  | _, _, _ => False

section
variable {F : Fence} {n : Nat} {P : Program}

/-- what the loop keeps beside the body's own -/
structure Kept3 {α : Type} (I : List α → World → Prop) (B : Nat) (rec : Loop) (pre : List α) (W : World) : Prop where
  inv : I pre W
  row : W.heap[B + 1]? = some (.loop rec)
  defs : W.heap[B]? = some (.deferred (some []))

theorem Kept3.grown {α : Type} {I : List α → World → Prop} {B : Nat} {rec : Loop} {pre : List α} {A C : World} (hI : OwnFrom B I) (h : Kept3 I B rec pre A) (hg : A.grownBy C none) : Kept3 I B rec pre C :=
  ⟨hI pre A C none h.inv hg (fun r e => by cases e), (hg.block _ (Array.getElem?_eq_some_iff.1 h.row).1 (by simp)).trans h.row, (hg.block _ (Array.getElem?_eq_some_iff.1 h.defs).1 (by simp)).trans h.defs⟩

theorem wpIn_rangeFunc_px {α : Type} {g : Operand} {ps : Array Tmp} {assign body : Code} {Q : Exit → Act → World → Prop} {a : Act} {w : World}
    (hro : F.round = none) (h1 : 1 ≤ n) {gf : Nat} {lb : Array Value} (hg : a.eval g = .func (.func gf) #[] lb) (hFg : F.fn gf) (eg : ∀ args w, (callFunc gf args).run P w = .ok (.enter gf args) w)
    {encs : α → Array Value} {Kp : World → World → Prop} {Px : List α → α → World → Prop} {S : List α → Prop} {w0 : World} (hseq : SeqW F (n - 1) P gf lb encs Kp Px S w0) (hb0 : Below w0.heap.size w0 w)
    (hKt : ∀ {A B C : World}, Kp A B → Kp B C → Kp A C) (hKb : ∀ (W : World) (l : Nat) (o o' : Obj), w.heap.size ≤ l → W.heap[l]? = some o → o.isCells = false → o.isWalk = false → Kp W (W.putObj l o'))
    (hps : ∀ x, (encs x).size = ps.size) (hPx : ∀ pre x, OwnFrom w.heap.size (fun (_ : Unit) W => Px pre x W))
    (I : List α → World → Prop) (hI : OwnFrom w.heap.size I) (h0 : I [] w) (a₁ : α → Act)
    (hassign : ∀ (l : Nat) (x : α) (W : World) (K : Act → World → Prop), K (a₁ x) W →
      assign.wpIn (F.inRound l) (n - 1 - 1) P (Exit.then K (fun _ _ _ => False)) { tmps := (ps.zip (encs x)).foldl (fun t (p, v) => t.setIfInBounds p v) a.tmps, defers := [] } W)
    (hbody : ∀ (l : Nat) (pre : List α) (x : α) (W : World), I pre W → Px pre x W → body.wpIn (F.inRound l) (n - 1 - 1) P (StaysIn w.heap.size Kp I (pre ++ [x]) W) (a₁ x) W)
    (hdone : ∀ (D : Nat) (xs : List α) (W : World), w.heap.size ≤ D → S xs → I xs W → W.heap[D]? = some (.deferred (some [])) → Q .normal { a with defers := { target := .collected D, args := #[] } :: a.defers } W) :
    (Code.rangeFunc g ps assign body).wpIn F n P Q a w := by
  apply wpIn_rangeFunc
  intro fn hfn
  obtain ⟨B, hB⟩ : ∃ B, B = w.heap.size := ⟨_, rfl⟩
  let rec' : LoopState → Loop := fun st => { state := st, pending := none, fn := fn, tmps := a.tmps, params := ps, assign := assign, body := body, defers := B }
  let W1 : World := (w.alloc (.deferred (some []))).alloc (.loop (rec' .ready))
  have hstart : Kept3 I B (rec' .ready) [] W1 := by
    refine ⟨(hB ▸ hI).alloc _ ((hB ▸ hI).alloc _ h0), ?_, ?_⟩
    · have := World.alloc_heap_new (w.alloc (.deferred (some []))) (.loop (rec' .ready))
      rw [World.size_alloc, ← hB] at this; exact this
    · have := World.alloc_heap_new w (.deferred (some []))
      rw [← hB] at this
      exact (Below.heap_alloc _ _ _ (by simp; omega)).trans this
  have hbelow : Below w0.heap.size w0 W1 := hb0.trans ((((Below.refl _ w).alloc (Nat.le_refl _) _).alloc (by simp) _).mono hb0.size)
  refine ⟨B + 1, [{ target := .collected B, args := #[] }], W1, { target := .fn (.func gf) lb, args := #[.func (.yield (B + 1)) #[] #[]] }, W1, gf, #[.func (.yield (B + 1)) #[] #[]] ++ lb, W1, ?_, ?_, ?_, ?_, fun _ => h1, ?_⟩
  · rw [hro, hB]; simp only [W1, rec', hB]; exact run_enterLoop_outer _ _ _ _ _
  · simp only [resolve, hg]; simp [go_sem]
  · intro f' hf'; simp [Target.leads] at hf'; subst hf'; exact hFg
  · simp [invoke, go_sem, eg]
  · refine (hseq (B + 1) (Kept3 I B (rec' .ready)) W1 hbelow (fun s A C hs hg' => hs.grown (hB ▸ hI) hg') ?_ hstart).mono ?_
    · intro pre x W hk hpx
      have hlt : B + 1 < W.heap.size := (Array.getElem?_eq_some_iff.1 hk.row).1
      refine ⟨fn, _, assign, body, run_yield (P := P) (args := encs x) hk.row (hps x), roundIn_of_wpIn hfn (hassign _ x W _ ⟨_, run_beginRound hk.row rfl, ?_⟩)⟩
      let Wb : World := W.putObj (B + 1) (.loop (rec' .busy))
      have hrow : Wb.heap[B + 1]? = some (.loop (rec' .busy)) := World.putObj_heap_same hlt
      have hdef : Wb.heap[B]? = some (.deferred (some [])) := (World.putObj_heap_other (by omega)).trans hk.defs
      have hkp : Kp W Wb := hKb _ _ _ _ (by omega) hk.row rfl rfl
      refine wpIn_mono (hbody (B + 1) pre x Wb (hI.putObj _ hk.inv (by omega) hk.row rfl) ((hPx pre x).putObj (s := ()) _ hpx (by omega) hk.row rfl)) ?_
      rintro e a3 W3 hp
      cases e with
      | normal =>
        obtain ⟨hk3, hkp3, hi3⟩ := hp
        rw [← hB] at hk3
        have hrow3 := hk3.same _ _ (by omega) hrow rfl
        have hdef3 := hk3.same _ _ (Nat.le_refl _) hdef rfl
        refine ⟨_, _, run_endRound (P := P) none hrow3, rfl, ⟨?_, ?_, ?_⟩, ?_⟩
        · exact hI.putObj _ hi3 (by omega) hrow3 rfl
        · exact World.putObj_heap_same (Array.getElem?_eq_some_iff.1 hrow3).1
        · exact (World.putObj_heap_other (by omega)).trans hdef3
        · exact hKt (hKt hkp hkp3) (hKb _ _ _ _ (by omega) hrow3 rfl rfl)
      | ret => exact hp.elim
      | exit id => exact hp.elim
      | goto t => exact hp.elim
      | panic ch => exact hp.elim
      | outgrown => exact hp.elim
    · rintro e W2 ⟨⟨v, rfl⟩, xs, hS, hk⟩
      refine ⟨none, _, run_endLoop (P := P) hk.row (by simp [rec']), ?_⟩
      exact hdone B xs _ (by omega) hS (hI.putObj _ hk.inv (by omega) hk.row rfl) ((World.putObj_heap_other (by omega)).trans hk.defs)
end
end Go.Proofs.Ytegkcbkgoncnbaa
