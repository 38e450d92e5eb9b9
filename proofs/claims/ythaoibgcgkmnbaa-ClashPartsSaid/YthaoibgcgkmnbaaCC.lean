/- A drawn region with a tail, in which two operations make a cell each: the two cells are not one. The walk of up, the function that climbs an opening beside the real leaves. -/
import Derived.Test.YthaoibgcgkmnbaaExtT
import Derived.Test.YthaoibgcgkmnbaaCB
import Derived.Test.YthaoibgcgkmnbaaRB
namespace Go.Proofs.Ythaoibgcgkmnbaa
set_option maxRecDepth 100000
set_option maxRecDepth 100000
open Go Go.RowKit

section
variable {P : Program} {ops : Array Oper}

/-- two cells made by the operations i0 and j0 -/
structure Fresh2 (P : Program) (ops : Array Oper) (ss : List Spec) (n i0 j0 : Nat) : Prop where
  ne : i0 ≠ j0
  li : i0 < n
  lj : j0 < n
  own : ∀ i o, (i = i0 ∨ i = j0) → ops[i]? = some o → o.guard = none ∧ ∀ a w, ∃ w', (execOp (Act.eval a) o).run P w = .ok (.value (.pointer (some ⟨w.heap.size, 0, none⟩))) w'
  spec : ∀ i, i = i0 ∨ i = j0 → ∃ F, ss[i]? = some (.nd F) ∧ ∀ v w, F v w → v ≠ .pointer (some ⟨w.heap.size, 0, none⟩)
/-- the two cells are not one -/
def Apart2 (ops : Array Oper) (i0 j0 : Nat) (a : Act) : Prop := ∀ oi oj di dj x, ops[i0]? = some oi → ops[j0]? = some oj → oi.dst = some di → oj.dst = some dj → a.tmps[di]? = some x → a.tmps[dj]? = some x → False
theorem oblAt_fresh {P : Program} {ops : Array Oper} {o : Oper} {a : Act} {w : World} {F : Value → World → Prop} (hg : o.guard = none) (hr : ∃ w', (execOp a.eval o).run P w = .ok (.value (.pointer (some ⟨w.heap.size, 0, none⟩))) w') (h : oblAt P ops o a w F) :
    oblAt P ops o a w fun v w' => F v w' ∧ v = .pointer (some ⟨w.heap.size, 0, none⟩) := by
  obtain ⟨w', hr⟩ := hr
  have hw : Region.wanted o (yielded ops a.tmps) = true := by unfold Region.wanted; rw [hg]
  unfold oblAt at h ⊢
  rw [if_pos hw, hr] at h ⊢
  rw [extUpon_value] at h ⊢
  exact ⟨h.1, h.2, rfl⟩
theorem oblAt_weak {P : Program} {ops : Array Oper} {o : Oper} {a : Act} {w : World} {F F' : Value → World → Prop} (h : oblAt P ops o a w F) (hF : ∀ v w', F v w' → F' v w') : oblAt P ops o a w F' := by
  unfold oblAt at h ⊢
  split at h
  · rename_i hw
    rw [if_pos hw]
    generalize (execOp a.eval o).run P w = r at h ⊢
    cases r with
    | halt x w' => exact h.elim
    | ok x w' =>
      cases x <;> simp only [extUpon] at h ⊢
      case value u => exact ⟨h.1, hF _ _ h.2⟩
      case skip => exact ⟨h.1, hF _ _ h.2⟩
      case enter f args => exact h.mono fun e w'' ⟨u, h1, h2, h3⟩ => ⟨u, h1, h2, hF _ _ h3⟩
  · rename_i hw
    rw [if_neg hw]
    exact hF _ _ h
theorem wpAny_of_walk_tail2 {w0 : World} {Q : Exit → Act → World → Prop} {a0 : Act} {ss : List Spec} {n i0 j0 : Nat} (hfr2 : Fresh2 P ops ss n i0 j0) (hE : EdgesOk ops) (hn : n < ops.size) (hsk : Region.sinkB .any ops n = true) (hch : Region.chainB .any ops n = true)
    (hsq : Region.seqB .any ops (ops.size - n) n (firstOnes n ops.size) = true) (h : wpZ P ops w0 (fun a w => Apart2 ops i0 j0 a → wpList P ops Q (ops.toList.drop n) a w) (ops.toList.take n) ss 0 a0 []) :
    ∀ (fuel : Nat) (listed : Array Bool) (a : Act) (w : World) (vs : Nat → Value), listed.size = ops.size → ((List.range n).filter fun j => !listed.getD j true).length = fuel → (∀ t, n ≤ t → t < ops.size → listed.getD t true = false) →
      ExtW w0 w → (∀ m c, ss[m]? = some (.det c) → vs m = c) → (∀ j F, listed.getD j false = true → ss[j]? = some (.nd F) → F (vs j) w) →
      (∀ j o, listed.getD j false = true → ops[j]? = some o → ∀ e ∈ o.after, Region.binds .any e = true → listed.getD e.on false = true) →
      Holds ops a0 (fun j => listed.getD j false = true) vs a → (listed.getD i0 false = true → listed.getD j0 false = true → vs i0 ≠ vs j0) → wpAny P .any ops Q (fuel + (ops.size - n)) listed a w := by
  have hlen : (ops.toList.take n).length = n := by rw [List.length_take, Array.length_toList]; omega
  have hget : ∀ j, j < n → (ops.toList.take n)[j]? = ops[j]? := fun j hj => by rw [List.getElem?_take, if_pos hj]; simp
  intro fuel
  induction fuel with
  | zero =>
    intro listed a w vs hsz hcnt htl hw hdet hnd hcl hh hds
    have hall : ∀ j, j < n → listed.getD j true = true := fun j hj => by
      have h0 : (List.range n).filter (fun j => !listed.getD j true) = [] := List.eq_nil_of_length_eq_zero hcnt
      rw [List.filter_eq_nil_iff] at h0
      simpa using h0 j (List.mem_range.2 hj)
    have hall' : ∀ j, j < n → listed.getD j false = true := fun j hj => by
      have := hall j hj
      have hl : j < listed.size := by omega
      simp [hl] at this ⊢; exact this
    have heqL : listed = firstOnes n ops.size := by
      apply Array.ext_getElem?
      intro j
      have e0 : (firstOnes n ops.size)[j]? = (List.replicate n true ++ List.replicate (ops.size - n) false)[j]? := by unfold firstOnes; simp only [List.getElem?_toArray]
      rw [e0]
      by_cases hj : j < n
      · have := hall j hj
        rw [List.getElem?_append_left (by simpa using hj), List.getElem?_replicate, if_pos hj]
        have hl : j < listed.size := by omega
        simp [hl] at this ⊢; exact this
      · rw [List.getElem?_append_right (by simpa using Nat.le_of_not_lt hj), List.getElem?_replicate, List.length_replicate]
        by_cases hj2 : j < ops.size
        · have := htl j (by omega) hj2
          have hl : j < listed.size := by omega
          rw [if_pos (by omega)]
          simp [hl] at this ⊢; exact this
        · rw [if_neg (by omega)]
          exact Array.getElem?_eq_none (by omega)
    have hob := wpZ_obl vs (ops.toList.take n) ss 0 a0 [] h (by simpa using hdet)
    have hfin := hob.2.1 w hw (by simp) (fun j F hj hs => by simpa using hnd j F (hall' j (by rwa [hlen] at hj)) hs)
    rw [hlen] at hfin
    have hfr := Fr_holds hE (a0 := a0) vs n ops.toList 0 a0 (fun j => by simp) (by rw [Array.length_toList]; omega) ⟨rfl, fun j o d hj => by omega, fun s _ => rfl⟩
    have hFr : ∀ (m : Nat) (l : List Oper) (k : Nat) (a : Act), Fr (l.take m) k a vs m = Fr l k a vs m := by
      intro m
      induction m with
      | zero => intro l k a; cases l <;> rfl
      | succ m ih => intro l k a; cases l with
        | nil => rfl
        | cons o r => rw [List.take_succ_cons]; simp only [Fr]; exact ih r (k + 1) _
    rw [hFr] at hfin
    have hfin := hfin (by
      intro oi oj di dj x ho1 ho2 hd1 hd2 hx1 hx2
      have h1 := hfr.done i0 oi di (by have := hfr2.li; simpa using this) ho1 hd1
      have h2 := hfr.done j0 oj dj (by have := hfr2.lj; simpa using this) ho2 hd2
      rw [h1] at hx1
      rw [h2] at hx2
      cases e1 : a0.tmps[di]? with
      | none => rw [e1] at hx1; cases hx1
      | some y1 =>
        cases e2 : a0.tmps[dj]? with
        | none => rw [e2] at hx2; cases hx2
        | some y2 =>
          rw [e1] at hx1
          rw [e2] at hx2
          simp at hx1 hx2
          exact hds (hall' i0 hfr2.li) (hall' j0 hfr2.lj) (hx1.trans hx2.symm))
    have heq : a = Fr ops.toList 0 a0 vs n := by
      have ht : a.tmps = (Fr ops.toList 0 a0 vs n).tmps := by
        apply Array.ext_getElem?
        intro s
        by_cases hs : ∃ j o, j < n ∧ ops[j]? = some o ∧ o.dst = some s
        · obtain ⟨j, o, hj, ho, hd⟩ := hs
          rw [hh.done j o s (hall' j hj) ho hd, hfr.done j o s (by simpa using hj) ho hd]
        · rw [hh.rest s fun j o hj ho hd => hs ⟨j, o, ?_, ho, hd⟩, hfr.rest s fun j o hj ho hd => hs ⟨j, o, by simpa using hj, ho, hd⟩]
          rcases Nat.lt_or_ge j n with h' | h'
          · exact h'
          · have hjs := (Array.getElem?_eq_some_iff.1 ho).1
            have := htl j h' hjs
            have hl : j < listed.size := by omega
            simp [hl] at this hj
            rw [this] at hj; cases hj
      have hd2 : a.defers = (Fr ops.toList 0 a0 vs n).defers := hh.defers.trans hfr.defers.symm
      generalize Fr ops.toList 0 a0 vs n = b at *
      cases a; cases b; simp_all
    have hdl : (ops.toList.drop n).length = ops.size - n := by simp
    have := wpAny_of_seq (P := P) (md := .any) (ops := ops) (Q' := Q) (ops.toList.drop n) n listed a w (fun j => by simp [List.getElem?_drop]) (by rw [hdl, heqL]; exact hsq) (by rw [heq]; exact hfin)
    rw [hdl] at this
    rw [Nat.zero_add]; exact this
  | succ fuel ih =>
    intro listed a w vs hsz hcnt htl hw hdet hnd hcl hh hds
    rw [Nat.add_right_comm]
    have hne : (List.range n).filter (fun j => !listed.getD j true) ≠ [] := fun e => by rw [e] at hcnt; simp at hcnt
    obtain ⟨x, hx⟩ := List.exists_mem_of_ne_nil _ hne
    rw [List.mem_filter, List.mem_range] at hx
    refine ⟨fun hr => ?_, fun i hi => ?_⟩
    · exfalso
      have key : ∀ m, m < n → listed.getD m true = false → False := by
        intro m
        induction m using Nat.strongRecOn with
        | _ m ihn =>
          intro hm h0
          have hms : m < ops.size := by omega
          have ho : ops[m]? = some ops[m] := Array.getElem?_eq_getElem hms
          have hmem : m ∈ Region.ready .any ops listed := by
            rw [mem_ready]
            refine ⟨h0, ops[m], ho, fun e he hbe => ?_⟩
            have hlt := hE.back m _ ho e he hbe
            cases hb : listed.getD e.on true with
            | true =>
              have hl : e.on < listed.size := by omega
              simp [hl] at hb ⊢; exact hb
            | false => exact (ihn e.on hlt (by omega) hb).elim
          rw [hr] at hmem; cases hmem
      exact key x hx.1 (by simpa using hx.2)
    · have hilt : i < n := by
        rcases Nat.lt_or_ge i n with h' | h'
        · exact h'
        · exact absurd hi (tail_waits hsk hch hn ⟨hsz, fun j oj hoj hj => hcl j oj hj hoj, htl⟩ (n - x) x rfl hx.1 (by simpa using hx.2) i h')
      obtain ⟨h0, o, ho, hall⟩ := mem_ready.1 hi
      have hlt : i < ops.size := (Array.getElem?_eq_some_iff.1 ho).1
      have hil : i < listed.size := by omega
      have hSi : ¬ listed.getD i false = true := by
        simp [hil] at h0 ⊢; exact h0
      have hol : (ops.toList.take n)[i]? = some o := by rw [hget i hilt]; exact ho
      have hob := wpZ_obl vs (ops.toList.take n) ss 0 a0 [] h (by simpa using hdet)
      obtain ⟨s, hs, hobl⟩ := hob.1 i o hol
      have hwl : ∀ j, waits o j = true → listed.getD j false = true := fun j hwj => by
        unfold waits at hwj
        rw [Array.any_eq_true] at hwj
        obtain ⟨m, hm, he⟩ := hwj
        simp only [Bool.and_eq_true, beq_iff_eq] at he
        have := hall _ (Array.getElem_mem hm) he.2
        rw [he.1] at this; exact this
      have h1 := hobl w hw (by simp) (fun j F hj hsj hwj => by
        have := hnd j F (hwl j (by simpa using hwj)) hsj
        simpa using this)
      have hFr : ∀ (m : Nat) (l : List Oper) (k c : Nat) (a : Act), m ≤ c → Fr (l.take c) k a vs m = Fr l k a vs m := by
        intro m
        induction m with
        | zero => intro l k c a _; cases l <;> cases c <;> rfl
        | succ m ih => intro l k c a hc; cases l with
          | nil => rw [List.take_nil]
          | cons o r =>
            obtain ⟨c', rfl⟩ : ∃ c', c = c' + 1 := ⟨c - 1, by omega⟩
            rw [List.take_succ_cons]; simp only [Fr]; exact ih r (k + 1) c' _ (by omega)
      rw [hFr i _ _ n _ (Nat.le_of_lt hilt)] at h1
      have hfr := Fr_holds hE (a0 := a0) vs i ops.toList 0 a0 (fun j => by simp) (by simp; omega) ⟨rfl, fun j o d hj => by omega, fun s _ => rfl⟩
      have h2 : oblAt P ops o a w s.ok := by
        refine oblAt_congr (hE.nosel i o ho) (fun d hd => ?_) h1
        by_cases hex : ∃ (j : Nat) (oj : Oper), ops[j]? = some oj ∧ oj.dst = some d
        · obtain ⟨j, oj, hoj, hdj⟩ := hex
          have only : ∀ (k : Nat) (ok : Oper), ops[k]? = some ok → ok.dst = some d → k = j := fun k ok hk hkd => by
            by_cases hkj : k = j
            · exact hkj
            · exact absurd hkd (hE.apart k ok j oj d hk hoj hkj hdj).1
          by_cases hji : j = i
          · subst hji
            rw [hh.rest d fun k ok hk hok hkd => hSi (by rw [← only k ok hok hkd]; exact hk), hfr.rest d fun k ok hk hok hkd => by have := only k ok hok hkd; omega]
          · have hw2 := (hE.apart i o j oj d ho hoj (Ne.symm hji) hdj).2 hd
            by_cases hlt2 : j < i
            · rw [if_pos hlt2] at hw2
              rw [hh.done j oj d (hwl j hw2) hoj hdj, hfr.done j oj d (by simpa using hlt2) hoj hdj]
            · rw [if_neg hlt2] at hw2
              have hnj : ¬ listed.getD j false = true := fun hj => by
                unfold waits at hw2
                rw [Array.any_eq_true] at hw2
                obtain ⟨m, hm, he⟩ := hw2
                simp only [Bool.and_eq_true, beq_iff_eq] at he
                have := hcl j oj hj hoj _ (Array.getElem_mem hm) he.2
                rw [he.1] at this; exact hSi this
              rw [hh.rest d fun k ok hk hok hkd => hnj (by rw [← only k ok hok hkd]; exact hk), hfr.rest d fun k ok hk hok hkd => by have := only k ok hok hkd; omega]
        · rw [hh.rest d fun k ok _ hok hkd => hex ⟨k, ok, hok, hkd⟩, hfr.rest d fun k ok _ hok hkd => hex ⟨k, ok, hok, hkd⟩]
      have h2 : oblAt P ops o a w fun v w' => s.ok v w' ∧ ((i = i0 ∨ i = j0) → v = .pointer (some ⟨w.heap.size, 0, none⟩)) := by
        by_cases hij : i = i0 ∨ i = j0
        · obtain ⟨hg, hrun⟩ := hfr2.own i o hij ho
          exact oblAt_weak (oblAt_fresh hg (hrun a w) h2) fun v w' hv => ⟨hv.1, fun _ => hv.2⟩
        · exact oblAt_weak h2 fun v w' hv => ⟨hv, fun h => absurd h hij⟩
      refine wpOp_of_obl ho h2 fun v w' hx hF => ?_
      obtain ⟨hF, hF2⟩ := hF
      have hself : (listed.setIfInBounds i true).getD i false = true := by simp [hil]
      have hset : ∀ j, (listed.setIfInBounds i true).getD j false = true ↔ listed.getD j false = true ∨ j = i := fun j => by
        by_cases hji : j = i
        · subst hji; simp [hself]
        · rw [getD_set_ne false (Ne.symm hji)]; simp [hji]
      refine ih (listed.setIfInBounds i true) (a.put o.dst v) w' (fun j => if j = i then v else vs j) (by simpa using hsz) ?_ ?_ (hw.trans hx) ?_ ?_ ?_ ?_ ?_
      · have := filter_set' n i listed hilt (by omega) h0
        omega
      · intro t ht hts
        rw [getD_set_ne true (by omega)]
        exact htl t ht hts
      · intro m c hm
        by_cases hmi : m = i
        · subst hmi
          rw [hm] at hs; cases hs
          simp only [if_true]; exact hF
        · simp only [hmi, if_false]; exact hdet m c hm
      · intro j F hj hsj
        by_cases hji : j = i
        · subst hji
          rw [hsj] at hs; cases hs
          simp only [if_true]; exact hF
        · simp only [hji, if_false]
          have hjl : listed.getD j false = true := ((hset j).1 hj).resolve_right hji
          have hjn : j < n := by
            rcases Nat.lt_or_ge j n with h' | h'
            · exact h'
            · exfalso
              rcases Nat.lt_or_ge j ops.size with h'' | h''
              · have := htl j h' h''
                have hl : j < listed.size := by omega
                simp [hl] at this hjl
                rw [this] at hjl; cases hjl
              · simp [Array.getElem?_eq_none (show listed.size ≤ j by omega)] at hjl
          exact hob.2.2 j F (by rw [hlen]; exact hjn) hsj _ _ _ (hnd j F hjl hsj) hx
      · intro j oj hj hoj e he hb
        rw [hset]
        left
        rcases (hset j).1 hj with hj | rfl
        · exact hcl j oj hj hoj e he hb
        · rw [ho] at hoj; cases hoj
          exact hall e he hb
      · exact hh.put hE ho hSi hset (by simp) (fun j hj => by simp [hj])
      · intro h3 h4
        by_cases e1 : i0 = i
        · have e2 : j0 ≠ i := fun e => hfr2.ne (e1.trans e.symm)
          simp only [if_pos e1, if_neg e2]
          have hj := ((hset j0).1 h4).resolve_right e2
          obtain ⟨F, hs0, hap⟩ := hfr2.spec j0 (.inr rfl)
          rw [hF2 (.inl e1.symm)]
          exact fun e => hap _ w (hnd j0 F hj hs0) e.symm
        · by_cases e2 : j0 = i
          · simp only [if_neg e1, if_pos e2]
            have hj := ((hset i0).1 h3).resolve_right e1
            obtain ⟨F, hs0, hap⟩ := hfr2.spec i0 (.inl rfl)
            rw [hF2 (.inr e2.symm)]
            exact hap _ w (hnd i0 F hj hs0)
          · simp only [if_neg e1, if_neg e2]
            exact hds (((hset i0).1 h3).resolve_right e1) (((hset j0).1 h4).resolve_right e2)

/-- the law -/
theorem wp_region_ext_tail2 {id : Nat} {Q : Exit → Act → World → Prop} {a : Act} {w : World} {l : List Oper} (n i0 j0 : Nat) (ss : List Spec) (hm : P.follows .mixedOrders = true) (hB : extTailB l.toArray n = true)
    (h : wpZ P l.toArray w.drew (fun a w => Apart2 l.toArray i0 j0 a → wpList P l.toArray Q (l.drop n) a w) (l.take n) ss 0 a []) (hfr2 : Fresh2 P l.toArray ss n i0 j0) : (Code.region id l.toArray true).wp P Q a w := by
  simp only [extTailB, Bool.and_eq_true, decide_eq_true_eq] at hB
  obtain ⟨⟨⟨⟨hE, hn⟩, hsk⟩, hch⟩, hsq⟩ := hB
  refine wp_region_any hm ?_
  have hrep : ∀ j b, j < l.length → (Array.replicate l.toArray.size false).getD j b = false := fun j b hj => by simp [hj]
  have hrep0 : ∀ j, (Array.replicate l.toArray.size false).getD j false = true → False := fun j hj => by
    rcases Nat.lt_or_ge j l.length with h' | h'
    · rw [hrep j false h'] at hj; cases hj
    · simp [Nat.not_lt.2 h'] at hj
  have := wpAny_of_walk_tail2 (P := P) (ops := l.toArray) hfr2 (w0 := w.drew) (Q := Q) (a0 := a) (ss := ss) (n := n) (edges_of hE) hn hsk hch hsq (by simpa using h) n (Array.replicate l.toArray.size false) a w.drew
    (fun m => match ss[m]? with | some (.det c) => c | _ => undef) (by simp) (by
      have : (List.range n).filter (fun j => !(Array.replicate l.toArray.size false).getD j true) = List.range n := by
        rw [List.filter_eq_self]
        intro j hj
        have hj := List.mem_range.1 hj
        simp at hn
        rw [hrep j true (by omega)]; rfl
      rw [this, List.length_range]) (fun t _ ht => hrep t true (by simpa using ht)) (ExtW.refl _) (fun m c hm => by simp [hm]) (fun j F hj => (hrep0 j hj).elim) (fun j o hj => (hrep0 j hj).elim)
      ⟨rfl, fun j o d hj => (hrep0 j hj).elim, fun s _ => rfl⟩ (fun h => (hrep0 i0 h).elim)
  rw [show n + (l.toArray.size - n) = l.toArray.size by omega] at this
  exact this

/-- what the operation k yields hangs on what p has yielded: ρ -/
structure Link (P : Program) (ops : Array Oper) (a0 : Act) (n k p : Nat) (ρ : Value → Value → Prop) : Prop where
  lk : k < n
  lp : p < n
  wt : ∀ o, ops[k]? = some o → waits o p = true
  run : ∀ ok op, ops[k]? = some ok → ops[p]? = some op → ∃ t y, op.dst = some t ∧ a0.tmps[t]? = some y ∧ ∀ a w F x, a.tmps[t]? = some x → oblAt P ops ok a w F → oblAt P ops ok a w fun v w' => F v w' ∧ ρ x v
/-- a call (i0) and a new cell (j0), whichever comes first -/
structure Pair2 (P : Program) (ops : Array Oper) (a0 : Act) (ss : List Spec) (w0 : World) (n i0 j0 : Nat) (R : Value → Value → World → Prop) (links : List (Nat × Nat × (Value → Value → Prop))) : Prop where
  ne : i0 ≠ j0
  li : i0 < n
  lj : j0 < n
  own : ∀ o, ops[j0]? = some o → o.guard = none ∧ ∀ a w, ∃ w', (execOp (Act.eval a) o).run P w = .ok (.value (.pointer (some ⟨w.heap.size, 0, none⟩))) w'
  mono : ∀ x z w w', R x z w → ExtW w w' → R x z w'
  both : ∃ (Fi Fj : Value → World → Prop) (E : World → Value → World → Prop), ss[i0]? = some (.nd Fi) ∧ ss[j0]? = some (.nd Fj) ∧ (∀ x w w', Fi x w → ExtW w w' → R x (.pointer (some ⟨w.heap.size, 0, none⟩)) w') ∧ (∀ z wz x w', Fj z wz → ExtW wz w' → E wz x w' → R x z w') ∧
    ∀ wz, ExtW w0 wz → wpZ P ops wz (fun _ _ => True) (ops.toList.take (i0 + 1)) (ss.take i0 ++ [.nd fun v w' => Fi v w' ∧ E wz v w']) 0 a0 []
  link : ∀ l ∈ links, Link P ops a0 n l.1 l.2.1 l.2.2
/-- what is known of them at the end -/
def Fin2 (ops : Array Oper) (i0 j0 : Nat) (R : Value → Value → World → Prop) (links : List (Nat × Nat × (Value → Value → Prop))) (a : Act) (w : World) : Prop :=
  (∀ oi oj di dj x z, ops[i0]? = some oi → ops[j0]? = some oj → oi.dst = some di → oj.dst = some dj → a.tmps[di]? = some x → a.tmps[dj]? = some z → R x z w) ∧
  ∀ l ∈ links, ∀ ok op dk dp x y, ops[l.1]? = some ok → ops[l.2.1]? = some op → ok.dst = some dk → op.dst = some dp → a.tmps[dk]? = some y → a.tmps[dp]? = some x → l.2.2 x y
theorem wpAny_of_walk_tail3 {w0 : World} {Q : Exit → Act → World → Prop} {a0 : Act} {ss : List Spec} {n i0 j0 : Nat} {R : Value → Value → World → Prop} {links : List (Nat × Nat × (Value → Value → Prop))} (hp2 : Pair2 P ops a0 ss w0 n i0 j0 R links) (hE : EdgesOk ops) (hn : n < ops.size) (hsk : Region.sinkB .any ops n = true) (hch : Region.chainB .any ops n = true)
    (hsq : Region.seqB .any ops (ops.size - n) n (firstOnes n ops.size) = true) (h : wpZ P ops w0 (fun a w => Fin2 ops i0 j0 R links a w → wpList P ops Q (ops.toList.drop n) a w) (ops.toList.take n) ss 0 a0 []) :
    ∀ (fuel : Nat) (listed : Array Bool) (a : Act) (w : World) (vs : Nat → Value), listed.size = ops.size → ((List.range n).filter fun j => !listed.getD j true).length = fuel → (∀ t, n ≤ t → t < ops.size → listed.getD t true = false) →
      ExtW w0 w → (∀ m c, ss[m]? = some (.det c) → vs m = c) → (∀ j F, listed.getD j false = true → ss[j]? = some (.nd F) → F (vs j) w) →
      (∀ j o, listed.getD j false = true → ops[j]? = some o → ∀ e ∈ o.after, Region.binds .any e = true → listed.getD e.on false = true) →
      Holds ops a0 (fun j => listed.getD j false = true) vs a → ((listed.getD i0 false = true → listed.getD j0 false = true → R (vs i0) (vs j0) w) ∧ ∀ l ∈ links, listed.getD l.1 false = true → l.2.2 (vs l.2.1) (vs l.1)) → wpAny P .any ops Q (fuel + (ops.size - n)) listed a w := by
  have hlen : (ops.toList.take n).length = n := by rw [List.length_take, Array.length_toList]; omega
  have hget : ∀ j, j < n → (ops.toList.take n)[j]? = ops[j]? := fun j hj => by rw [List.getElem?_take, if_pos hj]; simp
  intro fuel
  induction fuel with
  | zero =>
    intro listed a w vs hsz hcnt htl hw hdet hnd hcl hh hds
    have hall : ∀ j, j < n → listed.getD j true = true := fun j hj => by
      have h0 : (List.range n).filter (fun j => !listed.getD j true) = [] := List.eq_nil_of_length_eq_zero hcnt
      rw [List.filter_eq_nil_iff] at h0
      simpa using h0 j (List.mem_range.2 hj)
    have hall' : ∀ j, j < n → listed.getD j false = true := fun j hj => by
      have := hall j hj
      have hl : j < listed.size := by omega
      simp [hl] at this ⊢; exact this
    have heqL : listed = firstOnes n ops.size := by
      apply Array.ext_getElem?
      intro j
      have e0 : (firstOnes n ops.size)[j]? = (List.replicate n true ++ List.replicate (ops.size - n) false)[j]? := by unfold firstOnes; simp only [List.getElem?_toArray]
      rw [e0]
      by_cases hj : j < n
      · have := hall j hj
        rw [List.getElem?_append_left (by simpa using hj), List.getElem?_replicate, if_pos hj]
        have hl : j < listed.size := by omega
        simp [hl] at this ⊢; exact this
      · rw [List.getElem?_append_right (by simpa using Nat.le_of_not_lt hj), List.getElem?_replicate, List.length_replicate]
        by_cases hj2 : j < ops.size
        · have := htl j (by omega) hj2
          have hl : j < listed.size := by omega
          rw [if_pos (by omega)]
          simp [hl] at this ⊢; exact this
        · rw [if_neg (by omega)]
          exact Array.getElem?_eq_none (by omega)
    have hob := wpZ_obl vs (ops.toList.take n) ss 0 a0 [] h (by simpa using hdet)
    have hfin := hob.2.1 w hw (by simp) (fun j F hj hs => by simpa using hnd j F (hall' j (by rwa [hlen] at hj)) hs)
    rw [hlen] at hfin
    have hfr := Fr_holds hE (a0 := a0) vs n ops.toList 0 a0 (fun j => by simp) (by rw [Array.length_toList]; omega) ⟨rfl, fun j o d hj => by omega, fun s _ => rfl⟩
    have hFr : ∀ (m : Nat) (l : List Oper) (k : Nat) (a : Act), Fr (l.take m) k a vs m = Fr l k a vs m := by
      intro m
      induction m with
      | zero => intro l k a; cases l <;> rfl
      | succ m ih => intro l k a; cases l with
        | nil => rfl
        | cons o r => rw [List.take_succ_cons]; simp only [Fr]; exact ih r (k + 1) _
    rw [hFr] at hfin
    have hget2 : ∀ k o d x, k < n → ops[k]? = some o → o.dst = some d → (Fr ops.toList 0 a0 vs n).tmps[d]? = some x → x = vs k := by
      intro k o d x hk ho hd hx
      have h1 := hfr.done k o d (by simpa using hk) ho hd
      rw [h1] at hx
      cases e1 : a0.tmps[d]? with
      | none => rw [e1] at hx; cases hx
      | some y => rw [e1] at hx; simp at hx; exact hx.symm
    have hfin := hfin (by
      refine ⟨fun oi oj di dj x z ho1 ho2 hd1 hd2 hx1 hx2 => ?_, fun l hl ok op dk dp x y ho1 ho2 hd1 hd2 hx1 hx2 => ?_⟩
      · rw [hget2 i0 oi di x hp2.li ho1 hd1 hx1, hget2 j0 oj dj z hp2.lj ho2 hd2 hx2]
        exact hds.1 (hall' i0 hp2.li) (hall' j0 hp2.lj)
      · have hlk := hp2.link l hl
        rw [hget2 l.2.1 op dp x hlk.lp ho2 hd2 hx2, hget2 l.1 ok dk y hlk.lk ho1 hd1 hx1]
        exact hds.2 l hl (hall' l.1 hlk.lk))
    have heq : a = Fr ops.toList 0 a0 vs n := by
      have ht : a.tmps = (Fr ops.toList 0 a0 vs n).tmps := by
        apply Array.ext_getElem?
        intro s
        by_cases hs : ∃ j o, j < n ∧ ops[j]? = some o ∧ o.dst = some s
        · obtain ⟨j, o, hj, ho, hd⟩ := hs
          rw [hh.done j o s (hall' j hj) ho hd, hfr.done j o s (by simpa using hj) ho hd]
        · rw [hh.rest s fun j o hj ho hd => hs ⟨j, o, ?_, ho, hd⟩, hfr.rest s fun j o hj ho hd => hs ⟨j, o, by simpa using hj, ho, hd⟩]
          rcases Nat.lt_or_ge j n with h' | h'
          · exact h'
          · have hjs := (Array.getElem?_eq_some_iff.1 ho).1
            have := htl j h' hjs
            have hl : j < listed.size := by omega
            simp [hl] at this hj
            rw [this] at hj; cases hj
      have hd2 : a.defers = (Fr ops.toList 0 a0 vs n).defers := hh.defers.trans hfr.defers.symm
      generalize Fr ops.toList 0 a0 vs n = b at *
      cases a; cases b; simp_all
    have hdl : (ops.toList.drop n).length = ops.size - n := by simp
    have := wpAny_of_seq (P := P) (md := .any) (ops := ops) (Q' := Q) (ops.toList.drop n) n listed a w (fun j => by simp [List.getElem?_drop]) (by rw [hdl, heqL]; exact hsq) (by rw [heq]; exact hfin)
    rw [hdl] at this
    rw [Nat.zero_add]; exact this
  | succ fuel ih =>
    intro listed a w vs hsz hcnt htl hw hdet hnd hcl hh hds
    rw [Nat.add_right_comm]
    have hne : (List.range n).filter (fun j => !listed.getD j true) ≠ [] := fun e => by rw [e] at hcnt; simp at hcnt
    obtain ⟨x, hx⟩ := List.exists_mem_of_ne_nil _ hne
    rw [List.mem_filter, List.mem_range] at hx
    refine ⟨fun hr => ?_, fun i hi => ?_⟩
    · exfalso
      have key : ∀ m, m < n → listed.getD m true = false → False := by
        intro m
        induction m using Nat.strongRecOn with
        | _ m ihn =>
          intro hm h0
          have hms : m < ops.size := by omega
          have ho : ops[m]? = some ops[m] := Array.getElem?_eq_getElem hms
          have hmem : m ∈ Region.ready .any ops listed := by
            rw [mem_ready]
            refine ⟨h0, ops[m], ho, fun e he hbe => ?_⟩
            have hlt := hE.back m _ ho e he hbe
            cases hb : listed.getD e.on true with
            | true =>
              have hl : e.on < listed.size := by omega
              simp [hl] at hb ⊢; exact hb
            | false => exact (ihn e.on hlt (by omega) hb).elim
          rw [hr] at hmem; cases hmem
      exact key x hx.1 (by simpa using hx.2)
    · have hilt : i < n := by
        rcases Nat.lt_or_ge i n with h' | h'
        · exact h'
        · exact absurd hi (tail_waits hsk hch hn ⟨hsz, fun j oj hoj hj => hcl j oj hj hoj, htl⟩ (n - x) x rfl hx.1 (by simpa using hx.2) i h')
      obtain ⟨h0, o, ho, hall⟩ := mem_ready.1 hi
      have hlt : i < ops.size := (Array.getElem?_eq_some_iff.1 ho).1
      have hil : i < listed.size := by omega
      have hSi : ¬ listed.getD i false = true := by
        simp [hil] at h0 ⊢; exact h0
      have hol : (ops.toList.take n)[i]? = some o := by rw [hget i hilt]; exact ho
      have hob := wpZ_obl vs (ops.toList.take n) ss 0 a0 [] h (by simpa using hdet)
      obtain ⟨s, hs, hobl⟩ := hob.1 i o hol
      have hwl : ∀ j, waits o j = true → listed.getD j false = true := fun j hwj => by
        unfold waits at hwj
        rw [Array.any_eq_true] at hwj
        obtain ⟨m, hm, he⟩ := hwj
        simp only [Bool.and_eq_true, beq_iff_eq] at he
        have := hall _ (Array.getElem_mem hm) he.2
        rw [he.1] at this; exact this
      have h1 := hobl w hw (by simp) (fun j F hj hsj hwj => by
        have := hnd j F (hwl j (by simpa using hwj)) hsj
        simpa using this)
      have hFr : ∀ (m : Nat) (l : List Oper) (k c : Nat) (a : Act), m ≤ c → Fr (l.take c) k a vs m = Fr l k a vs m := by
        intro m
        induction m with
        | zero => intro l k c a _; cases l <;> cases c <;> rfl
        | succ m ih => intro l k c a hc; cases l with
          | nil => rw [List.take_nil]
          | cons o r =>
            obtain ⟨c', rfl⟩ : ∃ c', c = c' + 1 := ⟨c - 1, by omega⟩
            rw [List.take_succ_cons]; simp only [Fr]; exact ih r (k + 1) c' _ (by omega)
      rw [hFr i _ _ n _ (Nat.le_of_lt hilt)] at h1
      obtain ⟨Fi, Fj, E, hsi, hsj, hAA, hBB, hxx⟩ := hp2.both
      have h1 : oblAt P ops o (Fr ops.toList 0 a0 vs i) w fun v w' => s.ok v w' ∧ (i = i0 → E w v w') := by
        by_cases hii : i = i0
        · subst hii
          have hol2 : (ops.toList.take (i + 1))[i]? = some o := by rw [List.getElem?_take, if_pos (by omega)]; simpa using ho
          have hob2 := wpZ_obl vs (ops.toList.take (i + 1)) _ 0 a0 [] (hxx w hw) (fun m c hm => by
            have hml : m < i := by
              rcases Nat.lt_trichotomy m i with h | h | h
              · exact h
              · subst h
                have hlen2 : (ss.take m).length = m := by rw [List.length_take]; have := (List.getElem?_eq_some_iff.1 hsi).1; omega
                rw [List.getElem?_append_right (by omega), hlen2, Nat.sub_self] at hm
                simp at hm
              · have hlen2 : (ss.take i).length = i := by rw [List.length_take]; have := (List.getElem?_eq_some_iff.1 hsi).1; omega
                rw [List.getElem?_append_right (by omega), hlen2] at hm
                rw [List.getElem?_eq_none (by simp; omega)] at hm
                cases hm
            have hlen2 : (ss.take i).length = i := by rw [List.length_take]; have := (List.getElem?_eq_some_iff.1 hsi).1; omega
            rw [List.getElem?_append_left (by omega), List.getElem?_take, if_pos hml] at hm
            rw [Nat.zero_add]
            exact hdet m c hm)
          obtain ⟨s2, hs2, hobl2⟩ := hob2.1 i o hol2
          have hlen2 : (ss.take i).length = i := by rw [List.length_take]; have := (List.getElem?_eq_some_iff.1 hsi).1; omega
          rw [List.getElem?_append_right (by omega), hlen2, Nat.sub_self] at hs2
          simp at hs2
          subst hs2
          have h3 := hobl2 w (ExtW.refl _) (by simp) (fun j F hj hsj' hwj => by
            rw [List.getElem?_append_left (by omega), List.getElem?_take, if_pos hj] at hsj'
            have := hnd j F (hwl j (by simpa using hwj)) hsj'
            simpa using this)
          rw [hFr i _ _ (i + 1) _ (by omega)] at h3
          rw [hs] at hsi
          cases hsi
          exact oblAt_weak h3 fun v w' hv => ⟨hv.1, fun _ => hv.2⟩
        · exact oblAt_weak h1 fun v w' hv => ⟨hv, fun h => absurd h hii⟩
      have hfr := Fr_holds hE (a0 := a0) vs i ops.toList 0 a0 (fun j => by simp) (by simp; omega) ⟨rfl, fun j o d hj => by omega, fun s _ => rfl⟩
      have h2 : oblAt P ops o a w fun v w' => s.ok v w' ∧ (i = i0 → E w v w') := by
        refine oblAt_congr (hE.nosel i o ho) (fun d hd => ?_) h1
        by_cases hex : ∃ (j : Nat) (oj : Oper), ops[j]? = some oj ∧ oj.dst = some d
        · obtain ⟨j, oj, hoj, hdj⟩ := hex
          have only : ∀ (k : Nat) (ok : Oper), ops[k]? = some ok → ok.dst = some d → k = j := fun k ok hk hkd => by
            by_cases hkj : k = j
            · exact hkj
            · exact absurd hkd (hE.apart k ok j oj d hk hoj hkj hdj).1
          by_cases hji : j = i
          · subst hji
            rw [hh.rest d fun k ok hk hok hkd => hSi (by rw [← only k ok hok hkd]; exact hk), hfr.rest d fun k ok hk hok hkd => by have := only k ok hok hkd; omega]
          · have hw2 := (hE.apart i o j oj d ho hoj (Ne.symm hji) hdj).2 hd
            by_cases hlt2 : j < i
            · rw [if_pos hlt2] at hw2
              rw [hh.done j oj d (hwl j hw2) hoj hdj, hfr.done j oj d (by simpa using hlt2) hoj hdj]
            · rw [if_neg hlt2] at hw2
              have hnj : ¬ listed.getD j false = true := fun hj => by
                unfold waits at hw2
                rw [Array.any_eq_true] at hw2
                obtain ⟨m, hm, he⟩ := hw2
                simp only [Bool.and_eq_true, beq_iff_eq] at he
                have := hcl j oj hj hoj _ (Array.getElem_mem hm) he.2
                rw [he.1] at this; exact hSi this
              rw [hh.rest d fun k ok hk hok hkd => hnj (by rw [← only k ok hok hkd]; exact hk), hfr.rest d fun k ok hk hok hkd => by have := only k ok hok hkd; omega]
        · rw [hh.rest d fun k ok _ hok hkd => hex ⟨k, ok, hok, hkd⟩, hfr.rest d fun k ok _ hok hkd => hex ⟨k, ok, hok, hkd⟩]
      have h2 : oblAt P ops o a w fun v w' => (s.ok v w' ∧ (i = i0 → E w v w')) ∧ (i = j0 → v = .pointer (some ⟨w.heap.size, 0, none⟩)) := by
        by_cases hij : i = j0
        · subst hij
          obtain ⟨hg, hrun⟩ := hp2.own o ho
          exact oblAt_weak (oblAt_fresh hg (hrun a w) h2) fun v w' hv => ⟨hv.1, fun _ => hv.2⟩
        · exact oblAt_weak h2 fun v w' hv => ⟨hv, fun h => absurd h hij⟩
      have h2 : oblAt P ops o a w fun v w' => ((s.ok v w' ∧ (i = i0 → E w v w')) ∧ (i = j0 → v = .pointer (some ⟨w.heap.size, 0, none⟩))) ∧ ∀ l ∈ links, l.1 = i → l.2.2 (vs l.2.1) v := by
        have hind : ∀ (ls : List (Nat × Nat × (Value → Value → Prop))), (∀ l ∈ ls, l ∈ links) → oblAt P ops o a w fun v w' => ((s.ok v w' ∧ (i = i0 → E w v w')) ∧ (i = j0 → v = .pointer (some ⟨w.heap.size, 0, none⟩))) ∧ ∀ l ∈ ls, l.1 = i → l.2.2 (vs l.2.1) v := by
          intro ls
          induction ls with
          | nil => intro _; exact oblAt_weak h2 fun v w' hv => ⟨hv, fun l hl => by cases hl⟩
          | cons l ls ihl =>
            intro hsub
            have h3 := ihl fun m hm => hsub m (List.mem_cons_of_mem _ hm)
            have hlk := hp2.link l (hsub l (List.mem_cons_self ..))
            by_cases hli : l.1 = i
            · obtain ⟨op, hop⟩ : ∃ o, ops[l.2.1]? = some o := ⟨_, Array.getElem?_eq_getElem (by have := hlk.lp; omega)⟩
              obtain ⟨t, y, hd, hy, hrun⟩ := hlk.run o _ (by rw [hli]; exact ho) hop
              have hpl : listed.getD l.2.1 false = true := hwl _ (hlk.wt o (by rw [hli]; exact ho))
              have hax : a.tmps[t]? = some (vs l.2.1) := by rw [hh.done l.2.1 _ t hpl hop hd, hy]; rfl
              refine oblAt_weak (hrun a w _ _ hax h3) fun v w' hv => ⟨hv.1.1, fun m hm hmi => ?_⟩
              rcases List.mem_cons.1 hm with rfl | hm
              · exact hv.2
              · exact hv.1.2 m hm hmi
            · refine oblAt_weak h3 fun v w' hv => ⟨hv.1, fun m hm hmi => ?_⟩
              rcases List.mem_cons.1 hm with rfl | hm
              · exact absurd hmi hli
              · exact hv.2 m hm hmi
        exact hind links fun _ h => h
      refine wpOp_of_obl ho h2 fun v w' hx hF => ?_
      obtain ⟨⟨⟨hF, hF3⟩, hF2⟩, hF4⟩ := hF
      have hself : (listed.setIfInBounds i true).getD i false = true := by simp [hil]
      have hset : ∀ j, (listed.setIfInBounds i true).getD j false = true ↔ listed.getD j false = true ∨ j = i := fun j => by
        by_cases hji : j = i
        · subst hji; simp [hself]
        · rw [getD_set_ne false (Ne.symm hji)]; simp [hji]
      refine ih (listed.setIfInBounds i true) (a.put o.dst v) w' (fun j => if j = i then v else vs j) (by simpa using hsz) ?_ ?_ (hw.trans hx) ?_ ?_ ?_ ?_ ?_
      · have := filter_set' n i listed hilt (by omega) h0
        omega
      · intro t ht hts
        rw [getD_set_ne true (by omega)]
        exact htl t ht hts
      · intro m c hm
        by_cases hmi : m = i
        · subst hmi
          rw [hm] at hs; cases hs
          simp only [if_true]; exact hF
        · simp only [hmi, if_false]; exact hdet m c hm
      · intro j F hj hsj
        by_cases hji : j = i
        · subst hji
          rw [hsj] at hs; cases hs
          simp only [if_true]; exact hF
        · simp only [hji, if_false]
          have hjl : listed.getD j false = true := ((hset j).1 hj).resolve_right hji
          have hjn : j < n := by
            rcases Nat.lt_or_ge j n with h' | h'
            · exact h'
            · exfalso
              rcases Nat.lt_or_ge j ops.size with h'' | h''
              · have := htl j h' h''
                have hl : j < listed.size := by omega
                simp [hl] at this hjl
                rw [this] at hjl; cases hjl
              · simp [Array.getElem?_eq_none (show listed.size ≤ j by omega)] at hjl
          exact hob.2.2 j F (by rw [hlen]; exact hjn) hsj _ _ _ (hnd j F hjl hsj) hx
      · intro j oj hj hoj e he hb
        rw [hset]
        left
        rcases (hset j).1 hj with hj | rfl
        · exact hcl j oj hj hoj e he hb
        · rw [ho] at hoj; cases hoj
          exact hall e he hb
      · exact hh.put hE ho hSi hset (by simp) (fun j hj => by simp [hj])
      · refine ⟨fun h3 h4 => ?_, fun l hl hlk => ?_⟩
        · by_cases e1 : i0 = i
          · have e2 : j0 ≠ i := fun e => hp2.ne (e1.trans e.symm)
            simp only [if_pos e1, if_neg e2]
            have hj := ((hset j0).1 h4).resolve_right e2
            exact hBB _ _ _ _ (hnd j0 Fj hj hsj) hx (hF3 e1.symm)
          · by_cases e2 : j0 = i
            · simp only [if_neg e1, if_pos e2]
              have hj := ((hset i0).1 h3).resolve_right e1
              rw [hF2 e2.symm]
              exact hAA _ _ _ (hnd i0 Fi hj hsi) hx
            · simp only [if_neg e1, if_neg e2]
              exact hp2.mono _ _ _ _ (hds.1 (((hset i0).1 h3).resolve_right e1) (((hset j0).1 h4).resolve_right e2)) hx
        · have hk := hp2.link l hl
          by_cases e1 : l.1 = i
          · have hok : ops[l.1]? = some o := by rw [e1]; exact ho
            have hpl := hwl _ (hk.wt o hok)
            have e2 : l.2.1 ≠ i := fun e => hSi (by rw [← e]; exact hpl)
            simp only [if_pos e1, if_neg e2]
            exact hF4 l hl e1
          · have hkl := ((hset l.1).1 hlk).resolve_right e1
            obtain ⟨ok, hok⟩ : ∃ o, ops[l.1]? = some o := ⟨_, Array.getElem?_eq_getElem (by have := hk.lk; omega)⟩
            have hpl : listed.getD l.2.1 false = true := by
              have hw1 := hk.wt _ hok
              unfold waits at hw1
              rw [Array.any_eq_true] at hw1
              obtain ⟨m, hm, he⟩ := hw1
              simp only [Bool.and_eq_true, beq_iff_eq] at he
              have := hcl l.1 _ hkl hok _ (Array.getElem_mem hm) he.2
              rw [he.1] at this; exact this
            have e2 : l.2.1 ≠ i := fun e => hSi (by rw [← e]; exact hpl)
            simp only [if_neg e1, if_neg e2]
            exact hds.2 l hl hkl

/-- the law -/
theorem wp_region_ext_tail3 {id : Nat} {Q : Exit → Act → World → Prop} {a : Act} {w : World} {l : List Oper} (n i0 j0 : Nat) (R : Value → Value → World → Prop) (links : List (Nat × Nat × (Value → Value → Prop))) (ss : List Spec) (hm : P.follows .mixedOrders = true) (hB : extTailB l.toArray n = true)
    (h : wpZ P l.toArray w.drew (fun a w => Fin2 l.toArray i0 j0 R links a w → wpList P l.toArray Q (l.drop n) a w) (l.take n) ss 0 a []) (hp2 : Pair2 P l.toArray a ss w.drew n i0 j0 R links) : (Code.region id l.toArray true).wp P Q a w := by
  simp only [extTailB, Bool.and_eq_true, decide_eq_true_eq] at hB
  obtain ⟨⟨⟨⟨hE, hn⟩, hsk⟩, hch⟩, hsq⟩ := hB
  refine wp_region_any hm ?_
  have hrep : ∀ j b, j < l.length → (Array.replicate l.toArray.size false).getD j b = false := fun j b hj => by simp [hj]
  have hrep0 : ∀ j, (Array.replicate l.toArray.size false).getD j false = true → False := fun j hj => by
    rcases Nat.lt_or_ge j l.length with h' | h'
    · rw [hrep j false h'] at hj; cases hj
    · simp [Nat.not_lt.2 h'] at hj
  have := wpAny_of_walk_tail3 (P := P) (ops := l.toArray) hp2 (w0 := w.drew) (Q := Q) (a0 := a) (ss := ss) (n := n) (edges_of hE) hn hsk hch hsq (by simpa using h) n (Array.replicate l.toArray.size false) a w.drew
    (fun m => match ss[m]? with | some (.det c) => c | _ => undef) (by simp) (by
      have : (List.range n).filter (fun j => !(Array.replicate l.toArray.size false).getD j true) = List.range n := by
        rw [List.filter_eq_self]
        intro j hj
        have hj := List.mem_range.1 hj
        simp at hn
        rw [hrep j true (by omega)]; rfl
      rw [this, List.length_range]) (fun t _ ht => hrep t true (by simpa using ht)) (ExtW.refl _) (fun m c hm => by simp [hm]) (fun j F hj => (hrep0 j hj).elim) (fun j o hj => (hrep0 j hj).elim)
      ⟨rfl, fun j o d hj => (hrep0 j hj).elim, fun s _ => rfl⟩ ⟨fun h => (hrep0 i0 h).elim, fun k _ h => (hrep0 k.1 h).elim⟩
  rw [show n + (l.toArray.size - n) = l.toArray.size by omega] at this
  exact this

/-- an operation q that may come up late, but needs no world -/
structure Late (P : Program) (ops : Array Oper) (n q : Nat) : Prop where
  lt : q < n
  direct : ∀ i o, n ≤ i → ops[i]? = some o → ∀ j, j < n → j ≠ q → waits o j = true
  free : ∀ o, ops[q]? = some o → ∀ j oj, ops[j]? = some oj → j ≠ q → waits o j = false → (∀ e ∈ oj.after, Region.binds .any e = true → e.on ≠ q) → o.apart ops oj = true
  yields : ∀ o, ops[q]? = some o → ∀ a w F, oblAt P ops o a w F → ∃ v, Yields P ops o v a ∧ F v w
def extLateB (ops : Array Oper) (n q : Nat) : Bool :=
  extB ops && decide (n < ops.size) && decide (q < n) && Region.seqB .any ops (ops.size - n) n (firstOnes n ops.size) &&
  ((List.range ops.size).all fun i => decide (i < n) || (List.range n).all fun j => j == q || (ops[i]?.map fun o => waits o j).getD true) &&
  ((List.range ops.size).all fun j => j == q || (ops[q]?.map fun o => (ops[j]?.map fun oj => waits o j || oj.after.any (fun e => Region.binds .any e && e.on == q) || o.apart ops oj).getD true).getD true)
theorem late_of {P : Program} {ops : Array Oper} {n q : Nat} (h : extLateB ops n q = true) (hy : ∀ o, ops[q]? = some o → ∀ a w F, oblAt P ops o a w F → ∃ v, Yields P ops o v a ∧ F v w) :
    extB ops = true ∧ n < ops.size ∧ Region.seqB .any ops (ops.size - n) n (firstOnes n ops.size) = true ∧ Late P ops n q := by
  simp only [extLateB, Bool.and_eq_true, decide_eq_true_eq, List.all_eq_true, List.mem_range, Bool.or_eq_true, beq_iff_eq] at h
  obtain ⟨⟨⟨⟨⟨h1, h2⟩, h3⟩, h4⟩, h5⟩, h6⟩ := h
  refine ⟨h1, h2, h4, h3, fun i o hi ho j hj hjq => ?_, fun o ho j oj hoj hjq hwt hno => ?_, hy⟩
  · have hlt := (Array.getElem?_eq_some_iff.1 ho).1
    rcases h5 i hlt with h | h
    · omega
    · rcases h j hj with h | h
      · exact absurd h hjq
      · rw [ho] at h; simpa using h
  · have hlt := (Array.getElem?_eq_some_iff.1 hoj).1
    rcases h6 j hlt with h | h
    · exact absurd h hjq
    · rw [ho, hoj] at h
      simp only [Option.map_some, Option.getD_some, Bool.or_eq_true] at h
      rcases h with (h | h) | h
      · rw [hwt] at h; cases h
      · obtain ⟨e, he, hb⟩ := Array.any_eq_true'.1 h
        simp only [Bool.and_eq_true, beq_iff_eq] at hb
        exact absurd hb.2 (hno e he hb.1)
      · exact h
theorem yields_extract {P : Program} {ops : Array Oper} {o : Oper} {x : Operand} {i : Nat} (hg : o.guard = none) (ho : o.op = .extract x i) (a : Act) (w : World) (F : Value → World → Prop) (h : oblAt P ops o a w F) : ∃ v, Yields P ops o v a ∧ F v w := by
  have hw : Region.wanted o (yielded ops a.tmps) = true := by unfold Region.wanted; rw [hg]
  unfold oblAt at h
  rw [if_pos hw] at h
  unfold execOp at h
  rw [ho] at h
  simp only at h
  cases hx : a.eval x with
  | tuple xs =>
    rw [hx] at h
    cases hxi : xs[i]? with
    | none => simp [Instr.extract, hxi] at h; exact h.elim
    | some v =>
      simp only [Instr.extract, hxi, Sem.run_bind, Sem.run_pure, Result.andThen_ok] at h
      refine ⟨v, .inl ⟨hw, fun w' => ?_⟩, h.2⟩
      unfold execOp
      rw [ho]
      simp only [hx, Instr.extract, hxi, Sem.run_bind, Sem.run_pure, Result.andThen_ok]
  | _ => rw [hx] at h; exact h.elim
theorem wpAny_of_walk_tail4 {w0 : World} {Q : Exit → Act → World → Prop} {a0 : Act} {ss : List Spec} {n i0 j0 : Nat} {R : Value → Value → World → Prop} {links : List (Nat × Nat × (Value → Value → Prop))} (hp2 : Pair2 P ops a0 ss w0 n i0 j0 R links) {q : Nat} (hlate : Late P ops n q) (hQ : ∀ o, ops[q]? = some o → ∀ c a w v, Q (.panic c) (Act.put a o.dst v) w → Q (.panic c) a w) (hE : EdgesOk ops) (hn : n < ops.size)
    (hsq : Region.seqB .any ops (ops.size - n) n (firstOnes n ops.size) = true) (h : wpZ P ops w0 (fun a w => Fin2 ops i0 j0 R links a w → wpList P ops Q (ops.toList.drop n) a w) (ops.toList.take n) ss 0 a0 []) :
    ∀ (fuel : Nat) (listed : Array Bool) (a : Act) (w : World) (vs : Nat → Value), listed.size = ops.size → ((List.range n).filter fun j => !listed.getD j true).length = fuel → (∀ t, n ≤ t → t < ops.size → listed.getD t true = false) →
      ExtW w0 w → (∀ m c, ss[m]? = some (.det c) → vs m = c) → (∀ j F, listed.getD j false = true → ss[j]? = some (.nd F) → F (vs j) w) →
      (∀ j o, listed.getD j false = true → ops[j]? = some o → ∀ e ∈ o.after, Region.binds .any e = true → listed.getD e.on false = true) →
      Holds ops a0 (fun j => listed.getD j false = true) vs a → ((listed.getD i0 false = true → listed.getD j0 false = true → R (vs i0) (vs j0) w) ∧ ∀ l ∈ links, listed.getD l.1 false = true → l.2.2 (vs l.2.1) (vs l.1)) → wpAny P .any ops Q (fuel + (ops.size - n)) listed a w := by
  have hlen : (ops.toList.take n).length = n := by rw [List.length_take, Array.length_toList]; omega
  have hget : ∀ j, j < n → (ops.toList.take n)[j]? = ops[j]? := fun j hj => by rw [List.getElem?_take, if_pos hj]; simp
  intro fuel
  induction fuel with
  | zero =>
    intro listed a w vs hsz hcnt htl hw hdet hnd hcl hh hds
    have hall : ∀ j, j < n → listed.getD j true = true := fun j hj => by
      have h0 : (List.range n).filter (fun j => !listed.getD j true) = [] := List.eq_nil_of_length_eq_zero hcnt
      rw [List.filter_eq_nil_iff] at h0
      simpa using h0 j (List.mem_range.2 hj)
    have hall' : ∀ j, j < n → listed.getD j false = true := fun j hj => by
      have := hall j hj
      have hl : j < listed.size := by omega
      simp [hl] at this ⊢; exact this
    have heqL : listed = firstOnes n ops.size := by
      apply Array.ext_getElem?
      intro j
      have e0 : (firstOnes n ops.size)[j]? = (List.replicate n true ++ List.replicate (ops.size - n) false)[j]? := by unfold firstOnes; simp only [List.getElem?_toArray]
      rw [e0]
      by_cases hj : j < n
      · have := hall j hj
        rw [List.getElem?_append_left (by simpa using hj), List.getElem?_replicate, if_pos hj]
        have hl : j < listed.size := by omega
        simp [hl] at this ⊢; exact this
      · rw [List.getElem?_append_right (by simpa using Nat.le_of_not_lt hj), List.getElem?_replicate, List.length_replicate]
        by_cases hj2 : j < ops.size
        · have := htl j (by omega) hj2
          have hl : j < listed.size := by omega
          rw [if_pos (by omega)]
          simp [hl] at this ⊢; exact this
        · rw [if_neg (by omega)]
          exact Array.getElem?_eq_none (by omega)
    have hob := wpZ_obl vs (ops.toList.take n) ss 0 a0 [] h (by simpa using hdet)
    have hfin := hob.2.1 w hw (by simp) (fun j F hj hs => by simpa using hnd j F (hall' j (by rwa [hlen] at hj)) hs)
    rw [hlen] at hfin
    have hfr := Fr_holds hE (a0 := a0) vs n ops.toList 0 a0 (fun j => by simp) (by rw [Array.length_toList]; omega) ⟨rfl, fun j o d hj => by omega, fun s _ => rfl⟩
    have hFr : ∀ (m : Nat) (l : List Oper) (k : Nat) (a : Act), Fr (l.take m) k a vs m = Fr l k a vs m := by
      intro m
      induction m with
      | zero => intro l k a; cases l <;> rfl
      | succ m ih => intro l k a; cases l with
        | nil => rfl
        | cons o r => rw [List.take_succ_cons]; simp only [Fr]; exact ih r (k + 1) _
    rw [hFr] at hfin
    have hget2 : ∀ k o d x, k < n → ops[k]? = some o → o.dst = some d → (Fr ops.toList 0 a0 vs n).tmps[d]? = some x → x = vs k := by
      intro k o d x hk ho hd hx
      have h1 := hfr.done k o d (by simpa using hk) ho hd
      rw [h1] at hx
      cases e1 : a0.tmps[d]? with
      | none => rw [e1] at hx; cases hx
      | some y => rw [e1] at hx; simp at hx; exact hx.symm
    have hfin := hfin (by
      refine ⟨fun oi oj di dj x z ho1 ho2 hd1 hd2 hx1 hx2 => ?_, fun l hl ok op dk dp x y ho1 ho2 hd1 hd2 hx1 hx2 => ?_⟩
      · rw [hget2 i0 oi di x hp2.li ho1 hd1 hx1, hget2 j0 oj dj z hp2.lj ho2 hd2 hx2]
        exact hds.1 (hall' i0 hp2.li) (hall' j0 hp2.lj)
      · have hlk := hp2.link l hl
        rw [hget2 l.2.1 op dp x hlk.lp ho2 hd2 hx2, hget2 l.1 ok dk y hlk.lk ho1 hd1 hx1]
        exact hds.2 l hl (hall' l.1 hlk.lk))
    have heq : a = Fr ops.toList 0 a0 vs n := by
      have ht : a.tmps = (Fr ops.toList 0 a0 vs n).tmps := by
        apply Array.ext_getElem?
        intro s
        by_cases hs : ∃ j o, j < n ∧ ops[j]? = some o ∧ o.dst = some s
        · obtain ⟨j, o, hj, ho, hd⟩ := hs
          rw [hh.done j o s (hall' j hj) ho hd, hfr.done j o s (by simpa using hj) ho hd]
        · rw [hh.rest s fun j o hj ho hd => hs ⟨j, o, ?_, ho, hd⟩, hfr.rest s fun j o hj ho hd => hs ⟨j, o, by simpa using hj, ho, hd⟩]
          rcases Nat.lt_or_ge j n with h' | h'
          · exact h'
          · have hjs := (Array.getElem?_eq_some_iff.1 ho).1
            have := htl j h' hjs
            have hl : j < listed.size := by omega
            simp [hl] at this hj
            rw [this] at hj; cases hj
      have hd2 : a.defers = (Fr ops.toList 0 a0 vs n).defers := hh.defers.trans hfr.defers.symm
      generalize Fr ops.toList 0 a0 vs n = b at *
      cases a; cases b; simp_all
    have hdl : (ops.toList.drop n).length = ops.size - n := by simp
    have := wpAny_of_seq (P := P) (md := .any) (ops := ops) (Q' := Q) (ops.toList.drop n) n listed a w (fun j => by simp [List.getElem?_drop]) (by rw [hdl, heqL]; exact hsq) (by rw [heq]; exact hfin)
    rw [hdl] at this
    rw [Nat.zero_add]; exact this
  | succ fuel ih =>
    intro listed a w vs hsz hcnt htl hw hdet hnd hcl hh hds
    rw [Nat.add_right_comm]
    have hne : (List.range n).filter (fun j => !listed.getD j true) ≠ [] := fun e => by rw [e] at hcnt; simp at hcnt
    obtain ⟨x, hx⟩ := List.exists_mem_of_ne_nil _ hne
    rw [List.mem_filter, List.mem_range] at hx
    have step : ∀ i, i < n → i ∈ Region.ready .any ops listed → ∃ o F, ops[i]? = some o ∧ oblAt P ops o a w F ∧ ∀ v w', ExtW w w' → F v w' → wpAny P .any ops Q (fuel + (ops.size - n)) (listed.setIfInBounds i true) (a.put o.dst v) w' := by
      intro i hilt hi
      obtain ⟨h0, o, ho, hall⟩ := mem_ready.1 hi
      have hlt : i < ops.size := (Array.getElem?_eq_some_iff.1 ho).1
      have hil : i < listed.size := by omega
      have hSi : ¬ listed.getD i false = true := by
        simp [hil] at h0 ⊢; exact h0
      have hol : (ops.toList.take n)[i]? = some o := by rw [hget i hilt]; exact ho
      have hob := wpZ_obl vs (ops.toList.take n) ss 0 a0 [] h (by simpa using hdet)
      obtain ⟨s, hs, hobl⟩ := hob.1 i o hol
      have hwl : ∀ j, waits o j = true → listed.getD j false = true := fun j hwj => by
        unfold waits at hwj
        rw [Array.any_eq_true] at hwj
        obtain ⟨m, hm, he⟩ := hwj
        simp only [Bool.and_eq_true, beq_iff_eq] at he
        have := hall _ (Array.getElem_mem hm) he.2
        rw [he.1] at this; exact this
      have h1 := hobl w hw (by simp) (fun j F hj hsj hwj => by
        have := hnd j F (hwl j (by simpa using hwj)) hsj
        simpa using this)
      have hFr : ∀ (m : Nat) (l : List Oper) (k c : Nat) (a : Act), m ≤ c → Fr (l.take c) k a vs m = Fr l k a vs m := by
        intro m
        induction m with
        | zero => intro l k c a _; cases l <;> cases c <;> rfl
        | succ m ih => intro l k c a hc; cases l with
          | nil => rw [List.take_nil]
          | cons o r =>
            obtain ⟨c', rfl⟩ : ∃ c', c = c' + 1 := ⟨c - 1, by omega⟩
            rw [List.take_succ_cons]; simp only [Fr]; exact ih r (k + 1) c' _ (by omega)
      rw [hFr i _ _ n _ (Nat.le_of_lt hilt)] at h1
      obtain ⟨Fi, Fj, E, hsi, hsj, hAA, hBB, hxx⟩ := hp2.both
      have h1 : oblAt P ops o (Fr ops.toList 0 a0 vs i) w fun v w' => s.ok v w' ∧ (i = i0 → E w v w') := by
        by_cases hii : i = i0
        · subst hii
          have hol2 : (ops.toList.take (i + 1))[i]? = some o := by rw [List.getElem?_take, if_pos (by omega)]; simpa using ho
          have hob2 := wpZ_obl vs (ops.toList.take (i + 1)) _ 0 a0 [] (hxx w hw) (fun m c hm => by
            have hml : m < i := by
              rcases Nat.lt_trichotomy m i with h | h | h
              · exact h
              · subst h
                have hlen2 : (ss.take m).length = m := by rw [List.length_take]; have := (List.getElem?_eq_some_iff.1 hsi).1; omega
                rw [List.getElem?_append_right (by omega), hlen2, Nat.sub_self] at hm
                simp at hm
              · have hlen2 : (ss.take i).length = i := by rw [List.length_take]; have := (List.getElem?_eq_some_iff.1 hsi).1; omega
                rw [List.getElem?_append_right (by omega), hlen2] at hm
                rw [List.getElem?_eq_none (by simp; omega)] at hm
                cases hm
            have hlen2 : (ss.take i).length = i := by rw [List.length_take]; have := (List.getElem?_eq_some_iff.1 hsi).1; omega
            rw [List.getElem?_append_left (by omega), List.getElem?_take, if_pos hml] at hm
            rw [Nat.zero_add]
            exact hdet m c hm)
          obtain ⟨s2, hs2, hobl2⟩ := hob2.1 i o hol2
          have hlen2 : (ss.take i).length = i := by rw [List.length_take]; have := (List.getElem?_eq_some_iff.1 hsi).1; omega
          rw [List.getElem?_append_right (by omega), hlen2, Nat.sub_self] at hs2
          simp at hs2
          subst hs2
          have h3 := hobl2 w (ExtW.refl _) (by simp) (fun j F hj hsj' hwj => by
            rw [List.getElem?_append_left (by omega), List.getElem?_take, if_pos hj] at hsj'
            have := hnd j F (hwl j (by simpa using hwj)) hsj'
            simpa using this)
          rw [hFr i _ _ (i + 1) _ (by omega)] at h3
          rw [hs] at hsi
          cases hsi
          exact oblAt_weak h3 fun v w' hv => ⟨hv.1, fun _ => hv.2⟩
        · exact oblAt_weak h1 fun v w' hv => ⟨hv, fun h => absurd h hii⟩
      have hfr := Fr_holds hE (a0 := a0) vs i ops.toList 0 a0 (fun j => by simp) (by simp; omega) ⟨rfl, fun j o d hj => by omega, fun s _ => rfl⟩
      have h2 : oblAt P ops o a w fun v w' => s.ok v w' ∧ (i = i0 → E w v w') := by
        refine oblAt_congr (hE.nosel i o ho) (fun d hd => ?_) h1
        by_cases hex : ∃ (j : Nat) (oj : Oper), ops[j]? = some oj ∧ oj.dst = some d
        · obtain ⟨j, oj, hoj, hdj⟩ := hex
          have only : ∀ (k : Nat) (ok : Oper), ops[k]? = some ok → ok.dst = some d → k = j := fun k ok hk hkd => by
            by_cases hkj : k = j
            · exact hkj
            · exact absurd hkd (hE.apart k ok j oj d hk hoj hkj hdj).1
          by_cases hji : j = i
          · subst hji
            rw [hh.rest d fun k ok hk hok hkd => hSi (by rw [← only k ok hok hkd]; exact hk), hfr.rest d fun k ok hk hok hkd => by have := only k ok hok hkd; omega]
          · have hw2 := (hE.apart i o j oj d ho hoj (Ne.symm hji) hdj).2 hd
            by_cases hlt2 : j < i
            · rw [if_pos hlt2] at hw2
              rw [hh.done j oj d (hwl j hw2) hoj hdj, hfr.done j oj d (by simpa using hlt2) hoj hdj]
            · rw [if_neg hlt2] at hw2
              have hnj : ¬ listed.getD j false = true := fun hj => by
                unfold waits at hw2
                rw [Array.any_eq_true] at hw2
                obtain ⟨m, hm, he⟩ := hw2
                simp only [Bool.and_eq_true, beq_iff_eq] at he
                have := hcl j oj hj hoj _ (Array.getElem_mem hm) he.2
                rw [he.1] at this; exact hSi this
              rw [hh.rest d fun k ok hk hok hkd => hnj (by rw [← only k ok hok hkd]; exact hk), hfr.rest d fun k ok hk hok hkd => by have := only k ok hok hkd; omega]
        · rw [hh.rest d fun k ok _ hok hkd => hex ⟨k, ok, hok, hkd⟩, hfr.rest d fun k ok _ hok hkd => hex ⟨k, ok, hok, hkd⟩]
      have h2 : oblAt P ops o a w fun v w' => (s.ok v w' ∧ (i = i0 → E w v w')) ∧ (i = j0 → v = .pointer (some ⟨w.heap.size, 0, none⟩)) := by
        by_cases hij : i = j0
        · subst hij
          obtain ⟨hg, hrun⟩ := hp2.own o ho
          exact oblAt_weak (oblAt_fresh hg (hrun a w) h2) fun v w' hv => ⟨hv.1, fun _ => hv.2⟩
        · exact oblAt_weak h2 fun v w' hv => ⟨hv, fun h => absurd h hij⟩
      have h2 : oblAt P ops o a w fun v w' => ((s.ok v w' ∧ (i = i0 → E w v w')) ∧ (i = j0 → v = .pointer (some ⟨w.heap.size, 0, none⟩))) ∧ ∀ l ∈ links, l.1 = i → l.2.2 (vs l.2.1) v := by
        have hind : ∀ (ls : List (Nat × Nat × (Value → Value → Prop))), (∀ l ∈ ls, l ∈ links) → oblAt P ops o a w fun v w' => ((s.ok v w' ∧ (i = i0 → E w v w')) ∧ (i = j0 → v = .pointer (some ⟨w.heap.size, 0, none⟩))) ∧ ∀ l ∈ ls, l.1 = i → l.2.2 (vs l.2.1) v := by
          intro ls
          induction ls with
          | nil => intro _; exact oblAt_weak h2 fun v w' hv => ⟨hv, fun l hl => by cases hl⟩
          | cons l ls ihl =>
            intro hsub
            have h3 := ihl fun m hm => hsub m (List.mem_cons_of_mem _ hm)
            have hlk := hp2.link l (hsub l (List.mem_cons_self ..))
            by_cases hli : l.1 = i
            · obtain ⟨op, hop⟩ : ∃ o, ops[l.2.1]? = some o := ⟨_, Array.getElem?_eq_getElem (by have := hlk.lp; omega)⟩
              obtain ⟨t, y, hd, hy, hrun⟩ := hlk.run o _ (by rw [hli]; exact ho) hop
              have hpl : listed.getD l.2.1 false = true := hwl _ (hlk.wt o (by rw [hli]; exact ho))
              have hax : a.tmps[t]? = some (vs l.2.1) := by rw [hh.done l.2.1 _ t hpl hop hd, hy]; rfl
              refine oblAt_weak (hrun a w _ _ hax h3) fun v w' hv => ⟨hv.1.1, fun m hm hmi => ?_⟩
              rcases List.mem_cons.1 hm with rfl | hm
              · exact hv.2
              · exact hv.1.2 m hm hmi
            · refine oblAt_weak h3 fun v w' hv => ⟨hv.1, fun m hm hmi => ?_⟩
              rcases List.mem_cons.1 hm with rfl | hm
              · exact absurd hmi hli
              · exact hv.2 m hm hmi
        exact hind links fun _ h => h
      refine ⟨o, _, ho, h2, fun v w' hx hF => ?_⟩
      obtain ⟨⟨⟨hF, hF3⟩, hF2⟩, hF4⟩ := hF
      have hself : (listed.setIfInBounds i true).getD i false = true := by simp [hil]
      have hset : ∀ j, (listed.setIfInBounds i true).getD j false = true ↔ listed.getD j false = true ∨ j = i := fun j => by
        by_cases hji : j = i
        · subst hji; simp [hself]
        · rw [getD_set_ne false (Ne.symm hji)]; simp [hji]
      refine ih (listed.setIfInBounds i true) (a.put o.dst v) w' (fun j => if j = i then v else vs j) (by simpa using hsz) ?_ ?_ (hw.trans hx) ?_ ?_ ?_ ?_ ?_
      · have := filter_set' n i listed hilt (by omega) h0
        omega
      · intro t ht hts
        rw [getD_set_ne true (by omega)]
        exact htl t ht hts
      · intro m c hm
        by_cases hmi : m = i
        · subst hmi
          rw [hm] at hs; cases hs
          simp only [if_true]; exact hF
        · simp only [hmi, if_false]; exact hdet m c hm
      · intro j F hj hsj
        by_cases hji : j = i
        · subst hji
          rw [hsj] at hs; cases hs
          simp only [if_true]; exact hF
        · simp only [hji, if_false]
          have hjl : listed.getD j false = true := ((hset j).1 hj).resolve_right hji
          have hjn : j < n := by
            rcases Nat.lt_or_ge j n with h' | h'
            · exact h'
            · exfalso
              rcases Nat.lt_or_ge j ops.size with h'' | h''
              · have := htl j h' h''
                have hl : j < listed.size := by omega
                simp [hl] at this hjl
                rw [this] at hjl; cases hjl
              · simp [Array.getElem?_eq_none (show listed.size ≤ j by omega)] at hjl
          exact hob.2.2 j F (by rw [hlen]; exact hjn) hsj _ _ _ (hnd j F hjl hsj) hx
      · intro j oj hj hoj e he hb
        rw [hset]
        left
        rcases (hset j).1 hj with hj | rfl
        · exact hcl j oj hj hoj e he hb
        · rw [ho] at hoj; cases hoj
          exact hall e he hb
      · exact hh.put hE ho hSi hset (by simp) (fun j hj => by simp [hj])
      · refine ⟨fun h3 h4 => ?_, fun l hl hlk => ?_⟩
        · by_cases e1 : i0 = i
          · have e2 : j0 ≠ i := fun e => hp2.ne (e1.trans e.symm)
            simp only [if_pos e1, if_neg e2]
            have hj := ((hset j0).1 h4).resolve_right e2
            exact hBB _ _ _ _ (hnd j0 Fj hj hsj) hx (hF3 e1.symm)
          · by_cases e2 : j0 = i
            · simp only [if_neg e1, if_pos e2]
              have hj := ((hset i0).1 h3).resolve_right e1
              rw [hF2 e2.symm]
              exact hAA _ _ _ (hnd i0 Fi hj hsi) hx
            · simp only [if_neg e1, if_neg e2]
              exact hp2.mono _ _ _ _ (hds.1 (((hset i0).1 h3).resolve_right e1) (((hset j0).1 h4).resolve_right e2)) hx
        · have hk := hp2.link l hl
          by_cases e1 : l.1 = i
          · have hok : ops[l.1]? = some o := by rw [e1]; exact ho
            have hpl := hwl _ (hk.wt o hok)
            have e2 : l.2.1 ≠ i := fun e => hSi (by rw [← e]; exact hpl)
            simp only [if_pos e1, if_neg e2]
            exact hF4 l hl e1
          · have hkl := ((hset l.1).1 hlk).resolve_right e1
            obtain ⟨ok, hok⟩ : ∃ o, ops[l.1]? = some o := ⟨_, Array.getElem?_eq_getElem (by have := hk.lk; omega)⟩
            have hpl : listed.getD l.2.1 false = true := by
              have hw1 := hk.wt _ hok
              unfold waits at hw1
              rw [Array.any_eq_true] at hw1
              obtain ⟨m, hm, he⟩ := hw1
              simp only [Bool.and_eq_true, beq_iff_eq] at he
              have := hcl l.1 _ hkl hok _ (Array.getElem_mem hm) he.2
              rw [he.1] at this; exact this
            have e2 : l.2.1 ≠ i := fun e => hSi (by rw [← e]; exact hpl)
            simp only [if_neg e1, if_neg e2]
            exact hds.2 l hl hkl
    by_cases hqr : q ∈ Region.ready .any ops listed
    · obtain ⟨o, F, ho, hob, hk⟩ := step q hlate.lt hqr
      obtain ⟨v, hy, hF⟩ := hlate.yields o ho a w F hob
      refine wpAny_first ho (fun j oj cs b hoj => hE.nosel j oj hoj cs b) (fun c a w h => hQ o ho c a w v h) (fuel + (ops.size - n)) listed a w (fun j oj hoj hjq hun hno => hlate.free o ho j oj hoj hjq (by
        cases hwj : waits o j with
        | false => rfl
        | true =>
          exfalso
          obtain ⟨h0, o2, ho2, hall⟩ := mem_ready.1 hqr
          rw [ho] at ho2
          cases ho2
          unfold waits at hwj
          rw [Array.any_eq_true] at hwj
          obtain ⟨m, hm, he⟩ := hwj
          simp only [Bool.and_eq_true, beq_iff_eq] at he
          have h1 := hall _ (Array.getElem_mem hm) he.2
          rw [he.1] at h1
          rcases Nat.lt_or_ge j listed.size with h' | h'
          · simp [h'] at h1 hun
            rw [h1] at hun; cases hun
          · simp [Array.getElem?_eq_none h'] at h1) hno) hqr hy (hk v w (ExtW.refl _) hF)
    refine ⟨fun hr => ?_, fun i hi => ?_⟩
    · exfalso
      have key : ∀ m, m < n → listed.getD m true = false → False := by
        intro m
        induction m using Nat.strongRecOn with
        | _ m ihn =>
          intro hm h0
          have hms : m < ops.size := by omega
          have ho : ops[m]? = some ops[m] := Array.getElem?_eq_getElem hms
          have hmem : m ∈ Region.ready .any ops listed := by
            rw [mem_ready]
            refine ⟨h0, ops[m], ho, fun e he hbe => ?_⟩
            have hlt := hE.back m _ ho e he hbe
            cases hb : listed.getD e.on true with
            | true =>
              have hl : e.on < listed.size := by omega
              simp [hl] at hb ⊢; exact hb
            | false => exact (ihn e.on hlt (by omega) hb).elim
          rw [hr] at hmem; cases hmem
      exact key x hx.1 (by simpa using hx.2)
    · have hilt : i < n := by
        rcases Nat.lt_or_ge i n with h' | h'
        · exact h'
        · exfalso
          obtain ⟨h0, o, ho, hall⟩ := mem_ready.1 hi
          have hwl : ∀ j, waits o j = true → listed.getD j false = true := fun j hwj => by
            unfold waits at hwj
            rw [Array.any_eq_true] at hwj
            obtain ⟨m, hm, he⟩ := hwj
            simp only [Bool.and_eq_true, beq_iff_eq] at he
            have := hall _ (Array.getElem_mem hm) he.2
            rw [he.1] at this; exact this
          have hothers : ∀ j, j < n → j ≠ q → listed.getD j false = true := fun j hj hjq => hwl j (hlate.direct i o h' ho j hj hjq)
          have hxq : x = q := by
            by_cases hxq : x = q
            · exact hxq
            · have h1 := hothers x hx.1 hxq
              have h2 : listed.getD x true = false := by simpa using hx.2
              have hxl : x < listed.size := by omega
              simp [hxl] at h1 h2
              rw [h1] at h2; cases h2
          subst hxq
          apply hqr
          obtain ⟨oq, hoq⟩ : ∃ o, ops[x]? = some o := ⟨_, Array.getElem?_eq_getElem (by omega)⟩
          rw [mem_ready]
          exact ⟨by simpa using hx.2, oq, hoq, fun e he hbe => hothers e.on (by have := hE.back x oq hoq e he hbe; omega) (by have := hE.back x oq hoq e he hbe; omega)⟩
      obtain ⟨o, F, ho, hob, hk⟩ := step i hilt hi
      exact wpOp_of_obl ho hob fun v w' hx hF => hk v w' hx hF

/-- the law -/
theorem wp_region_ext_tail4 {id : Nat} {Q : Exit → Act → World → Prop} {a : Act} {w : World} {l : List Oper} (n i0 j0 q : Nat) (R : Value → Value → World → Prop) (links : List (Nat × Nat × (Value → Value → Prop))) (ss : List Spec) (hm : P.follows .mixedOrders = true) (hB : extLateB l.toArray n q = true) (hQ : ∀ o, l.toArray[q]? = some o → ∀ c a w v, Q (.panic c) (Act.put a o.dst v) w → Q (.panic c) a w) (hy : ∀ o, l.toArray[q]? = some o → ∀ a w F, oblAt P l.toArray o a w F → ∃ v, Yields P l.toArray o v a ∧ F v w)
    (h : wpZ P l.toArray w.drew (fun a w => Fin2 l.toArray i0 j0 R links a w → wpList P l.toArray Q (l.drop n) a w) (l.take n) ss 0 a []) (hp2 : Pair2 P l.toArray a ss w.drew n i0 j0 R links) : (Code.region id l.toArray true).wp P Q a w := by
  obtain ⟨hE, hn, hsq, hlate⟩ := late_of hB hy
  refine wp_region_any hm ?_
  have hrep : ∀ j b, j < l.length → (Array.replicate l.toArray.size false).getD j b = false := fun j b hj => by simp [hj]
  have hrep0 : ∀ j, (Array.replicate l.toArray.size false).getD j false = true → False := fun j hj => by
    rcases Nat.lt_or_ge j l.length with h' | h'
    · rw [hrep j false h'] at hj; cases hj
    · simp [Nat.not_lt.2 h'] at hj
  have := wpAny_of_walk_tail4 (P := P) (ops := l.toArray) hp2 (w0 := w.drew) (Q := Q) (a0 := a) (ss := ss) (n := n) hlate hQ (edges_of hE) hn hsq (by simpa using h) n (Array.replicate l.toArray.size false) a w.drew
    (fun m => match ss[m]? with | some (.det c) => c | _ => undef) (by simp) (by
      have : (List.range n).filter (fun j => !(Array.replicate l.toArray.size false).getD j true) = List.range n := by
        rw [List.filter_eq_self]
        intro j hj
        have hj := List.mem_range.1 hj
        simp at hn
        rw [hrep j true (by omega)]; rfl
      rw [this, List.length_range]) (fun t _ ht => hrep t true (by simpa using ht)) (ExtW.refl _) (fun m c hm => by simp [hm]) (fun j F hj => (hrep0 j hj).elim) (fun j o hj => (hrep0 j hj).elim)
      ⟨rfl, fun j o d hj => (hrep0 j hj).elim, fun s _ => rfl⟩ ⟨fun h => (hrep0 i0 h).elim, fun k _ h => (hrep0 k.1 h).elim⟩
  rw [show n + (l.toArray.size - n) = l.toArray.size by omega] at this
  exact this
end
end Go.Proofs.Ythaoibgcgkmnbaa

namespace Go.Proofs.Ythaoibgcgkmnbaa
set_option maxRecDepth 100000
open Go.RowKit

set_option maxHeartbeats 4000000 in
set_option maxRecDepth 100000 in
theorem chalf_any (n : Nat) (w : World) (hn : 1 ≤ n ∧ n < 9223372036854775808) : Calls Try.prog 32 #[.int .i64 (n : Int)] w fun e w' => e = .returned (.int .i64 (T.half n : Nat)) ∧ w' = w := by
  obtain ⟨hn1, hn2⟩ := hn
  go_enter Try.func32, Try.ntmps32
  go_wp2_with fail
  go_loopw [3] (fun k wr => ∃ m : Nat, k = .int .i64 m ∧ 1 ≤ m ∧ m ≤ n ∧ Hid (∃ j, m = 2 ^ j) ∧ Hid (m = 1 ∨ m < n) ∧ Hid (wr = w)) (fun k _ => n - (intOf k).toNat)
  case atStart => exact ⟨1, rfl, Nat.le_refl _, hn1, Lib.hid ⟨0, rfl⟩, Lib.hid (.inl rfl), rfl⟩
  case round =>
    obtain ⟨m, rfl, hm1, hmn, HJ, HM, HW⟩ := hrel
    obtain rfl := HW.out
    by_cases hlt : m < n - m
    · have hli : (m : Int) < (n : Int) - (m : Int) := by omega
      obtain ⟨m2, hm2⟩ : ∃ k, k = m * 2 := ⟨_, rfl⟩
      have hm2i : IntKind.i64.wrap ((m : Int) * 2) = (m2 : Int) := by rw [IntWalk.i64_in _ (by omega)]; omega
      have hm2b : m2 < n := by omega
      have HM2 := Lib.hid hm2
      clear hm2
      go_wp2_with fail
      go_roundw
      case rel => exact ⟨m2, by first | rfl | simp [hm2i], by have := HM2.out; omega, by omega, Lib.hid (by obtain ⟨j, hj⟩ := HJ.out; exact ⟨j + 1, by rw [HM2.out, hj, Nat.pow_succ]⟩), Lib.hid (.inr hm2b), Lib.hid trivial⟩
      case measure => simp [intOf]; have := HM2.out; omega
    · have hli : ¬ (m : Int) < (n : Int) - (m : Int) := by omega
      have hh : m = T.half n := by
        symm
        by_cases h2 : 2 ≤ n
        · obtain ⟨j, hj⟩ := HJ.out
          rw [hj]
          exact T.half_eq h2 (by rw [← hj]; rcases HM.out with h | h <;> omega) (by rw [← hj]; omega)
        · rw [T.half_one (by omega)]; omega
      have HH := Lib.hid hh
      clear hh
      go_wp2
      go_ret
      exact ⟨by rw [← HH.out]; rfl, rfl⟩


theorem chalf_ext (n : Nat) (w : World) (hn : 1 ≤ n ∧ n < 9223372036854775808) : Calls Try.prog 32 #[.int .i64 (n : Int)] w fun e w' => e = .returned (.int .i64 (T.half n : Nat)) ∧ ExtW w w' :=
  (chalf_any n w hn).mono fun _ _ h => ⟨h.1, h.2 ▸ ExtW.refl _⟩
theorem NewD.fresh {base : Nat} {v : Value} {w : World} (h : NewD base v w) : v ≠ .pointer (some ⟨w.heap.size, 0, none⟩) := by
  obtain ⟨g, rfl, _, hr⟩ := h
  intro e
  have h1 := hr.lt
  injection e with e
  injection e with e
  injection e with e
  omega
def upV (gt gl gu : Nat) : Value := .func (.func 27) #[] #[.pointer (some ⟨gt, 0, none⟩), .pointer (some ⟨gl, 0, none⟩), .pointer (some ⟨gu, 0, none⟩)]
/-- a call of up: its digest, and the comparisons, the lowest first -/
def UpPost (ps : List (List UInt8 × List UInt8) × List UInt8) (S : Nat → Prop) (w : World) (e : Ending) (w' : World) : Prop :=
  ∃ v, e = .returned (.tuple #[dgV ps.2, v]) ∧ OwnCl S w.heap.size ps.1.reverse v w' ∧ ExtW w w'
def Sb (b m : Nat) (k : Nat) : Prop := b ≤ k ∧ k < m
def UpF (b m0 : Nat) (ps : List (List UInt8 × List UInt8) × List UInt8) (v : Value) (w : World) : Prop := ∃ u m wc, v = .tuple #[dgV ps.2, u] ∧ m0 ≤ m ∧ m ≤ wc.heap.size ∧ OwnCl (Sb b m) m ps.1.reverse u wc ∧ ExtW wc w
def UpE (b m0 : Nat) (ps : List (List UInt8 × List UInt8) × List UInt8) (wz : World) (v : Value) (w : World) : Prop := ∃ u m wc, v = .tuple #[dgV ps.2, u] ∧ m0 ≤ m ∧ m ≤ wc.heap.size ∧ wz.heap.size ≤ m ∧ OwnCl (Sb b m) m ps.1.reverse u wc ∧ ExtW wc w
def UpR (b m0 : Nat) (ps : List (List UInt8 × List UInt8) × List UInt8) (v z : Value) (w : World) : Prop :=
  ∃ u m wc g, v = .tuple #[dgV ps.2, u] ∧ z = .pointer (some ⟨g, 0, none⟩) ∧ m0 ≤ m ∧ m ≤ wc.heap.size ∧ (g < m ∨ wc.heap.size ≤ g) ∧ OwnCl (Sb b m) m ps.1.reverse u wc ∧ ExtW wc w
theorem UpF.mono (b m0 : Nat) (ps : List (List UInt8 × List UInt8) × List UInt8) : ∀ v w w', UpF b m0 ps v w → ExtW w w' → UpF b m0 ps v w' := by
  rintro v w w' ⟨u, m, wc, h1, h2, h3, h4, h5⟩ hb
  exact ⟨u, m, wc, h1, h2, h3, h4, ExtW.trans h5 hb⟩
theorem UpE.mono (b m0 : Nat) (ps : List (List UInt8 × List UInt8) × List UInt8) (wz : World) : ∀ v w w', UpE b m0 ps wz v w → ExtW w w' → UpE b m0 ps wz v w' := by
  rintro v w w' ⟨u, m, wc, h1, h2, h3, h4, h5, h6⟩ hb
  exact ⟨u, m, wc, h1, h2, h3, h4, h5, ExtW.trans h6 hb⟩
theorem UpR.mono (b m0 : Nat) (ps : List (List UInt8 × List UInt8) × List UInt8) : ∀ v z w w', UpR b m0 ps v z w → ExtW w w' → UpR b m0 ps v z w' := by
  rintro v z w w' ⟨u, m, wc, g, h1, h2, h3, h4, h5, h6, h7⟩ hb
  exact ⟨u, m, wc, g, h1, h2, h3, h4, h5, h6, ExtW.trans h7 hb⟩
theorem link_move {P : Program} {ops : Array Oper} {o : Oper} {a : Act} {w : World} {F : Value → World → Prop} {t : Tmp} {x : Value} (hg : o.guard = none) (ho : o.op = .move (.tmp t)) (hx : a.tmps[t]? = some x) (h : oblAt P ops o a w F) : oblAt P ops o a w fun v w' => F v w' ∧ v = x := by
  have hw : Region.wanted o (yielded ops a.tmps) = true := by unfold Region.wanted; rw [hg]
  have hr : (execOp a.eval o).run P w = .ok (.value x) w := by
    unfold execOp
    rw [ho]
    simp [Act.eval, hx]
  unfold oblAt at h ⊢
  rw [if_pos hw, hr] at h ⊢
  rw [extUpon_value] at h ⊢
  exact ⟨h.1, h.2, rfl⟩
theorem link_extract {P : Program} {ops : Array Oper} {o : Oper} {a : Act} {w : World} {F : Value → World → Prop} {t : Tmp} {x : Value} {i : Nat} (hg : o.guard = none) (ho : o.op = .extract (.tmp t) i) (hx : a.tmps[t]? = some x) (h : oblAt P ops o a w F) : oblAt P ops o a w fun v w' => F v w' ∧ ∃ xs : Array Value, x = .tuple xs ∧ xs[i]? = some v := by
  have hw : Region.wanted o (yielded ops a.tmps) = true := by unfold Region.wanted; rw [hg]
  have hev : a.eval (.tmp t) = x := by simp [Act.eval, hx]
  unfold oblAt at h ⊢
  rw [if_pos hw] at h ⊢
  unfold execOp at h ⊢
  rw [ho] at h ⊢
  simp only [hev] at h ⊢
  cases x with
  | tuple xs =>
    cases hxi : xs[i]? with
    | none => simp [Instr.extract, hxi] at h; exact h.elim
    | some v =>
      simp only [Instr.extract, hxi, Sem.run_bind, Sem.run_pure, Result.andThen_ok] at h ⊢
      exact ⟨h.1, h.2, xs, rfl, hxi⟩
  | _ => exact h.elim
def UpV (ps : List (List UInt8 × List UInt8) × List UInt8) (S : Nat → Prop) (base : Nat) (u : Value) (w : World) : Prop := ∃ v, u = .tuple #[dgV ps.2, v] ∧ OwnCl S base ps.1.reverse v w
theorem UpV.mono (ps : List (List UInt8 × List UInt8) × List UInt8) (S : Nat → Prop) (base : Nat) : ∀ v w w', UpV ps S base v w → ExtW w w' → UpV ps S base v w' := by
  rintro v w w' ⟨u, e, h⟩ hb
  exact ⟨u, e, h.ext hb⟩
theorem tuple_eq (a b : Value) {c d : Value} (h1 : a = c) (h2 : b = d) : Ending.returned (.tuple #[a, b]) = .returned (.tuple #[c, d]) := by rw [h1, h2]
theorem pairs_le (B : Nat) (leaf : List UInt8) : ∀ (N : Nat) (l : List (List UInt8)) (i : Nat) (path : List (List UInt8)), l.length < N → (T.pairsD B leaf l i path).1.length ≤ l.length + 1 := by
  intro N
  induction N with
  | zero => intro l i path h; omega
  | succ N ih =>
    intro l i path h
    rw [T.pairsD]
    split
    · simp
    · have hh := T.half_lt (n := l.length) (by omega)
      split
      · have h3 := ih (l.take (T.half l.length)) i (path.take (path.length - 1)) (by rw [List.length_take]; omega)
        rw [List.length_take] at h3
        simp only [List.length_cons]
        omega
      · have h3 := ih (l.drop (T.half l.length)) (i - T.half l.length) (path.take (path.length - 1)) (by rw [List.length_drop]; omega)
        rw [List.length_drop] at h3
        simp only [List.length_cons]
        omega

set_option maxHeartbeats 40000000 in
set_option maxRecDepth 100000 in
theorem up_any (x : Int) (hx : -9223372036854775808 ≤ x ∧ x ≤ 9223372036854775807) (wb : World) (gt gl gu : Nat) (LA : Option Addr) (ln lc : Nat) (leaf : List UInt8)
    (hgt : wb.cell? ⟨gt, 0, none⟩ = some (.int .i64 x)) (hgl : Row wb gl 23 [.slice LA ln lc]) (hgu : wb.cell? ⟨gu, 0, none⟩ = some (upV gt gl gu)) (hlf : Rd wb LA ln lc 1 (bvs leaf)) (hln : ln ≤ 1000000) :
    ∀ (N : Nat) (A : Option Addr) (n c : Nat) (l : List (List UInt8)) (i : Nat) (PA : Option Addr) (pn pc : Nat) (path : List (List UInt8)) (w : World), n < N → n ≤ 1000000 → i < n → Bss wb A n c l → Lv l → Dls wb PA pn pc path → path.length = (T.downs n i).length →
    ExtW wb w →
    Calls Try.prog 27 #[.slice A n c, .int .i64 (i : Int), .slice PA pn pc, .pointer (some ⟨gt, 0, none⟩), .pointer (some ⟨gl, 0, none⟩), .pointer (some ⟨gu, 0, none⟩)] w (UpPost (T.pairsD (bitsN x) leaf l i path) (Sb wb.heap.size w.heap.size) w) := by
  have HX := Lib.hid hx
  have HGT := Lib.hid hgt
  have HGL := Lib.hid hgl
  have HGU := Lib.hid hgu
  have HLF := Lib.hid hlf
  have HLN := Lib.hid hln
  have hmf : ∀ (fn : Fn) (first cap : Array Value) (w : World), (Instr.makeFunc fn first cap).run Try.prog w = .ok (.func fn first cap) w := fun _ _ _ _ => rfl
  clear hx hgt hgl hgu hlf hln
  intro N
  induction N with
  | zero => intro A n c l i PA pn pc path w h; omega
  | succ N ih =>
    intro A n c l i PA pn pc path w hnN hnb hin hr hlv hp hpl hwb
    have hS : ∀ k, Sb wb.heap.size w.heap.size k → wb.heap.size ≤ k ∧ k < w.heap.size := fun k hk => hk
    generalize Sb wb.heap.size w.heap.size = S at hS ⊢
    have hnc := hr.nc
    have HR := Lib.hid hr
    have HV := Lib.hid hlv
    have HLL := Lib.hid hr.len
    have HP := Lib.hid hp
    have HPL := Lib.hid hp.len
    have HPD := Lib.hid hpl
    have HWB := Lib.hid hwb
    have HS := Lib.hid hS
    have hB0 : Row (w.alloc (.cells #[.slice A n c] 22)) w.heap.size 22 [.slice A n c] := heap_alloc_last _ _
    have HB0 := Lib.hid hB0
    have HE0 : Hid (ExtW w (w.alloc (.cells #[.slice A n c] 22))) := Lib.hid ((Below.refl _ _).alloc (Nat.le_refl _) _)
    clear hr hlv hp hpl hwb hS hB0
    go_enter Try.func27, Try.ntmps27
    go_upto_region 1 with (refine wpList_newD rfl rfl ?_)
    have HA : Hid ((w.alloc (.cells #[.slice A n c] 22)).heap.size = w.heap.size + 1) := Lib.hid (by simp)
    generalize w.alloc (.cells #[.slice A n c] 22) = w1 at HB0 HE0 HA ⊢
    have HD1 := Lib.hid (zDig_row w1)
    have HE1 : Hid (ExtW w1 (w1.alloc (.cells zDig 45))) := Lib.hid ((Below.refl _ _).alloc (Nat.le_refl _) _)
    rw [HA.out] at HD1
    generalize w1.alloc (.cells zDig 45) = w2 at HD1 HE1 ⊢
    have HB2 := Lib.hid (HB0.out.ext HE1.out)
    have HE2 := Lib.hid (ExtW.trans HE0.out HE1.out)
    have HW2 := Lib.hid (ExtW.trans HWB.out HE2.out)
    obtain ⟨gs, hgs⟩ : ∃ g, g = w.heap.size := ⟨_, rfl⟩
    obtain ⟨gd, hgd⟩ : ∃ g, g = w.heap.size + 1 := ⟨_, rfl⟩
    have HG : Hid (gs = w.heap.size ∧ gd = w.heap.size + 1 ∧ gd < w2.heap.size ∧ wb.heap.size ≤ gs) := Lib.hid ⟨hgs, hgd, by rw [hgd]; exact HD1.out.lt, by rw [hgs]; exact HWB.out.size⟩
    rw [← hgs] at HB2
    rw [← hgd] at HD1
    rw [← hgd, ← hgs]
    clear hgs hgd HB0 HE0 HE1 HA
    have k1 := HB2.out.cell (j := 0) rfl
    by_cases h1 : n = 1
    · subst h1
      obtain ⟨y, hy⟩ : ∃ y, l = [y] := List.length_eq_one_iff.1 HLL.out
      have HY := Lib.hid hy
      have HYL : Hid (y.length ≤ 1000000) := Lib.hid (HV.out y (by rw [hy]; exact List.mem_cons_self ..))
      have HPO : Hid (T.pairsD (bitsN x) leaf l i path = ([(T.ltx leaf, T.ltx y)], T.leafD (bitsN x) leaf)) := Lib.hid (by rw [T.pairsD_one _ _ (by rw [hy]; exact Nat.le_refl 1), hy, T.texD_one])
      clear hy
      have k2 := HW2.out.cellAt HGT.out
      have k3 := (HGL.out.ext HW2.out).cell (j := 0) rfl
      go_wp2_with fail
      refine (leaf_any x LA ln lc leaf _ (HLF.out.below HW2.out (Nat.le_refl _)) (Nat.le_trans HLN.out (by decide)) HX.out).mono ?_
      rintro e w3 ⟨rfl, hb⟩
      have HD3 := Lib.hid (HD1.out.ext hb)
      have HB3 := Lib.hid (HB2.out.ext hb)
      have HE3 := Lib.hid (ExtW.trans HE2.out hb)
      obtain ⟨fv, hfv⟩ : ∃ f, f = Value.func (.func 29) #[] #[.pointer (some ⟨gl, 0, none⟩), .pointer (some ⟨gs, 0, none⟩)] := ⟨_, rfl⟩
      have HW4 : Hid (ExtW w (w3.alloc (.cells #[fv] 1))) := Lib.hid (ExtW.trans HE3.out ((Below.refl _ _).alloc (Nat.le_refl _) _))
      have HF4 : Hid (Row (w3.alloc (.cells #[fv] 1)) w3.heap.size 1 [fv]) := Lib.hid (heap_alloc_last _ _)
      have HD4 := Lib.hid (HD3.out.ext ((Below.refl _ w3).alloc (Nat.le_refl _) (.cells #[fv] 1)))
      have HB4 := Lib.hid (HB3.out.ext ((Below.refl _ w3).alloc (Nat.le_refl _) (.cells #[fv] 1)))
      have HG4 : Hid (gd ≠ w3.heap.size ∧ gs ≠ w3.heap.size ∧ gs ≠ gd ∧ w.heap.size ≤ w3.heap.size) := Lib.hid (by have h1 := HD3.out.lt; have h2 := HB3.out.lt; have h3 := HG.out; have h4 := HE3.out.size; omega)
      have HOWN : Hid (∀ ds, OwnCl S w.heap.size [(T.ltx leaf, T.ltx y)] (.slice (some ⟨w3.heap.size, 0, none⟩) 1 1) ((w3.alloc (.cells #[fv] 1)).setRow gd ds)) := Lib.hid fun ds =>
        OwnCl.one S HG4.out.2.2.2 (HF4.out.setNew (fun e => HG4.out.1 e.symm) ds) ⟨_, _, hfv, fun _ => by kernel_rfl, fun W hW => by
          have hE : ExtW wb W := Below.trans (below_setRow (ExtW.trans HWB.out HW4.out) (by have := HG.out; omega) ds) (hW.below (by
            rintro k (hk | rfl)
            · exact (HS.out k hk).1
            · exact Nat.le_trans HWB.out.size HG4.out.2.2.2) (by rw [setRow_size]; exact (ExtW.trans HWB.out HW4.out).size))
          refine leafC_any gl gs LA ln lc leaf A 1 c y W (HGL.out.ext hE) (hW.row (HB4.out.setNew HG4.out.2.2.1 ds) ?_) (HLF.out.below hE (Nat.le_refl _)) HLN.out (by have h := HR.out.same hE; rw [HY.out] at h; exact h) HYL.out
          rintro (hk | e)
          · have h1 := (HS.out gs hk).2
            have h2 := HG.out
            omega
          · exact HG4.out.2.1 e⟩
      subst hfv
      clear hb k1 k2 k3
      obtain ⟨d, hd⟩ : ∃ d, d = T.leafD (bitsN x) leaf := ⟨_, rfl⟩
      have HS : Hid ((bvs d).toArray.size = 32) := Lib.hid (dg_size (by rw [hd]; exact T.leafD_len _ _))
      have HDL : Hid (d = T.leafD (bitsN x) leaf) := Lib.hid hd
      rw [← hd]
      clear hd
      unfold dgV
      go_wp2_with (refine wpList_st rfl rfl ?_; refine ⟨gd, _, _, _, rfl, rfl, HD4.out, by rw [HS.out]; kernel_rfl, Eq.trans (show (bvs (List.replicate 32 0)).toArray.size = 32 from rfl) HS.out.symm, dg_one _, ?_⟩)
      (try simp only [Exit.inBlock, Exit.then])
      have hld := run_loadVar_row (P := Try.prog) ((w3.alloc (.cells #[.func (.func 29) #[] #[.pointer (some ⟨gl, 0, none⟩), .pointer (some ⟨gs, 0, none⟩)]] 1)).setRow gd (bvs d).toArray) gd 45 45 (bvs d).toArray (0, 0) _ (Row.setRow HD4.out (bvs d)) Try.underlying45 rfl (by rw [HS.out]; kernel_rfl)
      refine bodyPost_ret (results_ct rfl _ _ _ rfl hld) rfl ?_
      exact (by unfold UpPost; rw [HPO.out, ← HDL.out]; exact ⟨_, rfl, HOWN.out _, below_setRow HW4.out (by have := HG.out; omega) _⟩)
    have h2 : 2 ≤ n := by omega
    obtain ⟨k, hk⟩ : ∃ k, k = T.half n := ⟨_, rfl⟩
    have hhl := T.half_lt h2
    rw [← hk] at hhl
    have HK := Lib.hid hk
    have hcl : k ≤ n := by omega
    obtain ⟨y, hy, hym⟩ := T.path_last h2 HPD.out
    rw [HPL.out] at hy
    have hpn : 0 < pn := by
      have h3 := (List.getElem?_eq_some_iff.1 hy).1
      rw [HPL.out] at h3
      omega
    have hpm : pn ≤ pc ∧ pn ≤ 9223372036854775807 := by have h1 := HP.out.rd.nc; have h2 := HP.out.rd.cm; unfold maxLen at h2; omega
    have HYL : Hid (y.length = 32) := Lib.hid (HP.out.all y hym)
    have HY := Lib.hid hy
    obtain ⟨pa, hpa⟩ := HP.out.addr hpn
    subst hpa
    have hne1 : ((n : Int) == 1) = false := by rw [beq_eq_false_iff_ne]; omega
    clear hk hym
    go_upto_region 3 with (fail)
    clear hne1 k1
    have hb1 : ((pn - 1 : Nat) : Int) < (pn : Int) := by omega
    apply wp_region_ext_tail 11 _ (by kernel_rfl) (by kernel_rfl)
    simp only [List.take_succ_cons, List.take_zero, List.drop_succ_cons, List.drop_zero]
    (apply wpZ_det; (intro wq hE hG; have kk := (ExtW.of_drew hE).cellAt (HB2.out.cell (j := 0) rfl); apply obl_val (by rfl); go_simp <;> rfl); (intro ak hak; simp only [Act.put, List.setIfInBounds_toArray, List.set_cons_succ, List.set_cons_zero] at hak; subst hak))
    (apply wpZ_det; (intro wq hE hG; first | exact obl_non (by rfl) | (apply obl_val (by rfl); go_simp <;> rfl)); (intro ak hak; simp only [Act.put, List.setIfInBounds_toArray, List.set_cons_succ, List.set_cons_zero] at hak; subst hak))
    (apply wpZ_det (c := .int .i64 (k : Nat)); (intro wq hE hG; apply obl_on (by kernel_rfl); go_simp; simp only [extUpon_enter]; refine (chalf_ext n _ ⟨by omega, by omega⟩).mono ?_; rintro e w' ⟨rfl, hb⟩; exact ⟨_, rfl, hb, by rw [HK.out]⟩); (intro ak hak; simp only [Act.put, List.setIfInBounds_toArray, List.set_cons_succ, List.set_cons_zero] at hak; subst hak))
    iterate 3 (apply wpZ_det; (intro wq hE hG; first | exact obl_non (by rfl) | (apply obl_val (by rfl); go_simp <;> rfl)); (intro ak hak; simp only [Act.put, List.setIfInBounds_toArray, List.set_cons_succ, List.set_cons_zero] at hak; subst hak))
    (apply wpZ_det (c := .int .i64 ((pn - 1 : Nat) : Int)); (intro wq hE hG; exact obl_same (by rfl) (by go_simp <;> rfl) (by first | rfl | (apply int_eq; omega) | (apply int_eq; rw [IntWalk.i64_in _ (by omega)]; omega) | (apply int_eq; simp; omega))); (intro ak hak; simp only [Act.put, List.setIfInBounds_toArray, List.set_cons_succ, List.set_cons_zero] at hak; subst hak))
    (apply wpZ_det; (intro wq hE hG; first | exact obl_non (by rfl) | (apply obl_val (by rfl); go_simp <;> rfl)); (intro ak hak; simp only [Act.put, List.setIfInBounds_toArray, List.set_cons_succ, List.set_cons_zero] at hak; subst hak))
    (apply wpZ_det; (intro wq hE hG; exact obl_ldA (by rfl) rfl (by rfl) (((HP.out.same HW2.out).same (ExtW.of_drew hE)).load hy)); (intro ak hak; simp only [Act.put, List.setIfInBounds_toArray, List.set_cons_succ, List.set_cons_zero] at hak; subst hak))
    (apply wpZ_nd (NewD w2.heap.size) (NewD.mono _); (intro wq hE hG; exact obl_newD (by kernel_rfl) rfl (ExtW.of_drew hE).size); (intro u9 ak hak; simp only [Act.put, List.setIfInBounds_toArray, List.set_cons_succ, List.set_cons_zero] at hak; subst hak))
    (apply wpZ_det; (intro wq hE hG; first | exact obl_non (by rfl) | (apply obl_val (by rfl); go_simp <;> rfl)); (intro ak hak; simp only [Act.put, List.setIfInBounds_toArray, List.set_cons_succ, List.set_cons_zero] at hak; subst hak))
    (apply wpZ_nil; intro wq hE hG)
    obtain ⟨gy, rfl, hgy, hry⟩ : NewD w2.heap.size u9 wq := hG _ (List.mem_cons_self ..)
    have HGY := Lib.hid hgy
    have HRY := Lib.hid hry
    have HEQ := Lib.hid (ExtW.of_drew hE)
    clear hG hE hgy hry hb1
    have hs1 : IntKind.i64.wrap ((pn : Int) - 1) = ((pn - 1 : Nat) : Int) := by rw [IntWalk.i64_in _ (by omega)]; omega
    have hrt := run_takeD (some pa) pn pc (pn - 1) (by omega) hpm.1
    go_upto_region 5 with (refine wpList_newst rfl rfl rfl HYL.out (d0 := List.replicate 32 0) rfl rfl rfl HRY.out ?_)
    have HY3 := Lib.hid (HRY.out.setRow (bvs y))
    have HE3 : Hid (ExtW w2 (wq.setRow gy (bvs y).toArray)) := Lib.hid (below_setRow HEQ.out HGY.out _)
    clear hs1 hrt HRY
    generalize wq.setRow gy (bvs y).toArray = w3 at HY3 HE3 ⊢
    have HW3 := Lib.hid (ExtW.trans HW2.out HE3.out)
    have HGT3 := Lib.hid (HW3.out.cellAt HGT.out)
    have HB3 := Lib.hid (HB2.out.ext HE3.out)
    have hrt := run_takeA A n c k hcl hnc
    have hrd := run_dropA A n c k hcl hnc
    have HBT := Lib.hid ((HR.out.take hcl).same HW3.out)
    have HBD := Lib.hid ((HR.out.dropA hcl).same HW3.out)
    apply wp_region_ext_tail2 12 10 11 _ (by kernel_rfl) (by kernel_rfl)
    simp only [List.take_succ_cons, List.take_zero, List.drop_succ_cons, List.drop_zero]
    (apply wpZ_det; (intro wq hE hG; have kk := (ExtW.of_drew hE).cellAt HGT3.out; apply obl_val (by rfl); go_simp <;> rfl); (intro ak hak; simp only [Act.put, List.setIfInBounds_toArray, List.set_cons_succ, List.set_cons_zero] at hak; subst hak))
    (apply wpZ_det; (intro wq hE hG; have kk := (ExtW.of_drew hE).cellAt (HB3.out.cell (j := 0) rfl); apply obl_val (by rfl); go_simp <;> rfl); (intro ak hak; simp only [Act.put, List.setIfInBounds_toArray, List.set_cons_succ, List.set_cons_zero] at hak; subst hak))
    iterate 2 (apply wpZ_det; (intro wq hE hG; first | exact obl_non (by rfl) | (apply obl_val (by rfl); go_simp <;> rfl)); (intro ak hak; simp only [Act.put, List.setIfInBounds_toArray, List.set_cons_succ, List.set_cons_zero] at hak; subst hak))
    (apply wpZ_det; (intro wq hE hG; apply obl_on (by kernel_rfl); go_simp; simp only [extUpon_enter]; refine (root_any x HX.out (n + 1) _ k c _ _ (by omega) (HBT.out.same (ExtW.of_drew hE)) (HV.out.take k)).mono ?_; rintro e w' ⟨rfl, hb⟩; exact ⟨_, rfl, hb, rfl⟩); (intro ak hak; simp only [Act.put, List.setIfInBounds_toArray, List.set_cons_succ, List.set_cons_zero] at hak; subst hak))
    (apply wpZ_det; (intro wq hE hG; have kk := (ExtW.of_drew hE).cellAt HGT3.out; apply obl_val (by rfl); go_simp <;> rfl); (intro ak hak; simp only [Act.put, List.setIfInBounds_toArray, List.set_cons_succ, List.set_cons_zero] at hak; subst hak))
    (apply wpZ_det; (intro wq hE hG; have kk := (ExtW.of_drew hE).cellAt (HB3.out.cell (j := 0) rfl); apply obl_val (by rfl); go_simp <;> rfl); (intro ak hak; simp only [Act.put, List.setIfInBounds_toArray, List.set_cons_succ, List.set_cons_zero] at hak; subst hak))
    iterate 2 (apply wpZ_det; (intro wq hE hG; first | exact obl_non (by rfl) | (apply obl_val (by rfl); go_simp <;> rfl)); (intro ak hak; simp only [Act.put, List.setIfInBounds_toArray, List.set_cons_succ, List.set_cons_zero] at hak; subst hak))
    (apply wpZ_det; (intro wq hE hG; apply obl_on (by kernel_rfl); go_simp; simp only [extUpon_enter]; refine (root_any x HX.out (n + 1) _ (n - k) (c - k) _ _ (by omega) (HBD.out.same (ExtW.of_drew hE)) (HV.out.drop k)).mono ?_; rintro e w' ⟨rfl, hb⟩; exact ⟨_, rfl, hb, rfl⟩); (intro ak hak; simp only [Act.put, List.setIfInBounds_toArray, List.set_cons_succ, List.set_cons_zero] at hak; subst hak))
    (apply wpZ_nd (NewD w3.heap.size) (NewD.mono _); (intro wq hE hG; exact obl_newD (by kernel_rfl) rfl (ExtW.of_drew hE).size); (intro u10 ak hak; simp only [Act.put, List.setIfInBounds_toArray, List.set_cons_succ, List.set_cons_zero] at hak; subst hak))
    (apply wpZ_nd (NewD w3.heap.size) (NewD.mono _); (intro wq hE hG; exact obl_newD (by kernel_rfl) rfl (ExtW.of_drew hE).size); (intro u11 ak hak; simp only [Act.put, List.setIfInBounds_toArray, List.set_cons_succ, List.set_cons_zero] at hak; subst hak))
    (apply wpZ_nil; intro wq hE hG)
    intro hap
    obtain ⟨ga, rfl, hga, hra⟩ : NewD w3.heap.size u10 wq := hG _ (List.mem_cons_of_mem _ (List.mem_cons_self ..))
    obtain ⟨gb, rfl, hgb, hrb⟩ : NewD w3.heap.size u11 wq := hG _ (List.mem_cons_self ..)
    have hab : ga ≠ gb := by
      rintro rfl
      exact hap _ _ _ _ _ rfl rfl rfl rfl rfl rfl
    have HGA : Hid (w3.heap.size ≤ ga ∧ w3.heap.size ≤ gb ∧ ga ≠ gb) := Lib.hid ⟨hga, hgb, hab⟩
    have HRA := Lib.hid hra
    have HRB := Lib.hid hrb
    have HEQ5 := Lib.hid (ExtW.of_drew hE)
    have HTX := Lib.hid (T.texD_more (bitsN x) HLL.out h2 HK.out)
    obtain ⟨da, hda⟩ : ∃ d, d = T.rootD (bitsN x) (l.take k) := ⟨_, rfl⟩
    obtain ⟨db, hdb⟩ : ∃ d, d = T.rootD (bitsN x) (l.drop k) := ⟨_, rfl⟩
    have HLA : Hid (da.length = 32) := Lib.hid (by rw [hda]; exact T.rootD_len _ _)
    have HLB : Hid (db.length = 32) := Lib.hid (by rw [hdb]; exact T.rootD_len _ _)
    rw [← hda, ← hdb] at HTX ⊢
    clear hda hdb hap hG hE hga hgb hra hrb hab hrt hrd HBT HBD
    go_upto_region 6 with (first
      | (refine wpList_newst rfl rfl rfl HLA.out (d0 := List.replicate 32 0) rfl rfl rfl HRA.out ?_)
      | (refine wpList_newst rfl rfl rfl HLB.out (d0 := List.replicate 32 0) rfl rfl rfl (HRB.out.setNew (fun e => HGA.out.2.2 e.symm) _) ?_))
    have HAA5 := Lib.hid ((HRA.out.setRow (bvs da)).setNew HGA.out.2.2 (bvs db).toArray)
    have HBB5 := Lib.hid ((HRB.out.setNew (fun e => HGA.out.2.2 e.symm) (bvs da).toArray).setRow (bvs db))
    have HE5 : Hid (ExtW w3 ((wq.setRow ga (bvs da).toArray).setRow gb (bvs db).toArray)) := Lib.hid (below_setRow (below_setRow HEQ5.out HGA.out.1 _) HGA.out.2.1 _)
    clear HRA HRB HEQ5
    generalize (wq.setRow ga (bvs da).toArray).setRow gb (bvs db).toArray = w5 at HAA5 HBB5 HE5 ⊢
    have HW5 := Lib.hid (ExtW.trans HW3.out HE5.out)
    have HE25 := Lib.hid (ExtW.trans HE2.out (ExtW.trans HE3.out HE5.out))
    have HGU5 := Lib.hid (HW5.out.cellAt HGU.out)
    have HB5 := Lib.hid (HB3.out.ext HE5.out)
    have HY5 := Lib.hid (HY3.out.ext HE5.out)
    have HD5 := Lib.hid ((HD1.out.ext HE3.out).ext HE5.out)
    have HPT : Hid (Dls wb (some pa) (pn - 1) pc (path.take (pn - 1))) := Lib.hid (HP.out.take (k := pn - 1) (by omega))
    have HGG : Hid (ga < w5.heap.size ∧ gb < w5.heap.size ∧ gy < w5.heap.size ∧ gd < w5.heap.size ∧ w2.heap.size ≤ gy ∧ w2.heap.size ≤ ga ∧ w2.heap.size ≤ gb ∧ gd < w2.heap.size) := Lib.hid ⟨HAA5.out.lt, HBB5.out.lt, HY5.out.lt, HD5.out.lt, HGY.out, Nat.le_trans HE3.out.size HGA.out.1, Nat.le_trans HE3.out.size HGA.out.2.1, HG.out.2.2.1⟩
    clear HGT3 HB3 HY3 HE3 HD1 HB2 HGY
    have hrt := run_takeA A n c k hcl hnc
    have hrd := run_dropA A n c k hcl hnc
    by_cases hik : i < k
    · have hik2 : (i : Int) < (k : Int) := by omega
      have HPO := Lib.hid (T.pairsD_lo (bitsN x) leaf HLL.out h2 HK.out HPL.out HY.out hik)
      have HPS := Lib.hid (T.low_len h2 HK.out hik HPD.out)
      rw [HPL.out] at HPS
      have HBS := Lib.hid (HR.out.take hcl)
      obtain ⟨pq, hpq⟩ : ∃ pq, pq = T.pairsD (bitsN x) leaf (l.take k) i (path.take (pn - 1)) := ⟨_, rfl⟩
      have HPQ := Lib.hid hpq
      have HPQL : Hid (pq.2.length = 32) := Lib.hid (by rw [hpq]; exact T.pairsD_len _ _ _ _ _)
      have HPQN : Hid (pq.1.reverse.length ≤ 1000000) := Lib.hid (by
        rw [List.length_reverse, hpq]
        have h3 := pairs_le (bitsN x) leaf (n + 1) (l.take k) i (path.take (pn - 1)) (by rw [List.length_take, HLL.out]; omega)
        rw [List.length_take, HLL.out] at h3
        omega)
      rw [← hpq, HTX.out] at HPO
      clear hpq
      go_upto_region 7 with (fail)
      apply wp_region_ext_tail4 11 6 10 9 (UpR wb.heap.size w5.heap.size pq) [(7, 6, fun x v => v = x), (9, 7, fun x v => ∃ xs : Array Value, x = .tuple xs ∧ xs[1]? = some v)] _ (by kernel_rfl) (by kernel_rfl) (fun o ho c a w v h => by cases ho; exact h) (fun o ho a w F h => by cases ho; exact yields_extract rfl rfl a w F h)
      simp only [List.take_succ_cons, List.take_zero, List.drop_succ_cons, List.drop_zero]
      (apply wpZ_det; (intro wq hE hG; have kk := (ExtW.of_drew hE).cellAt HGU5.out; unfold upV at kk; apply obl_val (by rfl); go_simp <;> rfl); (intro ak hak; simp only [Act.put, List.setIfInBounds_toArray, List.set_cons_succ, List.set_cons_zero] at hak; subst hak))
      (apply wpZ_det; (intro wq hE hG; have kk := (ExtW.of_drew hE).cellAt (HB5.out.cell (j := 0) rfl); apply obl_val (by rfl); go_simp <;> rfl); (intro ak hak; simp only [Act.put, List.setIfInBounds_toArray, List.set_cons_succ, List.set_cons_zero] at hak; subst hak))
      iterate 4 (apply wpZ_det; (intro wq hE hG; first | exact obl_non (by rfl) | (apply obl_val (by rfl); go_simp <;> rfl)); (intro ak hak; simp only [Act.put, List.setIfInBounds_toArray, List.set_cons_succ, List.set_cons_zero] at hak; subst hak))
      apply wpZ_nd (UpF wb.heap.size w5.heap.size pq) (UpF.mono _ _ _)
      · intro wq hE hG
        apply obl_on (by kernel_rfl)
        go_simp
        simp only [extUpon_enter]
        refine (ih A k c (l.take k) i (some pa) (pn - 1) pc (path.take (pn - 1)) wq (by omega) (by omega) hik HBS.out (HV.out.take k) HPT.out HPS.out (ExtW.trans HW5.out (ExtW.of_drew hE))).mono ?_
        unfold UpPost
        rintro e w' ⟨v, rfl, ho, hb⟩
        rw [← HPQ.out] at ho ⊢
        exact ⟨_, rfl, hb, v, _, _, rfl, (ExtW.of_drew hE).size, hb.size, ho, ExtW.refl _⟩
      (intro uc ak hak; simp only [Act.put, List.setIfInBounds_toArray, List.set_cons_succ, List.set_cons_zero] at hak; subst hak)
      apply wpZ_nd (UpF wb.heap.size w5.heap.size pq) (UpF.mono _ _ _)
      · intro wq hE hG
        have h7 : UpF wb.heap.size w5.heap.size pq uc wq := hG _ (List.mem_cons_self ..) (by kernel_rfl)
        apply obl_on (by kernel_rfl)
        go_simp
        simp only [extUpon_value]
        exact ⟨ExtW.refl _, h7⟩
      (intro um ak hak; simp only [Act.put, List.setIfInBounds_toArray, List.set_cons_succ, List.set_cons_zero] at hak; subst hak)
      apply wpZ_det (c := dgV pq.2)
      · intro wq hE hG
        obtain ⟨v, m, wc, rfl, _⟩ : UpF wb.heap.size w5.heap.size pq um wq := hG _ (List.mem_cons_self ..) (by kernel_rfl)
        exact obl_same (by rfl) (by go_simp <;> rfl) rfl
      (intro ak hak; simp only [Act.put, List.setIfInBounds_toArray, List.set_cons_succ, List.set_cons_zero] at hak; subst hak)
      apply wpZ_nd (fun _ _ => True) (fun _ _ _ _ _ => trivial)
      · intro wq hE hG
        obtain ⟨v, m, wc, rfl, _⟩ : UpF wb.heap.size w5.heap.size pq um wq := hG _ (List.mem_cons_self ..) (by kernel_rfl)
        apply obl_on (by kernel_rfl)
        go_simp
        simp only [extUpon_value]
        exact ⟨ExtW.refl _, trivial⟩
      (intro ux ak hak; simp only [Act.put, List.setIfInBounds_toArray, List.set_cons_succ, List.set_cons_zero] at hak; subst hak)
      (apply wpZ_nd (NewD w5.heap.size) (NewD.mono _); (intro wq hE hG; exact obl_newD (by kernel_rfl) rfl (ExtW.of_drew hE).size); (intro ud ak hak; simp only [Act.put, List.setIfInBounds_toArray, List.set_cons_succ, List.set_cons_zero] at hak; subst hak))
      (apply wpZ_nil; intro wq hE hG)
      intro hfin
      have hR : UpR wb.heap.size w5.heap.size pq uc ud wq := hfin.1 _ _ _ _ _ _ rfl rfl rfl rfl rfl rfl
      have h7 : um = uc := hfin.2 _ (List.mem_cons_self ..) _ _ _ _ _ _ rfl rfl rfl rfl rfl rfl
      have h9 : ∃ xs : Array Value, um = .tuple xs ∧ xs[1]? = some ux := hfin.2 _ (List.mem_cons_of_mem _ (List.mem_cons_self ..)) _ _ _ _ _ _ rfl rfl rfl rfl rfl rfl
      have hnd : NewD w5.heap.size ud wq := hG _ (List.mem_cons_self ..)
      have HEQ := Lib.hid (ExtW.of_drew hE)
      clear hfin hG hE
      subst h7
      obtain ⟨u, m, wc, gn, rfl, rfl, hm0, hmc, hgm, hown, hext⟩ := hR
      obtain ⟨xs, hxs, hx1⟩ := h9
      injection hxs with hxs
      subst hxs
      have hx1 : u = ux := by simpa using hx1
      subst hx1
      obtain ⟨g16, hg16, hge, hrow⟩ := hnd
      injection hg16 with hg16
      injection hg16 with hg16
      injection hg16 with hg16
      subst hg16
      have HOW := Lib.hid hown
      have HEX := Lib.hid hext
      have HM : Hid (w5.heap.size ≤ m ∧ m ≤ wc.heap.size ∧ (gn < m ∨ wc.heap.size ≤ gn) ∧ w5.heap.size ≤ gn) := Lib.hid ⟨hm0, hmc, hgm, hge⟩
      have HRW := Lib.hid hrow
      clear hown hext hm0 hmc hgm hge hrow
      have HOB := Lib.hid HOW.out.own
      go_upto_region 8 with (refine wpList_newst rfl rfl rfl HPQL.out (d0 := List.replicate 32 0) rfl rfl rfl HRW.out ?_)
      have HD8 : Hid (Row (wq.setRow gn (bvs pq.2).toArray) gn 45 (bvs pq.2)) := Lib.hid (HRW.out.setRow _)
      have HE8 : Hid (ExtW w5 (wq.setRow gn (bvs pq.2).toArray)) := Lib.hid (below_setRow HEQ.out HM.out.2.2.2 _)
      have HK8 : Hid (Kp (Sb wb.heap.size m) wc (wq.setRow gn (bvs pq.2).toArray)) := Lib.hid (Kp.set (Kp.of_ext _ HEX.out) (by
        rcases HM.out.2.2.1 with h | h
        · exact .inl ⟨Nat.le_trans HW5.out.size HM.out.2.2.2, h⟩
        · exact .inr h) _)
      generalize wq.setRow gn (bvs pq.2).toArray = w8 at HD8 HE8 HK8 ⊢
      have HOW8 := Lib.hid (HOW.out.kp HK8.out (fun j hj => hj.2))
      have HMS : Hid (m ≤ w8.heap.size) := Lib.hid (Nat.le_trans HM.out.2.1 HK8.out.size)
      have HGT8 := Lib.hid ((ExtW.trans HW5.out HE8.out).cellAt HGT.out)
      have HY8 := Lib.hid (HY5.out.ext HE8.out)
      have HSQ : Hid ((bvs pq.2).toArray.size = 32) := Lib.hid (dg_size HPQL.out)
      have HSY : Hid ((bvs y).toArray.size = 32) := Lib.hid (dg_size HYL.out)
      clear HRW HEQ HOW HEX HK8 hrt hrd
      have k2 := HGT8.out
      go_wp2_with (refine wpList_ld rfl rfl ?_; first | refine ⟨gn, _, _, _, rfl, HD8.out, Try.underlying45, rfl, by rw [HSQ.out]; kernel_rfl, ?_⟩ | refine ⟨gy, _, _, _, rfl, HY8.out, Try.underlying45, rfl, by rw [HSY.out]; kernel_rfl, ?_⟩)
      clear k2
      refine (node_any x pq.2 y _ HPQL.out HYL.out HX.out).mono ?_
      rintro e w9 ⟨rfl, hb⟩
      have HE9 := Lib.hid (ExtW.trans HE8.out hb)
      have HD9 := Lib.hid (HD8.out.ext hb)
      have HY9 := Lib.hid (HY8.out.ext hb)
      have HOW9 := Lib.hid (HOW8.out.ext hb)
      have HMS9 : Hid (m ≤ w9.heap.size) := Lib.hid (Nat.le_trans HMS.out hb.size)
      obtain ⟨fv, hfv⟩ : ∃ f, f = Value.func (.func 34) #[] #[.pointer (some ⟨gn, 0, none⟩), .pointer (some ⟨gy, 0, none⟩), .pointer (some ⟨ga, 0, none⟩), .pointer (some ⟨gb, 0, none⟩)] := ⟨_, rfl⟩
      have HC : Hid ((w9.alloc (.cells #[fv] 1)).cell? ⟨w9.heap.size, 0, none⟩ = some fv) := Lib.hid (cell_new1 _ _ _)
      have HEA : Hid (ExtW w9 (w9.alloc (.cells #[fv] 1))) := Lib.hid ((Below.refl _ _).alloc (Nat.le_refl _) _)
      have HSZ : Hid (w.heap.size ≤ w2.heap.size ∧ w2.heap.size ≤ w5.heap.size ∧ wb.heap.size ≤ w.heap.size) := Lib.hid ⟨HE2.out.size, by have h1 := HGG.out; have h2 := HE25.out.size; exact Nat.le_trans h1.2.2.2.2.1 (Nat.le_of_lt h1.2.2.1), HWB.out.size⟩
      have HO10 : Hid (OwnCl (fun k => S k ∨ k = gd) m pq.1.reverse u (w9.alloc (.cells #[fv] 1))) := Lib.hid ((HOW9.out.ext HEA.out).sub (by
        have h1 := HGG.out
        have h2 := HSZ.out
        have h3 := HM.out
        have h4 := HG.out
        rintro k (hk | rfl)
        · have h5 := HS.out k hk
          exact ⟨h5.1, by omega⟩
        · exact ⟨by omega, by omega⟩))
      have HCL : Hid (Clos (fun k => (S k ∨ k = gd) ∨ u.ownBlock = some k) (w9.alloc (.cells #[fv] 1)) fv (T.ntx pq.2 y, T.ntx da db)) := Lib.hid ⟨_, _, hfv, fun _ => by kernel_rfl, fun W hW => by
        have h1 := HGG.out
        have h2 := HSZ.out
        have h3 := HM.out
        have h9 := hW
        have hni : ∀ g, w2.heap.size ≤ g → (g < w5.heap.size ∨ g = gn) → ¬ ((S g ∨ g = gd) ∨ u.ownBlock = some g) := by
          rintro g hg hg2 ((hk | hk) | hk)
          · have h5 := HS.out g hk
            omega
          · omega
          · have h5 := HOB.out g hk
            rcases hg2 with hg2 | rfl
            · omega
            · omega
        exact loC_any gn gy ga gb pq.2 y da db W HPQL.out HYL.out HLA.out HLB.out (hW.row (HD9.out.ext HEA.out) (hni gn (by omega) (.inr rfl))) (hW.row (HY9.out.ext HEA.out) (hni gy (by omega) (.inl (by omega))))
          (hW.row (HAA5.out.ext (ExtW.trans HE9.out HEA.out)) (hni ga (by omega) (.inl (by omega)))) (hW.row (HBB5.out.ext (ExtW.trans HE9.out HEA.out)) (hni gb (by omega) (.inl (by omega))))⟩
      have HBM : Hid (m ≤ (w9.alloc (.cells #[fv] 1)).heap.size) := Lib.hid (Nat.le_trans HMS9.out HEA.out.size)
      have HDA : Hid (Row (w9.alloc (.cells #[fv] 1)) gd 45 (bvs (List.replicate 32 0))) := Lib.hid (HD5.out.ext (ExtW.trans HE9.out HEA.out))
      have HWA : Hid (ExtW w (w9.alloc (.cells #[fv] 1))) := Lib.hid (ExtW.trans HE25.out (ExtW.trans HE9.out HEA.out))
      subst hfv
      clear hb HOW8 HOW9 HD8 HY8 HMS9
      obtain ⟨d, hd⟩ : ∃ d, d = T.nodeD (bitsN x) pq.2 y := ⟨_, rfl⟩
      have HSD : Hid ((bvs d).toArray.size = 32) := Lib.hid (dg_size (by rw [hd]; exact T.nodeD_len _ _ _))
      have HDL : Hid (d = T.nodeD (bitsN x) pq.2 y) := Lib.hid hd
      have HLT : Hid (gd < m ∧ w.heap.size ≤ m ∧ ∀ j, S j → j < m) := Lib.hid (by
        have h1 := HGG.out
        have h2 := HSZ.out
        have h3 := HM.out
        exact ⟨by omega, by omega, fun j hj => by have h4 := HS.out j hj; omega⟩)
      rw [← hd]
      clear hd
      unfold dgV
      go_wp2_with (first
        | (at_builtin; generalize w9.alloc (.cells #[.func (.func 34) #[] #[.pointer (some ⟨gn, 0, none⟩), .pointer (some ⟨gy, 0, none⟩), .pointer (some ⟨ga, 0, none⟩), .pointer (some ⟨gb, 0, none⟩)]] 1) = wa at HC HEA HO10 HCL HBM HDA HWA ⊢; refine wpList_append_cl rfl _ _ rfl rfl rfl HO10.out HC.out HCL.out HPQN.out HBM.out ?_; intro v' w' ho' hb'; have HO' := Lib.hid ho'; have HB' := Lib.hid hb'; have HDE : Hid (Row w' gd 45 (bvs (List.replicate 32 0))) := Lib.hid ((hb'.block gd HLT.out.1).trans HDA.out); clear ho' hb')
        | (refine wpList_st rfl rfl ?_; refine ⟨gd, _, _, _, rfl, rfl, HDE.out, by rw [HSD.out]; kernel_rfl, Eq.trans (show (bvs (List.replicate 32 0)).toArray.size = 32 from rfl) HSD.out.symm, dg_one _, ?_⟩))
      have HOWN : Hid (∀ ds, OwnCl S w.heap.size (pq.1.reverse ++ [(T.ntx pq.2 y, T.ntx da db)]) v' (w'.setRow gd ds)) := Lib.hid fun ds =>
        ((HO'.out.kp (Kp.set (Kp.refl _ _) (.inl (.inr rfl)) ds) (fun j hj => hj.elim (HLT.out.2.2 j) fun e => e ▸ HLT.out.1)).sub (fun k hk => .inl hk)).le HLT.out.2.1
      (try simp only [Exit.inBlock, Exit.then])
      have hld := run_loadVar_row (P := Try.prog) (w'.setRow gd (bvs d).toArray) gd 45 45 (bvs d).toArray (0, 0) _ (Row.setRow HDE.out (bvs d)) Try.underlying45 rfl (by rw [HSD.out]; kernel_rfl)
      refine bodyPost_ret (results_ct rfl _ _ _ rfl hld) rfl ?_
      unfold UpPost
      rw [HPO.out, ← HDL.out]
      exact ⟨_, rfl, by rw [List.reverse_cons]; exact HOWN.out _, below_setRow (Below.trans HWA.out (HB'.out.mono HLT.out.2.1)) (by have := HG.out; omega) _⟩
      refine ⟨by decide, by decide, by decide, ?_, fun x z w w' h hb => UpR.mono _ _ _ _ _ _ _ h hb, ?_, ?_⟩
      · intro o ho
        cases ho
        exact ⟨rfl, fun a w => ⟨w.alloc (.cells zDig 45), by unfold execOp; kernel_rfl⟩⟩
      · refine ⟨_, _, UpE wb.heap.size w5.heap.size pq, rfl, rfl, ?_, ?_, fun wz hz => ?_⟩
        · rintro x w w' ⟨u, m, wc, h1, h2, h3, h4, h5⟩ hb
          exact ⟨u, m, wc, _, h1, rfl, h2, h3, .inr h5.size, h4, ExtW.trans h5 hb⟩
        · rintro z wz x w' ⟨g, rfl, hg, hr⟩ hb ⟨u, m, wc, h1, h2, h3, h4, h5, h6⟩
          exact ⟨u, m, wc, g, h1, rfl, h2, h3, .inl (Nat.lt_of_lt_of_le hr.lt h4), h5, h6⟩
        · simp only [List.take_succ_cons, List.take_zero, List.cons_append, List.nil_append]
          (apply wpZ_det; (intro wq hE hG; have kk := (ExtW.trans (ExtW.of_drew hz) hE).cellAt HGU5.out; unfold upV at kk; apply obl_val (by rfl); go_simp <;> rfl); (intro ak hak; simp only [Act.put, List.setIfInBounds_toArray, List.set_cons_succ, List.set_cons_zero] at hak; subst hak))
          (apply wpZ_det; (intro wq hE hG; have kk := (ExtW.trans (ExtW.of_drew hz) hE).cellAt (HB5.out.cell (j := 0) rfl); apply obl_val (by rfl); go_simp <;> rfl); (intro ak hak; simp only [Act.put, List.setIfInBounds_toArray, List.set_cons_succ, List.set_cons_zero] at hak; subst hak))
          iterate 4 (apply wpZ_det; (intro wq hE hG; first | exact obl_non (by rfl) | (apply obl_val (by rfl); go_simp <;> rfl)); (intro ak hak; simp only [Act.put, List.setIfInBounds_toArray, List.set_cons_succ, List.set_cons_zero] at hak; subst hak))
          apply wpZ_nd (fun v w' => UpF wb.heap.size w5.heap.size pq v w' ∧ UpE wb.heap.size w5.heap.size pq wz v w') (fun v w1 w2 h hb => ⟨UpF.mono _ _ _ _ _ _ h.1 hb, UpE.mono _ _ _ _ _ _ _ h.2 hb⟩)
          · intro wq hE hG
            apply obl_on (by kernel_rfl)
            go_simp
            simp only [extUpon_enter]
            refine (ih A k c (l.take k) i (some pa) (pn - 1) pc (path.take (pn - 1)) wq (by omega) (by omega) hik HBS.out (HV.out.take k) HPT.out HPS.out (ExtW.trans HW5.out (ExtW.trans (ExtW.of_drew hz) hE))).mono ?_
            unfold UpPost
            rintro e w' ⟨v, rfl, ho, hb⟩
            rw [← HPQ.out] at ho ⊢
            exact ⟨_, rfl, hb, ⟨v, _, _, rfl, (ExtW.trans (ExtW.of_drew hz) hE).size, hb.size, ho, ExtW.refl _⟩, v, _, _, rfl, (ExtW.trans (ExtW.of_drew hz) hE).size, hb.size, hE.size, ho, ExtW.refl _⟩
          (intro uc ak hak; simp only [Act.put, List.setIfInBounds_toArray, List.set_cons_succ, List.set_cons_zero] at hak; subst hak)
          (apply wpZ_nil; intro wq hE hG)
          trivial
      · intro l hl
        simp only [List.mem_cons, List.not_mem_nil, or_false] at hl
        rcases hl with rfl | rfl
        · exact ⟨by decide, by decide, fun o ho => by cases ho; kernel_rfl, fun ok op h1 h2 => by cases h1; cases h2; exact ⟨62, _, rfl, rfl, fun a w F x hx ho => link_move rfl rfl hx ho⟩⟩
        · exact ⟨by decide, by decide, fun o ho => by cases ho; kernel_rfl, fun ok op h1 h2 => by cases h1; cases h2; exact ⟨55, _, rfl, rfl, fun a w F x hx ho => link_extract rfl rfl hx ho⟩⟩
    · have hik2 : ¬ (i : Int) < (k : Int) := by omega
      have HPO := Lib.hid (T.pairsD_hi (bitsN x) leaf HLL.out h2 HK.out HPL.out HY.out hik)
      have HPS := Lib.hid (T.low_len' h2 HK.out hik HPD.out)
      rw [HPL.out] at HPS
      have HBS := Lib.hid (HR.out.dropA hcl)
      obtain ⟨pq, hpq⟩ : ∃ pq, pq = T.pairsD (bitsN x) leaf (l.drop k) (i - k) (path.take (pn - 1)) := ⟨_, rfl⟩
      have HPQ := Lib.hid hpq
      have HPQL : Hid (pq.2.length = 32) := Lib.hid (by rw [hpq]; exact T.pairsD_len _ _ _ _ _)
      have HPQN : Hid (pq.1.reverse.length ≤ 1000000) := Lib.hid (by
        rw [List.length_reverse, hpq]
        have h3 := pairs_le (bitsN x) leaf (n + 1) (l.drop k) (i - k) (path.take (pn - 1)) (by rw [List.length_drop, HLL.out]; omega)
        rw [List.length_drop, HLL.out] at h3
        omega)
      rw [← hpq, HTX.out] at HPO
      clear hpq
      go_upto_region 9 with (fail)
      apply wp_region_ext_tail4 13 8 12 11 (UpR wb.heap.size w5.heap.size pq) [(9, 8, fun x v => v = x), (11, 9, fun x v => ∃ xs : Array Value, x = .tuple xs ∧ xs[1]? = some v)] _ (by kernel_rfl) (by kernel_rfl) (fun o ho c a w v h => by cases ho; exact h) (fun o ho a w F h => by cases ho; exact yields_extract rfl rfl a w F h)
      simp only [List.take_succ_cons, List.take_zero, List.drop_succ_cons, List.drop_zero]
      (apply wpZ_det; (intro wq hE hG; have kk := (ExtW.of_drew hE).cellAt HGU5.out; unfold upV at kk; apply obl_val (by rfl); go_simp <;> rfl); (intro ak hak; simp only [Act.put, List.setIfInBounds_toArray, List.set_cons_succ, List.set_cons_zero] at hak; subst hak))
      (apply wpZ_det; (intro wq hE hG; have kk := (ExtW.of_drew hE).cellAt (HB5.out.cell (j := 0) rfl); apply obl_val (by rfl); go_simp <;> rfl); (intro ak hak; simp only [Act.put, List.setIfInBounds_toArray, List.set_cons_succ, List.set_cons_zero] at hak; subst hak))
      iterate 4 (apply wpZ_det; (intro wq hE hG; first | exact obl_non (by rfl) | (apply obl_val (by rfl); go_simp <;> rfl)); (intro ak hak; simp only [Act.put, List.setIfInBounds_toArray, List.set_cons_succ, List.set_cons_zero] at hak; subst hak))
      (apply wpZ_det (c := .int .i64 ((i - k : Nat) : Int)); (intro wq hE hG; exact obl_same (by rfl) (by go_simp <;> rfl) (by first | rfl | (apply int_eq; omega) | (apply int_eq; rw [IntWalk.i64_in _ (by omega)]; omega) | (apply int_eq; simp; omega))); (intro ak hak; simp only [Act.put, List.setIfInBounds_toArray, List.set_cons_succ, List.set_cons_zero] at hak; subst hak))
      (apply wpZ_det; (intro wq hE hG; first | exact obl_non (by rfl) | (apply obl_val (by rfl); go_simp <;> rfl)); (intro ak hak; simp only [Act.put, List.setIfInBounds_toArray, List.set_cons_succ, List.set_cons_zero] at hak; subst hak))
      apply wpZ_nd (UpF wb.heap.size w5.heap.size pq) (UpF.mono _ _ _)
      · intro wq hE hG
        apply obl_on (by kernel_rfl)
        go_simp
        simp only [extUpon_enter]
        refine (ih (dropA A c k) (n - k) (c - k) (l.drop k) (i - k) (some pa) (pn - 1) pc (path.take (pn - 1)) wq (by omega) (by omega) (by omega) HBS.out (HV.out.drop k) HPT.out HPS.out (ExtW.trans HW5.out (ExtW.of_drew hE))).mono ?_
        unfold UpPost
        rintro e w' ⟨v, rfl, ho, hb⟩
        rw [← HPQ.out] at ho ⊢
        exact ⟨_, rfl, hb, v, _, _, rfl, (ExtW.of_drew hE).size, hb.size, ho, ExtW.refl _⟩
      (intro uc ak hak; simp only [Act.put, List.setIfInBounds_toArray, List.set_cons_succ, List.set_cons_zero] at hak; subst hak)
      apply wpZ_nd (UpF wb.heap.size w5.heap.size pq) (UpF.mono _ _ _)
      · intro wq hE hG
        have h7 : UpF wb.heap.size w5.heap.size pq uc wq := hG _ (List.mem_cons_self ..) (by kernel_rfl)
        apply obl_on (by kernel_rfl)
        go_simp
        simp only [extUpon_value]
        exact ⟨ExtW.refl _, h7⟩
      (intro um ak hak; simp only [Act.put, List.setIfInBounds_toArray, List.set_cons_succ, List.set_cons_zero] at hak; subst hak)
      apply wpZ_det (c := dgV pq.2)
      · intro wq hE hG
        obtain ⟨v, m, wc, rfl, _⟩ : UpF wb.heap.size w5.heap.size pq um wq := hG _ (List.mem_cons_self ..) (by kernel_rfl)
        exact obl_same (by rfl) (by go_simp <;> rfl) rfl
      (intro ak hak; simp only [Act.put, List.setIfInBounds_toArray, List.set_cons_succ, List.set_cons_zero] at hak; subst hak)
      apply wpZ_nd (fun _ _ => True) (fun _ _ _ _ _ => trivial)
      · intro wq hE hG
        obtain ⟨v, m, wc, rfl, _⟩ : UpF wb.heap.size w5.heap.size pq um wq := hG _ (List.mem_cons_self ..) (by kernel_rfl)
        apply obl_on (by kernel_rfl)
        go_simp
        simp only [extUpon_value]
        exact ⟨ExtW.refl _, trivial⟩
      (intro ux ak hak; simp only [Act.put, List.setIfInBounds_toArray, List.set_cons_succ, List.set_cons_zero] at hak; subst hak)
      (apply wpZ_nd (NewD w5.heap.size) (NewD.mono _); (intro wq hE hG; exact obl_newD (by kernel_rfl) rfl (ExtW.of_drew hE).size); (intro ud ak hak; simp only [Act.put, List.setIfInBounds_toArray, List.set_cons_succ, List.set_cons_zero] at hak; subst hak))
      (apply wpZ_nil; intro wq hE hG)
      intro hfin
      have hR : UpR wb.heap.size w5.heap.size pq uc ud wq := hfin.1 _ _ _ _ _ _ rfl rfl rfl rfl rfl rfl
      have h7 : um = uc := hfin.2 _ (List.mem_cons_self ..) _ _ _ _ _ _ rfl rfl rfl rfl rfl rfl
      have h9 : ∃ xs : Array Value, um = .tuple xs ∧ xs[1]? = some ux := hfin.2 _ (List.mem_cons_of_mem _ (List.mem_cons_self ..)) _ _ _ _ _ _ rfl rfl rfl rfl rfl rfl
      have hnd : NewD w5.heap.size ud wq := hG _ (List.mem_cons_self ..)
      have HEQ := Lib.hid (ExtW.of_drew hE)
      clear hfin hG hE
      subst h7
      obtain ⟨u, m, wc, gn, rfl, rfl, hm0, hmc, hgm, hown, hext⟩ := hR
      obtain ⟨xs, hxs, hx1⟩ := h9
      injection hxs with hxs
      subst hxs
      have hx1 : u = ux := by simpa using hx1
      subst hx1
      obtain ⟨g16, hg16, hge, hrow⟩ := hnd
      injection hg16 with hg16
      injection hg16 with hg16
      injection hg16 with hg16
      subst hg16
      have HOW := Lib.hid hown
      have HEX := Lib.hid hext
      have HM : Hid (w5.heap.size ≤ m ∧ m ≤ wc.heap.size ∧ (gn < m ∨ wc.heap.size ≤ gn) ∧ w5.heap.size ≤ gn) := Lib.hid ⟨hm0, hmc, hgm, hge⟩
      have HRW := Lib.hid hrow
      clear hown hext hm0 hmc hgm hge hrow
      have HOB := Lib.hid HOW.out.own
      go_upto_region 10 with (refine wpList_newst rfl rfl rfl HPQL.out (d0 := List.replicate 32 0) rfl rfl rfl HRW.out ?_)
      have HD8 : Hid (Row (wq.setRow gn (bvs pq.2).toArray) gn 45 (bvs pq.2)) := Lib.hid (HRW.out.setRow _)
      have HE8 : Hid (ExtW w5 (wq.setRow gn (bvs pq.2).toArray)) := Lib.hid (below_setRow HEQ.out HM.out.2.2.2 _)
      have HK8 : Hid (Kp (Sb wb.heap.size m) wc (wq.setRow gn (bvs pq.2).toArray)) := Lib.hid (Kp.set (Kp.of_ext _ HEX.out) (by
        rcases HM.out.2.2.1 with h | h
        · exact .inl ⟨Nat.le_trans HW5.out.size HM.out.2.2.2, h⟩
        · exact .inr h) _)
      generalize wq.setRow gn (bvs pq.2).toArray = w8 at HD8 HE8 HK8 ⊢
      have HOW8 := Lib.hid (HOW.out.kp HK8.out (fun j hj => hj.2))
      have HMS : Hid (m ≤ w8.heap.size) := Lib.hid (Nat.le_trans HM.out.2.1 HK8.out.size)
      have HGT8 := Lib.hid ((ExtW.trans HW5.out HE8.out).cellAt HGT.out)
      have HY8 := Lib.hid (HY5.out.ext HE8.out)
      have HSQ : Hid ((bvs pq.2).toArray.size = 32) := Lib.hid (dg_size HPQL.out)
      have HSY : Hid ((bvs y).toArray.size = 32) := Lib.hid (dg_size HYL.out)
      clear HRW HEQ HOW HEX HK8 hrt hrd
      have k2 := HGT8.out
      go_wp2_with (refine wpList_ld rfl rfl ?_; first | refine ⟨gn, _, _, _, rfl, HD8.out, Try.underlying45, rfl, by rw [HSQ.out]; kernel_rfl, ?_⟩ | refine ⟨gy, _, _, _, rfl, HY8.out, Try.underlying45, rfl, by rw [HSY.out]; kernel_rfl, ?_⟩)
      clear k2
      refine (node_any x y pq.2 _ HYL.out HPQL.out HX.out).mono ?_
      rintro e w9 ⟨rfl, hb⟩
      have HE9 := Lib.hid (ExtW.trans HE8.out hb)
      have HD9 := Lib.hid (HD8.out.ext hb)
      have HY9 := Lib.hid (HY8.out.ext hb)
      have HOW9 := Lib.hid (HOW8.out.ext hb)
      have HMS9 : Hid (m ≤ w9.heap.size) := Lib.hid (Nat.le_trans HMS.out hb.size)
      obtain ⟨fv, hfv⟩ : ∃ f, f = Value.func (.func 36) #[] #[.pointer (some ⟨gy, 0, none⟩), .pointer (some ⟨gn, 0, none⟩), .pointer (some ⟨ga, 0, none⟩), .pointer (some ⟨gb, 0, none⟩)] := ⟨_, rfl⟩
      have HC : Hid ((w9.alloc (.cells #[fv] 1)).cell? ⟨w9.heap.size, 0, none⟩ = some fv) := Lib.hid (cell_new1 _ _ _)
      have HEA : Hid (ExtW w9 (w9.alloc (.cells #[fv] 1))) := Lib.hid ((Below.refl _ _).alloc (Nat.le_refl _) _)
      have HSZ : Hid (w.heap.size ≤ w2.heap.size ∧ w2.heap.size ≤ w5.heap.size ∧ wb.heap.size ≤ w.heap.size) := Lib.hid ⟨HE2.out.size, by have h1 := HGG.out; have h2 := HE25.out.size; exact Nat.le_trans h1.2.2.2.2.1 (Nat.le_of_lt h1.2.2.1), HWB.out.size⟩
      have HO10 : Hid (OwnCl (fun k => S k ∨ k = gd) m pq.1.reverse u (w9.alloc (.cells #[fv] 1))) := Lib.hid ((HOW9.out.ext HEA.out).sub (by
        have h1 := HGG.out
        have h2 := HSZ.out
        have h3 := HM.out
        have h4 := HG.out
        rintro k (hk | rfl)
        · have h5 := HS.out k hk
          exact ⟨h5.1, by omega⟩
        · exact ⟨by omega, by omega⟩))
      have HCL : Hid (Clos (fun k => (S k ∨ k = gd) ∨ u.ownBlock = some k) (w9.alloc (.cells #[fv] 1)) fv (T.ntx y pq.2, T.ntx da db)) := Lib.hid ⟨_, _, hfv, fun _ => by kernel_rfl, fun W hW => by
        have h1 := HGG.out
        have h2 := HSZ.out
        have h3 := HM.out
        have h9 := hW
        have hni : ∀ g, w2.heap.size ≤ g → (g < w5.heap.size ∨ g = gn) → ¬ ((S g ∨ g = gd) ∨ u.ownBlock = some g) := by
          rintro g hg hg2 ((hk | hk) | hk)
          · have h5 := HS.out g hk
            omega
          · omega
          · have h5 := HOB.out g hk
            rcases hg2 with hg2 | rfl
            · omega
            · omega
        exact hiC_any gy gn ga gb y pq.2 da db W HYL.out HPQL.out HLA.out HLB.out (hW.row (HY9.out.ext HEA.out) (hni gy (by omega) (.inl (by omega)))) (hW.row (HD9.out.ext HEA.out) (hni gn (by omega) (.inr rfl)))
          (hW.row (HAA5.out.ext (ExtW.trans HE9.out HEA.out)) (hni ga (by omega) (.inl (by omega)))) (hW.row (HBB5.out.ext (ExtW.trans HE9.out HEA.out)) (hni gb (by omega) (.inl (by omega))))⟩
      have HBM : Hid (m ≤ (w9.alloc (.cells #[fv] 1)).heap.size) := Lib.hid (Nat.le_trans HMS9.out HEA.out.size)
      have HDA : Hid (Row (w9.alloc (.cells #[fv] 1)) gd 45 (bvs (List.replicate 32 0))) := Lib.hid (HD5.out.ext (ExtW.trans HE9.out HEA.out))
      have HWA : Hid (ExtW w (w9.alloc (.cells #[fv] 1))) := Lib.hid (ExtW.trans HE25.out (ExtW.trans HE9.out HEA.out))
      subst hfv
      clear hb HOW8 HOW9 HD8 HY8 HMS9
      obtain ⟨d, hd⟩ : ∃ d, d = T.nodeD (bitsN x) y pq.2 := ⟨_, rfl⟩
      have HSD : Hid ((bvs d).toArray.size = 32) := Lib.hid (dg_size (by rw [hd]; exact T.nodeD_len _ _ _))
      have HDL : Hid (d = T.nodeD (bitsN x) y pq.2) := Lib.hid hd
      have HLT : Hid (gd < m ∧ w.heap.size ≤ m ∧ ∀ j, S j → j < m) := Lib.hid (by
        have h1 := HGG.out
        have h2 := HSZ.out
        have h3 := HM.out
        exact ⟨by omega, by omega, fun j hj => by have h4 := HS.out j hj; omega⟩)
      rw [← hd]
      clear hd
      unfold dgV
      go_wp2_with (first
        | (at_builtin; generalize w9.alloc (.cells #[.func (.func 36) #[] #[.pointer (some ⟨gy, 0, none⟩), .pointer (some ⟨gn, 0, none⟩), .pointer (some ⟨ga, 0, none⟩), .pointer (some ⟨gb, 0, none⟩)]] 1) = wa at HC HEA HO10 HCL HBM HDA HWA ⊢; refine wpList_append_cl rfl _ _ rfl rfl rfl HO10.out HC.out HCL.out HPQN.out HBM.out ?_; intro v' w' ho' hb'; have HO' := Lib.hid ho'; have HB' := Lib.hid hb'; have HDE : Hid (Row w' gd 45 (bvs (List.replicate 32 0))) := Lib.hid ((hb'.block gd HLT.out.1).trans HDA.out); clear ho' hb')
        | (refine wpList_st rfl rfl ?_; refine ⟨gd, _, _, _, rfl, rfl, HDE.out, by rw [HSD.out]; kernel_rfl, Eq.trans (show (bvs (List.replicate 32 0)).toArray.size = 32 from rfl) HSD.out.symm, dg_one _, ?_⟩))
      have HOWN : Hid (∀ ds, OwnCl S w.heap.size (pq.1.reverse ++ [(T.ntx y pq.2, T.ntx da db)]) v' (w'.setRow gd ds)) := Lib.hid fun ds =>
        ((HO'.out.kp (Kp.set (Kp.refl _ _) (.inl (.inr rfl)) ds) (fun j hj => hj.elim (HLT.out.2.2 j) fun e => e ▸ HLT.out.1)).sub (fun k hk => .inl hk)).le HLT.out.2.1
      (try simp only [Exit.inBlock, Exit.then])
      have hld := run_loadVar_row (P := Try.prog) (w'.setRow gd (bvs d).toArray) gd 45 45 (bvs d).toArray (0, 0) _ (Row.setRow HDE.out (bvs d)) Try.underlying45 rfl (by rw [HSD.out]; kernel_rfl)
      refine bodyPost_ret (results_ct rfl _ _ _ rfl hld) rfl ?_
      unfold UpPost
      rw [HPO.out, ← HDL.out]
      exact ⟨_, rfl, by rw [List.reverse_cons]; exact HOWN.out _, below_setRow (Below.trans HWA.out (HB'.out.mono HLT.out.2.1)) (by have := HG.out; omega) _⟩
      refine ⟨by decide, by decide, by decide, ?_, fun x z w w' h hb => UpR.mono _ _ _ _ _ _ _ h hb, ?_, ?_⟩
      · intro o ho
        cases ho
        exact ⟨rfl, fun a w => ⟨w.alloc (.cells zDig 45), by unfold execOp; kernel_rfl⟩⟩
      · refine ⟨_, _, UpE wb.heap.size w5.heap.size pq, rfl, rfl, ?_, ?_, fun wz hz => ?_⟩
        · rintro x w w' ⟨u, m, wc, h1, h2, h3, h4, h5⟩ hb
          exact ⟨u, m, wc, _, h1, rfl, h2, h3, .inr h5.size, h4, ExtW.trans h5 hb⟩
        · rintro z wz x w' ⟨g, rfl, hg, hr⟩ hb ⟨u, m, wc, h1, h2, h3, h4, h5, h6⟩
          exact ⟨u, m, wc, g, h1, rfl, h2, h3, .inl (Nat.lt_of_lt_of_le hr.lt h4), h5, h6⟩
        · simp only [List.take_succ_cons, List.take_zero, List.cons_append, List.nil_append]
          (apply wpZ_det; (intro wq hE hG; have kk := (ExtW.trans (ExtW.of_drew hz) hE).cellAt HGU5.out; unfold upV at kk; apply obl_val (by rfl); go_simp <;> rfl); (intro ak hak; simp only [Act.put, List.setIfInBounds_toArray, List.set_cons_succ, List.set_cons_zero] at hak; subst hak))
          (apply wpZ_det; (intro wq hE hG; have kk := (ExtW.trans (ExtW.of_drew hz) hE).cellAt (HB5.out.cell (j := 0) rfl); apply obl_val (by rfl); go_simp <;> rfl); (intro ak hak; simp only [Act.put, List.setIfInBounds_toArray, List.set_cons_succ, List.set_cons_zero] at hak; subst hak))
          iterate 4 (apply wpZ_det; (intro wq hE hG; first | exact obl_non (by rfl) | (apply obl_val (by rfl); go_simp <;> rfl)); (intro ak hak; simp only [Act.put, List.setIfInBounds_toArray, List.set_cons_succ, List.set_cons_zero] at hak; subst hak))
          (apply wpZ_det (c := .int .i64 ((i - k : Nat) : Int)); (intro wq hE hG; exact obl_same (by rfl) (by go_simp <;> rfl) (by first | rfl | (apply int_eq; omega) | (apply int_eq; rw [IntWalk.i64_in _ (by omega)]; omega) | (apply int_eq; simp; omega))); (intro ak hak; simp only [Act.put, List.setIfInBounds_toArray, List.set_cons_succ, List.set_cons_zero] at hak; subst hak))
          (apply wpZ_det; (intro wq hE hG; first | exact obl_non (by rfl) | (apply obl_val (by rfl); go_simp <;> rfl)); (intro ak hak; simp only [Act.put, List.setIfInBounds_toArray, List.set_cons_succ, List.set_cons_zero] at hak; subst hak))
          apply wpZ_nd (fun v w' => UpF wb.heap.size w5.heap.size pq v w' ∧ UpE wb.heap.size w5.heap.size pq wz v w') (fun v w1 w2 h hb => ⟨UpF.mono _ _ _ _ _ _ h.1 hb, UpE.mono _ _ _ _ _ _ _ h.2 hb⟩)
          · intro wq hE hG
            apply obl_on (by kernel_rfl)
            go_simp
            simp only [extUpon_enter]
            refine (ih (dropA A c k) (n - k) (c - k) (l.drop k) (i - k) (some pa) (pn - 1) pc (path.take (pn - 1)) wq (by omega) (by omega) (by omega) HBS.out (HV.out.drop k) HPT.out HPS.out (ExtW.trans HW5.out (ExtW.trans (ExtW.of_drew hz) hE))).mono ?_
            unfold UpPost
            rintro e w' ⟨v, rfl, ho, hb⟩
            rw [← HPQ.out] at ho ⊢
            exact ⟨_, rfl, hb, ⟨v, _, _, rfl, (ExtW.trans (ExtW.of_drew hz) hE).size, hb.size, ho, ExtW.refl _⟩, v, _, _, rfl, (ExtW.trans (ExtW.of_drew hz) hE).size, hb.size, hE.size, ho, ExtW.refl _⟩
          (intro uc ak hak; simp only [Act.put, List.setIfInBounds_toArray, List.set_cons_succ, List.set_cons_zero] at hak; subst hak)
          (apply wpZ_nil; intro wq hE hG)
          trivial
      · intro l hl
        simp only [List.mem_cons, List.not_mem_nil, or_false] at hl
        rcases hl with rfl | rfl
        · exact ⟨by decide, by decide, fun o ho => by cases ho; kernel_rfl, fun ok op h1 h2 => by cases h1; cases h2; exact ⟨82, _, rfl, rfl, fun a w F x hx ho => link_move rfl rfl hx ho⟩⟩
        · exact ⟨by decide, by decide, fun o ho => by cases ho; kernel_rfl, fun ok op h1 h2 => by cases h1; cases h2; exact ⟨73, _, rfl, rfl, fun a w F x hx ho => link_extract rfl rfl hx ho⟩⟩
    refine ⟨by decide, by decide, by decide, ?_, ?_⟩
    · rintro j o (rfl | rfl) ho <;> (cases ho; exact ⟨rfl, fun a w => ⟨w.alloc (.cells zDig 45), by unfold execOp; kernel_rfl⟩⟩)
    · rintro j (rfl | rfl) <;> exact ⟨NewD w3.heap.size, rfl, fun v w h => h.fresh⟩
end Go.Proofs.Ythaoibgcgkmnbaa
