/- A region that draws its order, of which all but the last operations read and make memory and turn none that was there, and the last ones come behind all others, one behind the other: one walk in the order of the text serves every order. -/
import Derived.Test.YthaoibgcgkmnbaaExt
import Derived.StillTail
namespace Go.Proofs.Ythaoibgcgkmnbaa
set_option maxRecDepth 100000
open Go Go.RowKit

theorem filter_set' (n i : Nat) (listed : Array Bool) (hi : i < n) (hl : n ≤ listed.size) (h0 : listed.getD i true = false) :
    ((List.range n).filter fun j => !(listed.setIfInBounds i true).getD j true).length + 1 = ((List.range n).filter fun j => !listed.getD j true).length := by
  rw [← List.countP_eq_length_filter, ← List.countP_eq_length_filter]
  have key : ∀ l : List Nat, l.Nodup → i ∈ l → l.countP (fun j => !(listed.setIfInBounds i true).getD j true) + 1 = l.countP (fun j => !listed.getD j true) := by
    intro l
    induction l with
    | nil => intro _ h; cases h
    | cons x l ih =>
      intro hn hm
      rw [List.nodup_cons] at hn
      rw [List.countP_cons, List.countP_cons]
      by_cases hx : x = i
      · subst hx
        have e1 : (listed.setIfInBounds x true).getD x true = true := by
          have : x < listed.size := by omega
          simp [this]
        rw [e1, h0]
        have : l.countP (fun j => !(listed.setIfInBounds x true).getD j true) = l.countP (fun j => !listed.getD j true) := by
          refine List.countP_congr fun j hj => ?_
          have : x ≠ j := fun e => hn.1 (e ▸ hj)
          rw [getD_set_ne true this]
        rw [this]; simp
      · have := ih hn.2 ((List.mem_cons.1 hm).resolve_left (Ne.symm hx))
        rw [getD_set_ne true (Ne.symm hx)]
        omega
  exact key _ List.nodup_range (List.mem_range.2 hi)

/-- the first n of m have come up -/
def firstOnes (n m : Nat) : Array Bool := (List.replicate n true ++ List.replicate (m - n) false).toArray

/-- the checks -/
def extTailB (ops : Array Oper) (n : Nat) : Bool :=
  extB ops && decide (n < ops.size) && Region.sinkB .any ops n && Region.chainB .any ops n && Region.seqB .any ops (ops.size - n) n (firstOnes n ops.size)

section
variable {P : Program} {ops : Array Oper}

theorem wpAny_of_walk_tail {w0 : World} {Q : Exit → Act → World → Prop} {a0 : Act} {ss : List Spec} {n : Nat} (hE : EdgesOk ops) (hn : n < ops.size) (hsk : Region.sinkB .any ops n = true) (hch : Region.chainB .any ops n = true)
    (hsq : Region.seqB .any ops (ops.size - n) n (firstOnes n ops.size) = true) (h : wpZ P ops w0 (fun a w => wpList P ops Q (ops.toList.drop n) a w) (ops.toList.take n) ss 0 a0 []) :
    ∀ (fuel : Nat) (listed : Array Bool) (a : Act) (w : World) (vs : Nat → Value), listed.size = ops.size → ((List.range n).filter fun j => !listed.getD j true).length = fuel → (∀ t, n ≤ t → t < ops.size → listed.getD t true = false) →
      ExtW w0 w → (∀ m c, ss[m]? = some (.det c) → vs m = c) → (∀ j F, listed.getD j false = true → ss[j]? = some (.nd F) → F (vs j) w) →
      (∀ j o, listed.getD j false = true → ops[j]? = some o → ∀ e ∈ o.after, Region.binds .any e = true → listed.getD e.on false = true) →
      Holds ops a0 (fun j => listed.getD j false = true) vs a → wpAny P .any ops Q (fuel + (ops.size - n)) listed a w := by
  have hlen : (ops.toList.take n).length = n := by rw [List.length_take, Array.length_toList]; omega
  have hget : ∀ j, j < n → (ops.toList.take n)[j]? = ops[j]? := fun j hj => by rw [List.getElem?_take, if_pos hj]; simp
  intro fuel
  induction fuel with
  | zero =>
    intro listed a w vs hsz hcnt htl hw hdet hnd hcl hh
    have hall : ∀ j, j < n → listed.getD j true = true := fun j hj => by
      have h0 : (List.range n).filter (fun j => !listed.getD j true) = [] := List.eq_nil_of_length_eq_zero hcnt
      rw [List.filter_eq_nil_iff] at h0
      simpa using h0 j (List.mem_range.2 hj)
    have hall' : ∀ j, j < n → listed.getD j false = true := fun j hj => by
      have := hall j hj
      have hl : j < listed.size := by omega
      simp [hl] at this ⊢; exact this
    have heqL : listed = firstOnes n ops.size := by
      apply Array.ext_getElem?
      intro j
      have e0 : (firstOnes n ops.size)[j]? = (List.replicate n true ++ List.replicate (ops.size - n) false)[j]? := by unfold firstOnes; simp only [List.getElem?_toArray]
      rw [e0]
      by_cases hj : j < n
      · have := hall j hj
        rw [List.getElem?_append_left (by simpa using hj), List.getElem?_replicate, if_pos hj]
        have hl : j < listed.size := by omega
        simp [hl] at this ⊢; exact this
      · rw [List.getElem?_append_right (by simpa using Nat.le_of_not_lt hj), List.getElem?_replicate, List.length_replicate]
        by_cases hj2 : j < ops.size
        · have := htl j (by omega) hj2
          have hl : j < listed.size := by omega
          rw [if_pos (by omega)]
          simp [hl] at this ⊢; exact this
        · rw [if_neg (by omega)]
          exact Array.getElem?_eq_none (by omega)
    have hob := wpZ_obl vs (ops.toList.take n) ss 0 a0 [] h (by simpa using hdet)
    have hfin := hob.2.1 w hw (by simp) (fun j F hj hs => by simpa using hnd j F (hall' j (by rwa [hlen] at hj)) hs)
    rw [hlen] at hfin
    have hfr := Fr_holds hE (a0 := a0) vs n ops.toList 0 a0 (fun j => by simp) (by rw [Array.length_toList]; omega) ⟨rfl, fun j o d hj => by omega, fun s _ => rfl⟩
    have hFr : ∀ (m : Nat) (l : List Oper) (k : Nat) (a : Act), Fr (l.take m) k a vs m = Fr l k a vs m := by
      intro m
      induction m with
      | zero => intro l k a; cases l <;> rfl
      | succ m ih => intro l k a; cases l with
        | nil => rfl
        | cons o r => rw [List.take_succ_cons]; simp only [Fr]; exact ih r (k + 1) _
    rw [hFr] at hfin
    have heq : a = Fr ops.toList 0 a0 vs n := by
      have ht : a.tmps = (Fr ops.toList 0 a0 vs n).tmps := by
        apply Array.ext_getElem?
        intro s
        by_cases hs : ∃ j o, j < n ∧ ops[j]? = some o ∧ o.dst = some s
        · obtain ⟨j, o, hj, ho, hd⟩ := hs
          rw [hh.done j o s (hall' j hj) ho hd, hfr.done j o s (by simpa using hj) ho hd]
        · rw [hh.rest s fun j o hj ho hd => hs ⟨j, o, ?_, ho, hd⟩, hfr.rest s fun j o hj ho hd => hs ⟨j, o, by simpa using hj, ho, hd⟩]
          rcases Nat.lt_or_ge j n with h' | h'
          · exact h'
          · have hjs := (Array.getElem?_eq_some_iff.1 ho).1
            have := htl j h' hjs
            have hl : j < listed.size := by omega
            simp [hl] at this hj
            rw [this] at hj; cases hj
      have hd2 : a.defers = (Fr ops.toList 0 a0 vs n).defers := hh.defers.trans hfr.defers.symm
      generalize Fr ops.toList 0 a0 vs n = b at *
      cases a; cases b; simp_all
    have hdl : (ops.toList.drop n).length = ops.size - n := by simp
    have := wpAny_of_seq (P := P) (md := .any) (ops := ops) (Q' := Q) (ops.toList.drop n) n listed a w (fun j => by simp [List.getElem?_drop]) (by rw [hdl, heqL]; exact hsq) (by rw [heq]; exact hfin)
    rw [hdl] at this
    rw [Nat.zero_add]; exact this
  | succ fuel ih =>
    intro listed a w vs hsz hcnt htl hw hdet hnd hcl hh
    rw [Nat.add_right_comm]
    have hne : (List.range n).filter (fun j => !listed.getD j true) ≠ [] := fun e => by rw [e] at hcnt; simp at hcnt
    obtain ⟨x, hx⟩ := List.exists_mem_of_ne_nil _ hne
    rw [List.mem_filter, List.mem_range] at hx
    refine ⟨fun hr => ?_, fun i hi => ?_⟩
    · exfalso
      have key : ∀ m, m < n → listed.getD m true = false → False := by
        intro m
        induction m using Nat.strongRecOn with
        | _ m ihn =>
          intro hm h0
          have hms : m < ops.size := by omega
          have ho : ops[m]? = some ops[m] := Array.getElem?_eq_getElem hms
          have hmem : m ∈ Region.ready .any ops listed := by
            rw [mem_ready]
            refine ⟨h0, ops[m], ho, fun e he hbe => ?_⟩
            have hlt := hE.back m _ ho e he hbe
            cases hb : listed.getD e.on true with
            | true =>
              have hl : e.on < listed.size := by omega
              simp [hl] at hb ⊢; exact hb
            | false => exact (ihn e.on hlt (by omega) hb).elim
          rw [hr] at hmem; cases hmem
      exact key x hx.1 (by simpa using hx.2)
    · have hilt : i < n := by
        rcases Nat.lt_or_ge i n with h' | h'
        · exact h'
        · exact absurd hi (tail_waits hsk hch hn ⟨hsz, fun j oj hoj hj => hcl j oj hj hoj, htl⟩ (n - x) x rfl hx.1 (by simpa using hx.2) i h')
      obtain ⟨h0, o, ho, hall⟩ := mem_ready.1 hi
      have hlt : i < ops.size := (Array.getElem?_eq_some_iff.1 ho).1
      have hil : i < listed.size := by omega
      have hSi : ¬ listed.getD i false = true := by
        simp [hil] at h0 ⊢; exact h0
      have hol : (ops.toList.take n)[i]? = some o := by rw [hget i hilt]; exact ho
      have hob := wpZ_obl vs (ops.toList.take n) ss 0 a0 [] h (by simpa using hdet)
      obtain ⟨s, hs, hobl⟩ := hob.1 i o hol
      have hwl : ∀ j, waits o j = true → listed.getD j false = true := fun j hwj => by
        unfold waits at hwj
        rw [Array.any_eq_true] at hwj
        obtain ⟨m, hm, he⟩ := hwj
        simp only [Bool.and_eq_true, beq_iff_eq] at he
        have := hall _ (Array.getElem_mem hm) he.2
        rw [he.1] at this; exact this
      have h1 := hobl w hw (by simp) (fun j F hj hsj hwj => by
        have := hnd j F (hwl j (by simpa using hwj)) hsj
        simpa using this)
      have hFr : ∀ (m : Nat) (l : List Oper) (k c : Nat) (a : Act), m ≤ c → Fr (l.take c) k a vs m = Fr l k a vs m := by
        intro m
        induction m with
        | zero => intro l k c a _; cases l <;> cases c <;> rfl
        | succ m ih => intro l k c a hc; cases l with
          | nil => rw [List.take_nil]
          | cons o r =>
            obtain ⟨c', rfl⟩ : ∃ c', c = c' + 1 := ⟨c - 1, by omega⟩
            rw [List.take_succ_cons]; simp only [Fr]; exact ih r (k + 1) c' _ (by omega)
      rw [hFr i _ _ n _ (Nat.le_of_lt hilt)] at h1
      have hfr := Fr_holds hE (a0 := a0) vs i ops.toList 0 a0 (fun j => by simp) (by simp; omega) ⟨rfl, fun j o d hj => by omega, fun s _ => rfl⟩
      have h2 : oblAt P ops o a w s.ok := by
        refine oblAt_congr (hE.nosel i o ho) (fun d hd => ?_) h1
        by_cases hex : ∃ (j : Nat) (oj : Oper), ops[j]? = some oj ∧ oj.dst = some d
        · obtain ⟨j, oj, hoj, hdj⟩ := hex
          have only : ∀ (k : Nat) (ok : Oper), ops[k]? = some ok → ok.dst = some d → k = j := fun k ok hk hkd => by
            by_cases hkj : k = j
            · exact hkj
            · exact absurd hkd (hE.apart k ok j oj d hk hoj hkj hdj).1
          by_cases hji : j = i
          · subst hji
            rw [hh.rest d fun k ok hk hok hkd => hSi (by rw [← only k ok hok hkd]; exact hk), hfr.rest d fun k ok hk hok hkd => by have := only k ok hok hkd; omega]
          · have hw2 := (hE.apart i o j oj d ho hoj (Ne.symm hji) hdj).2 hd
            by_cases hlt2 : j < i
            · rw [if_pos hlt2] at hw2
              rw [hh.done j oj d (hwl j hw2) hoj hdj, hfr.done j oj d (by simpa using hlt2) hoj hdj]
            · rw [if_neg hlt2] at hw2
              have hnj : ¬ listed.getD j false = true := fun hj => by
                unfold waits at hw2
                rw [Array.any_eq_true] at hw2
                obtain ⟨m, hm, he⟩ := hw2
                simp only [Bool.and_eq_true, beq_iff_eq] at he
                have := hcl j oj hj hoj _ (Array.getElem_mem hm) he.2
                rw [he.1] at this; exact hSi this
              rw [hh.rest d fun k ok hk hok hkd => hnj (by rw [← only k ok hok hkd]; exact hk), hfr.rest d fun k ok hk hok hkd => by have := only k ok hok hkd; omega]
        · rw [hh.rest d fun k ok _ hok hkd => hex ⟨k, ok, hok, hkd⟩, hfr.rest d fun k ok _ hok hkd => hex ⟨k, ok, hok, hkd⟩]
      refine wpOp_of_obl ho h2 fun v w' hx hF => ?_
      have hself : (listed.setIfInBounds i true).getD i false = true := by simp [hil]
      have hset : ∀ j, (listed.setIfInBounds i true).getD j false = true ↔ listed.getD j false = true ∨ j = i := fun j => by
        by_cases hji : j = i
        · subst hji; simp [hself]
        · rw [getD_set_ne false (Ne.symm hji)]; simp [hji]
      refine ih (listed.setIfInBounds i true) (a.put o.dst v) w' (fun j => if j = i then v else vs j) (by simpa using hsz) ?_ ?_ (hw.trans hx) ?_ ?_ ?_ ?_
      · have := filter_set' n i listed hilt (by omega) h0
        omega
      · intro t ht hts
        rw [getD_set_ne true (by omega)]
        exact htl t ht hts
      · intro m c hm
        by_cases hmi : m = i
        · subst hmi
          rw [hm] at hs; cases hs
          simp only [if_true]; exact hF
        · simp only [hmi, if_false]; exact hdet m c hm
      · intro j F hj hsj
        by_cases hji : j = i
        · subst hji
          rw [hsj] at hs; cases hs
          simp only [if_true]; exact hF
        · simp only [hji, if_false]
          have hjl : listed.getD j false = true := ((hset j).1 hj).resolve_right hji
          have hjn : j < n := by
            rcases Nat.lt_or_ge j n with h' | h'
            · exact h'
            · exfalso
              rcases Nat.lt_or_ge j ops.size with h'' | h''
              · have := htl j h' h''
                have hl : j < listed.size := by omega
                simp [hl] at this hjl
                rw [this] at hjl; cases hjl
              · simp [Array.getElem?_eq_none (show listed.size ≤ j by omega)] at hjl
          exact hob.2.2 j F (by rw [hlen]; exact hjn) hsj _ _ _ (hnd j F hjl hsj) hx
      · intro j oj hj hoj e he hb
        rw [hset]
        left
        rcases (hset j).1 hj with hj | rfl
        · exact hcl j oj hj hoj e he hb
        · rw [ho] at hoj; cases hoj
          exact hall e he hb
      · exact hh.put hE ho hSi hset (by simp) (fun j hj => by simp [hj])

/-- the law -/
theorem wp_region_ext_tail {id : Nat} {Q : Exit → Act → World → Prop} {a : Act} {w : World} {l : List Oper} (n : Nat) (ss : List Spec) (hm : P.follows .mixedOrders = true) (hB : extTailB l.toArray n = true)
    (h : wpZ P l.toArray w.drew (fun a w => wpList P l.toArray Q (l.drop n) a w) (l.take n) ss 0 a []) : (Code.region id l.toArray true).wp P Q a w := by
  simp only [extTailB, Bool.and_eq_true, decide_eq_true_eq] at hB
  obtain ⟨⟨⟨⟨hE, hn⟩, hsk⟩, hch⟩, hsq⟩ := hB
  refine wp_region_any hm ?_
  have hrep : ∀ j b, j < l.length → (Array.replicate l.toArray.size false).getD j b = false := fun j b hj => by simp [hj]
  have hrep0 : ∀ j, (Array.replicate l.toArray.size false).getD j false = true → False := fun j hj => by
    rcases Nat.lt_or_ge j l.length with h' | h'
    · rw [hrep j false h'] at hj; cases hj
    · simp [Nat.not_lt.2 h'] at hj
  have := wpAny_of_walk_tail (P := P) (ops := l.toArray) (w0 := w.drew) (Q := Q) (a0 := a) (ss := ss) (n := n) (edges_of hE) hn hsk hch hsq (by simpa using h) n (Array.replicate l.toArray.size false) a w.drew
    (fun m => match ss[m]? with | some (.det c) => c | _ => undef) (by simp) (by
      have : (List.range n).filter (fun j => !(Array.replicate l.toArray.size false).getD j true) = List.range n := by
        rw [List.filter_eq_self]
        intro j hj
        have hj := List.mem_range.1 hj
        simp at hn
        rw [hrep j true (by omega)]; rfl
      rw [this, List.length_range]) (fun t _ ht => hrep t true (by simpa using ht)) (ExtW.refl _) (fun m c hm => by simp [hm]) (fun j F hj => (hrep0 j hj).elim) (fun j o hj => (hrep0 j hj).elim)
      ⟨rfl, fun j o d hj => (hrep0 j hj).elim, fun s _ => rfl⟩
  rw [show n + (l.toArray.size - n) = l.toArray.size by omega] at this
  exact this
end
end Go.Proofs.Ythaoibgcgkmnbaa
