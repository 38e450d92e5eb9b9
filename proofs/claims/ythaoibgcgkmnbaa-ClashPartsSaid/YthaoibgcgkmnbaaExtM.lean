/- A region that draws its order, of which ONE operation (the number mi) may change memory, whatever it be; all others read and make memory, and their values are known; the last ones come behind all others, one behind the other. J false: what is known of the world ahead of that one; J true: behind it. -/
import Derived.Test.YthaoibgcgkmnbaaExtT
namespace Go.Proofs.Ythaoibgcgkmnbaa
set_option maxRecDepth 100000
open Go Go.RowKit

def mutUpon (P : Program) (F : Value → World → Prop) : Result Next → Prop
  | .ok (.value u) w' => F u w'
  | .ok .skip w' => F undef w'
  | .ok (.enter f args) w' => Calls P f args w' fun e w'' => ∃ u, e = .returned u ∧ F u w''
  | _ => False
theorem mutUpon_value (P : Program) (w' : World) (F : Value → World → Prop) (u : Value) : mutUpon P F (.ok (.value u) w') = F u w' := rfl
theorem mutUpon_enter (P : Program) (w' : World) (F : Value → World → Prop) (f : FuncId) (args : Array Value) : mutUpon P F (.ok (.enter f args) w') = Calls P f args w' fun e w'' => ∃ u, e = .returned u ∧ F u w'' := rfl
def oblMut (P : Program) (ops : Array Oper) (o : Oper) (a : Act) (w : World) (F : Value → World → Prop) : Prop :=
  Region.wanted o (yielded ops a.tmps) = true ∧ mutUpon P F ((execOp a.eval o).run P w)

def wpM (P : Program) (ops : Array Oper) (mi : Nat) (J : Bool → World → Prop) (Q : Act → World → Prop) : List Oper → List Spec → Nat → Act → List (Nat × (World → Prop)) → Prop
  | [], _, _, a, G => ∀ w, J true w → (∀ p ∈ G, p.2 w) → Q a w
  | o :: rest, .det c :: ss, k, a, G => (k ≠ mi ∧ ∀ b w, J b w → (∀ p ∈ G, waits o p.1 = true → p.2 w) → oblAt P ops o a w fun v _ => v = c) ∧ wpM P ops mi J Q rest ss (k + 1) (a.put o.dst c) G
  | o :: rest, .nd F :: ss, k, a, G => k = mi ∧ (∀ v w w', F v w → ExtW w w' → F v w') ∧ (∀ w, J false w → oblMut P ops o a w fun v w' => J true w' ∧ F v w') ∧
      ∀ v, wpM P ops mi J Q rest ss (k + 1) (a.put o.dst v) ((k, F v) :: G)
  | _ :: _, [], _, _, _ => False

section
variable {P : Program} {ops : Array Oper}

theorem oblMut_congr {o : Oper} {a b : Act} {w : World} {F : Value → World → Prop} (hs : ∀ cs b, o.op ≠ .select cs b) (h : ∀ s ∈ o.looksAt ops, a.tmps[s]? = b.tmps[s]?) (hb : oblMut P ops o b w F) : oblMut P ops o a w F := by
  have h1 : execOp a.eval o = execOp b.eval o := by
    refine execOp_congr o hs fun x hx => ?_
    cases x with
    | tmp t =>
      have := h t (List.mem_append_left _ (List.mem_filterMap.2 ⟨.tmp t, by simpa using hx, rfl⟩))
      simp only [Act.eval]
      first
        | rw [this]
        | (simp only [Array.getD_eq_getD_getElem?, this])
    | _ => rfl
  have h2 : Region.wanted o (yielded ops a.tmps) = Region.wanted o (yielded ops b.tmps) := by
    unfold Region.wanted
    cases hg : o.guard with
    | none => rfl
    | some p =>
      obtain ⟨g, want⟩ := p
      simp only
      have : yielded ops a.tmps g = yielded ops b.tmps g := by
        unfold yielded
        cases hgd : (ops[g]?).bind (·.dst) with
        | none => rfl
        | some d =>
          have := h d (List.mem_append_right _ (by simp [hg, hgd]))
          simp only [Option.bind_some, this]
      rw [this]
  unfold oblMut at *
  rw [h1, h2]; exact hb

/-- what the walk has shown of each operation -/
theorem wpM_obl {mi : Nat} {J : Bool → World → Prop} {Q : Act → World → Prop} (vs : Nat → Value) : ∀ (l : List Oper) (ss : List Spec) (k : Nat) (a : Act) (G : List (Nat × (World → Prop))), wpM P ops mi J Q l ss k a G →
    (∀ m c, ss[m]? = some (.det c) → vs (k + m) = c) →
    (∀ (m : Nat) (o : Oper), l[m]? = some o →
      (∃ c, ss[m]? = some (.det c) ∧ k + m ≠ mi ∧ ∀ b w, J b w → (∀ p ∈ G, waits o p.1 = true → p.2 w) → (∀ j F, j < m → ss[j]? = some (.nd F) → waits o (k + j) = true → F (vs (k + j)) w) → oblAt P ops o (Fr l k a vs m) w fun v _ => v = c) ∨
      (∃ F, ss[m]? = some (.nd F) ∧ k + m = mi ∧ (∀ v w w', F v w → ExtW w w' → F v w') ∧ ∀ w, J false w → oblMut P ops o (Fr l k a vs m) w fun v w' => J true w' ∧ F v w')) ∧
    (∀ w, J true w → (∀ p ∈ G, p.2 w) → (∀ j F, j < l.length → ss[j]? = some (.nd F) → F (vs (k + j)) w) → Q (Fr l k a vs l.length) w)
  | [], ss, k, a, G, h, hd => ⟨fun m o hm => by simp at hm, fun w hw hG _ => h w hw hG⟩
  | o :: r, [], k, a, G, h, hd => h.elim
  | o :: r, .det c :: ss, k, a, G, h, hd => by
    obtain ⟨⟨h0, h1⟩, h2⟩ := h
    have hv : vs k = c := by have := hd 0 c (by simp); simpa using this
    have ih := wpM_obl vs r ss (k + 1) (a.put o.dst c) G h2 (fun m c hm => by have := hd (m + 1) c (by simpa using hm); rw [show k + 1 + m = k + (m + 1) by omega]; exact this)
    refine ⟨fun m om hm => ?_, fun w hw hG hj => ?_⟩
    · cases m with
      | zero =>
        simp at hm; subst hm
        exact .inl ⟨c, by simp, h0, fun b w hw hG _ => h1 b w hw hG⟩
      | succ m =>
        rcases ih.1 m om (by simpa using hm) with ⟨c', hs, hne, hob⟩ | ⟨F, hs, hme, hmono, hob⟩
        · refine .inl ⟨c', by simpa using hs, by omega, fun b w hw hG hj => ?_⟩
          have := hob b w hw hG (fun j F hjm hsj hwt => by
            have := hj (j + 1) F (by omega) (by simpa using hsj) (by rw [show k + (j + 1) = k + 1 + j by omega]; exact hwt)
            rw [show k + 1 + j = k + (j + 1) by omega]; exact this)
          simpa [Fr, hv] using this
        · refine .inr ⟨F, by simpa using hs, by omega, hmono, fun w hw => ?_⟩
          have := hob w hw
          simpa [Fr, hv] using this
    · have := ih.2 w hw hG (fun j F hjm hsj => by
        have := hj (j + 1) F (by simpa using hjm) (by simpa using hsj)
        rw [show k + 1 + j = k + (j + 1) by omega]; exact this)
      simpa [Fr, hv] using this
  | o :: r, .nd F0 :: ss, k, a, G, h, hd => by
    obtain ⟨hk, hmono, h1, h2⟩ := h
    have ih := wpM_obl vs r ss (k + 1) (a.put o.dst (vs k)) ((k, F0 (vs k)) :: G) (h2 (vs k)) (fun m c hm => by have := hd (m + 1) c (by simpa using hm); rw [show k + 1 + m = k + (m + 1) by omega]; exact this)
    refine ⟨fun m om hm => ?_, fun w hw hG hj => ?_⟩
    · cases m with
      | zero =>
        simp at hm; subst hm
        exact .inr ⟨F0, by simp, by omega, hmono, fun w hw => h1 w hw⟩
      | succ m =>
        rcases ih.1 m om (by simpa using hm) with ⟨c', hs, hne, hob⟩ | ⟨F, hs, hme, hmono', hob⟩
        · refine .inl ⟨c', by simpa using hs, by omega, fun b w hw hG hj => ?_⟩
          have := hob b w hw (fun p hp hwt => by
            rcases List.mem_cons.1 hp with rfl | hp
            · have := hj 0 F0 (by omega) (by simp) (by simpa using hwt)
              simpa using this
            · exact hG p hp hwt) (fun j F hjm hsj hwt => by
            have := hj (j + 1) F (by omega) (by simpa using hsj) (by rw [show k + (j + 1) = k + 1 + j by omega]; exact hwt)
            rw [show k + 1 + j = k + (j + 1) by omega]; exact this)
          simpa [Fr] using this
        · exfalso; omega
    · have := ih.2 w hw (fun p hp => by
        rcases List.mem_cons.1 hp with rfl | hp
        · have := hj 0 F0 (by simp) (by simp)
          simpa using this
        · exact hG p hp) (fun j F hjm hsj => by
        have := hj (j + 1) F (by simpa using hjm) (by simpa using hsj)
        rw [show k + 1 + j = k + (j + 1) by omega]; exact this)
      simpa [Fr] using this

theorem wpOp_of_oblMut {i : Nat} {o : Oper} {a : Act} {w : World} {F : Value → World → Prop} {K : Act → World → Prop} {Q : Exit → Act → World → Prop} (hi : ops[i]? = some o)
    (hob : oblMut P ops o a w F) (hK : ∀ v w', F v w' → K (a.put o.dst v) w') : wpOp P ops Q i K a w := by
  unfold wpOp
  simp only [hi]
  obtain ⟨hw, hob⟩ := hob
  rw [if_pos hw]
  refine .inl ?_
  unfold Oper.wp
  generalize (execOp a.eval o).run P w = r at *
  cases r with
  | ok n w' =>
    cases n <;> simp only [mutUpon] at hob <;> simp only [Oper.upon]
    case value u => exact hK _ _ hob
    case skip => exact hK _ _ hob
    case enter f args => exact hob.mono fun e w'' ⟨u, he, hF⟩ => by subst he; exact hK _ _ hF
  | halt x w' => simp only [mutUpon] at hob

theorem wpAny_of_walk_mut {mi : Nat} {J : Bool → World → Prop} (hJ : ∀ b w w', J b w → ExtW w w' → J b w') {Q : Exit → Act → World → Prop} {a0 : Act} {ss : List Spec} {n : Nat} (hmi : mi < n) (hE : EdgesOk ops) (hn : n < ops.size) (hsk : Region.sinkB .any ops n = true) (hch : Region.chainB .any ops n = true)
    (hsq : Region.seqB .any ops (ops.size - n) n (firstOnes n ops.size) = true) (h : wpM P ops mi J (fun a w => wpList P ops Q (ops.toList.drop n) a w) (ops.toList.take n) ss 0 a0 []) :
    ∀ (fuel : Nat) (listed : Array Bool) (a : Act) (w : World) (vs : Nat → Value), listed.size = ops.size → ((List.range n).filter fun j => !listed.getD j true).length = fuel → (∀ t, n ≤ t → t < ops.size → listed.getD t true = false) →
      J (listed.getD mi false) w → (∀ m c, ss[m]? = some (.det c) → vs m = c) → (∀ j F, listed.getD j false = true → ss[j]? = some (.nd F) → F (vs j) w) →
      (∀ j o, listed.getD j false = true → ops[j]? = some o → ∀ e ∈ o.after, Region.binds .any e = true → listed.getD e.on false = true) →
      Holds ops a0 (fun j => listed.getD j false = true) vs a → wpAny P .any ops Q (fuel + (ops.size - n)) listed a w := by
  have hlen : (ops.toList.take n).length = n := by rw [List.length_take, Array.length_toList]; omega
  have hget : ∀ j, j < n → (ops.toList.take n)[j]? = ops[j]? := fun j hj => by rw [List.getElem?_take, if_pos hj]; simp
  intro fuel
  induction fuel with
  | zero =>
    intro listed a w vs hsz hcnt htl hw hdet hnd hcl hh
    have hall : ∀ j, j < n → listed.getD j true = true := fun j hj => by
      have h0 : (List.range n).filter (fun j => !listed.getD j true) = [] := List.eq_nil_of_length_eq_zero hcnt
      rw [List.filter_eq_nil_iff] at h0
      simpa using h0 j (List.mem_range.2 hj)
    have hall' : ∀ j, j < n → listed.getD j false = true := fun j hj => by
      have := hall j hj
      have hl : j < listed.size := by omega
      simp [hl] at this ⊢; exact this
    have heqL : listed = firstOnes n ops.size := by
      apply Array.ext_getElem?
      intro j
      have e0 : (firstOnes n ops.size)[j]? = (List.replicate n true ++ List.replicate (ops.size - n) false)[j]? := by unfold firstOnes; simp only [List.getElem?_toArray]
      rw [e0]
      by_cases hj : j < n
      · have := hall j hj
        rw [List.getElem?_append_left (by simpa using hj), List.getElem?_replicate, if_pos hj]
        have hl : j < listed.size := by omega
        simp [hl] at this ⊢; exact this
      · rw [List.getElem?_append_right (by simpa using Nat.le_of_not_lt hj), List.getElem?_replicate, List.length_replicate]
        by_cases hj2 : j < ops.size
        · have := htl j (by omega) hj2
          have hl : j < listed.size := by omega
          rw [if_pos (by omega)]
          simp [hl] at this ⊢; exact this
        · rw [if_neg (by omega)]
          exact Array.getElem?_eq_none (by omega)
    have hob := wpM_obl vs (ops.toList.take n) ss 0 a0 [] h (by simpa using hdet)
    have hfin := hob.2 w (by rw [hall' mi hmi] at hw; exact hw) (by simp) (fun j F hj hs => by simpa using hnd j F (hall' j (by rwa [hlen] at hj)) hs)
    rw [hlen] at hfin
    have hfr := Fr_holds hE (a0 := a0) vs n ops.toList 0 a0 (fun j => by simp) (by rw [Array.length_toList]; omega) ⟨rfl, fun j o d hj => by omega, fun s _ => rfl⟩
    have hFr : ∀ (m : Nat) (l : List Oper) (k : Nat) (a : Act), Fr (l.take m) k a vs m = Fr l k a vs m := by
      intro m
      induction m with
      | zero => intro l k a; cases l <;> rfl
      | succ m ih => intro l k a; cases l with
        | nil => rfl
        | cons o r => rw [List.take_succ_cons]; simp only [Fr]; exact ih r (k + 1) _
    rw [hFr] at hfin
    have heq : a = Fr ops.toList 0 a0 vs n := by
      have ht : a.tmps = (Fr ops.toList 0 a0 vs n).tmps := by
        apply Array.ext_getElem?
        intro s
        by_cases hs : ∃ j o, j < n ∧ ops[j]? = some o ∧ o.dst = some s
        · obtain ⟨j, o, hj, ho, hd⟩ := hs
          rw [hh.done j o s (hall' j hj) ho hd, hfr.done j o s (by simpa using hj) ho hd]
        · rw [hh.rest s fun j o hj ho hd => hs ⟨j, o, ?_, ho, hd⟩, hfr.rest s fun j o hj ho hd => hs ⟨j, o, by simpa using hj, ho, hd⟩]
          rcases Nat.lt_or_ge j n with h' | h'
          · exact h'
          · have hjs := (Array.getElem?_eq_some_iff.1 ho).1
            have := htl j h' hjs
            have hl : j < listed.size := by omega
            simp [hl] at this hj
            rw [this] at hj; cases hj
      have hd2 : a.defers = (Fr ops.toList 0 a0 vs n).defers := hh.defers.trans hfr.defers.symm
      generalize Fr ops.toList 0 a0 vs n = b at *
      cases a; cases b; simp_all
    have hdl : (ops.toList.drop n).length = ops.size - n := by simp
    have := wpAny_of_seq (P := P) (md := .any) (ops := ops) (Q' := Q) (ops.toList.drop n) n listed a w (fun j => by simp [List.getElem?_drop]) (by rw [hdl, heqL]; exact hsq) (by rw [heq]; exact hfin)
    rw [hdl] at this
    rw [Nat.zero_add]; exact this
  | succ fuel ih =>
    intro listed a w vs hsz hcnt htl hw hdet hnd hcl hh
    rw [Nat.add_right_comm]
    have hne : (List.range n).filter (fun j => !listed.getD j true) ≠ [] := fun e => by rw [e] at hcnt; simp at hcnt
    obtain ⟨x, hx⟩ := List.exists_mem_of_ne_nil _ hne
    rw [List.mem_filter, List.mem_range] at hx
    refine ⟨fun hr => ?_, fun i hi => ?_⟩
    · exfalso
      have key : ∀ m, m < n → listed.getD m true = false → False := by
        intro m
        induction m using Nat.strongRecOn with
        | _ m ihn =>
          intro hm h0
          have hms : m < ops.size := by omega
          have ho : ops[m]? = some ops[m] := Array.getElem?_eq_getElem hms
          have hmem : m ∈ Region.ready .any ops listed := by
            rw [mem_ready]
            refine ⟨h0, ops[m], ho, fun e he hbe => ?_⟩
            have hlt := hE.back m _ ho e he hbe
            cases hb : listed.getD e.on true with
            | true =>
              have hl : e.on < listed.size := by omega
              simp [hl] at hb ⊢; exact hb
            | false => exact (ihn e.on hlt (by omega) hb).elim
          rw [hr] at hmem; cases hmem
      exact key x hx.1 (by simpa using hx.2)
    · have hilt : i < n := by
        rcases Nat.lt_or_ge i n with h' | h'
        · exact h'
        · exact absurd hi (tail_waits hsk hch hn ⟨hsz, fun j oj hoj hj => hcl j oj hj hoj, htl⟩ (n - x) x rfl hx.1 (by simpa using hx.2) i h')
      obtain ⟨h0, o, ho, hall⟩ := mem_ready.1 hi
      have hlt : i < ops.size := (Array.getElem?_eq_some_iff.1 ho).1
      have hil : i < listed.size := by omega
      have hSi : ¬ listed.getD i false = true := by
        simp [hil] at h0 ⊢; exact h0
      have hol : (ops.toList.take n)[i]? = some o := by rw [hget i hilt]; exact ho
      have hob := wpM_obl vs (ops.toList.take n) ss 0 a0 [] h (by simpa using hdet)
      have hwl : ∀ j, waits o j = true → listed.getD j false = true := fun j hwj => by
        unfold waits at hwj
        rw [Array.any_eq_true] at hwj
        obtain ⟨m, hm, he⟩ := hwj
        simp only [Bool.and_eq_true, beq_iff_eq] at he
        have := hall _ (Array.getElem_mem hm) he.2
        rw [he.1] at this; exact this
      have hFr : ∀ (m : Nat) (l : List Oper) (k c : Nat) (a : Act), m ≤ c → Fr (l.take c) k a vs m = Fr l k a vs m := by
        intro m
        induction m with
        | zero => intro l k c a _; cases l <;> cases c <;> rfl
        | succ m ih => intro l k c a hc; cases l with
          | nil => rw [List.take_nil]
          | cons o r =>
            obtain ⟨c', rfl⟩ : ∃ c', c = c' + 1 := ⟨c - 1, by omega⟩
            rw [List.take_succ_cons]; simp only [Fr]; exact ih r (k + 1) c' _ (by omega)
      have hfr := Fr_holds hE (a0 := a0) vs i ops.toList 0 a0 (fun j => by simp) (by simp; omega) ⟨rfl, fun j o d hj => by omega, fun s _ => rfl⟩
      have hlook : ∀ d ∈ o.looksAt ops, a.tmps[d]? = (Fr ops.toList 0 a0 vs i).tmps[d]? := fun d hd => by
        by_cases hex : ∃ (j : Nat) (oj : Oper), ops[j]? = some oj ∧ oj.dst = some d
        · obtain ⟨j, oj, hoj, hdj⟩ := hex
          have only : ∀ (k : Nat) (ok : Oper), ops[k]? = some ok → ok.dst = some d → k = j := fun k ok hk hkd => by
            by_cases hkj : k = j
            · exact hkj
            · exact absurd hkd (hE.apart k ok j oj d hk hoj hkj hdj).1
          by_cases hji : j = i
          · subst hji
            rw [hh.rest d fun k ok hk hok hkd => hSi (by rw [← only k ok hok hkd]; exact hk), hfr.rest d fun k ok hk hok hkd => by have := only k ok hok hkd; omega]
          · have hw2 := (hE.apart i o j oj d ho hoj (Ne.symm hji) hdj).2 hd
            by_cases hlt2 : j < i
            · rw [if_pos hlt2] at hw2
              rw [hh.done j oj d (hwl j hw2) hoj hdj, hfr.done j oj d (by simpa using hlt2) hoj hdj]
            · rw [if_neg hlt2] at hw2
              have hnj : ¬ listed.getD j false = true := fun hj => by
                unfold waits at hw2
                rw [Array.any_eq_true] at hw2
                obtain ⟨m, hm, he⟩ := hw2
                simp only [Bool.and_eq_true, beq_iff_eq] at he
                have := hcl j oj hj hoj _ (Array.getElem_mem hm) he.2
                rw [he.1] at this; exact hSi this
              rw [hh.rest d fun k ok hk hok hkd => hnj (by rw [← only k ok hok hkd]; exact hk), hfr.rest d fun k ok hk hok hkd => by have := only k ok hok hkd; omega]
        · rw [hh.rest d fun k ok _ hok hkd => hex ⟨k, ok, hok, hkd⟩, hfr.rest d fun k ok _ hok hkd => hex ⟨k, ok, hok, hkd⟩]
      have hself : (listed.setIfInBounds i true).getD i false = true := by simp [hil]
      have hset : ∀ j, (listed.setIfInBounds i true).getD j false = true ↔ listed.getD j false = true ∨ j = i := fun j => by
        by_cases hji : j = i
        · subst hji; simp [hself]
        · rw [getD_set_ne false (Ne.symm hji)]; simp [hji]
      have hcnt' : ((List.range n).filter fun j => !(listed.setIfInBounds i true).getD j true).length = fuel := by
        have := filter_set' n i listed hilt (by omega) h0
        omega
      have htl' : ∀ t, n ≤ t → t < ops.size → (listed.setIfInBounds i true).getD t true = false := fun t ht hts => by
        rw [getD_set_ne true (by omega)]
        exact htl t ht hts
      have hcl' : ∀ j o, (listed.setIfInBounds i true).getD j false = true → ops[j]? = some o → ∀ e ∈ o.after, Region.binds .any e = true → (listed.setIfInBounds i true).getD e.on false = true := by
        intro j oj hj hoj e he hb
        rw [hset]
        left
        rcases (hset j).1 hj with hj | rfl
        · exact hcl j oj hj hoj e he hb
        · rw [ho] at hoj; cases hoj
          exact hall e he hb
      rcases hob.1 i o hol with ⟨c, hs, hne, hobl⟩ | ⟨F, hs, hme, hmono, hobl⟩
      · have h1 := hobl _ w hw (by simp) (fun j F hj hsj hwj => by
          have := hnd j F (hwl j (by simpa using hwj)) hsj
          simpa using this)
        rw [hFr i _ _ n _ (Nat.le_of_lt hilt)] at h1
        have h2 := oblAt_congr (hE.nosel i o ho) hlook h1
        refine wpOp_of_obl ho h2 fun v w' hx hF => ?_
        have hmik : (listed.setIfInBounds i true).getD mi false = listed.getD mi false := getD_set_ne false (by omega)
        refine ih (listed.setIfInBounds i true) (a.put o.dst v) w' (fun j => if j = i then v else vs j) (by simpa using hsz) hcnt' htl' (by rw [hmik]; exact hJ _ _ _ hw hx) ?_ ?_ hcl' ?_
        · intro m c' hm
          by_cases hmi' : m = i
          · subst hmi'
            rw [hm] at hs; cases hs
            simp only [if_true]; exact hF
          · simp only [hmi', if_false]; exact hdet m c' hm
        · intro j F' hj hsj
          by_cases hji : j = i
          · subst hji
            rw [hsj] at hs; cases hs
          · simp only [hji, if_false]
            have hjl : listed.getD j false = true := ((hset j).1 hj).resolve_right hji
            have hjn : j < n := by
              rcases Nat.lt_or_ge j n with h' | h'
              · exact h'
              · exfalso
                rcases Nat.lt_or_ge j ops.size with h'' | h''
                · have := htl j h' h''
                  have hl : j < listed.size := by omega
                  simp [hl] at this hjl
                  rw [this] at hjl; cases hjl
                · simp [Array.getElem?_eq_none (show listed.size ≤ j by omega)] at hjl
            rcases hob.1 j ops[j] (by rw [hget j hjn]; exact Array.getElem?_eq_getElem (by omega)) with ⟨c2, hs2, _⟩ | ⟨F2, hs2, _, hm2, _⟩
            · rw [hsj] at hs2; cases hs2
            · rw [hsj] at hs2; cases hs2
              exact hm2 _ _ _ (hnd j F' hjl hsj) hx
        · exact hh.put hE ho hSi hset (by simp) (fun j hj => by simp [hj])
      · rw [Nat.zero_add] at hme
        subst hme
        have hf : listed.getD i false = false := by
          cases hb : listed.getD i false with
          | false => rfl
          | true => exact absurd hb hSi
        rw [hf] at hw
        have h1 := hobl w hw
        rw [hFr i _ _ n _ (Nat.le_of_lt hilt)] at h1
        have h2 := oblMut_congr (hE.nosel i o ho) hlook h1
        refine wpOp_of_oblMut ho h2 fun v w' hF => ?_
        refine ih (listed.setIfInBounds i true) (a.put o.dst v) w' (fun j => if j = i then v else vs j) (by simpa using hsz) hcnt' htl' (by rw [hself]; exact hF.1) ?_ ?_ hcl' ?_
        · intro m c' hm
          by_cases hmi' : m = i
          · subst hmi'
            rw [hm] at hs; cases hs
          · simp only [hmi', if_false]; exact hdet m c' hm
        · intro j F' hj hsj
          by_cases hji : j = i
          · subst hji
            rw [hsj] at hs; cases hs
            simp only [if_true]; exact hF.2
          · exfalso
            have hjl : listed.getD j false = true := ((hset j).1 hj).resolve_right hji
            have hjn : j < n := by
              rcases Nat.lt_or_ge j n with h' | h'
              · exact h'
              · exfalso
                rcases Nat.lt_or_ge j ops.size with h'' | h''
                · have := htl j h' h''
                  have hl : j < listed.size := by omega
                  simp [hl] at this hjl
                  rw [this] at hjl; cases hjl
                · simp [Array.getElem?_eq_none (show listed.size ≤ j by omega)] at hjl
            rcases hob.1 j ops[j] (by rw [hget j hjn]; exact Array.getElem?_eq_getElem (by omega)) with ⟨c2, hs2, _⟩ | ⟨F2, hs2, hj2, _⟩
            · rw [hsj] at hs2; cases hs2
            · omega
        · exact hh.put hE ho hSi hset (by simp) (fun j hj => by simp [hj])

/-- the law -/
theorem wp_region_mut {id : Nat} {Q : Exit → Act → World → Prop} {a : Act} {w : World} {l : List Oper} (n mi : Nat) (J : Bool → World → Prop) (ss : List Spec) (hm : P.follows .mixedOrders = true) (hB : extTailB l.toArray n = true) (hmi : mi < n)
    (hJ : ∀ b w w', J b w → ExtW w w' → J b w') (h0 : J false w.drew)
    (h : wpM P l.toArray mi J (fun a w => wpList P l.toArray Q (l.drop n) a w) (l.take n) ss 0 a []) : (Code.region id l.toArray true).wp P Q a w := by
  simp only [extTailB, Bool.and_eq_true, decide_eq_true_eq] at hB
  obtain ⟨⟨⟨⟨hE, hn⟩, hsk⟩, hch⟩, hsq⟩ := hB
  refine wp_region_any hm ?_
  have hrep : ∀ j b, j < l.length → (Array.replicate l.toArray.size false).getD j b = false := fun j b hj => by simp [hj]
  have hrep0 : ∀ j, (Array.replicate l.toArray.size false).getD j false = true → False := fun j hj => by
    rcases Nat.lt_or_ge j l.length with h' | h'
    · rw [hrep j false h'] at hj; cases hj
    · simp [Nat.not_lt.2 h'] at hj
  have hmf : (Array.replicate l.toArray.size false).getD mi false = false := by
    cases hb : (Array.replicate l.toArray.size false).getD mi false with
    | false => rfl
    | true => exact (hrep0 mi hb).elim
  have := wpAny_of_walk_mut (P := P) (ops := l.toArray) (mi := mi) (J := J) hJ (Q := Q) (a0 := a) (ss := ss) (n := n) hmi (edges_of hE) hn hsk hch hsq (by simpa using h) n (Array.replicate l.toArray.size false) a w.drew
    (fun m => match ss[m]? with | some (.det c) => c | _ => undef) (by simp) (by
      have : (List.range n).filter (fun j => !(Array.replicate l.toArray.size false).getD j true) = List.range n := by
        rw [List.filter_eq_self]
        intro j hj
        have hj := List.mem_range.1 hj
        simp at hn
        rw [hrep j true (by omega)]; rfl
      rw [this, List.length_range]) (fun t _ ht => hrep t true (by simpa using ht)) (by rw [hmf]; exact h0) (fun m c hm => by simp [hm]) (fun j F hj => (hrep0 j hj).elim) (fun j o hj => (hrep0 j hj).elim)
      ⟨rfl, fun j o d hj => (hrep0 j hj).elim, fun s _ => rfl⟩
  rw [show n + (l.toArray.size - n) = l.toArray.size by omega] at this
  exact this

theorem wpM_det {mi : Nat} {J : Bool → World → Prop} {Q : Act → World → Prop} {o : Oper} {rest : List Oper} {ss : List Spec} {k : Nat} {a : Act} {G : List (Nat × (World → Prop))} {c : Value} (h0 : k ≠ mi)
    (h1 : ∀ b w, J b w → (∀ p ∈ G, waits o p.1 = true → p.2 w) → oblAt P ops o a w fun v _ => v = c) (h2 : ∀ a', a.put o.dst c = a' → wpM P ops mi J Q rest ss (k + 1) a' G) : wpM P ops mi J Q (o :: rest) (.det c :: ss) k a G := ⟨⟨h0, h1⟩, h2 _ rfl⟩
theorem wpM_nd {mi : Nat} {J : Bool → World → Prop} {Q : Act → World → Prop} {o : Oper} {rest : List Oper} {ss : List Spec} {k : Nat} {a : Act} {G : List (Nat × (World → Prop))} (F : Value → World → Prop) (h0 : k = mi)
    (hm : ∀ v w w', F v w → ExtW w w' → F v w') (h1 : ∀ w, J false w → oblMut P ops o a w fun v w' => J true w' ∧ F v w') (h2 : ∀ v a', a.put o.dst v = a' → wpM P ops mi J Q rest ss (k + 1) a' ((k, F v) :: G)) :
    wpM P ops mi J Q (o :: rest) (.nd F :: ss) k a G := ⟨h0, hm, h1, fun v => h2 v _ rfl⟩
theorem wpM_nil {mi : Nat} {J : Bool → World → Prop} {Q : Act → World → Prop} {k : Nat} {a : Act} {G : List (Nat × (World → Prop))} (h : ∀ w, J true w → (∀ p ∈ G, p.2 w) → Q a w) : wpM P ops mi J Q [] [] k a G := h
theorem oblMut_on {o : Oper} {a : Act} {w : World} {F : Value → World → Prop} (hw : Region.wanted o (yielded ops a.tmps) = true) (h : mutUpon P F ((execOp a.eval o).run P w)) : oblMut P ops o a w F := ⟨hw, h⟩
end
end Go.Proofs.Ythaoibgcgkmnbaa
