/- A region that draws its order, whose operations read and make memory but turn none that was there: one walk in the order of the text serves every order. An operation's value may be known (det) or only described (nd). No program in sight. -/
import Derived.Orders
import Derived.Below
namespace Go.Proofs.Ythaoibgcgkmnbaa
set_option maxRecDepth 100000
open Go Go.RowKit

def ExtW (w w' : World) : Prop := Below w.heap.size w w'
theorem ExtW.refl (w : World) : ExtW w w := Below.refl _ _
theorem ExtW.trans {a b c : World} (h : ExtW a b) (k : ExtW b c) : ExtW a c := Below.trans h (Below.mono k h.size)

theorem ExtW.of_drew {w w' : World} (h : ExtW w.drew w') : ExtW w w' := Below.trans (Below.refl _ _).drew h
theorem ExtW.cellAt {w w' : World} {p : Addr} {v : Value} (h : ExtW w w') (hc : w.cell? p = some v) : w'.cell? p = some v := by
  have hl : p.block < w.heap.size := World.block_lt_of_cell? w _ hc
  rw [Below.cell h hl]; exact hc

inductive Spec where
  | det (c : Value)
  | nd (F : Value → World → Prop)

def Spec.ok : Spec → Value → World → Prop
  | .det c, v, _ => v = c
  | .nd F, v, w => F v w

/-- what is asked once an operation has been carried out in w -/
def extUpon (P : Program) (w : World) (F : Value → World → Prop) : Result Next → Prop
  | .ok (.value u) w' => ExtW w w' ∧ F u w'
  | .ok .skip w' => ExtW w w' ∧ F undef w'
  | .ok (.enter f args) w' => Calls P f args w' fun e w'' => ∃ u, e = .returned u ∧ ExtW w w'' ∧ F u w''
  | _ => False
theorem extUpon_value (P : Program) (w w' : World) (F : Value → World → Prop) (u : Value) : extUpon P w F (.ok (.value u) w') = (ExtW w w' ∧ F u w') := rfl
theorem extUpon_skip (P : Program) (w w' : World) (F : Value → World → Prop) : extUpon P w F (.ok .skip w') = (ExtW w w' ∧ F undef w') := rfl
theorem extUpon_enter (P : Program) (w w' : World) (F : Value → World → Prop) (f : FuncId) (args : Array Value) : extUpon P w F (.ok (.enter f args) w') = Calls P f args w' fun e w'' => ∃ u, e = .returned u ∧ ExtW w w'' ∧ F u w'' := rfl

/-- the operation o, at the frame a, in the world w -/
def oblAt (P : Program) (ops : Array Oper) (o : Oper) (a : Act) (w : World) (F : Value → World → Prop) : Prop :=
  if Region.wanted o (yielded ops a.tmps) then extUpon P w F ((execOp a.eval o).run P w) else F undef w

def waits (o : Oper) (j : Nat) : Bool := o.after.any fun e => e.on == j && Region.binds .any e

def wpZ (P : Program) (ops : Array Oper) (w0 : World) (Q : Act → World → Prop) : List Oper → List Spec → Nat → Act → List (Nat × (World → Prop)) → Prop
  | [], _, _, a, G => ∀ w, ExtW w0 w → (∀ p ∈ G, p.2 w) → Q a w
  | o :: rest, .det c :: ss, k, a, G => (∀ w, ExtW w0 w → (∀ p ∈ G, waits o p.1 = true → p.2 w) → oblAt P ops o a w fun v _ => v = c) ∧ wpZ P ops w0 Q rest ss (k + 1) (a.put o.dst c) G
  | o :: rest, .nd F :: ss, k, a, G => (∀ v w w', F v w → ExtW w w' → F v w') ∧ (∀ w, ExtW w0 w → (∀ p ∈ G, waits o p.1 = true → p.2 w) → oblAt P ops o a w F) ∧
      ∀ v, wpZ P ops w0 Q rest ss (k + 1) (a.put o.dst v) ((k, F v) :: G)
  | _ :: _, [], _, _, _ => False

/-- the checks on the region's edges -/
def extB (ops : Array Oper) : Bool :=
  (ops.all fun o => match o.op with | .select .. => false | _ => true) &&
  (List.range ops.size).all fun i => (ops[i]?.map fun oi =>
    (oi.after.all fun e => !Region.binds .any e || decide (e.on < i)) &&
    (List.range ops.size).all fun j => (ops[j]?.map fun oj => i == j || (match oj.dst with
      | none => true
      | some d => oi.dst != some d && (!(oi.looksAt ops).contains d || (if j < i then waits oi j else waits oj i)))).getD true).getD true

section
variable {P : Program} {ops : Array Oper}

structure EdgesOk (ops : Array Oper) : Prop where
  nosel : ∀ (i : Nat) (o : Oper), ops[i]? = some o → ∀ cs b, o.op ≠ .select cs b
  back : ∀ (i : Nat) (o : Oper), ops[i]? = some o → ∀ e ∈ o.after, Region.binds .any e = true → e.on < i
  apart : ∀ (i : Nat) (oi : Oper) (j : Nat) (oj : Oper) (d : Nat), ops[i]? = some oi → ops[j]? = some oj → i ≠ j → oj.dst = some d → oi.dst ≠ some d ∧ (d ∈ oi.looksAt ops → if j < i then waits oi j = true else waits oj i = true)

theorem edges_of (h : extB ops = true) : EdgesOk ops := by
  simp only [extB, Bool.and_eq_true, List.all_eq_true, List.mem_range] at h
  obtain ⟨h1, h2⟩ := h
  refine ⟨fun i o ho cs b hop => ?_, fun i o ho e he hbe => ?_, fun i oi j oj d hi hj hne hd => ?_⟩
  · rw [Array.all_eq_true_iff_forall_mem] at h1
    have := h1 o (Array.mem_of_getElem? ho)
    rw [hop] at this; simp at this
  · have hlt : i < ops.size := (Array.getElem?_eq_some_iff.1 ho).1
    have := h2 i hlt
    rw [ho] at this
    simp only [Option.map_some, Option.getD_some, Bool.and_eq_true] at this
    have h3 := this.1
    rw [Array.all_eq_true_iff_forall_mem] at h3
    have h4 := h3 e he
    rw [hbe] at h4
    simpa using h4
  · have hlt : i < ops.size := (Array.getElem?_eq_some_iff.1 hi).1
    have hlj : j < ops.size := (Array.getElem?_eq_some_iff.1 hj).1
    have := h2 i hlt
    rw [hi] at this
    simp only [Option.map_some, Option.getD_some, Bool.and_eq_true, List.all_eq_true, List.mem_range] at this
    have h3 := this.2 j hlj
    rw [hj] at h3
    simp only [Option.map_some, Option.getD_some, hd, Bool.or_eq_true, beq_iff_eq, Bool.and_eq_true, bne_iff_ne, Bool.not_eq_true'] at h3
    rcases h3 with h3 | ⟨h3, h4⟩
    · exact absurd h3 hne
    · refine ⟨h3, fun hm => ?_⟩
      rcases h4 with h4 | h4
      · have : (oi.looksAt ops).contains d = true := by simpa using hm
        rw [h4] at this; cases this
      · by_cases hji : j < i
        · rw [if_pos hji] at h4 ⊢; exact h4
        · rw [if_neg hji] at h4 ⊢; exact h4

/-- the frame a holds what the operations of S have yielded, and else what a0 holds -/
structure Holds (ops : Array Oper) (a0 : Act) (S : Nat → Prop) (vs : Nat → Value) (a : Act) : Prop where
  defers : a.defers = a0.defers
  done : ∀ j o d, S j → ops[j]? = some o → o.dst = some d → a.tmps[d]? = (a0.tmps[d]?).map fun _ => vs j
  rest : ∀ s, (∀ j o, S j → ops[j]? = some o → o.dst ≠ some s) → a.tmps[s]? = a0.tmps[s]?

theorem put_get (a : Act) (dst : Option Tmp) (v : Value) (s : Nat) : (a.put dst v).tmps[s]? = if dst = some s then (a.tmps[s]?).map fun _ => v else a.tmps[s]? := by
  cases dst with
  | none => simp [Act.put]
  | some d =>
    simp only [Act.put, Option.some.injEq]
    by_cases h : d = s
    · subst h
      rw [if_pos rfl, Array.getElem?_setIfInBounds]
      by_cases hl : d < a.tmps.size
      · simp [hl]
      · simp [hl]
    · rw [if_neg h, Array.getElem?_setIfInBounds_ne h]
theorem put_def (a : Act) (dst : Option Tmp) (v : Value) : (a.put dst v).defers = a.defers := by cases dst <;> rfl

theorem Holds.put {a0 a : Act} {S : Nat → Prop} {vs : Nat → Value} (hE : EdgesOk ops) (h : Holds ops a0 S vs a) {i : Nat} {o : Oper} (hi : ops[i]? = some o) (hS : ¬ S i) {v : Value}
    {S' : Nat → Prop} (hS' : ∀ j, S' j ↔ S j ∨ j = i) {vs' : Nat → Value} (hv : vs' i = v) (hvs : ∀ j, j ≠ i → vs' j = vs j) : Holds ops a0 S' vs' (a.put o.dst v) := by
  refine ⟨by rw [put_def]; exact h.defers, fun j oj d hj hoj hd => ?_, fun s hs => ?_⟩
  · rw [put_get]
    rcases (hS' j).1 hj with hj | rfl
    · have hne : j ≠ i := fun e => hS (e ▸ hj)
      rw [if_neg (hE.apart i o j oj d hi hoj (Ne.symm hne) hd).1, h.done j oj d hj hoj hd, hvs j hne]
    · rw [hi] at hoj; cases hoj
      rw [if_pos hd, hv]
      have : (a.tmps[d]?) = a0.tmps[d]? := h.rest d fun k ok hk hok hkd => by
        have hne : k ≠ j := fun e => hS (e ▸ hk)
        exact (hE.apart k ok j o d hok hi hne hd).1 hkd
      rw [this]
  · rw [put_get, if_neg (hs i o ((hS' i).2 (.inr rfl)) hi)]
    exact h.rest s fun j oj hj hoj => hs j oj ((hS' j).2 (.inl hj)) hoj

/-- where two frames hold the same at what an operation looks at, it is one operation -/
theorem oblAt_congr {o : Oper} {a b : Act} {w : World} {F : Value → World → Prop} (hs : ∀ cs b, o.op ≠ .select cs b) (h : ∀ s ∈ o.looksAt ops, a.tmps[s]? = b.tmps[s]?) (hb : oblAt P ops o b w F) : oblAt P ops o a w F := by
  have h1 : execOp a.eval o = execOp b.eval o := by
    refine execOp_congr o hs fun x hx => ?_
    cases x with
    | tmp t =>
      have := h t (List.mem_append_left _ (List.mem_filterMap.2 ⟨.tmp t, by simpa using hx, rfl⟩))
      simp only [Act.eval]
      first
        | rw [this]
        | (simp only [Array.getD_eq_getD_getElem?, this])
    | _ => rfl
  have h2 : Region.wanted o (yielded ops a.tmps) = Region.wanted o (yielded ops b.tmps) := by
    unfold Region.wanted
    cases hg : o.guard with
    | none => rfl
    | some p =>
      obtain ⟨g, want⟩ := p
      simp only
      have : yielded ops a.tmps g = yielded ops b.tmps g := by
        unfold yielded
        cases hgd : (ops[g]?).bind (·.dst) with
        | none => rfl
        | some d =>
          have := h d (List.mem_append_right _ (by simp [hg, hgd]))
          simp only [Option.bind_some, this]
      rw [this]
  unfold oblAt at *
  rw [h1, h2]; exact hb

/-- the frames of the walk in the order of the text -/
def Fr : List Oper → Nat → Act → (Nat → Value) → Nat → Act
  | _, _, a, _, 0 => a
  | [], _, a, _, _ + 1 => a
  | o :: r, k, a, vs, m + 1 => Fr r (k + 1) (a.put o.dst (vs k)) vs m

theorem Fr_holds (hE : EdgesOk ops) {a0 : Act} (vs : Nat → Value) : ∀ (m : Nat) (l : List Oper) (k : Nat) (a : Act), (∀ j, l[j]? = ops[k + j]?) → m ≤ l.length → Holds ops a0 (· < k) vs a → Holds ops a0 (· < k + m) vs (Fr l k a vs m)
  | 0, l, k, a, _, _, h => by cases l <;> exact h
  | m + 1, [], k, a, _, hm, h => by simp at hm
  | m + 1, o :: r, k, a, hl, hm, h => by
    have ho : ops[k]? = some o := by have := hl 0; simpa using this.symm
    have := Fr_holds hE vs m r (k + 1) (a.put o.dst (vs k)) (fun j => by have := hl (j + 1); simpa [Nat.add_assoc, Nat.add_comm 1 j] using this) (by simpa using hm)
      (h.put hE ho (by omega) (fun j => by constructor <;> intro hh <;> omega) rfl (fun _ _ => rfl))
    rw [show k + (m + 1) = k + 1 + m by omega]; exact this

/-- what the walk has shown of each operation -/
theorem wpZ_obl {w0 : World} {Q : Act → World → Prop} (vs : Nat → Value) : ∀ (l : List Oper) (ss : List Spec) (k : Nat) (a : Act) (G : List (Nat × (World → Prop))), wpZ P ops w0 Q l ss k a G →
    (∀ m c, ss[m]? = some (.det c) → vs (k + m) = c) →
    (∀ (m : Nat) (o : Oper), l[m]? = some o → ∃ s, ss[m]? = some s ∧ ∀ w, ExtW w0 w →
      (∀ p ∈ G, waits o p.1 = true → p.2 w) → (∀ j F, j < m → ss[j]? = some (.nd F) → waits o (k + j) = true → F (vs (k + j)) w) → oblAt P ops o (Fr l k a vs m) w s.ok) ∧
    (∀ w, ExtW w0 w → (∀ p ∈ G, p.2 w) → (∀ j F, j < l.length → ss[j]? = some (.nd F) → F (vs (k + j)) w) → Q (Fr l k a vs l.length) w) ∧
    (∀ m F, m < l.length → ss[m]? = some (.nd F) → ∀ v w w', F v w → ExtW w w' → F v w')
  | [], ss, k, a, G, h, hd => ⟨fun m o hm => by simp at hm, fun w hw hG _ => h w hw hG, fun m F hm => by simp at hm⟩
  | o :: r, [], k, a, G, h, hd => h.elim
  | o :: r, .det c :: ss, k, a, G, h, hd => by
    obtain ⟨h1, h2⟩ := h
    have hv : vs k = c := by have := hd 0 c (by simp); simpa using this
    have ih := wpZ_obl vs r ss (k + 1) (a.put o.dst c) G h2 (fun m c hm => by have := hd (m + 1) c (by simpa using hm); rw [show k + 1 + m = k + (m + 1) by omega]; exact this)
    refine ⟨fun m om hm => ?_, fun w hw hG hj => ?_, fun m F hm hs => ?_⟩
    · cases m with
      | zero =>
        simp at hm; subst hm
        exact ⟨.det c, by simp, fun w hw hG _ => h1 w hw hG⟩
      | succ m =>
        obtain ⟨s, hs, hob⟩ := ih.1 m om (by simpa using hm)
        refine ⟨s, by simpa using hs, fun w hw hG hj => ?_⟩
        have := hob w hw hG (fun j F hjm hsj hwt => by
          have := hj (j + 1) F (by omega) (by simpa using hsj) (by rw [show k + (j + 1) = k + 1 + j by omega]; exact hwt)
          rw [show k + 1 + j = k + (j + 1) by omega]; exact this)
        simpa [Fr, hv] using this
    · have := ih.2.1 w hw hG (fun j F hjm hsj => by
        have := hj (j + 1) F (by simpa using hjm) (by simpa using hsj)
        rw [show k + 1 + j = k + (j + 1) by omega]; exact this)
      simpa [Fr, hv] using this
    · cases m with
      | zero => simp at hs
      | succ m => exact ih.2.2 m F (by simpa using hm) (by simpa using hs)
  | o :: r, .nd F0 :: ss, k, a, G, h, hd => by
    obtain ⟨hmono, h1, h2⟩ := h
    have ih := wpZ_obl vs r ss (k + 1) (a.put o.dst (vs k)) ((k, F0 (vs k)) :: G) (h2 (vs k)) (fun m c hm => by have := hd (m + 1) c (by simpa using hm); rw [show k + 1 + m = k + (m + 1) by omega]; exact this)
    refine ⟨fun m om hm => ?_, fun w hw hG hj => ?_, fun m F hm hs => ?_⟩
    · cases m with
      | zero =>
        simp at hm; subst hm
        exact ⟨.nd F0, by simp, fun w hw hG _ => h1 w hw hG⟩
      | succ m =>
        obtain ⟨s, hs, hob⟩ := ih.1 m om (by simpa using hm)
        refine ⟨s, by simpa using hs, fun w hw hG hj => ?_⟩
        have := hob w hw (fun p hp hwt => by
          rcases List.mem_cons.1 hp with rfl | hp
          · have := hj 0 F0 (by omega) (by simp) (by simpa using hwt)
            simpa using this
          · exact hG p hp hwt) (fun j F hjm hsj hwt => by
          have := hj (j + 1) F (by omega) (by simpa using hsj) (by rw [show k + (j + 1) = k + 1 + j by omega]; exact hwt)
          rw [show k + 1 + j = k + (j + 1) by omega]; exact this)
        simpa [Fr] using this
    · have := ih.2.1 w hw (fun p hp => by
        rcases List.mem_cons.1 hp with rfl | hp
        · have := hj 0 F0 (by simp) (by simp)
          simpa using this
        · exact hG p hp) (fun j F hjm hsj => by
        have := hj (j + 1) F (by simpa using hjm) (by simpa using hsj)
        rw [show k + 1 + j = k + (j + 1) by omega]; exact this)
      simpa [Fr] using this
    · cases m with
      | zero => simp at hs; subst hs; exact hmono
      | succ m => exact ih.2.2 m F (by simpa using hm) (by simpa using hs)

theorem wpOp_of_obl {i : Nat} {o : Oper} {a : Act} {w : World} {F : Value → World → Prop} {K : Act → World → Prop} {Q : Exit → Act → World → Prop} (hi : ops[i]? = some o)
    (hob : oblAt P ops o a w F) (hK : ∀ v w', ExtW w w' → F v w' → K (a.put o.dst v) w') : wpOp P ops Q i K a w := by
  unfold wpOp
  simp only [hi]
  unfold oblAt at hob
  split
  · rename_i hw
    simp only [hw, if_true] at hob
    refine .inl ?_
    unfold Oper.wp
    generalize (execOp a.eval o).run P w = r at *
    cases r with
    | ok n w' =>
      cases n <;> simp only [extUpon] at hob <;> simp only [Oper.upon]
      case value u => exact hK _ _ hob.1 hob.2
      case skip => exact hK _ _ hob.1 hob.2
      case enter f args => exact hob.mono fun e w'' ⟨u, he, hx, hF⟩ => by subst he; exact hK _ _ hx hF
    | halt x w' => simp only [extUpon] at hob
  · rename_i hw
    simp only [hw] at hob
    exact hK _ _ (ExtW.refl _) hob

theorem filter_set (n i : Nat) (listed : Array Bool) (hi : i < n) (hl : listed.size = n) (h0 : listed.getD i true = false) :
    ((List.range n).filter fun j => !(listed.setIfInBounds i true).getD j true).length + 1 = ((List.range n).filter fun j => !listed.getD j true).length := by
  rw [← List.countP_eq_length_filter, ← List.countP_eq_length_filter]
  have key : ∀ l : List Nat, l.Nodup → i ∈ l → l.countP (fun j => !(listed.setIfInBounds i true).getD j true) + 1 = l.countP (fun j => !listed.getD j true) := by
    intro l
    induction l with
    | nil => intro _ h; cases h
    | cons x l ih =>
      intro hn hm
      rw [List.nodup_cons] at hn
      rw [List.countP_cons, List.countP_cons]
      by_cases hx : x = i
      · subst hx
        have e1 : (listed.setIfInBounds x true).getD x true = true := by
          have : x < listed.size := by omega
          simp [this]
        rw [e1, h0]
        have : l.countP (fun j => !(listed.setIfInBounds x true).getD j true) = l.countP (fun j => !listed.getD j true) := by
          refine List.countP_congr fun j hj => ?_
          have : x ≠ j := fun e => hn.1 (e ▸ hj)
          rw [getD_set_ne true this]
        rw [this]; simp
      · have := ih hn.2 ((List.mem_cons.1 hm).resolve_left (Ne.symm hx))
        rw [getD_set_ne true (Ne.symm hx)]
        omega
  exact key _ List.nodup_range (List.mem_range.2 hi)

theorem wpAny_of_walk {w0 : World} {Q : Exit → Act → World → Prop} {a0 : Act} {ss : List Spec} (hE : EdgesOk ops) (h : wpZ P ops w0 (fun a w => Q .normal a w) ops.toList ss 0 a0 []) :
    ∀ (fuel : Nat) (listed : Array Bool) (a : Act) (w : World) (vs : Nat → Value), listed.size = ops.size → ((List.range ops.size).filter fun j => !listed.getD j true).length = fuel →
      ExtW w0 w → (∀ m c, ss[m]? = some (.det c) → vs m = c) → (∀ j F, listed.getD j false = true → ss[j]? = some (.nd F) → F (vs j) w) →
      (∀ j o, listed.getD j false = true → ops[j]? = some o → ∀ e ∈ o.after, Region.binds .any e = true → listed.getD e.on false = true) →
      Holds ops a0 (fun j => listed.getD j false = true) vs a → wpAny P .any ops Q fuel listed a w := by
  intro fuel
  induction fuel with
  | zero =>
    intro listed a w vs hsz hcnt hw hdet hnd hcl hh
    have hall : ∀ j, j < ops.size → listed.getD j true = true := fun j hj => by
      have h0 : (List.range ops.size).filter (fun j => !listed.getD j true) = [] := List.eq_nil_of_length_eq_zero hcnt
      rw [List.filter_eq_nil_iff] at h0
      simpa using h0 j (List.mem_range.2 hj)
    have hall' : ∀ j, j < ops.size → listed.getD j false = true := fun j hj => by
      have := hall j hj
      have hl : j < listed.size := by omega
      simp [hl] at this ⊢; exact this
    refine ⟨?_, ?_⟩
    · unfold Region.ready
      rw [List.filter_eq_nil_iff]
      intro j hj
      rw [hall j (List.mem_range.1 hj)]; simp
    · have hob := wpZ_obl vs ops.toList ss 0 a0 [] h (by simpa using hdet)
      have hfin := hob.2.1 w hw (by simp) (fun j F hj hs => by simpa using hnd j F (hall' j (by simpa using hj)) hs)
      have hfr := Fr_holds hE (a0 := a0) vs ops.toList.length ops.toList 0 a0 (fun j => by simp) (Nat.le_refl _) ⟨rfl, fun j o d hj => by omega, fun s _ => rfl⟩
      have heq : a = Fr ops.toList 0 a0 vs ops.toList.length := by
        have ht : a.tmps = (Fr ops.toList 0 a0 vs ops.toList.length).tmps := by
          apply Array.ext_getElem?
          intro s
          by_cases hs : ∃ j o, j < ops.size ∧ ops[j]? = some o ∧ o.dst = some s
          · obtain ⟨j, o, hj, ho, hd⟩ := hs
            rw [hh.done j o s (hall' j hj) ho hd, hfr.done j o s (by simpa using hj) ho hd]
          · rw [hh.rest s fun j o hj ho hd => hs ⟨j, o, (Array.getElem?_eq_some_iff.1 ho).1, ho, hd⟩, hfr.rest s fun j o hj ho hd => hs ⟨j, o, (Array.getElem?_eq_some_iff.1 ho).1, ho, hd⟩]
        have hd2 : a.defers = (Fr ops.toList 0 a0 vs ops.toList.length).defers := hh.defers.trans hfr.defers.symm
        generalize Fr ops.toList 0 a0 vs ops.toList.length = b at *
        cases a; cases b; simp_all
      rw [heq]; exact hfin
  | succ fuel ih =>
    intro listed a w vs hsz hcnt hw hdet hnd hcl hh
    refine ⟨fun hr => ?_, fun i hi => ?_⟩
    · -- the least that has not come up may come up
      exfalso
      have hne : (List.range ops.size).filter (fun j => !listed.getD j true) ≠ [] := fun e => by rw [e] at hcnt; simp at hcnt
      obtain ⟨x, hx⟩ := List.exists_mem_of_ne_nil _ hne
      rw [List.mem_filter, List.mem_range] at hx
      have key : ∀ n, n < ops.size → listed.getD n true = false → False := by
        intro n
        induction n using Nat.strongRecOn with
        | _ n ihn =>
          intro hn h0
          have ho : ops[n]? = some ops[n] := Array.getElem?_eq_getElem hn
          have hmem : n ∈ Region.ready .any ops listed := by
            rw [mem_ready]
            refine ⟨h0, ops[n], ho, fun e he hbe => ?_⟩
            have hlt := hE.back n _ ho e he hbe
            cases hb : listed.getD e.on true with
            | true =>
              have hl : e.on < listed.size := by omega
              simp [hl] at hb ⊢; exact hb
            | false => exact (ihn e.on hlt (by omega) hb).elim
          rw [hr] at hmem; cases hmem
      exact key x hx.1 (by simpa using hx.2)
    · obtain ⟨h0, o, ho, hall⟩ := mem_ready.1 hi
      have hlt : i < ops.size := (Array.getElem?_eq_some_iff.1 ho).1
      have hil : i < listed.size := by omega
      have hSi : ¬ listed.getD i false = true := by
        simp [hil] at h0 ⊢; exact h0
      have hol : ops.toList[i]? = some o := by simpa using ho
      have hob := wpZ_obl vs ops.toList ss 0 a0 [] h (by simpa using hdet)
      obtain ⟨s, hs, hobl⟩ := hob.1 i o hol
      have hwl : ∀ j, waits o j = true → listed.getD j false = true := fun j hwj => by
        unfold waits at hwj
        rw [Array.any_eq_true] at hwj
        obtain ⟨m, hm, he⟩ := hwj
        simp only [Bool.and_eq_true, beq_iff_eq] at he
        have := hall _ (Array.getElem_mem hm) he.2
        rw [he.1] at this; exact this
      have h1 := hobl w hw (by simp) (fun j F hj hsj hwj => by
        have := hnd j F (hwl j (by simpa using hwj)) hsj
        simpa using this)
      have hfr := Fr_holds hE (a0 := a0) vs i ops.toList 0 a0 (fun j => by simp) (by simp; omega) ⟨rfl, fun j o d hj => by omega, fun s _ => rfl⟩
      have h2 : oblAt P ops o a w s.ok := by
        refine oblAt_congr (hE.nosel i o ho) (fun d hd => ?_) h1
        by_cases hex : ∃ (j : Nat) (oj : Oper), ops[j]? = some oj ∧ oj.dst = some d
        · obtain ⟨j, oj, hoj, hdj⟩ := hex
          have only : ∀ (k : Nat) (ok : Oper), ops[k]? = some ok → ok.dst = some d → k = j := fun k ok hk hkd => by
            by_cases hkj : k = j
            · exact hkj
            · exact absurd hkd (hE.apart k ok j oj d hk hoj hkj hdj).1
          by_cases hji : j = i
          · subst hji
            rw [hh.rest d fun k ok hk hok hkd => hSi (by rw [← only k ok hok hkd]; exact hk), hfr.rest d fun k ok hk hok hkd => by have := only k ok hok hkd; omega]
          · have hw2 := (hE.apart i o j oj d ho hoj (Ne.symm hji) hdj).2 hd
            by_cases hlt2 : j < i
            · rw [if_pos hlt2] at hw2
              rw [hh.done j oj d (hwl j hw2) hoj hdj, hfr.done j oj d (by simpa using hlt2) hoj hdj]
            · rw [if_neg hlt2] at hw2
              have hnj : ¬ listed.getD j false = true := fun hj => by
                unfold waits at hw2
                rw [Array.any_eq_true] at hw2
                obtain ⟨m, hm, he⟩ := hw2
                simp only [Bool.and_eq_true, beq_iff_eq] at he
                have := hcl j oj hj hoj _ (Array.getElem_mem hm) he.2
                rw [he.1] at this; exact hSi this
              rw [hh.rest d fun k ok hk hok hkd => hnj (by rw [← only k ok hok hkd]; exact hk), hfr.rest d fun k ok hk hok hkd => by have := only k ok hok hkd; omega]
        · rw [hh.rest d fun k ok _ hok hkd => hex ⟨k, ok, hok, hkd⟩, hfr.rest d fun k ok _ hok hkd => hex ⟨k, ok, hok, hkd⟩]
      refine wpOp_of_obl ho h2 fun v w' hx hF => ?_
      have hself : (listed.setIfInBounds i true).getD i false = true := by simp [hil]
      have hset : ∀ j, (listed.setIfInBounds i true).getD j false = true ↔ listed.getD j false = true ∨ j = i := fun j => by
        by_cases hji : j = i
        · subst hji; simp [hself]
        · rw [getD_set_ne false (Ne.symm hji)]; simp [hji]
      refine ih (listed.setIfInBounds i true) (a.put o.dst v) w' (fun j => if j = i then v else vs j) (by simpa using hsz) ?_ (hw.trans hx) ?_ ?_ ?_ ?_
      · have := filter_set ops.size i listed hlt hsz h0
        omega
      · intro m c hm
        by_cases hmi : m = i
        · subst hmi
          rw [hm] at hs; cases hs
          simp only [if_true]; exact hF
        · simp only [hmi, if_false]; exact hdet m c hm
      · intro j F hj hsj
        by_cases hji : j = i
        · subst hji
          rw [hsj] at hs; cases hs
          simp only [if_true]; exact hF
        · simp only [hji, if_false]
          have hjl : listed.getD j false = true := ((hset j).1 hj).resolve_right hji
          have hjlt : j < ops.size := by
            rcases Nat.lt_or_ge j listed.size with h' | h'
            · omega
            · simp [Array.getElem?_eq_none h'] at hjl
          exact hob.2.2 j F (by simpa using hjlt) hsj _ _ _ (hnd j F hjl hsj) hx
      · intro j oj hj hoj e he hb
        rw [hset]
        left
        rcases (hset j).1 hj with hj | rfl
        · exact hcl j oj hj hoj e he hb
        · rw [ho] at hoj; cases hoj
          exact hall e he hb
      · exact hh.put hE ho hSi hset (by simp) (fun j hj => by simp [hj])

/-- the law -/
theorem wp_region_ext {id : Nat} {Q : Exit → Act → World → Prop} {a : Act} {w : World} {l : List Oper} (ss : List Spec) (hm : P.follows .mixedOrders = true) (hB : extB l.toArray = true)
    (h : wpZ P l.toArray w.drew (fun a w => Q .normal a w) l ss 0 a []) : (Code.region id l.toArray true).wp P Q a w := by
  refine wp_region_any hm ?_
  have := wpAny_of_walk (ops := l.toArray) (edges_of hB) (Q := Q) (by simpa using h) l.toArray.size (Array.replicate l.toArray.size false) a w.drew
    (fun m => match ss[m]? with | some (.det c) => c | _ => undef) (by simp) (by
      have : (List.range l.toArray.size).filter (fun j => !(Array.replicate l.toArray.size false).getD j true) = List.range l.toArray.size := by
        rw [List.filter_eq_self]
        intro j hj
        have hj := List.mem_range.1 hj
        simp at hj
        simp [hj]
      rw [this, List.length_range]) (ExtW.refl _) (fun m c hm => by simp [hm]) (fun j F hj => by
        exfalso
        rcases Nat.lt_or_ge j l.length with h' | h'
        · simp [h'] at hj
        · simp [Nat.not_lt.2 h'] at hj) (fun j o hj => by
        exfalso
        rcases Nat.lt_or_ge j l.length with h' | h'
        · simp [h'] at hj
        · simp [Nat.not_lt.2 h'] at hj) ⟨rfl, fun j o d hj => by
        exfalso
        rcases Nat.lt_or_ge j l.length with h' | h'
        · simp [h'] at hj
        · simp [Nat.not_lt.2 h'] at hj, fun s _ => rfl⟩
  exact this

theorem wpZ_det {w0 : World} {Q : Act → World → Prop} {o : Oper} {rest : List Oper} {ss : List Spec} {k : Nat} {a : Act} {G : List (Nat × (World → Prop))} {c : Value}
    (h1 : ∀ w, ExtW w0 w → (∀ p ∈ G, waits o p.1 = true → p.2 w) → oblAt P ops o a w fun v _ => v = c) (h2 : ∀ a', a.put o.dst c = a' → wpZ P ops w0 Q rest ss (k + 1) a' G) : wpZ P ops w0 Q (o :: rest) (.det c :: ss) k a G := ⟨h1, h2 _ rfl⟩
theorem wpZ_nd {w0 : World} {Q : Act → World → Prop} {o : Oper} {rest : List Oper} {ss : List Spec} {k : Nat} {a : Act} {G : List (Nat × (World → Prop))} (F : Value → World → Prop)
    (h0 : ∀ v w w', F v w → ExtW w w' → F v w') (h1 : ∀ w, ExtW w0 w → (∀ p ∈ G, waits o p.1 = true → p.2 w) → oblAt P ops o a w F) (h2 : ∀ v a', a.put o.dst v = a' → wpZ P ops w0 Q rest ss (k + 1) a' ((k, F v) :: G)) :
    wpZ P ops w0 Q (o :: rest) (.nd F :: ss) k a G := ⟨h0, h1, fun v => h2 v _ rfl⟩
theorem wpZ_nil {w0 : World} {Q : Act → World → Prop} {k : Nat} {a : Act} {G : List (Nat × (World → Prop))} (h : ∀ w, ExtW w0 w → (∀ p ∈ G, p.2 w) → Q a w) : wpZ P ops w0 Q [] [] k a G := h
theorem obl_val {o : Oper} {a : Act} {w : World} {c : Value} (hw : Region.wanted o (yielded ops a.tmps) = true) (h : (execOp a.eval o).run P w = .ok (.value c) w) : oblAt P ops o a w fun v _ => v = c := by
  unfold oblAt; rw [if_pos hw, h]; exact ⟨ExtW.refl _, rfl⟩
theorem obl_non {o : Oper} {a : Act} {w : World} (hw : Region.wanted o (yielded ops a.tmps) = false) : oblAt P ops o a w fun v _ => v = undef := by
  unfold oblAt; rw [if_neg (by rw [hw]; decide)]
/-- what an operation that keeps the world has to show -/
theorem obl_same {o : Oper} {a : Act} {w : World} {c v : Value} (hw : Region.wanted o (yielded ops a.tmps) = true) (h : (execOp a.eval o).run P w = .ok (.value v) w) (hc : v = c) : oblAt P ops o a w fun v _ => v = c := by
  unfold oblAt; rw [if_pos hw, h]; exact ⟨ExtW.refl _, hc⟩
theorem obl_skip {o : Oper} {a : Act} {w : World} {c : Value} (hw : Region.wanted o (yielded ops a.tmps) = false) (hc : undef = c) : oblAt P ops o a w fun v _ => v = c := by
  unfold oblAt; rw [if_neg (by rw [hw]; decide)]; exact hc
theorem obl_not {o : Oper} {a : Act} {w : World} {F : Value → World → Prop} (hw : Region.wanted o (yielded ops a.tmps) = false) (hc : F undef w) : oblAt P ops o a w F := by
  unfold oblAt; rw [if_neg (by rw [hw]; decide)]; exact hc
theorem obl_on {o : Oper} {a : Act} {w : World} {F : Value → World → Prop} (hw : Region.wanted o (yielded ops a.tmps) = true) (h : extUpon P w F ((execOp a.eval o).run P w)) : oblAt P ops o a w F := by
  unfold oblAt; rw [if_pos hw]; exact h
end
end Go.Proofs.Ythaoibgcgkmnbaa
