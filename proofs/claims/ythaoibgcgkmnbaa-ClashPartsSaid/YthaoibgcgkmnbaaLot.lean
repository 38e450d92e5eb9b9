/- A slice of slices of bytes that the call itself fills; the walk of small. -/
import Derived.Test.YthaoibgcgkmnbaaTe
namespace Go.Proofs.Ythaoibgcgkmnbaa
set_option maxRecDepth 100000
open Go.RowKit

/-- rows of bytes l, in memory of the call's own from base on; no row lies in the block of the slice itself -/
def Lot (base : Nat) (l : List (List UInt8)) (v : Value) (w : World) : Prop :=
  ∃ ss : List Value, w.ownsRow base 23 1 v l.length ss ∧ ∀ (i : Nat) (x : List UInt8), l[i]? = some x → ∃ (B : Option Addr) (m d : Nat), ss[i]? = some (Value.slice B m d) ∧ Rd w B m d 1 (bvs x) ∧ ∀ a, B = some a → 0 < x.length → some a.block ≠ v.ownBlock
theorem Lot.own {base : Nat} {l : List (List UInt8)} {v : Value} {w : World} (h : Lot base l v w) : ∀ k, v.ownBlock = some k → base ≤ k ∧ k < w.heap.size := by
  obtain ⟨ss, h1, _⟩ := h
  exact World.ownsRow.lt h1
theorem Lot.mono (base : Nat) (l : List (List UInt8)) : ∀ v w w', Lot base l v w → ExtW w w' → Lot base l v w' := by
  rintro v w w' ⟨ss, h1, h2⟩ hb
  refine ⟨ss, own_extG h1 hb, fun i x hx => ?_⟩
  obtain ⟨B, m, d, e, hr, hn⟩ := h2 i x hx
  exact ⟨B, m, d, e, hr.below hb (Nat.le_refl _), hn⟩
theorem Lot.bss {base : Nat} {l : List (List UInt8)} {v : Value} {w : World} (h : Lot base l v w) : ∃ A c, v = .slice A l.length c ∧ Bss w A l.length c l := by
  obtain ⟨ss, h1, h2⟩ := h
  obtain ⟨A, c, hv, hr, _⟩ := Rd.of_own h1
  refine ⟨A, c, hv, rfl, hr.nc, hr.cm, hr.nil0, fun a ha i x hx => ?_⟩
  obtain ⟨B, m, d, e, hrd, _⟩ := h2 i x hx
  exact ⟨B, m, d, hr.cell a ha i _ e, hrd⟩
theorem Lot.empty (w : World) (base : Nat) (hb : base ≤ w.heap.size) : Lot base [] (.slice (some ⟨w.heap.size, 0, none⟩) 0 0) (w.alloc (.cells #[] 23)) :=
  ⟨[], ⟨rfl, .inr ⟨w.heap.size, 0, #[], rfl, hb, heap_alloc_new w _, Nat.le_refl _, by simp [maxLen], rfl, rfl⟩⟩, fun i x hx => by simp at hx⟩
theorem Lot.nil (w : World) (base : Nat) : Lot base [] (.slice none 0 0) w := ⟨[], ⟨rfl, .inl ⟨rfl, rfl⟩⟩, fun i x hx => by simp at hx⟩
theorem append_lot {base : Nat} {l : List (List UInt8)} {v : Value} {W : World} {D : Option Addr} {q dd g : Nat} {z : List UInt8} (h : Lot base l v W) (hz : Rd W D q dd 1 (bvs z)) (hne : ∀ a, D = some a → 0 < z.length → some a.block ≠ v.ownBlock)
    (hg : W.cell? ⟨g, 0, none⟩ = some (.slice D q dd)) (hl : l.length ≤ 1000000) (hb : base ≤ W.heap.size) :
    ∃ v' W', (Builtin.append_ #[22, 22] 22 #[v, .slice (some ⟨g, 0, none⟩) 1 1]).run Try.prog W = .ok v' W' ∧ Lot base (l ++ [z]) v' W' ∧ Gr W W' v v' := by
  obtain ⟨i0, hi, hz0, hz1, hz2⟩ := info_parts infoS
  obtain ⟨ss, ho, hs⟩ := h
  obtain ⟨v', W', h1, h2, h3, _, h5⟩ := run_append_own_at (P := Try.prog) (w := W) base 22 22 23 i0 _ 1 24 Try.underlying22 hi hz0 hz1 hz2 rfl (by omega) v l.length ss ho ⟨g, 0, none⟩ 1 1 [.slice D q dd] rfl
    (fun j u hj => by
      cases j with
      | zero => simp at hj; subst hj; rw [Addr.add_mid]; exact hg
      | succ j => simp at hj) (fun u hu => by rw [List.mem_singleton] at hu; subst hu; rfl) (by simp [maxLen]; omega) (by omega) hb
  have keep : ∀ (B : Option Addr) (m d : Nat) (x : List UInt8), Rd W B m d 1 (bvs x) → (∀ a, B = some a → 0 < x.length → some a.block ≠ v.ownBlock) → Rd W' B m d 1 (bvs x) ∧ ∀ a, B = some a → 0 < x.length → some a.block ≠ v'.ownBlock := by
    intro B m d x hr hn
    refine ⟨hr.same fun a ha h0 => ?_, fun a ha h0 => ?_⟩
    · rw [bvs_len] at h0
      subst ha
      exact h3.block a.block (hr.blk (by rw [bvs_len]; exact h0)) (hn a rfl h0)
    · subst ha
      have hlt := hr.blk (by rw [bvs_len]; exact h0)
      rcases h5 with e | e
      · rw [e]; exact hn a rfl h0
      · rw [e]; intro h; have := Option.some.inj h; omega
  refine ⟨v', W', h1, ⟨ss ++ [.slice D q dd], by rw [List.length_append]; exact h2, fun i x hx => ?_⟩, h3, ?_⟩
  · have hsl : ss.length = l.length := by have := ho.1; omega
    rcases Nat.lt_or_ge i l.length with hi' | hi'
    · rw [List.getElem?_append_left hi'] at hx
      obtain ⟨B, m, d, e, hr, hn⟩ := hs i x hx
      obtain ⟨k1, k2⟩ := keep B m d x hr hn
      exact ⟨B, m, d, by rw [List.getElem?_append_left (by omega)]; exact e, k1, k2⟩
    · rw [List.getElem?_append_right hi'] at hx
      have hi0 : i = l.length := by
        rcases Nat.lt_or_ge l.length i with h | h
        · rw [List.getElem?_eq_none (by simp; omega)] at hx; cases hx
        · omega
      subst hi0
      rw [Nat.sub_self] at hx
      cases hx
      obtain ⟨k1, k2⟩ := keep D q dd z hz hne
      exact ⟨D, q, dd, by rw [List.getElem?_append_right (by omega), hsl, Nat.sub_self]; rfl, k1, k2⟩
  · rcases h5 with h5 | h5
    · exact .inl h5
    · exact .inr fun k hk => by rw [h5] at hk; exact Nat.le_of_eq (Option.some.inj hk)
theorem wpList_append_lot {ops : Array Oper} {rest : List Oper} {o : Oper} {a : Act} {w : World} {Q : Exit → Act → World → Prop} (hgd : o.guard = none) (s x : Operand)
    (ho : o.op = .call { callee := .builtin .append, args := #[s, x], argTypes := #[22, 22] }) (hty : o.type = 22) {base : Nat} {l : List (List UInt8)} {v : Value} {D : Option Addr} {q dd g : Nat} {z : List UInt8}
    (hs : a.eval s = v) (hx : a.eval x = .slice (some ⟨g, 0, none⟩) 1 1) (h0 : Lot base l v w) (hz : Rd w D q dd 1 (bvs z)) (hne : ∀ a, D = some a → 0 < z.length → some a.block ≠ v.ownBlock)
    (hg : w.cell? ⟨g, 0, none⟩ = some (.slice D q dd)) (hl : l.length ≤ 1000000) (hb : base ≤ w.heap.size)
    (h : ∀ v' w', Lot base (l ++ [z]) v' w' → Gr w w' v v' → wpList Try.prog ops Q rest (a.put o.dst v') w') : wpList Try.prog ops Q (o :: rest) a w := by
  refine wpList_plain hgd fun K hK => ?_
  obtain ⟨v', w', hrun, h2, h3⟩ := append_lot h0 hz hne hg hl hb
  unfold Oper.wp execOp
  rw [← hty] at hrun
  simp only [ho, resolve, invoke, builtin, Sem.run_bind, Sem.run_pure, Result.andThen_ok, List.map_toArray, List.map_cons, List.map_nil, hs, hx]
  rw [hty] at hrun ⊢
  simp only [hrun]
  exact hK _ _ (h v' w' h2 h3)

/-- a piece that is the round's own -/
def PcF (base : Nat) (z : List UInt8) (q : Nat) (v : Value) (w : World) : Prop := ∃ A c, v = .slice A q c ∧ Rd w A q c 1 (bvs z) ∧ (0 < q → w.ownsRow base 5 1 v q (bvs z))
theorem PcF.mono (base : Nat) (z : List UInt8) (q : Nat) : ∀ v w w', PcF base z q v w → ExtW w w' → PcF base z q v w' := by
  rintro v w w' ⟨A, c, e, h, ho⟩ hb
  exact ⟨A, c, e, h.below hb (Nat.le_refl _), fun hq => own_ext (ho hq) hb⟩
def NwF (v : Value) (_w : World) : Prop := ∃ g, v = .slice (some ⟨g, 0, none⟩) 0 0
theorem NwF.mono : ∀ v w w', NwF v w → ExtW w w' → NwF v w' := fun _ _ _ h _ => h
/-- a new row of one slice, that is a piece of the round's own -/
def OneS (base : Nat) (z : List UInt8) (v : Value) (w : World) : Prop := ∃ g D q dd, v = .slice (some ⟨g, 0, none⟩) 1 1 ∧ w.cell? ⟨g, 0, none⟩ = some (.slice D q dd) ∧ Rd w D q dd 1 (bvs z) ∧ ∀ a, D = some a → 0 < z.length → base ≤ a.block
theorem OneS.mono (base : Nat) (z : List UInt8) : ∀ v w w', OneS base z v w → ExtW w w' → OneS base z v w' := by
  rintro v w w' ⟨g, D, q, dd, e, hc, h, ho⟩ hb
  exact ⟨g, D, q, dd, e, hb.cellAt hc, h.below hb (Nat.le_refl _), ho⟩
theorem PcF.ge {base : Nat} {z : List UInt8} {q : Nat} {A : Option Addr} {c : Nat} {w : World} (ho : 0 < q → w.ownsRow base 5 1 (.slice A q c) q (bvs z)) (hq : z.length = q) : ∀ a, A = some a → 0 < z.length → base ≤ a.block := by
  intro a ha h0
  subst ha
  exact own_ge (ho (by omega)) a.block rfl

/-- append of something onto a new slice without room, in any world -/
theorem append_new (g : Nat) (D : Option Addr) (q dd : Nat) (z : List UInt8) (W : World) (base : Nat) (hb : base ≤ W.heap.size) (hr : Rd W D q dd 1 (bvs z)) (hq : q ≤ 3000) :
    ∃ v' W', (Builtin.append_ #[23, 23] 23 #[.slice (some ⟨g, 0, none⟩) 0 0, .slice D q dd]).run Try.prog W = .ok v' W' ∧ ExtW W W' ∧ PcF base z q v' W' := by
  obtain ⟨i0, hi, hz0, hz1, hz2⟩ := info_parts infoB
  by_cases h0 : 0 < q
  · obtain ⟨v', W', h1, h2, h3, _⟩ := run_append_appd (P := Try.prog) W W.heap.size 23 23 5 i0 _ 1 1 Try.underlying23 hi hz0 hz1 hz2 rfl (by omega) (.slice (some ⟨g, 0, none⟩) 0 0) 0 []
      (.inl ⟨some ⟨g, 0, none⟩, rfl, ⟨rfl, Nat.le_refl _, by decide, (fun h => by cases h), fun a ha j u hj => by simp at hj⟩⟩) D q dd (bvs z) hr (bvs_one _) (by simp [maxLen]; omega) (by omega) (Nat.le_refl _) (.inr h0)
    rw [Nat.zero_add] at h2
    obtain ⟨A', c', e, hrd, _⟩ := Rd.of_own h2
    exact ⟨v', W', h1, h3, A', c', e, hrd, fun _ => own_mono h2 hb⟩
  · obtain rfl : q = 0 := by omega
    have hz : z = [] := by have := hr.len; rw [bvs_len] at this; exact List.length_eq_zero_iff.1 (by omega)
    subst hz
    refine ⟨.slice (some ⟨g, 0, none⟩) 0 0, W, ?_, ExtW.refl _, some ⟨g, 0, none⟩, 0, rfl, ⟨rfl, Nat.le_refl _, by decide, (fun h => by cases h), fun a ha j u hj => by simp [bvs] at hj⟩, fun h => absurd h (by omega)⟩
    cases D with
    | none =>
      have hd := hr.nil0 rfl
      subst hd
      simp [Builtin.append_, run_underlying Try.underlying23, Builtin.lenOf, Builtin.firstCells, sizeOf, typeInfo, hi, loadCells, loadCellsFrom, storeCells]
    | some a => simp [Builtin.append_, run_underlying Try.underlying23, Builtin.lenOf, Builtin.firstCells, sizeOf, typeInfo, hi, loadCells, loadCellsFrom, storeCells]
end Go.Proofs.Ythaoibgcgkmnbaa
