/- Walk of frame.All. -/
import Derived.Test.YtegkcbkgoncnbaaAll1
namespace Go.Proofs.Ytegkcbkgoncnbaa
open Go.RowKit Go.Shelf

attribute [local go_sem] Oper.semAt_some

theorem own_same {W W' : World} {base : Nat} {e : TypeId} {sz : Nat} {v : Value} {n : Nat} {xs : List Value} (h : W.ownsRow base e sz v n xs) (hb : ∀ k, v.ownBlock = some k → W'.heap[k]? = W.heap[k]?) : W'.ownsRow base e sz v n xs := by
  refine ⟨h.1, ?_⟩
  rcases h.2 with h2 | ⟨g, cap, cur, rfl, hg, hgb, r⟩
  · exact .inl h2
  · exact .inr ⟨g, cap, cur, rfl, hg, (hb g rfl).trans hgb, r⟩

theorem own_block {W : World} {base : Nat} {e : TypeId} {sz : Nat} {v : Value} {n : Nat} {xs : List Value} (h : W.ownsRow base e sz v n xs) {k : Nat} (hk : v.ownBlock = some k) : ∃ cur, W.heap[k]? = some (.cells cur e (0, 0)) := by
  rcases h.2 with ⟨rfl, _⟩ | ⟨g, cap, cur, rfl, _, hgb, _⟩
  · cases hk
  · cases hk; exact ⟨cur, hgb⟩

theorem own_ne {W : World} {b1 b2 : Nat} {e1 e2 : TypeId} {s1 s2 : Nat} {v1 v2 : Value} {n1 n2 : Nat} {x1 x2 : List Value} (h1 : W.ownsRow b1 e1 s1 v1 n1 x1) (h2 : W.ownsRow b2 e2 s2 v2 n2 x2) (he : e1 ≠ e2) {k : Nat} (hk : v1.ownBlock = some k) : v2.ownBlock ≠ some k := by
  intro hk2
  obtain ⟨c1, e1'⟩ := own_block h1 hk
  obtain ⟨c2, e2'⟩ := own_block h2 hk2
  rw [e1'] at e2'; cases e2'; exact he rfl

/-- what All's own memory holds between two rounds -/
structure InvF (n₀ : Nat) (w : World) (pre : List Fram) (W : World) : Prop where
  out : ∃ v, Boxed W n₀ 34 v ∧ W.ownsRow (n₀ + 3) 22 1 v pre.length (pre.map Fram.v)
  pos : Boxed W (n₀ + 1) 3 (.int .i64 (lastAt pre : Nat))
  rows : ∀ x, x ∈ pre → W.ownsRow (n₀ + 3) 5 1 x.v x.body.length (bvs x.body)
  apart : pre.Pairwise (fun x y => ∀ k, x.v.ownBlock = some k → y.v.ownBlock ≠ some k)
  below : Below n₀ w W
  size : n₀ + 3 ≤ W.heap.size

theorem InvF.own {n₀ : Nat} {w : World} (hw : n₀ = w.heap.size) : OwnFrom (n₀ + 3) (InvF n₀ w) := by
  intro pre X Y row h hg hr
  have hne : ∀ (k : Nat) (o : Obj), X.heap[k]? = some o → o.isCells = true → some k ≠ row := fun k o hk ho e => by
    obtain ⟨_, o', ho', hc⟩ := hr k e.symm
    rw [hk] at ho'; cases ho'; rw [ho] at hc; cases hc
  have hkeep : ∀ (k : Nat) (o : Obj), X.heap[k]? = some o → o.isCells = true → Y.heap[k]? = X.heap[k]? := fun k o hk ho => hg.block k (Array.getElem?_eq_some_iff.1 hk).1 (hne k o hk ho)
  have hown : ∀ {base : Nat} {e : TypeId} {sz : Nat} {v : Value} {n : Nat} {xs : List Value}, X.ownsRow base e sz v n xs → Y.ownsRow base e sz v n xs := fun ho => own_same ho fun k hk => by
    obtain ⟨cur, hc⟩ := own_block ho hk
    exact hkeep k _ hc rfl
  obtain ⟨v, hv, ho⟩ := h.out
  exact ⟨⟨v, (hkeep _ _ hv rfl).trans hv, hown ho⟩, (hkeep _ _ h.pos rfl).trans h.pos, fun x hx => hown (h.rows x hx), h.apart,
    h.below.grown hg (by rw [hw]; exact h.below.size) (fun k e => Nat.le_trans (by omega) (hr k e).1), Nat.le_trans h.size hg.size⟩

/-- behind a round: the append, the two stores -/
theorem InvF.next {n₀ : Nat} {w W w1 : World} (hw : n₀ = w.heap.size) {pre : List Fram} {x : Fram} (h : InvF n₀ w pre W) (hx : PxF (n₀ + 3) pre x W) {v v' : Value} {tmp : Obj}
    (hv : Boxed W n₀ 34 v) (hrow : W.ownsRow (n₀ + 3) 22 1 v pre.length (pre.map Fram.v))
    (hown' : w1.ownsRow (n₀ + 3) 22 1 v' (pre.length + 1) (pre.map Fram.v ++ [x.v])) (hgrow : (W.alloc tmp).grownBy w1 v.ownBlock) :
    Boxed w1 n₀ 34 v ∧ Boxed (w1.setCell ⟨n₀, 0, none⟩ v') (n₀ + 1) 3 (.int .i64 (lastAt pre : Nat)) ∧
    KeepsFrom (n₀ + 3) W ((w1.setCell ⟨n₀, 0, none⟩ v').setCell ⟨n₀ + 1, 0, none⟩ (.int .i64 (x.at' : Nat))) ∧ KpF n₀ (n₀ + 2) W ((w1.setCell ⟨n₀, 0, none⟩ v').setCell ⟨n₀ + 1, 0, none⟩ (.int .i64 (x.at' : Nat))) ∧
    InvF n₀ w (pre ++ [x]) ((w1.setCell ⟨n₀, 0, none⟩ v').setCell ⟨n₀ + 1, 0, none⟩ (.int .i64 (x.at' : Nat))) := by
  have hvge := own_ge hrow
  have hk1 : ∀ k, k < W.heap.size → v.ownBlock ≠ some k → w1.heap[k]? = W.heap[k]? := fun k hk hn => (hgrow.block k (by simp; omega) (fun e => hn e.symm)).trans (Below.heap_alloc W tmp k hk)
  obtain ⟨W3, hW3⟩ : ∃ W3, W3 = (w1.setCell ⟨n₀, 0, none⟩ v').setCell ⟨n₀ + 1, 0, none⟩ (.int .i64 (x.at' : Nat)) := ⟨_, rfl⟩
  have hk3 : ∀ k, k ≠ n₀ → k ≠ n₀ + 1 → W3.heap[k]? = w1.heap[k]? := fun k h1 h2 => by
    rw [hW3]; exact (Below.heap_setCell _ _ _ k h2).trans (Below.heap_setCell _ _ _ k h1)
  have hsz1 : W.heap.size ≤ w1.heap.size := Nat.le_trans (by simp) hgrow.size
  have hsz3 : w1.heap.size ≤ W3.heap.size := by rw [hW3]; exact Nat.le_trans (KeepsWalks.setCell w1 _ _).size (KeepsWalks.setCell _ _ _).size
  have hkk : ∀ k, k < W.heap.size → k ≠ n₀ → k ≠ n₀ + 1 → v.ownBlock ≠ some k → W3.heap[k]? = W.heap[k]? := fun k hk h1 h2 h3 => (hk3 k h1 h2).trans (hk1 k hk h3)
  have hb1 : Boxed w1 n₀ 34 v := (hk1 n₀ (by have := h.size; omega) (fun e => by have := hvge _ e; omega)).trans hv
  have hp1 : Boxed w1 (n₀ + 1) 3 (.int .i64 (lastAt pre : Nat)) := (hk1 (n₀ + 1) (by have := h.size; omega) (fun e => by have := hvge _ e; omega)).trans h.pos
  have hp2 : Boxed (w1.setCell ⟨n₀, 0, none⟩ v') (n₀ + 1) 3 (.int .i64 (lastAt pre : Nat)) := hp1.other (by omega) v'
  obtain ⟨hfew, b', hb', hlow, hxrow⟩ := hx
  have hbel : Below n₀ W W3 := by
    refine ⟨?_, ?_, ?_, Nat.le_trans hsz1 hsz3, fun k hk => hkk k (by have := h.size; omega) (by omega) (by omega) (fun e => by have := hvge _ e; omega)⟩
    · rw [hW3]; exact hgrow.os
    · rw [hW3]; exact hgrow.tape
    · rw [hW3]; exact hgrow.output
  have hrows : ∀ {base : Nat} {y : Fram}, n₀ + 3 ≤ base → W.ownsRow base 5 1 y.v y.body.length (bvs y.body) → W3.ownsRow base 5 1 y.v y.body.length (bvs y.body) := fun hbase hy => own_same hy fun k hk => by
    have := own_ge hy k hk
    exact hkk k (own_lt hy k hk) (by omega) (by omega) (own_ne hy hrow (by decide) hk)
  rw [← hW3]
  refine ⟨hb1, hp2, ⟨Nat.le_trans hsz1 hsz3, fun k o hk ho hc => ?_⟩, ⟨hbel, hkk _ (by have := h.size; omega) (by omega) (by omega) (fun e => by have := hvge _ e; omega)⟩, ?_⟩
  · refine (hkk k (Array.getElem?_eq_some_iff.1 ho).1 (by omega) (by omega) (fun e => ?_)).trans ho
    obtain ⟨cur, hcur⟩ := own_block hrow e
    rw [ho] at hcur; cases hcur; cases hc
  · refine ⟨⟨v', ?_, ?_⟩, ?_, ?_, ?_, h.below.trans hbel, Nat.le_trans h.size (Nat.le_trans hsz1 hsz3)⟩
    · rw [hW3]; exact (hb1.set v').other (by omega) _
    · rw [List.length_append, List.map_append]
      exact own_same hown' fun k hk => by have := own_ge hown' k hk; exact hk3 k (by omega) (by omega)
    · rw [lastAt_snoc, hW3]; exact hp2.set _
    · intro y hy
      rcases List.mem_append.1 hy with hy | hy
      · exact hrows (Nat.le_refl _) (h.rows y hy)
      · simp at hy; subst hy
        exact own_mono (hrows hb' hxrow) hb'
    · rw [List.pairwise_append]
      refine ⟨h.apart, List.pairwise_singleton _ _, fun y hy z hz k hk hk' => ?_⟩
      simp at hz; subst hz
      have := hlow y hy k hk
      have := own_ge hxrow k hk'
      omega

theorem infoL : (Try.prog.info? 22).map (fun i => (i.zero, i.size, i.bytes)) = some (some (.slice none 0 0), 1, 24) := by kernel_rfl

/-- the end of All -/
def AllEnd (w : World) (b : List UInt8) (e : Ending) (w' : World) : Prop :=
  ∃ (v : Value) (xs : List Fram), e = .returned (.tuple #[v, .int .i64 (lastAt xs : Nat), .int .i64 ((if lastAt xs = b.length then 0 else (nextF (b.drop (lastAt xs))).2.2 : Nat) : Int)]) ∧ AllF b xs ∧ xs.length ≤ b.length ∧
    w'.ownsRow w.heap.size 22 1 v xs.length (xs.map Fram.v) ∧ (∀ x, x ∈ xs → w'.ownsRow w.heap.size 5 1 x.v x.body.length (bvs x.body)) ∧
    xs.Pairwise (fun x y => ∀ k, x.v.ownBlock = some k → y.v.ownBlock ≠ some k) ∧ Below w.heap.size w w'

theorem ExtW.drewBlock {W wq : World} {D : Nat} {o : Obj} (h : ExtW W.drew wq) (hK : W.heap[D]? = some o) : wq.heap[D]? = some o := (h.block D (Array.getElem?_eq_some_iff.1 hK).1).trans hK

theorem PathF.few {b : List UInt8} : ∀ {xs : List (List UInt8 × Nat)} {p q : Nat}, PathF b p xs q → p + 8 * xs.length ≤ q
  | [], p, q, e => by cases (e : p = q); simp
  | x :: xs, p, q, ⟨k, h1, h2, h3⟩ => by
    have := PathF.few h3
    rcases nextF_cases (b.drop p) with ⟨body, k', hN, hk8, _⟩ | ⟨er, hN, _⟩
    · have h5 := hN.symm.trans h1
      simp at h5 ⊢; omega
    · have h5 := hN.symm.trans h1
      simp at h5; omega

theorem AllEnd.of {n₀ D : Nat} {w W wq : World} {b : List UInt8} {xs : List Fram} {v : Value} {o : Obj} (hw : n₀ = w.heap.size) (hI : InvF n₀ w xs W) (hrow : W.ownsRow (n₀ + 3) 22 1 v xs.length (xs.map Fram.v)) (hS : AllF b xs) (hD : n₀ + 3 ≤ D)
    (hK : W.heap[D]? = some (.deferred (some []))) (hx : Below W.heap.size W wq) {e : Nat} (he : e = if lastAt xs = b.length then 0 else (nextF (b.drop (lastAt xs))).2.2) :
    AllEnd w b (.returned (.tuple #[v, .int .i64 (lastAt xs : Nat), .int .i64 (e : Int)])) (wq.putObj D o) := by
  have hkeep : ∀ (k : Nat) (o' : Obj), W.heap[k]? = some o' → o'.isCells = true → (wq.putObj D o).heap[k]? = W.heap[k]? := fun k o' ho hc => by
    have hne : k ≠ D := fun e => by subst e; rw [ho] at hK; cases hK; cases hc
    exact (World.putObj_heap_other hne).trans (hx.block k (Array.getElem?_eq_some_iff.1 ho).1)
  have hown : ∀ {base : Nat} {e : TypeId} {sz : Nat} {u : Value} {n : Nat} {ys : List Value}, n₀ ≤ base → W.ownsRow base e sz u n ys → (wq.putObj D o).ownsRow n₀ e sz u n ys := fun hb ho => own_mono (own_same ho fun k hk => by
    obtain ⟨cur, hc⟩ := own_block ho hk
    exact hkeep k _ hc rfl) hb
  subst hw
  refine ⟨v, xs, by rw [he], hS, by have h1 := hS.1.few; have h2 := hS.2.1; simp at h1; omega, hown (by omega) hrow, fun x hxm => hown (by omega) (hI.rows x hxm), hI.apart, ?_⟩
  refine (hI.below.trans (hx.mono hI.below.size)).trans ⟨rfl, rfl, rfl, by simp [World.putObj], fun k hk => World.putObj_heap_other (by omega)⟩

set_option maxRecDepth 100000 in
set_option maxHeartbeats 4000000 in
theorem all_any (A : Option Addr) (n c : Nat) (b : List UInt8) (w : World) (hr : Rd w A n c 1 (bvs b)) (hn : n ≤ 1000000000) :
    Calls Try.prog 15 #[.slice A n c] w (AllEnd w b) := by
  refine (callsIn_wide (n := 9)).1 ?_
  obtain ⟨i0, hi, hz0, hz1, hz2⟩ := info_parts infoL
  have HR := Lib.hid hr; clear hr
  refine callsIn_of_wp_marks Try.func15 rfl trivial ?_ rfl
  simp only [Try.ntmps15, List.size_toArray, List.length_cons, List.length_nil, Nat.reduceAdd, Nat.reduceSub, Array.replicate_succ, Array.replicate_zero, List.push_toArray, List.append_toArray, List.nil_append, List.cons_append]
  gi_wp2_with fail
  refine ⟨trivial, (frames_in A n c _ _).mono ?_⟩
  rintro e w' ⟨rfl, rfl⟩
  gi_wp2
  obtain ⟨n₀, hn0⟩ : ∃ n₀, n₀ = w.heap.size := ⟨_, rfl⟩
  obtain ⟨lw, hlw⟩ : ∃ lw, lw = ((w.alloc (Obj.cells #[Value.slice none 0 0] 34)).alloc (Obj.cells #[Value.int IntKind.i64 0] 3)).alloc (Obj.cells #[Value.slice A n c] 22) := ⟨_, rfl⟩
  have hls : lw.heap.size = n₀ + 3 := by rw [hlw, hn0]; simp
  have hbw : Below n₀ w lw := by
    rw [hlw, hn0]; exact (((Below.refl _ w).alloc (Nat.le_refl _) _).alloc (by simp) _).alloc (by simp; omega) _
  have bO : Boxed lw n₀ 34 (.slice none 0 0) := by rw [hlw, hn0]; exact ((Boxed.new w _ _).alloc _).alloc _
  have bP : Boxed lw (n₀ + 1) 3 (.int .i64 0) := by
    rw [hlw, hn0]
    have := Boxed.new (w.alloc (Obj.cells #[Value.slice none 0 0] 34)) 3 (.int .i64 0)
    rw [World.size_alloc] at this; exact this.alloc _
  have bB : Boxed lw (n₀ + 2) 22 (.slice A n c) := by
    rw [hlw, hn0]
    have := Boxed.new ((w.alloc (Obj.cells #[Value.slice none 0 0] 34)).alloc (Obj.cells #[Value.int IntKind.i64 0] 3)) 22 (.slice A n c)
    simp only [World.size_alloc] at this; exact this
  rw [← hlw, ← hn0]
  have HN0 := Lib.hid hn0
  have HBW := Lib.hid hbw
  have HLS := Lib.hid hls
  have HBB := Lib.hid bB
  have HIV : Hid (InvF n₀ w [] lw) := Lib.hid ⟨⟨_, bO, World.ownsRow_nil _ _ _ _⟩, bP, by simp, List.Pairwise.nil, hbw, by omega⟩
  clear hn0 hlw hls hbw bO bP bB
  refine wpIn_rangeFunc_px (Q := _) rfl (by omega) (gf := 27) (lb := #[.pointer (some ⟨n₀ + 2, 0, none⟩)]) rfl trivial (enters_of Try.func27 (by kernel_rfl) rfl) (encs := Fram.enc) (Kp := KpF n₀ (n₀ + 2)) (Px := PxF (n₀ + 3)) (S := AllF b) (w0 := lw)
    (fun l J W hW hJ hY h0 => frames1_in A n c b w HR.out hn (n₀ + 2) (n₀ + 3) _ l J hJ (by rw [← HN0.out]; exact hY) W ?below (by rw [← HLS.out]; exact hW.size) ?box h0)
    (Below.refl _ _) KpF.trans ?kb (fun _ => rfl) ?px (InvF n₀ w) ?own HIV.out
    (fun x => { tmps := #[Value.slice A n c, undef, Value.slice none 0 0, Value.int IntKind.i64 0, Value.int IntKind.i64 0, .pointer (some ⟨n₀, 0, none⟩), .pointer (some ⟨n₀ + 1, 0, none⟩), x.v, .int .i64 (x.at' : Int), undef, undef, undef, Value.slice A n c, .func (.func 27) #[] #[.pointer (some ⟨n₀ + 2, 0, none⟩)], x.v, .int .i64 (x.at' : Int), undef, undef, undef, undef, undef, undef, undef, undef, undef, undef, undef, undef, undef, undef, undef, undef, undef, undef, undef, undef, undef, undef], defers := [] }) ?assign ?body ?done
  case below =>
    rw [← HN0.out]
    exact HBW.out.trans (hW.mono (by rw [HLS.out]; omega))
  case box => exact (hW.block _ (by rw [HLS.out]; omega)).trans HBB.out
  case kb =>
    intro W l o o' hl ho _ _
    rw [HLS.out] at hl
    exact ⟨⟨rfl, rfl, rfl, by simp [World.putObj], fun k hk => World.putObj_heap_other (by omega)⟩, World.putObj_heap_other (by omega)⟩
  case px =>
    intro pre x _ X Y row h hg hrow
    obtain ⟨h1, b', h2, h3, h4⟩ := h
    refine ⟨h1, b', h2, h3, own_same h4 fun k hk => ?_⟩
    obtain ⟨cur, hc⟩ := own_block h4 hk
    refine hg.block k (Array.getElem?_eq_some_iff.1 hc).1 fun e => ?_
    obtain ⟨_, o', ho', hcc⟩ := hrow k e.symm
    rw [hc] at ho'; cases ho'; cases hcc
  case own => rw [HLS.out]; exact InvF.own HN0.out
  case assign =>
    intro l x W K hK
    simp only [Fram.enc, List.zip_toArray, List.zip_cons_cons, List.zip_nil_right, List.foldl_toArray, List.foldl_cons, List.foldl_nil, List.setIfInBounds_toArray, List.set_cons_succ, List.set_cons_zero]
    gi_wp2
    exact hK
  case body =>
    rintro l pre ⟨xv, xb, xat⟩ W hI hP
    rw [HLS.out]
    obtain ⟨v, hv, hrow⟩ := hI.out
    have hc := hv.cell
    have hc2 := hI.pos.cell
    have hf2 := hI.pos.frozen
    have hfew := hP.1
    have hsz := hI.size
    have HI := Lib.hid hI
    have HP := Lib.hid hP
    have HV := Lib.hid hv
    have HROW := Lib.hid hrow
    obtain ⟨_, _, _, _, hxo⟩ := hP
    obtain ⟨Ax, nx, cx, hxv⟩ : ∃ Ax nx cx, xv = .slice Ax nx cx := by
      rcases hxo.2 with ⟨e, _⟩ | ⟨g, cap, cur, e, _⟩
      · exact ⟨_, _, _, e⟩
      · exact ⟨_, _, _, e⟩
    subst hxv
    clear hI hv hrow hxo
    gi_wp2_with (gi_at_builtin; refine wpListIn_append_own _ rfl _ _ 34 rfl (n₀ + 3) 22 i0 (.slice none 0 0) 1 24 Try.underlying34 hi hz0 hz1 hz2 rfl (by decide) _ _ _ rfl (HROW.out.alloc _) ⟨W.heap.size, 0, none⟩ 1 1 [.slice Ax nx cx] rfl rfl (cell_one_new _ _ _) (by simp [Value.oneCell']) (by simp [maxLen]; omega) (by omega) (by simp; omega) ?_; intro v' w1 hown' hgrow _; obtain ⟨g', cap', rfl⟩ := ownsRow_succ hown'; obtain ⟨hv1, hp1, hk2, hkp2, hi2⟩ := HI.out.next HN0.out HP.out HV.out HROW.out hown' hgrow; have hc1 := hv1.cell; have hf1 := hv1.frozen; have hc3 := hp1.cell; have hf3 := hp1.frozen)
    exact ⟨hk2, hkp2, hi2⟩
  case done =>
    rintro D xs W hD hS hI hK
    obtain ⟨v, hv, hrow⟩ := hI.out
    have hc := hv.cell
    have hc2 := hI.pos.cell
    obtain ⟨q, hq⟩ : ∃ q, q = lastAt xs := ⟨_, rfl⟩
    rw [← hq] at hc2
    have hl : b.length = n := by have := HR.out.len; rw [bvs_len] at this; omega
    have hqn : q ≤ n := by rw [hq, ← hl]; exact hS.2.1
    have hnc := HR.out.nc
    have hcw : ∀ wq, ExtW W.drew wq → wq.cell? ⟨n₀, 0, none⟩ = some v := fun wq h => (ExtW.of_drew h).cellAt hc
    have hcw2 : ∀ wq, ExtW W.drew wq → wq.cell? ⟨n₀ + 1, 0, none⟩ = some (.int .i64 (q : Int)) := fun wq h => (ExtW.of_drew h).cellAt hc2
    by_cases heq : q = n
    · have hei : ((q : Int) == (n : Int)) = true := by rw [heq]; simp
      have HE : Hid (0 = if lastAt xs = b.length then 0 else (nextF (b.drop (lastAt xs))).2.2) := Lib.hid (by rw [← hq, hl, if_pos heq])
      have HQ := Lib.hid hq
      clear hq heq
      gi_wp2
      refine wpIn_wide.2 ?_
      apply wp_region_ext _ (by kernel_rfl) (by kernel_rfl)
      iterate 5 (apply wpZ_det; (intro wq hE hG; first | exact obl_non (by rfl) | (apply obl_val (by rfl); go_simp; rfl)); (intro ak hak; simp only [Act.put, List.setIfInBounds_toArray, List.set_cons_succ, List.set_cons_zero] at hak; subst hak))
      (apply wpZ_nil; intro wq hE hG)
      gi_wp2
      refine ⟨by simp, .inl ⟨_, _, rfl, run_takeDeferred ((hE.drewBlock hK)), ?_⟩⟩
      refine ⟨_, results_tmp3 rfl _ _ _, ?_⟩
      rw [HQ.out]
      exact AllEnd.of (e := 0) HN0.out hI hrow hS (by rw [HLS.out] at hD; exact hD) hK (ExtW.of_drew hE) HE.out
    · have hei : ((q : Int) == (n : Int)) = false := by simp; omega
      have hneq : ¬ (q : Int) = (n : Int) := by omega
      have HE : Hid ((nextF (b.drop q)).2.2 = if lastAt xs = b.length then 0 else (nextF (b.drop (lastAt xs))).2.2) := Lib.hid (by rw [← hq, hl, if_neg heq])
      obtain ⟨j0, hj, hy0, hy1, hy2⟩ := info_parts infoB
      obtain ⟨A1, hs1, hr1⟩ := cut_l (P := Try.prog) Try.underlying22 hj hy1 A n c .i64 q q rfl hqn hnc
      have HR1 : Hid (∀ w', Rd w' A n c 1 (bvs b) → Rd w' A1 (n - q) (c - q) 1 (bvs (b.drop q))) := Lib.hid fun w' h => by
        have := hr1 w' _ h
        rw [Nat.mul_one, Nat.mul_one, bvs_drop, bvs_take, List.take_of_length_le (by rw [List.length_drop]; omega)] at this; exact this
      have HRW := Lib.hid (HR.out.below hI.below (by rw [HN0.out]; exact Nat.le_refl _))
      have hnq : n - q ≤ 1000000000 := by omega
      have HQ := Lib.hid hq
      have HI := Lib.hid hI
      have HK := Lib.hid hK
      have HC := Lib.hid hc
      have HC2 := Lib.hid hc2
      clear hq heq hr1 hI hK hcw hcw2 hy0 hy2 hl
      gi_wp2_with fail
      refine ⟨trivial, (callsIn_wide.2 (next_any A1 (n - q) (c - q) (b.drop q) _ (HR1.out _ HRW.out) hnq)).mono ?_⟩
      rintro e w2 ⟨r, rfl, hown, hb⟩
      have HB := Lib.hid hb
      obtain ⟨en, hen⟩ : ∃ en, en = (nextF (b.drop q)).2.2 := ⟨_, rfl⟩
      obtain ⟨qn, hqn'⟩ : ∃ qn, qn = (nextF (b.drop q)).2.1 := ⟨_, rfl⟩
      rw [← hen, ← hqn']
      rw [← hen] at HE
      have hc := (ExtW.cellAt (show ExtW W w2 from hb) HC.out)
      have hc2 := (ExtW.cellAt (show ExtW W w2 from hb) HC2.out)
      have hcw : ∀ wq, ExtW w2.drew wq → wq.cell? ⟨n₀, 0, none⟩ = some v := fun wq h => (ExtW.of_drew h).cellAt hc
      have hcw2 : ∀ wq, ExtW w2.drew wq → wq.cell? ⟨n₀ + 1, 0, none⟩ = some (.int .i64 (q : Int)) := fun wq h => (ExtW.of_drew h).cellAt hc2
      clear hown hb hen hqn'
      gi_wp2
      refine wpIn_wide.2 ?_
      apply wp_region_ext _ (by kernel_rfl) (by kernel_rfl)
      iterate 6 (apply wpZ_det; (intro wq hE hG; first | exact obl_non (by rfl) | (apply obl_val (by rfl); go_simp; rfl)); (intro ak hak; simp only [Act.put, List.setIfInBounds_toArray, List.set_cons_succ, List.set_cons_zero] at hak; subst hak))
      (apply wpZ_nil; intro wq hE hG)
      have HX : Hid (Below W.heap.size W wq) := Lib.hid (HB.out.trans ((ExtW.of_drew hE).mono HB.out.size))
      gi_wp2
      refine ⟨by simp, .inl ⟨_, _, rfl, run_takeDeferred ((HX.out.block D (Array.getElem?_eq_some_iff.1 HK.out).1).trans HK.out), ?_⟩⟩
      refine ⟨_, results_tmp3 rfl _ _ _, ?_⟩
      rw [HQ.out]
      exact AllEnd.of (e := en) HN0.out HI.out hrow hS (by rw [HLS.out] at hD; exact hD) HK.out HX.out HE.out
end Go.Proofs.Ytegkcbkgoncnbaa
