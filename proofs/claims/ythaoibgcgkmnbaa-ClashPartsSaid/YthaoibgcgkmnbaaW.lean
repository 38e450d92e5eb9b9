/- Words of these proofs: a slice that reads as cells; what append makes of it. -/
import Derived.Test.YthaoibgcgkmnbaaProg
import Derived.WalkKit
import Derived.Lib.Hide
import Derived.Lib.AppendStr
import Derived.Maps.AppendAt
import Derived.Deep.DeepCutAuto
import Derived.Deep.CutBlock
import Derived.Deep.RegionWith
import Derived.Deep.RegionHeld3
import Derived.Deep.QuietTactic
import Derived.BigQuiet
import Derived.Deep.LoopGhost
import Derived.WalkLawsBesides
import Derived.Outline
import Derived.OrdersHeld
namespace Go.Proofs.Ythaoibgcgkmnbaa
set_option maxRecDepth 100000
open Go.RowKit

def bvs (l : List UInt8) : List Value := l.map fun b => Value.int .u8 b.toNat
theorem bvs_len (l : List UInt8) : (bvs l).length = l.length := by simp [bvs]
theorem bvs_app (l r : List UInt8) : bvs (l ++ r) = bvs l ++ bvs r := by simp [bvs]
theorem bvs_str (s : ByteArray) : Go.Lib.strCells s = bvs s.data.toList := rfl
theorem bvs_one (l : List UInt8) : ∀ u ∈ bvs l, u.oneCell' = true := by
  intro u hu; simp only [bvs, List.mem_map] at hu; obtain ⟨b, _, rfl⟩ := hu; rfl
theorem bvs_get (l : List UInt8) (j : Nat) (h : j < l.length) : (bvs l)[j]? = some (.int .u8 (l[j].toNat : Int)) := by simp [bvs, h]
theorem bvs_drop (l : List UInt8) (k : Nat) : (bvs l).drop k = bvs (l.drop k) := by simp [bvs]
theorem bvs_take (l : List UInt8) (k : Nat) : (bvs l).take k = bvs (l.take k) := by simp [bvs]

/-- the slice '.slice A n c' reads, in w, as the cells cs (size cells an element) -/
structure Rd (w : World) (A : Option Addr) (n c size : Nat) (cs : List Value) : Prop where
  len : cs.length = n * size
  nc : n ≤ c
  cm : c ≤ maxLen
  nil0 : A = none → c = 0
  cell : ∀ a, A = some a → ∀ j u, cs[j]? = some u → w.cell? (a.add j) = some u

theorem cell_lt {w : World} {a : Addr} {u : Value} (h : w.cell? a = some u) : a.block < w.heap.size := World.block_lt_of_cell? w _ h

theorem add_block (a : Addr) (j : Nat) : (a.add j).block = a.block := by
  unfold Addr.add; split <;> rfl

theorem Rd.below {w w' : World} {A : Option Addr} {n c size : Nat} {cs : List Value} (h : Rd w A n c size cs) {B : Nat} (hb : Below B w w') (hB : w.heap.size ≤ B) : Rd w' A n c size cs :=
  ⟨h.len, h.nc, h.cm, h.nil0, fun a ha j u hj => by
    have hc := h.cell a ha j u hj
    rw [hb.cell (Nat.lt_of_lt_of_le (cell_lt hc) hB)]; exact hc⟩

theorem Rd.blk {w : World} {a : Addr} {n c size : Nat} {cs : List Value} (h : Rd w (some a) n c size cs) (h0 : 0 < cs.length) : a.block < w.heap.size := by
  have := cell_lt (h.cell a rfl 0 (cs[0]) (by simp [h0]))
  rwa [add_block] at this

/-- the same cells in another world: if the slice's block reads the same -/
theorem Rd.same {w w' : World} {A : Option Addr} {n c size : Nat} {cs : List Value} (h : Rd w A n c size cs) (hs : ∀ a, A = some a → 0 < cs.length → w'.heap[a.block]? = w.heap[a.block]?) : Rd w' A n c size cs :=
  ⟨h.len, h.nc, h.cm, h.nil0, fun a ha j u hj => by
    have hc := h.cell a ha j u hj
    have hl : 0 < cs.length := by
      rcases Nat.lt_or_ge j cs.length with h1 | h1
      · omega
      · rw [List.getElem?_eq_none h1] at hj; simp at hj
    have := hs a ha hl
    rw [World.cell?_of_block (w := w) (by rw [add_block]; exact this)]; exact hc⟩

theorem Rd.nil (w : World) (size : Nat) : Rd w none 0 0 size [] := ⟨by simp, Nat.le_refl _, by simp [maxLen], fun _ => rfl, fun a h => by cases h⟩

/-- what is owned is readable -/
theorem Rd.of_own {w : World} {base e size n : Nat} {v : Value} {xs : List Value} (h : w.ownsRow base e size v n xs) :
    ∃ A c, v = .slice A n c ∧ Rd w A n c size xs ∧ (∀ a, A = some a → base ≤ a.block) := by
  rcases h.2 with ⟨rfl, rfl⟩ | ⟨g, cap, cur, rfl, hb, hg, hn, hm, hs, ht⟩
  · have : xs = [] := List.eq_nil_of_length_eq_zero (by simpa using h.1)
    subst this
    exact ⟨_, _, rfl, Rd.nil w size, fun a h => by cases h⟩
  · refine ⟨_, _, rfl, ⟨h.1, hn, hm, (fun h => by cases h), fun a ha j u hj => ?_⟩, fun a ha => by cases ha; exact hb⟩
    cases ha
    exact h.cells (g := g) rfl j u hj

/-- sub-slices -/
theorem Rd.take {w : World} {A : Option Addr} {n c size : Nat} {cs : List Value} (h : Rd w A n c size cs) (m : Nat) (hm : m ≤ n) : Rd w A m c size (cs.take (m * size)) :=
  ⟨by rw [List.length_take, h.len]; exact Nat.min_eq_left (Nat.mul_le_mul_right _ hm), Nat.le_trans hm h.nc, h.cm, h.nil0, fun a ha j u hj => by
    rw [List.getElem?_take] at hj
    split at hj
    · exact h.cell a ha j u hj
    · cases hj⟩

theorem add_add (a : Addr) (i j : Nat) : (a.add i).add j = a.add (i + j) := by
  unfold Addr.add
  split
  · rename_i h; subst h; simp
  · rename_i h
    split
    · rename_i h2; subst h2; simp [h]
    · rename_i h2
      rw [if_neg (by omega)]
      simp [Nat.add_assoc]

/-- v is such an array that an append to it of anything makes memory of the call's own: its capacity is its length, or it is the call's own already -/
def Appd (w : World) (base e size : Nat) (v : Value) (n : Nat) (xs : List Value) : Prop :=
  (∃ A, v = .slice A n n ∧ Rd w A n n size xs) ∨ w.ownsRow base e size v n xs

theorem own_mono {w : World} {base base' e size n : Nat} {v : Value} {xs : List Value} (h : w.ownsRow base e size v n xs) (hb : base' ≤ base) : w.ownsRow base' e size v n xs := by
  refine ⟨h.1, ?_⟩
  rcases h.2 with h2 | ⟨g, cap, cur, hv, hg, rest⟩
  · exact .inl h2
  · exact .inr ⟨g, cap, cur, hv, Nat.le_trans hb hg, rest⟩

theorem below_of_grown {w w' : World} {base e size n : Nat} {v : Value} {xs : List Value} (h : w.ownsRow base e size v n xs) (hb : base ≤ w.heap.size) (hg : w.grownBy w' v.ownBlock) : Below base w w' := by
  refine (Below.refl base w).grown hg hb fun k hk => ?_
  rcases h.2 with ⟨rfl, _⟩ | ⟨g, cap, cur, rfl, hbg, _⟩
  · simp [Value.ownBlock] at hk
  · simp [Value.ownBlock] at hk; omega

theorem Rd.alloc {w : World} {A : Option Addr} {n c size : Nat} {cs : List Value} (h : Rd w A n c size cs) (o : Obj) : Rd (w.alloc o) A n c size cs :=
  h.below ((Below.refl w.heap.size w).alloc (Nat.le_refl _) o) (Nat.le_refl _)
theorem Appd.alloc {w : World} {base e size n : Nat} {v : Value} {xs : List Value} (h : Appd w base e size v n xs) (o : Obj) : Appd (w.alloc o) base e size v n xs := by
  rcases h with ⟨A, hv, h⟩ | h
  · exact .inl ⟨A, hv, h.alloc o⟩
  · exact .inr (h.alloc o)
theorem one_cell (v : Value) (h : v.oneCell' = true) : ∀ u ∈ [v], u.oneCell' = true := by
  intro u hu; simp at hu; subst hu; exact h

section
variable {P : Program} (w : World)

/-- APPEND of something, onto whatever may be appended to in memory of the call's own. -/
theorem run_append_appd (base : Nat) (t ty e : TypeId) (i : TypeInfo) (z : Value) (size bytes : Nat) (ht : P.underlying t = some (.slice e)) (hi : P.info? e = some i) (hz : i.zero = some z)
    (hsize : i.size = size) (hby : i.bytes = bytes) (hzs : z.cells.size = size) (hsz : 0 < size)
    (v : Value) (n : Nat) (xs : List Value) (hown : Appd w base e size v n xs)
    (A : Option Addr) (m c : Nat) (news : List Value) (hr : Rd w A m c size news) (h1 : ∀ u ∈ news, u.oneCell' = true)
    (h63 : n + m ≤ maxLen) (hbytes : (n + m) * bytes ≤ 140737488355328) (hbase : base ≤ w.heap.size) (hm : w.ownsRow base e size v n xs ∨ 0 < m) :
    ∃ v' w', (Builtin.append_ #[t, t] ty #[v, .slice A m c]).run P w = .ok v' w' ∧ w'.ownsRow base e size v' (n + m) (xs ++ news) ∧ Below base w w' ∧
      (w.grownBy w' v.ownBlock ∧ (v'.ownBlock = v.ownBlock ∨ v'.ownBlock = some w.heap.size) ∨ ¬ w.ownsRow base e size v n xs) := by
  by_cases ho : w.ownsRow base e size v n xs
  · rcases A with _ | ad
    · have hm0 : m = 0 := by have := hr.nil0 rfl; have := hr.nc; omega
      subst hm0
      have hn : news = [] := List.eq_nil_of_length_eq_zero (by simpa using hr.len)
      subst hn
      refine ⟨v, w, ?_, by simpa using ho, Below.refl _ _, .inl ⟨World.grownBy.refl w _, .inl rfl⟩⟩
      have hc0 : c = 0 := hr.nil0 rfl
      subst hc0
      have := run_append_owned_none (P := P) (w := w) base t ty e i size ht hi v n xs ho
      first | exact this | exact this _ | exact this _ _
    · obtain ⟨v', w', hrun, h2, h3, _, h5⟩ := run_append_own_at (P := P) w base t ty e i z size bytes ht hi hz hsize hby hzs hsz v n xs ho ad m c news hr.len (hr.cell ad rfl) h1 h63 hbytes hbase
      exact ⟨v', w', hrun, h2, below_of_grown ho hbase h3, .inl ⟨h3, h5⟩⟩
  · rcases hown with ⟨A0, rfl, hr0⟩ | hown
    · have hmp : 0 < m := hm.resolve_left ho
      rcases A with _ | ad
      · have := hr.nil0 rfl; have := hr.nc; omega
      · rcases A0 with _ | b
        · have hn0 := hr0.nil0 rfl
          subst hn0
          exact absurd ⟨hr0.len, .inl ⟨rfl, rfl⟩⟩ ho
        · obtain ⟨v', w', hrun, r1, r2⟩ := run_append_arg_grows (P := P) w t ty e i z size bytes ht hi hz hsize hby hzs hsz b n n xs hr0.len (hr0.cell b rfl) ad m c news hr.len (hr.cell ad rfl) (by omega) h63 hbytes
          refine ⟨v', w', hrun, own_mono r1 hbase, (Below.refl base w).grown r2 hbase (fun k hk => by cases hk), .inr ho⟩
    · exact absurd hown ho

theorem wpList_append_appd {ops : Array Oper} {rest : List Oper} {o : Oper} {a : Act} {Q : Exit → Act → World → Prop} (hgd : o.guard = none) (s x : Operand) (t : TypeId)
    (ho : o.op = .call { callee := .builtin .append, args := #[s, x], argTypes := #[t, t] })
    (base : Nat) (e : TypeId) (i : TypeInfo) (z : Value) (size bytes : Nat) (ht : P.underlying t = some (.slice e)) (hi : P.info? e = some i) (hz : i.zero = some z)
    (hsize : i.size = size) (hby : i.bytes = bytes) (hzs : z.cells.size = size) (hsz : 0 < size)
    (v : Value) (n : Nat) (xs : List Value) (hs : a.eval s = v) (hown : Appd w base e size v n xs)
    (A : Option Addr) (m c : Nat) (news : List Value) (hx : a.eval x = .slice A m c) (hr : Rd w A m c size news) (h1 : ∀ u ∈ news, u.oneCell' = true)
    (h63 : n + m ≤ maxLen) (hbytes : (n + m) * bytes ≤ 140737488355328) (hbase : base ≤ w.heap.size) (hm : w.ownsRow base e size v n xs ∨ 0 < m)
    (h : ∀ v' w', w'.ownsRow base e size v' (n + m) (xs ++ news) → Below base w w' →
      (w.grownBy w' v.ownBlock ∧ (v'.ownBlock = v.ownBlock ∨ v'.ownBlock = some w.heap.size) ∨ ¬ w.ownsRow base e size v n xs) → wpList P ops Q rest (a.put o.dst v') w') : wpList P ops Q (o :: rest) a w := by
  refine wpList_plain hgd fun K hK => ?_
  obtain ⟨v', w', hrun, h2, h3, h4⟩ := run_append_appd (P := P) w base t o.type e i z size bytes ht hi hz hsize hby hzs hsz v n xs hown A m c news hr h1 h63 hbytes hbase hm
  unfold Oper.wp execOp
  simp only [ho, resolve, invoke, builtin, Sem.run_bind, Sem.run_pure, Result.andThen_ok, List.map_toArray, List.map_cons, List.map_nil, hs, hx, hrun]
  exact hK _ _ (h v' w' h2 h3 h4)
end

/-- a cell that has just been laid -/
theorem Rd.new (w : World) (cs : List Value) (e size : Nat) (n : Nat) (hl : cs.length = n * size) (hn : n ≤ maxLen) : Rd (w.alloc (.cells cs.toArray e)) (some ⟨w.heap.size, 0, none⟩) n n size cs := by
  refine ⟨hl, Nat.le_refl _, hn, (fun h => by cases h), fun a ha j u hj => ?_⟩
  cases ha
  have h1 : (w.alloc (.cells cs.toArray e)).heap[w.heap.size]? = some (.cells cs.toArray e) := heap_alloc_new w _
  have h2 : (⟨w.heap.size, 0, none⟩ : Addr).add j = ⟨w.heap.size, j, none⟩ := by
    unfold Addr.add; split
    · rename_i h; subst h; rfl
    · simp
  rw [h2]
  simp only [World.cell?, h1]
  simpa using hj

theorem Rd.sub {w : World} {A : Option Addr} {n c size lo hi mx : Nat} {cs : List Value} (h : Rd w A n c size cs) (hlo : lo ≤ hi) (hhi : hi ≤ n) (hm : hi ≤ mx) (hmc : mx ≤ c) :
    Rd w (if mx = lo then A else A.map (·.add (lo * size))) (hi - lo) (mx - lo) size ((cs.drop (lo * size)).take ((hi - lo) * size)) := by
  refine ⟨?_, by omega, Nat.le_trans (by omega) h.cm, ?_, ?_⟩
  · rw [List.length_take, List.length_drop, h.len, ← Nat.sub_mul]
    exact Nat.min_eq_left (Nat.mul_le_mul_right _ (by omega))
  · intro ha
    split at ha
    · omega
    · cases A with
      | none => have := h.nil0 rfl; omega
      | some a => simp at ha
  · intro a ha j u hj
    rw [List.getElem?_take] at hj
    split at hj
    · rename_i hjl
      rw [List.getElem?_drop] at hj
      split at ha
      · exfalso; have : hi - lo = 0 := by omega
        rw [this] at hjl; simp at hjl
      · cases A with
        | none => simp at ha
        | some b =>
          simp at ha; subst ha
          rw [add_add]; exact h.cell b rfl _ u hj
    · cases hj

section
variable {P : Program} {t e : TypeId} {i : TypeInfo} {size : Nat} (ht : P.underlying t = some (.slice e)) (hi : P.info? e = some i) (hsz : i.size = size)
include ht hi hsz

/-- x[lo:hi] -/
theorem cut_lh (A : Option Addr) (n c : Nat) (kl kh : IntKind) (l h : Int) (lo hh : Nat) (hl : l = lo) (hhh : h = hh) (h1 : lo ≤ hh) (h2 : hh ≤ n) (h3 : n ≤ c) :
    ∃ A', (∀ W : World, (Instr.slice t (.slice A n c) (some (.int kl l)) (some (.int kh h)) none).run P W = .ok (.slice A' (hh - lo) (c - lo)) W) ∧
      ∀ (w : World) (cs : List Value), Rd w A n c size cs → Rd w A' (hh - lo) (c - lo) size ((cs.drop (lo * size)).take ((hh - lo) * size)) := by
  have hel : P.elem t = e := by simp [Program.elem, ht]
  have hu : P.underlying t = some (.slice (P.elem t)) := by rw [hel]; exact ht
  refine ⟨if c = lo then A else A.map (·.add (lo * size)), fun W => ?_, fun w cs hr => hr.sub h1 h2 (by omega) (Nat.le_refl _)⟩
  rw [run_slice_lh W t A n c hu kl kh l h (by omega) (by omega) (by omega), hel]
  simp [sizeOf, typeInfo, hi, hsz, sliced, Result.andThen, hl, hhh]

/-- x[lo:] -/
theorem cut_l (A : Option Addr) (n c : Nat) (kl : IntKind) (l : Int) (lo : Nat) (hl : l = lo) (h1 : lo ≤ n) (h3 : n ≤ c) :
    ∃ A', (∀ W : World, (Instr.slice t (.slice A n c) (some (.int kl l)) none none).run P W = .ok (.slice A' (n - lo) (c - lo)) W) ∧
      ∀ (w : World) (cs : List Value), Rd w A n c size cs → Rd w A' (n - lo) (c - lo) size ((cs.drop (lo * size)).take ((n - lo) * size)) := by
  have hel : P.elem t = e := by simp [Program.elem, ht]
  have hu : P.underlying t = some (.slice (P.elem t)) := by rw [hel]; exact ht
  refine ⟨if c = lo then A else A.map (·.add (lo * size)), fun W => ?_, fun w cs hr => hr.sub h1 (Nat.le_refl _) h3 (Nat.le_refl _)⟩
  rw [run_slice_l W t A n c hu kl l (by omega) (by omega), hel]
  simp [sizeOf, typeInfo, hi, hsz, sliced, Result.andThen, hl]

/-- x[:hi] -/
theorem cut_h (A : Option Addr) (n c : Nat) (kh : IntKind) (h : Int) (hh : Nat) (hhh : h = hh) (h2 : hh ≤ n) (h3 : n ≤ c) :
    (∀ W : World, (Instr.slice t (.slice A n c) none (some (.int kh h)) none).run P W = .ok (.slice A hh c) W) ∧
      ∀ (w : World) (cs : List Value), Rd w A n c size cs → Rd w A hh c size (cs.take (hh * size)) := by
  have hel : P.elem t = e := by simp [Program.elem, ht]
  have hu : P.underlying t = some (.slice (P.elem t)) := by rw [hel]; exact ht
  refine ⟨fun W => ?_, fun w cs hr => hr.take hh h2⟩
  rw [run_slice_h W t A n c hu kh h (by omega) (by omega), hel]
  have ha : (A.map fun x => x.add 0) = A := by cases A <;> simp [Addr.add]
  simp [sizeOf, typeInfo, hi, hsz, sliced, Result.andThen, hhh, ha]
end

/-- string(b) -/
theorem Rd.str {P : Program} {w : World} {A : Option Addr} {n c : Nat} {xs : List UInt8} (h : Rd w A n c 1 (bvs xs)) (src dst e : TypeId)
    (hs : P.underlying src = some (.slice e)) (he : P.underlying e = some (.int .u8)) (hd : P.underlying dst = some .string) :
    (convert src dst (.slice A n c)).run P w = .ok (.string ⟨xs.toArray⟩) w := by
  have hl : xs.length = n := by have := h.len; rw [bvs_len] at this; omega
  rcases A with _ | a
  · rw [run_convert_bytes_string w src dst e none n c hs he hd]
    have h0 := h.nil0 rfl
    have h1 := h.nc
    have : xs = [] := List.eq_nil_of_length_eq_zero (by omega)
    subst this
    unfold Conv.bytesToString
    simp [Sem.run_pure, ByteArray.empty, ByteArray.emptyWithCapacity]
    rfl
  · subst hl
    exact run_convert_bytes_back w src dst e a c xs hs he hd fun j hj => h.cell a rfl j _ (bvs_get xs j hj)

theorem Rd.new1 (w : World) (v : Value) (e : TypeId) : Rd (w.alloc (.cells #[v] e)) (some ⟨w.heap.size, 0, Option.none⟩) 1 1 1 [v] :=
  Rd.new w [v] e 1 1 rfl (by simp [maxLen])
end Go.Proofs.Ythaoibgcgkmnbaa
