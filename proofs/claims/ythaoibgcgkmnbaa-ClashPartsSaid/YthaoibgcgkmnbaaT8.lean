/- Walk of Check. -/
import Derived.Test.YthaoibgcgkmnbaaT7
namespace Go.Proofs.Ythaoibgcgkmnbaa
set_option maxRecDepth 100000
open Go.RowKit

/-- Node or swapped, as a value -/
def fnV (left : Bool) : Value := if left then .func (.func 33) #[] #[] else .func (.func 53) #[] #[]
theorem fnV_one (l : List Bool) : ∀ u ∈ l.map fnV, u.oneCell' = true := by
  intro u hu
  obtain ⟨b, _, rfl⟩ := List.mem_map.1 hu
  cases b <;> rfl
theorem infoFn : (Try.prog.info? 86).map (fun i => (i.zero, i.size, i.bytes)) = some (some .nilFunc, 1, 8) := by kernel_rfl
/-- the functions, in memory of the call's own -/
def OwnFs (base : Nat) (l : List Bool) (v : Value) (w : World) : Prop := w.ownsRow base 86 1 v l.length (l.map fnV)
theorem wpList_append_fs {ops : Array Oper} {rest : List Oper} {o : Oper} {a : Act} {w : World} {Q : Exit → Act → World → Prop} (hgd : o.guard = none) (s x : Operand)
    (ho : o.op = .call { callee := .builtin .append, args := #[s, x], argTypes := #[85, 85] }) {base : Nat} {l : List Bool} {v : Value} {b : Bool} {g : Nat}
    (hs : a.eval s = v) (hx : a.eval x = .slice (some ⟨g, 0, none⟩) 1 1) (h0 : OwnFs base l v w) (hg : w.cell? ⟨g, 0, none⟩ = some (fnV b)) (hl : l.length ≤ 1000000) (hb : base ≤ w.heap.size)
    (h : ∀ v' w', OwnFs base (l ++ [b]) v' w' → Below base w w' → wpList Try.prog ops Q rest (a.put o.dst v') w') : wpList Try.prog ops Q (o :: rest) a w := by
  obtain ⟨i0, hi, hz0, hz1, hz2⟩ := info_parts infoFn
  refine wpList_append_own_at w hgd s x _ ho base _ i0 _ 1 8 Try.underlying85 hi hz0 hz1 hz2 rfl (by omega) v l.length (l.map fnV) hs h0 ⟨g, 0, none⟩ 1 1 [fnV b] hx rfl
    (fun j u hj => by
      cases j with
      | zero => simp at hj; subst hj; rw [Addr.add_mid]; exact hg
      | succ j => simp at hj) (fnV_one [b]) (by simp [maxLen]; omega) (by omega) hb ?_
  intro v' w' h1 h2 _ _
  refine h v' w' ?_ ((Below.refl _ _).grown h2 hb fun k hk => (World.ownsRow.lt h0 k hk).1)
  unfold OwnFs
  rw [List.length_append, List.map_append]
  exact h1
theorem OwnFs.mono (base : Nat) (l : List Bool) : ∀ v w w', OwnFs base l v w → ExtW w w' → OwnFs base l v w' := fun _ _ _ h hb => own_extG h hb
theorem OwnFs.nil (base : Nat) (w : World) : OwnFs base [] (.slice none 0 0) w := ⟨rfl, .inl ⟨rfl, rfl⟩⟩
theorem OwnFs.form {base : Nat} {l : List Bool} {v : Value} {w : World} (h : OwnFs base l v w) : ∃ A c, v = .slice A l.length c ∧ Rd w A l.length c 1 (l.map fnV) := by
  obtain ⟨A, c, hv, hr, _⟩ := Rd.of_own h
  exact ⟨A, c, hv, hr⟩

namespace T
theorem downs_one {n i : Nat} (h : n ≤ 1) : downs n i = [] := by rw [downs, if_pos h]
theorem downs_lo {n i k : Nat} (h : 1 < n) (hk : k = half n) (hi : i < k) : downs n i = true :: downs k i := by rw [downs, if_neg (by omega), ← hk, if_pos hi]
theorem downs_hi {n i k : Nat} (h : 1 < n) (hk : k = half n) (hi : ¬ i < k) : downs n i = false :: downs (n - k) (i - k) := by rw [downs, if_neg (by omega), ← hk, if_neg hi]
theorem half_pow {n e : Nat} (h : 1 < n) (he : n ≤ 2 ^ e) : ∃ f, e = f + 1 ∧ half n ≤ 2 ^ f ∧ n - half n ≤ 2 ^ f := by
  have hh := half_lt (n := n) (by omega)
  have hp : half n = 2 ^ Nat.log2 (n - 1) := by unfold half; rw [if_neg (by omega)]
  have h1 : 2 ^ Nat.log2 (n - 1) < 2 ^ e := by rw [← hp]; omega
  have h2 : Nat.log2 (n - 1) < e := (Nat.pow_lt_pow_iff_right (by decide)).1 h1
  obtain ⟨f, rfl⟩ : ∃ f, e = f + 1 := ⟨e - 1, by omega⟩
  have h3 : half n ≤ 2 ^ f := by rw [hp]; exact Nat.pow_le_pow_right (by decide) (by omega)
  exact ⟨f, rfl, h3, by omega⟩
theorem downs_len {n i e : Nat} (he : n ≤ 2 ^ e) : (downs n i).length ≤ e := by
  induction n, i using downs.induct generalizing e with
  | case1 n i h => rw [downs_one h]; exact Nat.zero_le _
  | case2 n i h h2 ih =>
    obtain ⟨f, rfl, h3, h4⟩ := half_pow (by omega) he
    rw [downs_lo (by omega) rfl h2]
    have := ih h3
    simp; omega
  | case3 n i h h2 ih =>
    obtain ⟨f, rfl, h3, h4⟩ := half_pow (by omega) he
    rw [downs_hi (by omega) rfl h2]
    have := ih h4
    simp; omega
/-- does Check take these? -/
def takesD (B : Nat) (root : List UInt8) (n i : Nat) (leaf : List UInt8) (path : List (List UInt8)) : Bool :=
  decide (path.length = (downs n i).length) && decide (climb B (downs n i).reverse path (leafD B leaf) = root)
theorem stepD_len {B : Nat} {b : Bool} {d y : List UInt8} : (stepD B b d y).length = 32 := by unfold stepD; split <;> exact nodeD_len _ _ _
theorem climb_len (B : Nat) : ∀ (bs : List Bool) (xs : List (List UInt8)) (d : List UInt8), d.length = 32 → (climb B bs xs d).length = 32
  | [], xs, d, h => by rw [climb]; exact h; simp
  | b :: bs, [], d, h => by rw [climb]; exact h; simp
  | b :: bs, x :: xs, d, _ => by rw [climb]; exact climb_len B bs xs _ stepD_len
theorem climb_snoc (B : Nat) : ∀ (bs : List Bool) (xs : List (List UInt8)) (d : List UInt8) (b : Bool) (y : List UInt8), bs.length = xs.length → climb B (bs ++ [b]) (xs ++ [y]) d = stepD B b (climb B bs xs d) y
  | [], [], d, b, y, _ => by simp [climb]
  | [], x :: xs, d, b, y, h => by simp at h
  | a :: bs, [], d, b, y, h => by simp at h
  | a :: bs, x :: xs, d, b, y, h => by
    rw [List.cons_append, List.cons_append, climb, climb, climb_snoc B bs xs _ b y (by simpa using h)]
/-- the first t steps upwards -/
def upD (B : Nat) (ups : List Bool) (path : List (List UInt8)) (leaf : List UInt8) (t : Nat) : List UInt8 := climb B (ups.reverse.take t) (path.take t) (leafD B leaf)
theorem upD_len (B : Nat) (ups : List Bool) (path : List (List UInt8)) (leaf : List UInt8) (t : Nat) : (upD B ups path leaf t).length = 32 := climb_len B _ _ _ (leafD_len _ _)
theorem upD_zero (B : Nat) (ups : List Bool) (path : List (List UInt8)) (leaf : List UInt8) : upD B ups path leaf 0 = leafD B leaf := by unfold upD; rw [List.take_zero, List.take_zero]; simp [climb]
theorem upD_succ (B : Nat) {ups : List Bool} {path : List (List UInt8)} (leaf : List UInt8) {t : Nat} {b : Bool} {y : List UInt8} (hl : path.length = ups.length) (ht : t < ups.length) (hb : ups[ups.length - 1 - t]? = some b) (hy : path[t]? = some y) :
    upD B ups path leaf (t + 1) = stepD B b (upD B ups path leaf t) y := by
  unfold upD
  have h1 : ups.reverse.take (t + 1) = ups.reverse.take t ++ [b] := by rw [List.take_add_one, List.getElem?_reverse ht, hb]; rfl
  have h2 : path.take (t + 1) = path.take t ++ [y] := by rw [List.take_add_one, hy]; rfl
  rw [h1, h2, climb_snoc]
  rw [List.length_take, List.length_take, List.length_reverse]; omega
theorem upD_all (B : Nat) {ups : List Bool} {path : List (List UInt8)} (leaf : List UInt8) (hl : path.length = ups.length) : upD B ups path leaf ups.length = climb B ups.reverse path (leafD B leaf) := by
  unfold upD
  rw [List.take_of_length_le (by rw [List.length_reverse]; exact Nat.le_refl _), List.take_of_length_le (by omega)]
end T

set_option maxHeartbeats 4000000 in
set_option maxRecDepth 100000 in
theorem mcheck_no (x : Int) (root : List UInt8) (_hr : root.length = 32) (count i : Int) (vl vp : Value) (w : World) (h : i < 0 ∨ count ≤ i) :
    Calls Try.prog 23 #[.agg #[.int .i64 x], dgV root, .int .i64 count, .int .i64 i, vl, vp] w fun e w' => e = .returned (.bool false) ∧ ExtW w w' := by
  have HE0 : Hid (ExtW w ((w.alloc (.cells #[.int .i64 x] 30)).alloc (.cells (bvs root).toArray 45))) := Lib.hid (((Below.refl _ _).alloc (Nat.le_refl _) _).alloc (by simp) _)
  have hc : i < 0 ∨ (¬ i < 0 ∧ count ≤ i ∧ ¬ i < count) := by omega
  clear h
  unfold dgV
  rcases hc with h1 | ⟨h1, h2, h3⟩
  all_goals
    go_enter Try.func23, Try.ntmps23
    go_wp2
    go_ret
    exact ⟨rfl, HE0.out⟩

set_option maxHeartbeats 4000000 in
set_option maxRecDepth 100000 in
theorem mcheck_in (x : Int) (hx : -9223372036854775808 ≤ x ∧ x ≤ 9223372036854775807) (root : List UInt8) (hroot : root.length = 32) (cn j0 : Nat) (hj0 : j0 < cn) (hcn : cn < 9223372036854775808)
    (LA : Option Addr) (ln lc : Nat) (leaf : List UInt8) (PA : Option Addr) (pn pc : Nat) (path : List (List UInt8)) (w : World) (hl : Rd w LA ln lc 1 (bvs leaf)) (hln : ln ≤ 1000000) (hp : Dls w PA pn pc path) :
    Calls Try.prog 23 #[.agg #[.int .i64 x], dgV root, .int .i64 (cn : Int), .int .i64 (j0 : Int), .slice LA ln lc, .slice PA pn pc] w fun e w' => e = .returned (.bool (T.takesD (bitsN x) root cn j0 leaf path)) ∧ ExtW w w' := by
  have HX := Lib.hid hx
  have HRL := Lib.hid hroot
  have HL := Lib.hid hl
  have HP := Lib.hid hp
  have HPN := Lib.hid hp.len
  have hpm : pn ≤ 9223372036854775807 := by have h1 := hp.rd.nc; have h2 := hp.rd.cm; unfold maxLen at h2; omega
  clear hl hp hx hroot
  have h1 : decide ((j0 : Int) < 0) = false := by rw [decide_eq_false_iff_not]; omega
  have h2 : decide (cn ≤ j0) = false := by rw [decide_eq_false_iff_not]; omega
  unfold dgV
  have HB0 := Lib.hid (cell_new1 w (.int .i64 x) 30)
  have HE0 : Hid (ExtW w (w.alloc (.cells #[.int .i64 x] 30))) := Lib.hid ((Below.refl _ _).alloc (Nat.le_refl _) _)
  go_enter Try.func23, Try.ntmps23
  go_upto_region 1 with (fail)
  have HA : Hid ((w.alloc (.cells #[.int .i64 x] 30)).heap.size = w.heap.size + 1) := Lib.hid (by simp)
  generalize w.alloc (.cells #[.int .i64 x] 30) = w1 at HB0 HE0 HA ⊢
  have HR1 : Hid (Row (w1.alloc (.cells (bvs root).toArray 45)) (w.heap.size + 1) 45 (bvs root)) := Lib.hid (by rw [← HA.out]; exact heap_alloc_last _ _)
  have HE1 : Hid (ExtW w1 (w1.alloc (.cells (bvs root).toArray 45))) := Lib.hid ((Below.refl _ _).alloc (Nat.le_refl _) _)
  generalize w1.alloc (.cells (bvs root).toArray 45) = w2 at HR1 HE1 ⊢
  have HB2 := Lib.hid (HE1.out.cellAt HB0.out)
  have HE2 := Lib.hid (ExtW.trans HE0.out HE1.out)
  obtain ⟨gb, hgb⟩ : ∃ g, g = w.heap.size := ⟨_, rfl⟩
  obtain ⟨gr, hgr⟩ : ∃ g, g = w.heap.size + 1 := ⟨_, rfl⟩
  rw [← hgb] at HB2
  rw [← hgr] at HR1
  rw [← hgr, ← hgb]
  clear hgb hgr HB0 HE0 HE1 HA
  go_upto_block 0 with (fail)
  go_wp2_with fail
  go_loopw [2, 3, 13] (fun cv iv uv wr => ∃ (m j : Nat) (ups : List Bool), cv = .int .i64 m ∧ iv = .int .i64 j ∧ Hid (OwnFs w2.heap.size ups uv wr) ∧ m ≤ cn ∧ j < m ∧ Hid (T.downs cn j0 = ups ++ T.downs m j) ∧ Hid (∃ e, m ≤ 2 ^ e ∧ e + ups.length ≤ 63) ∧ Hid (ExtW w2 wr)) (fun cv _ _ _ => (intOf cv).toNat)
  case atStart => exact ⟨cn, j0, [], rfl, rfl, Lib.hid (OwnFs.nil _ _), Nat.le_refl _, hj0, Lib.hid rfl, Lib.hid ⟨63, by omega, by simp⟩, Lib.hid (ExtW.refl _)⟩
  case round =>
    obtain ⟨m, j, ups, rfl, rfl, HU, hmc, hjm, HD, HLG, HEW⟩ := hrel
    by_cases hm : 1 < m
    · have hmi : (1 : Int) < (m : Int) := by omega
      obtain ⟨k, hk⟩ : ∃ k, k = T.half m := ⟨_, rfl⟩
      have hhl := T.half_lt (n := m) (by omega)
      have HPW : Hid (∃ e, k ≤ 2 ^ e ∧ m - k ≤ 2 ^ e ∧ e + (ups.length + 1) ≤ 63) := Lib.hid (by
        obtain ⟨e, h3, h4⟩ := HLG.out
        obtain ⟨f, rfl, h5, h6⟩ := T.half_pow hm h3
        exact ⟨f, by rw [hk]; exact h5, by rw [hk]; exact h6, by omega⟩)
      have HUL : Hid (ups.length ≤ 1000000) := Lib.hid (by obtain ⟨e, _, h4⟩ := HLG.out; omega)
      rw [← hk] at hhl
      have HK := Lib.hid hk
      clear hk
      go_wp2_with fail
      refine (half_any m _ ⟨by omega, by omega⟩).mono ?_
      rintro e we ⟨rfl, rfl⟩
      rw [← HK.out]
      by_cases hjk : j < k
      · have hjki : (j : Int) < (k : Int) := by omega
        have HN := Lib.hid (T.downs_lo hm HK.out hjk)
        have HC : Hid ((we.alloc (.cells #[fnV true] 86)).cell? ⟨we.heap.size, 0, none⟩ = some (fnV true)) := Lib.hid (cell_new1 _ _ _)
        have HEA : Hid (ExtW we (we.alloc (.cells #[fnV true] 86))) := Lib.hid ((Below.refl _ _).alloc (Nat.le_refl _) _)
        have hfn : fnV true = .func (.func 33) #[] #[] := rfl
        rw [hfn] at HC HEA
        clear hfn
        go_wp2_with (at_builtin; generalize we.alloc (.cells #[.func (.func 33) #[] #[]] 86) = wa at HC HEA ⊢; refine wpList_append_fs (b := true) rfl _ _ rfl rfl rfl (OwnFs.mono _ _ _ _ _ HU.out HEA.out) HC.out HUL.out (ExtW.trans HEW.out HEA.out).size ?_; intro v' w' ho' hb'; have HO' := Lib.hid ho'; have HE' := Lib.hid (Below.trans (ExtW.trans HEW.out HEA.out) hb'); clear ho' hb')
        go_roundw
        case rel => exact ⟨k, j, ups ++ [true], rfl, rfl, HO', by omega, hjk, Lib.hid (by rw [HD.out, HN.out, List.append_assoc]; rfl), Lib.hid (by obtain ⟨e, h3, _, h5⟩ := HPW.out; exact ⟨e, h3, by rw [List.length_append]; exact h5⟩), HE'⟩
        case measure => simp [intOf]; omega
      · have hjki : ¬ (j : Int) < (k : Int) := by omega
        have HN := Lib.hid (T.downs_hi hm HK.out hjk)
        have HC : Hid ((we.alloc (.cells #[fnV false] 86)).cell? ⟨we.heap.size, 0, none⟩ = some (fnV false)) := Lib.hid (cell_new1 _ _ _)
        have HEA : Hid (ExtW we (we.alloc (.cells #[fnV false] 86))) := Lib.hid ((Below.refl _ _).alloc (Nat.le_refl _) _)
        have hfn : fnV false = .func (.func 53) #[] #[] := rfl
        rw [hfn] at HC HEA
        clear hfn
        go_wp2_with (at_builtin; generalize we.alloc (.cells #[.func (.func 53) #[] #[]] 86) = wa at HC HEA ⊢; refine wpList_append_fs (b := false) rfl _ _ rfl rfl rfl (OwnFs.mono _ _ _ _ _ HU.out HEA.out) HC.out HUL.out (ExtW.trans HEW.out HEA.out).size ?_; intro v' w' ho' hb'; have HO' := Lib.hid ho'; have HE' := Lib.hid (Below.trans (ExtW.trans HEW.out HEA.out) hb'); clear ho' hb')
        go_roundw
        case rel => exact ⟨m - k, j - k, ups ++ [false], by apply int_eq; omega, by apply int_eq; omega, HO', by omega, by omega, Lib.hid (by rw [HD.out, HN.out, List.append_assoc]; rfl), Lib.hid (by obtain ⟨e, _, h4, h5⟩ := HPW.out; exact ⟨e, h4, by rw [List.length_append]; exact h5⟩), HE'⟩
        case measure => simp [intOf]; omega
    · have hmi : ¬ (1 : Int) < (m : Int) := by omega
      have HUP : Hid (T.downs cn j0 = ups) := Lib.hid (by rw [HD.out, T.downs_one (by omega), List.append_nil])
      obtain ⟨e, he1, he2⟩ := HLG.out
      obtain ⟨UA, uc, rfl, hur⟩ := HU.out.form
      have HUR := Lib.hid hur
      have huc := hur.nc
      obtain ⟨un, hun⟩ : ∃ n, n = ups.length := ⟨_, rfl⟩
      have hunb : un ≤ 63 := by omega
      rw [← hun] at HUR
      rw [← hun]
      have HUN := Lib.hid hun
      clear hur huc he1 he2 hun HU HD HLG
      by_cases hlen : pn = un
      · have hli : ((pn : Int) == (un : Int)) = true := by rw [beq_iff_eq]; omega
        have hli2 : ((pn : Int) != (un : Int)) = false := by rw [bne_eq_false_iff_eq]; omega
        have HLE := Lib.hid hlen
        clear hlen
        have k7 := HEW.out.cellAt HB2.out
        go_wp2_with fail
        refine (leaf_any x LA ln lc leaf _ (HL.out.below (ExtW.trans HE2.out HEW.out) (Nat.le_refl _)) (by omega) HX.out).mono ?_
        rintro e w4 ⟨rfl, hb⟩
        have HE4 := Lib.hid (ExtW.trans HEW.out hb)
        have HS0 : Hid ((bvs (T.leafD (bitsN x) leaf)).toArray.size = 32) := Lib.hid (dg_size (T.leafD_len _ _))
        have HUR4 := Lib.hid (HUR.out.below hb (Nat.le_refl _))
        have HB4 := Lib.hid (HE4.out.cellAt HB2.out)
        have HR4 := Lib.hid (HR1.out.ext HE4.out)
        have HP4 := Lib.hid (HP.out.same (ExtW.trans HE2.out HE4.out))
        clear hb k7 HUR HEW HP
        unfold dgV
        go_upto_region 12 with (first
          | (refine wpList_newD rfl rfl ?_)
          | (refine wpList_st rfl rfl ?_; refine ⟨w4.heap.size, _, _, _, rfl, rfl, zDig_row w4, by rw [HS0.out]; kernel_rfl, Eq.trans (show (bvs (List.replicate 32 0)).toArray.size = 32 from rfl) HS0.out.symm, dg_one _, ?_⟩))
        have HY0 : Hid (Row ((w4.alloc (.cells zDig 45)).setRow w4.heap.size (bvs (T.leafD (bitsN x) leaf)).toArray) w4.heap.size 45 (bvs (T.leafD (bitsN x) leaf))) := Lib.hid ((zDig_row w4).setRow _)
        have HE5 : Hid (ExtW w4 ((w4.alloc (.cells zDig 45)).setRow w4.heap.size (bvs (T.leafD (bitsN x) leaf)).toArray)) := Lib.hid (below_setRow ((Below.refl _ _).alloc (Nat.le_refl _) _) (Nat.le_refl _) _)
        generalize (w4.alloc (.cells zDig 45)).setRow w4.heap.size (bvs (T.leafD (bitsN x) leaf)).toArray = w5 at HY0 HE5 ⊢
        obtain ⟨gd, hgd⟩ : ∃ g, g = w4.heap.size := ⟨_, rfl⟩
        rw [← hgd] at HY0 ⊢
        have HGD : Hid (gd = w4.heap.size) := Lib.hid hgd
        rw [← T.upD_zero (bitsN x) ups path leaf] at HY0
        clear hgd
        have hpn : pn = un := HLE.out
        subst hpn
        go_upto_region 13 with (fail)
        go_wp2_with fail
        go_loopw [55] (fun iv wr => ∃ t : Nat, iv = .int .i64 t ∧ t ≤ pn ∧ Hid (Row wr gd 45 (bvs (T.upD (bitsN x) ups path leaf t))) ∧ Hid (Below gd w4 wr)) (fun iv _ => pn - (intOf iv).toNat)
        case atStart => exact ⟨0, rfl, Nat.zero_le _, HY0, Lib.hid (by rw [HGD.out]; exact HE5.out)⟩
        case round =>
          obtain ⟨t, rfl, htn, HY, HB⟩ := hrel
          by_cases hlt : t < pn
          · have hti : (t : Int) < (pn : Int) := by omega
            have HBE : Hid (ExtW w4 wr) := Lib.hid (by have h := HB.out; rw [HGD.out] at h; exact h)
            obtain ⟨y, hy⟩ : ∃ y, path[t]? = some y := ⟨_, List.getElem?_eq_getElem (by rw [HPN.out]; exact hlt)⟩
            have hyl : y.length = 32 := HP4.out.all y (List.mem_of_getElem? hy)
            obtain ⟨bt, hbt⟩ : ∃ bt, ups[pn - 1 - t]? = some bt := ⟨_, List.getElem?_eq_getElem (by rw [← HUN.out]; omega)⟩
            have HUS := Lib.hid (T.upD_succ (bitsN x) (ups := ups) (path := path) leaf (t := t) (b := bt) (y := y) (by rw [HPN.out, ← HUN.out]) (by rw [← HUN.out]; exact hlt) (by rw [← HUN.out]; exact hbt) hy)
            cases hPA : PA with
            | none => have h3 := HP4.out.rd.nil0 hPA; have h4 := HP4.out.rd.nc; omega
            | some pa =>
            cases hUA : UA with
            | none => have h3 := HUR4.out.nil0 hUA; have h4 := HUR4.out.nc; omega
            | some ua =>
            subst hPA hUA
            have hld := (HP4.out.same HBE.out).load hy
            have HUC : Hid (w4.cell? (ua.add (pn - 1 - t)) = some (fnV bt)) := Lib.hid (HUR4.out.cell ua rfl _ _ (by rw [List.getElem?_map, hbt]; rfl))
            have HYS : Hid ((bvs y).toArray.size = 32) := Lib.hid (dg_size hyl)
            have HYL := Lib.hid hyl
            clear hy hbt hyl
            go_upto_region 15 with (first
              | (refine wpList_ldA rfl (by rfl) rfl hld ?_; unfold dgV)
              | (refine wpList_newD rfl rfl ?_)
              | (refine wpList_st rfl rfl ?_; refine ⟨wr.heap.size, _, _, _, rfl, rfl, zDig_row wr, by rw [HYS.out]; kernel_rfl, Eq.trans (show (bvs (List.replicate 32 0)).toArray.size = 32 from rfl) HYS.out.symm, dg_one _, ?_⟩))
            have HY1 : Hid (Row ((wr.alloc (.cells zDig 45)).setRow wr.heap.size (bvs y).toArray) wr.heap.size 45 (bvs y)) := Lib.hid ((zDig_row wr).setRow _)
            have HE6 : Hid (ExtW wr ((wr.alloc (.cells zDig 45)).setRow wr.heap.size (bvs y).toArray)) := Lib.hid (below_setRow ((Below.refl _ _).alloc (Nat.le_refl _) _) (Nat.le_refl _) _)
            generalize (wr.alloc (.cells zDig 45)).setRow wr.heap.size (bvs y).toArray = w6 at HY1 HE6 ⊢
            have HYD := Lib.hid (HY.out.ext HE6.out)
            have HE7 := Lib.hid (ExtW.trans HBE.out HE6.out)
            have HB7 : Hid (Below gd w4 w6) := Lib.hid (Below.trans HB.out (HE6.out.mono (by rw [HGD.out]; exact HBE.out.size)))
            have HUC7 := Lib.hid (HE7.out.cellAt HUC.out)
            have HB8 := Lib.hid (HE7.out.cellAt HB4.out)
            obtain ⟨gy, hgy⟩ : ∃ g, g = wr.heap.size := ⟨_, rfl⟩
            rw [← hgy] at HY1 ⊢
            obtain ⟨dt, hdt⟩ : ∃ d, d = T.upD (bitsN x) ups path leaf t := ⟨_, rfl⟩
            have HDL : Hid (dt.length = 32) := Lib.hid (by rw [hdt]; exact T.upD_len _ _ _ _ _)
            rw [← hdt] at HYD HUS
            clear hgy hld hdt HUC HE6 HY HB HBE HE7
            have hpt : pn - 1 - t < pn := by omega
            cases bt
            all_goals
              apply wp_region_ext_tail 12 _ (by kernel_rfl) (by kernel_rfl)
              simp only [List.take_succ_cons, List.take_zero, List.drop_succ_cons, List.drop_zero]
              iterate 3 (apply wpZ_det; (intro wq hE hG; first | exact obl_non (by rfl) | (apply obl_val (by rfl); go_simp; rfl)); (intro ak hak; simp only [Act.put, List.setIfInBounds_toArray, List.set_cons_succ, List.set_cons_zero] at hak; subst hak))
              (apply wpZ_det (c := .int .i64 ((pn - 1 : Nat) : Int)); (intro wq hE hG; exact obl_same (by rfl) (by go_simp; rfl) (by first | rfl | (apply int_eq; omega) | (apply int_eq; rw [IntWalk.i64_in _ (by omega)]; omega) | (apply int_eq; simp; omega))); (intro ak hak; simp only [Act.put, List.setIfInBounds_toArray, List.set_cons_succ, List.set_cons_zero] at hak; subst hak))
              (apply wpZ_det; (intro wq hE hG; first | exact obl_non (by rfl) | (apply obl_val (by rfl); go_simp; rfl)); (intro ak hak; simp only [Act.put, List.setIfInBounds_toArray, List.set_cons_succ, List.set_cons_zero] at hak; subst hak))
              (apply wpZ_det (c := .int .i64 ((pn - 1 - t : Nat) : Int)); (intro wq hE hG; exact obl_same (by rfl) (by go_simp; rfl) (by first | rfl | (apply int_eq; omega) | (apply int_eq; rw [IntWalk.i64_in _ (by omega)]; omega) | (apply int_eq; simp; omega))); (intro ak hak; simp only [Act.put, List.setIfInBounds_toArray, List.set_cons_succ, List.set_cons_zero] at hak; subst hak))
              (apply wpZ_det; (intro wq hE hG; first | exact obl_non (by rfl) | (apply obl_val (by rfl); go_simp; rfl)); (intro ak hak; simp only [Act.put, List.setIfInBounds_toArray, List.set_cons_succ, List.set_cons_zero] at hak; subst hak))
              (apply wpZ_det; (intro wq hE hG; have kk := (ExtW.of_drew hE).cellAt HUC7.out; unfold fnV at kk; simp only [if_true, Bool.false_eq_true, if_false] at kk; apply obl_val (by rfl); go_simp; rfl); (intro ak hak; simp only [Act.put, List.setIfInBounds_toArray, List.set_cons_succ, List.set_cons_zero] at hak; subst hak))
              (apply wpZ_det; (intro wq hE hG; have kk := (ExtW.of_drew hE).cellAt HB8.out; apply obl_val (by rfl); go_simp; rfl); (intro ak hak; simp only [Act.put, List.setIfInBounds_toArray, List.set_cons_succ, List.set_cons_zero] at hak; subst hak))
              (apply wpZ_det; (intro wq hE hG; exact obl_ldg (by rfl) rfl (by rfl) (HYD.out.ext (ExtW.of_drew hE)) Try.underlying45 rfl (sizeD HDL.out)); (intro ak hak; simp only [Act.put, List.setIfInBounds_toArray, List.set_cons_succ, List.set_cons_zero] at hak; subst hak))
              (apply wpZ_det; (intro wq hE hG; exact obl_ldg (by rfl) rfl (by rfl) (HY1.out.ext (ExtW.of_drew hE)) Try.underlying45 rfl (sizeD HYL.out)); (intro ak hak; simp only [Act.put, List.setIfInBounds_toArray, List.set_cons_succ, List.set_cons_zero] at hak; subst hak))
              (apply wpZ_det; (intro wq hE hG; apply obl_on (by kernel_rfl); go_simp; simp only [extUpon_enter]; (first | refine (node_any x dt y _ HDL.out HYL.out HX.out).mono ?_ | refine (swapped_any x dt y _ HDL.out HYL.out HX.out).mono ?_); rintro e w' ⟨rfl, hb⟩; exact ⟨_, rfl, hb, rfl⟩); (intro ak hak; simp only [Act.put, List.setIfInBounds_toArray, List.set_cons_succ, List.set_cons_zero] at hak; subst hak))
              (apply wpZ_nil; intro wq hE hG)
              have HYQ := Lib.hid (HYD.out.ext (ExtW.of_drew hE))
              have HBQ : Hid (Below gd w4 wq) := Lib.hid (Below.trans HB7.out ((ExtW.of_drew hE).mono (Nat.le_of_lt HYD.out.lt)))
              clear hE hG
              have HUE := HUS.out
              unfold T.stepD at HUE
              simp only [if_true, Bool.false_eq_true, if_false] at HUE
              obtain ⟨dn, hdn⟩ : ∃ d, d = T.upD (bitsN x) ups path leaf (t + 1) := ⟨_, rfl⟩
              rw [← hdn] at HUE
              rw [← HUE]
              have HS : Hid ((bvs dn).toArray.size = 32) := Lib.hid (dg_size (by rw [hdn]; exact T.upD_len _ _ _ _ _))
              have HDN := Lib.hid hdn
              have HDS : Hid ((bvs dt).toArray.size = 32) := Lib.hid (dg_size HDL.out)
              clear HUE hdn
              unfold dgV
              go_wp2_with (refine wpList_st rfl rfl ?_; refine ⟨gd, _, _, _, rfl, rfl, HYQ.out, by rw [HS.out]; kernel_rfl, HDS.out.trans HS.out.symm, dg_one _, ?_⟩)
              go_roundw
              case rel => exact ⟨t + 1, by simp, hlt, Lib.hid (by rw [← HDN.out]; exact HYQ.out.setRow _), Lib.hid (below_setRow HBQ.out (Nat.le_refl _) _)⟩
              case measure => simp [intOf]; omega
          · obtain rfl : t = pn := by omega
            have HFIN := Lib.hid (T.upD_all (bitsN x) (ups := ups) (path := path) leaf (by rw [HPN.out, ← HUN.out]))
            rw [← HUN.out] at HFIN
            have HBE : Hid (ExtW w4 wr) := Lib.hid (by have h := HB.out; rw [HGD.out] at h; exact h)
            have HRR := Lib.hid (HR4.out.ext HBE.out)
            obtain ⟨dt, hdt⟩ : ∃ d, d = T.upD (bitsN x) ups path leaf t := ⟨_, rfl⟩
            have hdl : dt.length = 32 := by rw [hdt]; exact T.upD_len _ _ _ _ _
            rw [← hdt] at HY HFIN
            have HSD : Hid ((bvs dt).toArray.size = 32) := Lib.hid (dg_size hdl)
            have HSR : Hid ((bvs root).toArray.size = 32) := Lib.hid (dg_size HRL.out)
            have heq := eq_dg dt root hdl HRL.out
            have HRES : Hid (T.takesD (bitsN x) root cn j0 leaf path = decide (dt = root)) := Lib.hid (by unfold T.takesD; rw [HUP.out, HPN.out, ← HUN.out, ← HFIN.out]; simp)
            have HEE := Lib.hid (ExtW.trans HE2.out (ExtW.trans HE4.out HBE.out))
            clear hdt hdl
            go_wp2_with (refine wpList_ld rfl rfl ?_; first | refine ⟨gd, _, _, _, rfl, HY.out, Try.underlying45, rfl, by rw [HSD.out]; kernel_rfl, ?_⟩ | refine ⟨gr, _, _, _, rfl, HRR.out, Try.underlying45, rfl, by rw [HSR.out]; kernel_rfl, ?_⟩)
            go_ret
            exact ⟨by rw [HRES.out]; rfl, HEE.out⟩
      · have hli : ((pn : Int) == (un : Int)) = false := by rw [beq_eq_false_iff_ne]; omega
        have hli2 : ((pn : Int) != (un : Int)) = true := by rw [bne_iff_ne]; omega
        have HF : Hid (T.takesD (bitsN x) root cn j0 leaf path = false) := Lib.hid (by unfold T.takesD; rw [HUP.out, HPN.out, ← HUN.out, decide_eq_false hlen]; rfl)
        go_wp2
        go_ret
        exact ⟨by rw [HF.out]; rfl, ExtW.trans HE2.out HEW.out⟩
end Go.Proofs.Ythaoibgcgkmnbaa
