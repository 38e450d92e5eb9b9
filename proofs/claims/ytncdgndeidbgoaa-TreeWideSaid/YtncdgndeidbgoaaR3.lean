/- Walks of the document's Path, beside, Range. -/
import Derived.Test.YtncdgndeidbgoaaR2
namespace Go.Proofs.Ytncdgndeidbgoaa
open Go.RowKit

theorem OwnDs.empty (w : World) (base : Nat) (hb : base ≤ w.heap.size) : OwnDs base [] (.slice (some ⟨w.heap.size, 0, none⟩) 0 0) (w.alloc (.cells #[] 24)) :=
  ⟨rfl, .inr ⟨w.heap.size, 0, #[], rfl, hb, heap_alloc_new w _, Nat.le_refl _, by simp [maxLen], rfl, rfl⟩⟩
/-- digests appended to a list of the call's own -/
theorem wpList_append_dls {ops : Array Oper} {rest : List Oper} {o : Oper} {a : Act} {w : World} {Q : Exit → Act → World → Prop} (hgd : o.guard = none) (s x : Operand)
    (ho : o.op = .call { callee := .builtin .append, args := #[s, x], argTypes := #[40, 40] }) {base : Nat} {l : List (List UInt8)} {v : Value} {A : Option Addr} {m c : Nat} {ds : List (List UInt8)}
    (hs : a.eval s = v) (hx : a.eval x = .slice A m c) (h0 : OwnDs base l v w) (hd : Dls w A m c ds) (hl : l.length + m ≤ 1000000) (hb : base ≤ w.heap.size)
    (h : ∀ v' w', OwnDs base (l ++ ds) v' w' → Below base w w' → wpList Try.prog ops Q rest (a.put o.dst v') w') : wpList Try.prog ops Q (o :: rest) a w := by
  obtain ⟨i0, hi, hz0, hz1, hz2⟩ := info_parts infoD
  refine wpList_append_appd w hgd s x 40 ho base 24 i0 _ 32 32 Try.underlying40 hi hz0 hz1 hz2 rfl (by omega) v l.length (dcs l) hs (.inr h0) A m c (dcs ds) hx hd.rd (dcs_one _) (by simp [maxLen]; omega) (by omega) hb (.inl h0) ?_
  intro v' w' h1 h2 _
  refine h v' w' ?_ h2
  unfold OwnDs
  rw [dcs_app, List.length_append, hd.len]
  exact h1
theorem OwnDs.one (w : World) (d : List UInt8) (hd : d.length = 32) (base : Nat) (hb : base ≤ w.heap.size) : OwnDs base [d] (.slice (some ⟨w.heap.size, 0, none⟩) 1 1) (w.alloc (.cells (bvs d).toArray 24)) := by
  have e : dcs [d] = bvs d := by simp [dcs]
  unfold OwnDs
  rw [e]
  refine ⟨by rw [bvs_len, hd]; rfl, .inr ⟨w.heap.size, 1, (bvs d).toArray, rfl, hb, heap_alloc_new w _, Nat.le_refl _, by simp [maxLen], dg_size hd, ?_⟩⟩
  simp only [List.length_cons, List.length_nil]
  exact List.take_of_length_le (by rw [bvs_len, hd]; exact Nat.le_refl _)

set_option maxHeartbeats 4000000 in
set_option maxRecDepth 100000 in
theorem rpath_ok (x : Int) (hx : -9223372036854775808 ≤ x ∧ x ≤ 9223372036854775807) : ∀ (N : Nat) (A : Option Addr) (n c : Nat) (l : List (List UInt8)) (i : Nat) (w : World), n < N → n ≤ 1000000 → i < n → Sts w A n c l → Lv l →
    Calls Try.prog 27 #[.int .i64 x, .slice A n c, .int .i64 (i : Int)] w fun e w' => ∃ v, e = .returned (.tuple #[v, .int .i64 0]) ∧ OwnDs w.heap.size (T.pathD (bitsN x) l i) v w' ∧ ExtW w w' := by
  have HX := Lib.hid hx
  clear hx
  intro N
  induction N with
  | zero => intro A n c l i w h; omega
  | succ N ih =>
    intro A n c l i w hnN hnb hin hr hlv
    have hnc := hr.2.nc
    have HR := Lib.hid hr
    have HV := Lib.hid hlv
    have HLN := Lib.hid hr.1
    clear hr hlv
    have h1 : (0 : Int) ≤ (i : Int) := by omega
    have h2 : (i : Int) < (n : Int) := by omega
    go_enter Try.func27, Try.ntmps27
    go_upto_region 4 with (fail)
    have HO0 : Hid (OwnDs w.heap.size [] (.slice (some ⟨w.heap.size, 0, none⟩) 0 0) (w.alloc (.cells #[] 24))) := Lib.hid (OwnDs.empty w _ (Nat.le_refl _))
    have HE0 : Hid (ExtW w (w.alloc (.cells #[] 24))) := Lib.hid ((Below.refl _ _).alloc (Nat.le_refl _) _)
    generalize w.alloc (.cells #[] 24) = w1 at HO0 HE0 ⊢
    have HR2 := Lib.hid (HR.out.same HE0.out)
    by_cases h1n : n = 1
    · subst h1n
      have HP := Lib.hid (T.pathD_one (bitsN x) HLN.out i)
      go_wp2_with fail
      go_ret2
      exact ⟨_, rfl, by rw [HP.out]; exact HO0.out, HE0.out⟩
    have h2n : 2 ≤ n := by omega
    have hne1 : ((n : Int) == 1) = false := by rw [beq_eq_false_iff_ne]; omega
    obtain ⟨k, hk⟩ : ∃ k, k = T.half n := ⟨_, rfl⟩
    have hhl := T.half_lt h2n
    rw [← hk] at hhl
    have HK := Lib.hid hk
    clear hk HO0
    go_wp2_with fail
    refine (rhalf_any n _ ⟨by omega, by omega⟩).mono ?_
    rintro e we ⟨rfl, rfl⟩
    rw [← HK.out]
    have hcl : k ≤ n := by omega
    have hrt := run_takeT A n c k hcl hnc
    have hrd := run_dropT A n c k hcl hnc
    have HBT := Lib.hid (HR2.out.take hcl)
    have HBD := Lib.hid (HR2.out.dropA hcl)
    by_cases hik : i < k
    · have hiki : (i : Int) < (k : Int) := by omega
      have HP := Lib.hid (T.pathD_lo (bitsN x) HLN.out h2n HK.out hik)
      have HPL := Lib.hid (T.pathD_le (bitsN x) (l.take k) i)
      have HPB : Hid ((T.pathD (bitsN x) (l.take k) i).length ≤ 1000000) := Lib.hid (by have := HPL.out; rw [List.length_take] at this; omega)
      obtain ⟨d, hd⟩ : ∃ d, d = T.rootD (bitsN x) (l.drop k) := ⟨_, rfl⟩
      have HDL : Hid (d.length = 32) := Lib.hid (by rw [hd]; exact T.rootD_len _ _)
      have HD := Lib.hid hd
      clear hd
      go_wp2_with fail
      refine (ih A k c _ i _ (by omega) (by omega) hik HBT.out (HV.out.take k)).mono ?_
      rintro e w3 ⟨v, rfl, ho, hb⟩
      have HO := Lib.hid ho
      have HE3 := Lib.hid hb
      clear ho hb
      go_wp2_with fail
      refine (rroot_any x HX.out (n + 1) _ (n - k) (c - k) _ _ (by omega) (HBD.out.same HE3.out) (HV.out.drop k)).mono ?_
      rintro e w4 ⟨rfl, hb⟩
      rw [← HD.out]
      have HO4 := Lib.hid (OwnDs.mono _ _ _ _ _ HO.out hb)
      have HE4 := Lib.hid (ExtW.trans HE3.out hb)
      have HBR : Hid (Row (w4.alloc (.cells (bvs d).toArray 24)) w4.heap.size 24 (bvs d)) := Lib.hid (heap_alloc_last _ _)
      have HXB : Hid (ExtW w4 (w4.alloc (.cells (bvs d).toArray 24))) := Lib.hid ((Below.refl _ _).alloc (Nat.le_refl _) _)
      clear hb HO HE3
      go_wp2_with (first
        | (refine wpList_build1 rfl rfl HDL.out rfl ?_; generalize w4.alloc (.cells (bvs d).toArray 24) = w5 at HBR HXB ⊢)
        | (at_builtin; refine wpList_append_ds rfl _ _ rfl rfl HDL.out rfl rfl (OwnDs.mono _ _ _ _ _ HO4.out HXB.out) HBR.out HPB.out (ExtW.trans HE4.out HXB.out).size ?_; intro v' w' ho' hb'; have HO' := Lib.hid ho'; have HE' := Lib.hid (ExtW.trans HE0.out (Below.trans (ExtW.trans HE4.out HXB.out) hb')); clear ho' hb'))
      go_ret2
      exact ⟨_, rfl, by rw [HP.out, ← HD.out]; exact HO'.out.le HE0.out.size, HE'.out⟩
    · have hiki : ¬ (i : Int) < (k : Int) := by omega
      have HP := Lib.hid (T.pathD_hi (bitsN x) HLN.out h2n HK.out hik)
      have HPL := Lib.hid (T.pathD_le (bitsN x) (l.drop k) (i - k))
      have HPB : Hid ((T.pathD (bitsN x) (l.drop k) (i - k)).length ≤ 1000000) := Lib.hid (by have := HPL.out; rw [List.length_drop] at this; have := HLN.out; omega)
      have hsub : IntKind.i64.wrap ((i : Int) - (k : Int)) = ((i - k : Nat) : Int) := by rw [IntWalk.i64_in _ (by omega)]; omega
      obtain ⟨d, hd⟩ : ∃ d, d = T.rootD (bitsN x) (l.take k) := ⟨_, rfl⟩
      have HDL : Hid (d.length = 32) := Lib.hid (by rw [hd]; exact T.rootD_len _ _)
      have HD := Lib.hid hd
      clear hd
      go_wp2_with fail
      clear hsub
      refine (ih _ (n - k) (c - k) _ (i - k) _ (by omega) (by omega) (by omega) HBD.out (HV.out.drop k)).mono ?_
      rintro e w3 ⟨v, rfl, ho, hb⟩
      have HO := Lib.hid ho
      have HE3 := Lib.hid hb
      clear ho hb
      go_wp2_with fail
      refine (rroot_any x HX.out (n + 1) _ k c _ _ (by omega) (HBT.out.same HE3.out) (HV.out.take k)).mono ?_
      rintro e w4 ⟨rfl, hb⟩
      rw [← HD.out]
      have HO4 := Lib.hid (OwnDs.mono _ _ _ _ _ HO.out hb)
      have HE4 := Lib.hid (ExtW.trans HE3.out hb)
      have HBR : Hid (Row (w4.alloc (.cells (bvs d).toArray 24)) w4.heap.size 24 (bvs d)) := Lib.hid (heap_alloc_last _ _)
      have HXB : Hid (ExtW w4 (w4.alloc (.cells (bvs d).toArray 24))) := Lib.hid ((Below.refl _ _).alloc (Nat.le_refl _) _)
      clear hb HO HE3
      go_wp2_with (first
        | (refine wpList_build1 rfl rfl HDL.out rfl ?_; generalize w4.alloc (.cells (bvs d).toArray 24) = w5 at HBR HXB ⊢)
        | (at_builtin; refine wpList_append_ds rfl _ _ rfl rfl HDL.out rfl rfl (OwnDs.mono _ _ _ _ _ HO4.out HXB.out) HBR.out HPB.out (ExtW.trans HE4.out HXB.out).size ?_; intro v' w' ho' hb'; have HO' := Lib.hid ho'; have HE' := Lib.hid (ExtW.trans HE0.out (Below.trans (ExtW.trans HE4.out HXB.out) hb')); clear ho' hb'))
      go_ret2
      exact ⟨_, rfl, by rw [HP.out, ← HD.out]; exact HO'.out.le HE0.out.size, HE'.out⟩

set_option maxHeartbeats 4000000 in
set_option maxRecDepth 100000 in
theorem rpath_no (x : Int) (A : Option Addr) (n c : Nat) (i : Int) (w : World) (hin : i < 0 ∨ (n : Int) ≤ i) :
    Calls Try.prog 27 #[.int .i64 x, .slice A n c, .int .i64 i] w fun e w' => e = .returned (.tuple #[.slice none 0 0, .int .i64 1]) ∧ ExtW w w' := by
  have hc : i < 0 ∨ (¬ i < 0 ∧ (n : Int) ≤ i ∧ ¬ i < (n : Int)) := by omega
  clear hin
  rcases hc with h1 | ⟨h1, h2, h3⟩
  all_goals
    go_enter Try.func27, Try.ntmps27
    go_wp2
    go_ret2
    exact ⟨rfl, ExtW.refl _⟩

set_option maxHeartbeats 4000000 in
set_option maxRecDepth 100000 in
theorem rbeside_any (x : Int) (hx : -9223372036854775808 ≤ x ∧ x ≤ 9223372036854775807) : ∀ (N : Nat) (A : Option Addr) (n c : Nat) (l : List (List UInt8)) (a b : Int) (w : World), n < N → 1 ≤ n → n ≤ 1000000 → -4000000 ≤ a - n → a ≤ 4000000 → -4000000 ≤ b - n → b ≤ 4000000 → Sts w A n c l → Lv l →
    Calls Try.prog 49 #[.int .i64 x, .slice A n c, .int .i64 a, .int .i64 b] w fun e w' => ∃ v, e = .returned v ∧ OwnDs w.heap.size (T.besideD (bitsN x) l a b) v w' ∧ ExtW w w' := by
  have HX := Lib.hid hx
  clear hx
  intro N
  induction N with
  | zero => intro A n c l a b w h; omega
  | succ N ih =>
    intro A n c l a b w hnN hn1 hnb ha1 ha2 hb1 hb2 hr hlv
    have hnc := hr.2.nc
    have HR := Lib.hid hr
    have HV := Lib.hid hlv
    have HLN := Lib.hid hr.1
    clear hr hlv
    by_cases hout : b ≤ 0 ∨ (n : Int) ≤ a
    · have HP := Lib.hid (T.besideD_out (bitsN x) HLN.out hout)
      have hcase : (b ≤ 0) ∨ (¬ b ≤ 0 ∧ (n : Int) ≤ a ∧ ¬ a < (n : Int)) := by omega
      clear hout
      obtain ⟨d, hd⟩ : ∃ d, d = T.rootD (bitsN x) l := ⟨_, rfl⟩
      have HDL : Hid (d.length = 32) := Lib.hid (by rw [hd]; exact T.rootD_len _ _)
      have HSD : Hid ((bvs d).toArray.size = 32) := Lib.hid (dg_size HDL.out)
      have HD := Lib.hid hd
      clear hd
      rcases hcase with hb0 | ⟨hb0, ha0, ha0'⟩
      all_goals
        go_enter Try.func49, Try.ntmps49
        go_wp2_with fail
        refine (rroot_any x HX.out (n + 1) A n c l _ (by omega) HR.out HV.out).mono ?_
        rintro e w2 ⟨rfl, hb⟩
        rw [← HD.out]
        have HE2 := Lib.hid hb
        clear hb
        go_upto_region 3 with (first
          | (refine wpList_newD rfl rfl ?_)
          | (refine wpList_newst rfl rfl rfl HDL.out (d0 := List.replicate 32 0) rfl rfl rfl (zDig_row _) ?_))
        have HAR := Lib.hid (stD_row w2 d)
        have HE3 := Lib.hid (ExtW.trans HE2.out (stD_ext w2 d))
        generalize (w2.alloc (.cells zDig 24)).setRow w2.heap.size (bvs d).toArray = w3 at HAR HE3 ⊢
        have HO : Hid (OwnDs w.heap.size [d] (.slice (some ⟨w3.heap.size, 0, none⟩) 1 1) (w3.alloc (.cells (bvs d).toArray 24))) := Lib.hid (OwnDs.one w3 d HDL.out _ HE3.out.size)
        have HE4 : Hid (ExtW w (w3.alloc (.cells (bvs d).toArray 24))) := Lib.hid (ExtW.trans HE3.out ((Below.refl _ _).alloc (Nat.le_refl _) _))
        go_wp2_with (first
          | (refine wpList_ld rfl rfl ?_; refine ⟨w2.heap.size, _, _, _, rfl, HAR.out, Try.underlying24, rfl, by rw [HSD.out]; kernel_rfl, ?_⟩)
          | (refine wpList_build1 rfl rfl HDL.out rfl ?_))
        go_ret
        exact ⟨_, rfl, by rw [HP.out, ← HD.out]; exact HO.out, HE4.out⟩
    have hb0 : ¬ b ≤ 0 := by omega
    have ha0 : ¬ (n : Int) ≤ a := by omega
    have ha0' : a < (n : Int) := by omega
    by_cases h1 : n = 1
    · have HP := Lib.hid (T.besideD_one (bitsN x) HLN.out hout h1)
      subst h1
      clear hout
      go_enter Try.func49, Try.ntmps49
      go_wp2_with fail
      go_ret
      exact ⟨_, rfl, by rw [HP.out]; exact OwnDs.nil _ _, ExtW.refl _⟩
    have h2 : 2 ≤ n := by omega
    have hne1 : ((n : Int) == 1) = false := by rw [beq_eq_false_iff_ne]; omega
    obtain ⟨k, hk⟩ : ∃ k, k = T.half n := ⟨_, rfl⟩
    have hhl := T.half_lt h2
    rw [← hk] at hhl
    have HP := Lib.hid (T.besideD_more (bitsN x) HLN.out hout h2 hk)
    have HK := Lib.hid hk
    have HPL : Hid ((T.besideD (bitsN x) (l.take k) a b).length ≤ k) := Lib.hid (by
      have h := T.besideD_le (bitsN x) (l.take k) a b (by rw [List.length_take, HLN.out]; omega)
      rw [List.length_take] at h; omega)
    have HPR : Hid ((T.besideD (bitsN x) (l.drop k) (a - k) (b - k)).length ≤ n - k) := Lib.hid (by
      have h := T.besideD_le (bitsN x) (l.drop k) (a - k) (b - k) (by rw [List.length_drop, HLN.out]; omega)
      rw [List.length_drop, HLN.out] at h; exact h)
    clear hk hout
    have hcl : k ≤ n := by omega
    have hrt := run_takeT A n c k hcl hnc
    have hrd := run_dropT A n c k hcl hnc
    have HBT := Lib.hid (HR.out.take hcl)
    have HBD := Lib.hid (HR.out.dropA hcl)
    go_enter Try.func49, Try.ntmps49
    go_wp2_with fail
    refine (rhalf_any n _ ⟨by omega, by omega⟩).mono ?_
    rintro e we ⟨rfl, rfl⟩
    rw [← HK.out]
    go_wp2_with fail
    refine (ih A k c _ a b _ (by omega) (by omega) (by omega) (by omega) ha2 (by omega) hb2 HBT.out (HV.out.take k)).mono ?_
    rintro e w3 ⟨v, rfl, ho, hb⟩
    have HO := Lib.hid ho
    have HE3 := Lib.hid hb
    clear ho hb
    have hsa : IntKind.i64.wrap (a - (k : Int)) = a - (k : Int) := IntWalk.i64_in _ (by omega)
    have hsb : IntKind.i64.wrap (b - (k : Int)) = b - (k : Int) := IntWalk.i64_in _ (by omega)
    go_wp2_with fail
    clear hsa hsb
    refine (ih _ (n - k) (c - k) _ (a - k) (b - k) _ (by omega) (by omega) (by omega) (by omega) (by omega) (by omega) (by omega) (HBD.out.same HE3.out) (HV.out.drop k)).mono ?_
    rintro e w4 ⟨v2, rfl, ho2, hb⟩
    obtain ⟨B2, c2, rfl, hd2⟩ := ho2.dls (T.besideD_len32 _ _ _ _)
    have HD2 := Lib.hid hd2
    have HO4 := Lib.hid (OwnDs.mono _ _ _ _ _ HO.out hb)
    have HE4 := Lib.hid (ExtW.trans HE3.out hb)
    have HSZ : Hid ((T.besideD (bitsN x) (l.take k) a b).length + (T.besideD (bitsN x) (l.drop k) (a - k) (b - k)).length ≤ 1000000) := Lib.hid (by have h3 := HPL.out; have h4 := HPR.out; omega)
    clear ho2 hd2 hb HO HE3
    go_wp2_with (at_builtin; refine wpList_append_dls rfl _ _ rfl rfl rfl HO4.out HD2.out HSZ.out HE4.out.size ?_; intro v' w' ho' hb'; have HO' := Lib.hid ho'; have HE' := Lib.hid (Below.trans HE4.out hb'); clear ho' hb')
    go_ret
    exact ⟨_, rfl, by rw [HP.out]; exact HO'.out, HE'.out⟩

set_option maxHeartbeats 4000000 in
set_option maxRecDepth 100000 in
theorem rrange_ok (x : Int) (hx : -9223372036854775808 ≤ x ∧ x ≤ 9223372036854775807) (A : Option Addr) (n c : Nat) (l : List (List UInt8)) (a b : Int) (w : World) (hnb : n ≤ 1000000) (ha : 0 ≤ a) (hab : a < b) (hb : b ≤ n) (hr : Sts w A n c l) (hlv : Lv l) :
    Calls Try.prog 29 #[.int .i64 x, .slice A n c, .int .i64 a, .int .i64 b] w fun e w' => ∃ v, e = .returned (.tuple #[v, .int .i64 0]) ∧ OwnDs w.heap.size (T.besideD (bitsN x) l a b) v w' ∧ ExtW w w' := by
  have HX := Lib.hid hx
  have HR := Lib.hid hr
  have HV := Lib.hid hlv
  clear hr hlv hx
  have h1 : ¬ a < 0 := by omega
  have h2 : ¬ b ≤ a := by omega
  have h3 : ¬ (n : Int) < b := by omega
  go_enter Try.func29, Try.ntmps29
  go_wp2_with fail
  refine (rbeside_any x HX.out (n + 1) A n c l a b _ (by omega) (by omega) hnb (by omega) (by omega) (by omega) (by omega) HR.out HV.out).mono ?_
  rintro e w' ⟨v, rfl, ho, hb⟩
  have HO := Lib.hid ho
  have HE := Lib.hid hb
  clear ho hb
  go_wp2
  go_ret2
  exact ⟨_, rfl, HO.out, HE.out⟩

set_option maxHeartbeats 4000000 in
set_option maxRecDepth 100000 in
theorem rrange_no (x : Int) (A : Option Addr) (n c : Nat) (a b : Int) (w : World) (hin : a < 0 ∨ b ≤ a ∨ (n : Int) < b) :
    Calls Try.prog 29 #[.int .i64 x, .slice A n c, .int .i64 a, .int .i64 b] w fun e w' => e = .returned (.tuple #[.slice none 0 0, .int .i64 1]) ∧ ExtW w w' := by
  have hcase : a < 0 ∨ (¬ a < 0 ∧ b ≤ a ∧ ¬ a < b) ∨ (¬ a < 0 ∧ ¬ b ≤ a ∧ a < b ∧ (n : Int) < b) := by omega
  clear hin
  rcases hcase with h | ⟨h1, h2, h3⟩ | ⟨h1, h2, h3, h4⟩
  all_goals
    go_enter Try.func29, Try.ntmps29
    go_wp2
    go_ret2
    exact ⟨rfl, ExtW.refl _⟩
end Go.Proofs.Ytncdgndeidbgoaa
