/- Walk of Sum. -/
import Derived.Test.YthaoibgcgkmnbaaWrite
namespace Go.Proofs.Ythaoibgcgkmnbaa
set_option maxRecDepth 100000
open Go.RowKit

theorem wpList_runW {P : Program} {ops : Array Oper} {rest : List Oper} {o : Oper} {a : Act} {w : World} {Q : Exit → Act → World → Prop} (hgd : o.guard = none) {t : TypeId} (_ho : o.op = .alloc t)
    (h : ∃ v w', (execOp a.eval o).run P w = .ok (.value v) w' ∧ wpList P ops Q rest (a.put o.dst v) w') : wpList P ops Q (o :: rest) a w := by
  obtain ⟨v, w', hrun, h⟩ := h
  refine wpList_plain hgd fun K hK => ?_
  unfold Oper.wp
  rw [hrun]
  exact hK _ _ h
theorem wpList_ld {P : Program} {ops : Array Oper} {rest : List Oper} {o : Oper} {a : Act} {w : World} {Q : Exit → Act → World → Prop} (hgd : o.guard = none) {ty : TypeId} {x : Operand} (ho : o.op = .load ty x)
    (h : ∃ (g : Nat) (t : TypeId) (cs : Array Value) (d : TypeDesc), a.eval x = .pointer (some ⟨g, 0, none⟩) ∧ w.heap[g]? = some (.cells cs t (0, 0)) ∧ P.underlying ty = some d ∧
      (match d with | .struct _ | .array _ _ => true | _ => false) = true ∧ (P.info? ty).map (·.size) = some cs.size ∧ wpList P ops Q rest (a.put o.dst (.agg cs)) w) : wpList P ops Q (o :: rest) a w := by
  obtain ⟨g, t, cs, d, h1, h2, h3, h4, h5, h6⟩ := h
  exact wpList_load_row hgd ty x ho g h1 t cs (0, 0) d h2 h3 (by cases d <;> simp_all) h5 h6

/-- the zero value of a Hash -/
def zObj : Array Value := (List.replicate 72 (Value.int .u32 0) ++ (List.replicate 64 (Value.int .u8 0) ++ [Value.int .i64 0, Value.int .u64 0])).toArray
def zDig : Array Value := (List.replicate 32 (Value.int .u8 0)).toArray

theorem objV_one (H : S.St) (part : List UInt8) (held size : Nat) : (objV H part held size).toArray.all (·.oneCell') = true := by
  refine all_oneCell_toArray fun v hv => ?_
  unfold objV uv bvs at hv
  simp only [List.mem_append, List.mem_map, List.mem_cons, List.not_mem_nil, or_false] at hv
  rcases hv with ⟨_, _, rfl⟩ | ⟨_, _, rfl⟩ | ⟨_, _, rfl⟩ | rfl | rfl <;> rfl

/-- the cells of a digest while it is made -/
def digV (H : S.St) (t : Nat) : List Value := bvs ((S.digest H).take (4 * t) ++ List.replicate (32 - 4 * t) 0)
theorem digV_len (H : S.St) {t : Nat} (h : t ≤ 8) : (digV H t).length = 32 := by
  unfold digV; rw [bvs_len, List.length_append, List.length_take, S.digest_len, List.length_replicate]; omega
theorem digV_set (H : S.St) {t : Nat} (h : t < 8) : ((((digV H t).set (4 * t) (.int .u8 ((UInt8.ofNat (un (H.list.getD t 0) / 16777216)).toNat : Int))).set (4 * t + 1) (.int .u8 ((UInt8.ofNat (un (H.list.getD t 0) / 65536)).toNat : Int))).set (4 * t + 2) (.int .u8 ((UInt8.ofNat (un (H.list.getD t 0) / 256)).toNat : Int))).set (4 * t + 3) (.int .u8 ((UInt8.ofNat (un (H.list.getD t 0))).toNat : Int)) = digV H (t + 1) := by
  match t, h with
  | 0, _ => rfl
  | 1, _ => rfl
  | 2, _ => rfl
  | 3, _ => rfl
  | 4, _ => rfl
  | 5, _ => rfl
  | 6, _ => rfl
  | 7, _ => rfl
set_option maxRecDepth 100000 in
theorem idx8 (H : S.St) {t : Nat} (h : t < 8) (W : World) : (Instr.index 115 (.agg #[.int .u32 (un H.a : Nat), .int .u32 (un H.b : Nat), .int .u32 (un H.c : Nat), .int .u32 (un H.d : Nat), .int .u32 (un H.e : Nat), .int .u32 (un H.f : Nat), .int .u32 (un H.g : Nat), .int .u32 (un H.h : Nat)]) (.int .i64 (t : Int))).run Try.prog W = .ok (.int .u32 (un (H.list.getD t 0) : Nat)) W := by
  match t, h with
  | 0, _ => rfl
  | 1, _ => rfl
  | 2, _ => rfl
  | 3, _ => rfl
  | 4, _ => rfl
  | 5, _ => rfl
  | 6, _ => rfl
  | 7, _ => rfl
theorem own_slice' {w : World} {base e sz n : Nat} {v : Value} {xs : List Value} (h : w.ownsRow base e sz v n xs) : ∃ A c, v = .slice A n c := by
  rcases h.2 with ⟨rfl, rfl⟩ | ⟨g, cap, cur, rfl, _⟩
  · exact ⟨_, _, rfl⟩
  · exact ⟨_, _, rfl⟩
theorem own_ge {w : World} {base : Nat} {e : TypeId} {sz : Nat} {v : Value} {n : Nat} {xs : List Value} (h : w.ownsRow base e sz v n xs) : ∀ k, v.ownBlock = some k → base ≤ k := by
  intro k hk
  rcases h.2 with ⟨rfl, _⟩ | ⟨g, cap, cur, rfl, hb, _⟩
  · cases hk
  · cases hk; exact hb
theorem byteAt1 (n : Nat) : IntKind.u8.wrap (n : Int) = ((UInt8.ofNat n).toNat : Int) := by
  rw [UInt8.toNat_ofNat']; simp [IntKind.wrap, IntKind.bits, IntKind.signed]
theorem byteAt (n k : Nat) : IntKind.u8.wrap ((n : Int) / (k : Int)) = ((UInt8.ofNat (n / k)).toNat : Int) := byteAt1 (n / k)
theorem own_one (w : World) (b : UInt8) : (w.alloc (.cells #[.int .u8 (b.toNat : Int)] 5)).ownsRow w.heap.size 5 1 (.slice (some ⟨w.heap.size, 0, none⟩) 1 1) 1 (bvs [b]) :=
  ⟨rfl, .inr ⟨w.heap.size, 1, #[.int .u8 (b.toNat : Int)], rfl, Nat.le_refl _, heap_alloc_new w _, Nat.le_refl _, by simp [maxLen], rfl, rfl⟩⟩

set_option maxHeartbeats 4000000 in
set_option maxRecDepth 100000 in
theorem sum_any (g : Nat) (l : List UInt8) (w : World) (ho : HashAt w g l l.length) (hsz : l.length ≤ 200000000000000) :
    Calls Try.prog 68 #[.pointer (some ⟨g, 0, none⟩)] w fun e w' => e = .returned (.agg (bvs (S.sha l)).toArray) ∧ ExtW w w' := by
  obtain ⟨i0, hi, hz0, hz1, hz2⟩ := info_parts infoB
  obtain ⟨part, hp1, hp2, hp3⟩ := ho
  have HP1 := Lib.hid hp1
  have HP2 := Lib.hid hp2
  have HP3 := Lib.hid hp3
  obtain ⟨T, hT⟩ : ∃ T, T = l.length := ⟨_, rfl⟩
  rw [← hT] at HP3 hsz
  have HT := Lib.hid hT
  have HR1 : Hid (Row (w.alloc (.cells zDig 45)) g 121 (objV (S.hs l) part (T % 64) T)) := Lib.hid (HP3.out.ext ((Below.refl _ _).alloc (Nat.le_refl _) _))
  have HE0 : Hid (ExtW w (w.alloc (.cells zDig 45))) := Lib.hid ((Below.refl _ _).alloc (Nat.le_refl _) _)
  have HD0 : Hid (Row (w.alloc (.cells zDig 45)) w.heap.size 45 (bvs (List.replicate 32 0))) := Lib.hid (by unfold Row; rw [heap_alloc_last]; rfl)
  have HSC : Hid ((objV (S.hs l) part (T % 64) T).toArray.size = 138) := Lib.hid (by rw [List.size_toArray, objV_len _ _ _ _ hp1])
  clear hp1 hp2 hp3 hT
  go_enter Try.func68, Try.ntmps68
  go_upto_region 1 with (refine wpList_runW rfl rfl ?_; refine ⟨.pointer (some ⟨w.heap.size, 0, none⟩), w.alloc (.cells zDig 45), by kernel_rfl, ?_⟩)
  generalize w.alloc (.cells zDig 45) = w1 at HR1 HE0 HD0 ⊢
  go_upto_region 2 with (first
    | (refine wpList_ld rfl rfl ?_; refine ⟨g, _, _, _, rfl, HR1.out, Try.underlying121, rfl, by rw [HSC.out]; kernel_rfl, ?_⟩)
    | (refine wpList_runW rfl rfl ?_; refine ⟨.pointer (some ⟨w1.heap.size, 0, none⟩), w1.alloc (.cells zObj 121), by kernel_rfl, ?_⟩)
    | (refine wpList_st rfl rfl ?_; refine ⟨w1.heap.size, _, _, _, rfl, rfl, heap_alloc_last _ _, by rw [HSC.out]; kernel_rfl, Eq.trans (show zObj.size = 138 from rfl) HSC.out.symm, objV_one _ _ _ _, ?_⟩))
  rw [World.setRow_alloc_new]
  have HX2 : Hid (Row (w1.alloc (.cells (objV (S.hs l) part (T % 64) T).toArray 121)) w1.heap.size 121 (objV (S.hs l) part (T % 64) T)) := Lib.hid (heap_alloc_last _ _)
  have HD2 : Hid (Row (w1.alloc (.cells (objV (S.hs l) part (T % 64) T).toArray 121)) w.heap.size 45 (bvs (List.replicate 32 0))) := Lib.hid (HD0.out.ext ((Below.refl _ _).alloc (Nat.le_refl _) _))
  have HE2 : Hid (ExtW w1 (w1.alloc (.cells (objV (S.hs l) part (T % 64) T).toArray 121))) := Lib.hid ((Below.refl _ _).alloc (Nat.le_refl _) _)
  have HS2 : Hid (w1.heap.size < (w1.alloc (.cells (objV (S.hs l) part (T % 64) T).toArray 121)).heap.size) := Lib.hid (by simp)
  generalize w1.alloc (.cells (objV (S.hs l) part (T % 64) T).toArray 121) = w2 at HX2 HD2 HE2 HS2 ⊢
  obtain ⟨x, hx⟩ : ∃ x, x = w1.heap.size := ⟨_, rfl⟩
  rw [← hx] at HX2 HS2 ⊢
  have HXX := Lib.hid hx
  clear hx
  have cT := HX2.out.cell (objV_size _ part (T % 64) T HP1.out)
  have cK := HX2.out.cell (objV_held _ part (T % 64) T HP1.out)
  obtain ⟨k, hk⟩ : ∃ k, k = T % 64 := ⟨_, rfl⟩
  rw [← hk] at cK
  have hk64 : k < 64 := by omega
  have HK := Lib.hid hk
  clear hk
  go_upto_region 3 with (fail)
  clear cT
  have HW3 : Hid ((w2.alloc (.cells #[.int .u8 128] 5)).ownsRow w2.heap.size 5 1 (.slice (some ⟨w2.heap.size, 0, none⟩) 1 1) 1 (bvs [128])) := Lib.hid (own_one w2 128)
  have HE3 : Hid (ExtW w2 (w2.alloc (.cells #[.int .u8 128] 5))) := Lib.hid ((Below.refl _ _).alloc (Nat.le_refl _) _)
  go_upto_block 0 with (fail)
  have hT8 : 8 * (T : Int) = ((8 * T : Nat) : Int) := by omega
  rw [hT8]
  obtain ⟨n8, hn8⟩ : ∃ n, n = 8 * T := ⟨_, rfl⟩
  rw [← hn8]
  have HN8 := Lib.hid hn8
  clear hT8 hn8
  obtain ⟨zz, hzz⟩ : ∃ z, z = (119 - k) % 64 := ⟨_, rfl⟩
  have hz64 : zz < 64 := by omega
  have HZZ := Lib.hid hzz
  clear hzz
  go_wp2_with fail
  go_loopw [5] (fun v wr => ∃ (m : Nat) (A : Option Addr) (c : Nat), v = .slice A (m + 1) c ∧ m ≤ zz ∧ Hid (wr.ownsRow w2.heap.size 5 1 v (m + 1) (bvs (128 :: List.replicate m 0))) ∧ Hid (ExtW w2 wr)) (fun v _ => zz + 1 - slLen v)
  case atStart => exact ⟨0, _, _, rfl, Nat.zero_le _, HW3, HE3⟩
  case round =>
    clear HW3 HE3
    obtain ⟨m, A, c, rfl, hmz, HO, HE⟩ := hrel
    have cK' : wr.cell? ⟨x, 136, none⟩ = some (.int .i64 (k : Nat)) := HE.out.cellAt cK
    have HCK := Lib.hid cK
    clear cK
    by_cases hlt : m < zz
    · have hne : (((k : Int) + ((m : Int) + 1)) % 64 != 56) = true := by have := HZZ.out; simp; omega
      go_wp2_with (at_builtin; refine wpList_append_own _ rfl _ _ _ rfl w2.heap.size 5 i0 _ 1 1 Try.underlying23 hi hz0 hz1 hz2 rfl (by decide) _ _ _ rfl (own_ext HO.out (show ExtW _ _ from (Below.refl _ _).alloc (Nat.le_refl _) _)) ⟨wr.heap.size, 0, none⟩ 1 1 [.int .u8 ((0 : UInt8).toNat : Int)] rfl rfl (cell_one_new _ _ _) (by simp [Value.oneCell']) (by simp [maxLen]; omega) (by omega) (by simp; exact Nat.le_succ_of_le HE.out.size) ?_; intro v4 w4 hown4 hgrow4 _; have HO4 := Lib.hid hown4; have HE4 := Lib.hid (((Below.refl w2.heap.size wr).alloc HE.out.size _).grown hgrow4 (by simp; exact Nat.le_succ_of_le HE.out.size) (fun k hk => own_ge HO.out k hk)); clear hown4 hgrow4; obtain ⟨A4, c4, hv4⟩ := own_slice' HO4.out; subst hv4)
      go_roundw
      case rel =>
        refine ⟨m + 1, A4, c4, rfl, hlt, Lib.hid ?_, Lib.hid (Below.trans HE.out HE4.out)⟩
        have h := HO4.out
        rw [List.replicate_succ', ← List.cons_append, bvs_app]
        exact h
      case measure => simp [slLen]; omega
    · obtain rfl : m = zz := by omega
      have hne : (((k : Int) + ((m : Int) + 1)) % 64 != 56) = false := by have := HZZ.out; simp; omega
      have HW4 := Lib.hid HO.out
      have HE5 := Lib.hid HE.out
      clear HO HE
      go_wp2_with fail
      go_loopw [5, 6] (fun v i wr => ∃ (j q : Nat) (A : Option Addr) (c : Nat), v = .slice A q c ∧ i = .int .i64 (7 - (j : Int)) ∧ j ≤ 8 ∧ q ≤ 80 ∧ Hid (q = m + 1 + j) ∧ Hid (wr.ownsRow w2.heap.size 5 1 v q (bvs ((128 :: List.replicate m 0) ++ (S.be64 n8).take j))) ∧ Hid (ExtW w2 wr)) (fun _ i _ => (intOf i + 1).toNat)
      case atStart => exact ⟨0, _, _, _, rfl, rfl, by decide, by omega, Lib.hid rfl, Lib.hid (by rw [List.take_zero, List.append_nil]; exact HW4.out), HE5⟩
      case round =>
        clear HW4 HE5 cK'
        obtain ⟨j, m2, A2, c2, rfl, rfl, hj, hm80, HM2, HO, HE⟩ := hrel
        rcases (by omega : j = 0 ∨ j = 1 ∨ j = 2 ∨ j = 3 ∨ j = 4 ∨ j = 5 ∨ j = 6 ∨ j = 7 ∨ j = 8) with rfl | rfl | rfl | rfl | rfl | rfl | rfl | rfl | rfl
        · -- devbegin
          have hb : IntKind.u8.wrap ((n8 : Int) / 72057594037927936) = ((UInt8.ofNat (n8 / 256 ^ 7)).toNat : Int) := byteAt n8 72057594037927936
          go_wp2_with (at_builtin; refine wpList_append_own _ rfl _ _ _ rfl w2.heap.size 5 i0 _ 1 1 Try.underlying23 hi hz0 hz1 hz2 rfl (by decide) _ _ _ rfl (own_ext HO.out (show ExtW _ _ from (Below.refl _ _).alloc (Nat.le_refl _) _)) ⟨wr.heap.size, 0, none⟩ 1 1 [.int .u8 ((UInt8.ofNat (n8 / 256 ^ 7)).toNat : Int)] rfl rfl (cell_one_new _ _ _) (by simp [Value.oneCell']) (by simp [maxLen]; omega) (by omega) (by simp; exact Nat.le_succ_of_le HE.out.size) ?_; intro v4 w4 hown4 hgrow4 _; have HO4 := Lib.hid hown4; have HE4 := Lib.hid (((Below.refl w2.heap.size wr).alloc HE.out.size _).grown hgrow4 (by simp; exact Nat.le_succ_of_le HE.out.size) (fun k hk => own_ge HO.out k hk)); clear hown4 hgrow4; obtain ⟨A4, c4, hv4⟩ := own_slice' HO4.out; subst hv4)
          go_roundw
          case rel =>
            refine ⟨1, _, A4, c4, rfl, by first | rfl | simp, by decide, by have := HM2.out; omega, Lib.hid (by have := HM2.out; omega), Lib.hid ?_, Lib.hid (Below.trans HE.out HE4.out)⟩
            have h := HO4.out
            simp only [S.be64, List.take_succ_cons, List.take_zero] at h ⊢
            rw [show ∀ (l : List UInt8) (b : UInt8), bvs l ++ [.int .u8 (b.toNat : Int)] = bvs (l ++ [b]) from fun l b => by rw [bvs_app]; rfl, List.append_assoc] at h
            exact h
          case measure => simp [intOf]
          -- devend
        · -- devbegin
          have hb : IntKind.u8.wrap ((n8 : Int) / 281474976710656) = ((UInt8.ofNat (n8 / 256 ^ 6)).toNat : Int) := byteAt n8 281474976710656
          go_wp2_with (at_builtin; refine wpList_append_own _ rfl _ _ _ rfl w2.heap.size 5 i0 _ 1 1 Try.underlying23 hi hz0 hz1 hz2 rfl (by decide) _ _ _ rfl (own_ext HO.out (show ExtW _ _ from (Below.refl _ _).alloc (Nat.le_refl _) _)) ⟨wr.heap.size, 0, none⟩ 1 1 [.int .u8 ((UInt8.ofNat (n8 / 256 ^ 6)).toNat : Int)] rfl rfl (cell_one_new _ _ _) (by simp [Value.oneCell']) (by simp [maxLen]; omega) (by omega) (by simp; exact Nat.le_succ_of_le HE.out.size) ?_; intro v4 w4 hown4 hgrow4 _; have HO4 := Lib.hid hown4; have HE4 := Lib.hid (((Below.refl w2.heap.size wr).alloc HE.out.size _).grown hgrow4 (by simp; exact Nat.le_succ_of_le HE.out.size) (fun k hk => own_ge HO.out k hk)); clear hown4 hgrow4; obtain ⟨A4, c4, hv4⟩ := own_slice' HO4.out; subst hv4)
          go_roundw
          case rel =>
            refine ⟨2, _, A4, c4, rfl, by first | rfl | simp, by decide, by have := HM2.out; omega, Lib.hid (by have := HM2.out; omega), Lib.hid ?_, Lib.hid (Below.trans HE.out HE4.out)⟩
            have h := HO4.out
            simp only [S.be64, List.take_succ_cons, List.take_zero] at h ⊢
            rw [show ∀ (l : List UInt8) (b : UInt8), bvs l ++ [.int .u8 (b.toNat : Int)] = bvs (l ++ [b]) from fun l b => by rw [bvs_app]; rfl, List.append_assoc] at h
            exact h
          case measure => simp [intOf]
          -- devend
        · -- devbegin
          have hb : IntKind.u8.wrap ((n8 : Int) / 1099511627776) = ((UInt8.ofNat (n8 / 256 ^ 5)).toNat : Int) := byteAt n8 1099511627776
          go_wp2_with (at_builtin; refine wpList_append_own _ rfl _ _ _ rfl w2.heap.size 5 i0 _ 1 1 Try.underlying23 hi hz0 hz1 hz2 rfl (by decide) _ _ _ rfl (own_ext HO.out (show ExtW _ _ from (Below.refl _ _).alloc (Nat.le_refl _) _)) ⟨wr.heap.size, 0, none⟩ 1 1 [.int .u8 ((UInt8.ofNat (n8 / 256 ^ 5)).toNat : Int)] rfl rfl (cell_one_new _ _ _) (by simp [Value.oneCell']) (by simp [maxLen]; omega) (by omega) (by simp; exact Nat.le_succ_of_le HE.out.size) ?_; intro v4 w4 hown4 hgrow4 _; have HO4 := Lib.hid hown4; have HE4 := Lib.hid (((Below.refl w2.heap.size wr).alloc HE.out.size _).grown hgrow4 (by simp; exact Nat.le_succ_of_le HE.out.size) (fun k hk => own_ge HO.out k hk)); clear hown4 hgrow4; obtain ⟨A4, c4, hv4⟩ := own_slice' HO4.out; subst hv4)
          go_roundw
          case rel =>
            refine ⟨3, _, A4, c4, rfl, by first | rfl | simp, by decide, by have := HM2.out; omega, Lib.hid (by have := HM2.out; omega), Lib.hid ?_, Lib.hid (Below.trans HE.out HE4.out)⟩
            have h := HO4.out
            simp only [S.be64, List.take_succ_cons, List.take_zero] at h ⊢
            rw [show ∀ (l : List UInt8) (b : UInt8), bvs l ++ [.int .u8 (b.toNat : Int)] = bvs (l ++ [b]) from fun l b => by rw [bvs_app]; rfl, List.append_assoc] at h
            exact h
          case measure => simp [intOf]
          -- devend
        · -- devbegin
          have hb : IntKind.u8.wrap ((n8 : Int) / 4294967296) = ((UInt8.ofNat (n8 / 256 ^ 4)).toNat : Int) := byteAt n8 4294967296
          go_wp2_with (at_builtin; refine wpList_append_own _ rfl _ _ _ rfl w2.heap.size 5 i0 _ 1 1 Try.underlying23 hi hz0 hz1 hz2 rfl (by decide) _ _ _ rfl (own_ext HO.out (show ExtW _ _ from (Below.refl _ _).alloc (Nat.le_refl _) _)) ⟨wr.heap.size, 0, none⟩ 1 1 [.int .u8 ((UInt8.ofNat (n8 / 256 ^ 4)).toNat : Int)] rfl rfl (cell_one_new _ _ _) (by simp [Value.oneCell']) (by simp [maxLen]; omega) (by omega) (by simp; exact Nat.le_succ_of_le HE.out.size) ?_; intro v4 w4 hown4 hgrow4 _; have HO4 := Lib.hid hown4; have HE4 := Lib.hid (((Below.refl w2.heap.size wr).alloc HE.out.size _).grown hgrow4 (by simp; exact Nat.le_succ_of_le HE.out.size) (fun k hk => own_ge HO.out k hk)); clear hown4 hgrow4; obtain ⟨A4, c4, hv4⟩ := own_slice' HO4.out; subst hv4)
          go_roundw
          case rel =>
            refine ⟨4, _, A4, c4, rfl, by first | rfl | simp, by decide, by have := HM2.out; omega, Lib.hid (by have := HM2.out; omega), Lib.hid ?_, Lib.hid (Below.trans HE.out HE4.out)⟩
            have h := HO4.out
            simp only [S.be64, List.take_succ_cons, List.take_zero] at h ⊢
            rw [show ∀ (l : List UInt8) (b : UInt8), bvs l ++ [.int .u8 (b.toNat : Int)] = bvs (l ++ [b]) from fun l b => by rw [bvs_app]; rfl, List.append_assoc] at h
            exact h
          case measure => simp [intOf]
          -- devend
        · -- devbegin
          have hb : IntKind.u8.wrap ((n8 : Int) / 16777216) = ((UInt8.ofNat (n8 / 256 ^ 3)).toNat : Int) := byteAt n8 16777216
          go_wp2_with (at_builtin; refine wpList_append_own _ rfl _ _ _ rfl w2.heap.size 5 i0 _ 1 1 Try.underlying23 hi hz0 hz1 hz2 rfl (by decide) _ _ _ rfl (own_ext HO.out (show ExtW _ _ from (Below.refl _ _).alloc (Nat.le_refl _) _)) ⟨wr.heap.size, 0, none⟩ 1 1 [.int .u8 ((UInt8.ofNat (n8 / 256 ^ 3)).toNat : Int)] rfl rfl (cell_one_new _ _ _) (by simp [Value.oneCell']) (by simp [maxLen]; omega) (by omega) (by simp; exact Nat.le_succ_of_le HE.out.size) ?_; intro v4 w4 hown4 hgrow4 _; have HO4 := Lib.hid hown4; have HE4 := Lib.hid (((Below.refl w2.heap.size wr).alloc HE.out.size _).grown hgrow4 (by simp; exact Nat.le_succ_of_le HE.out.size) (fun k hk => own_ge HO.out k hk)); clear hown4 hgrow4; obtain ⟨A4, c4, hv4⟩ := own_slice' HO4.out; subst hv4)
          go_roundw
          case rel =>
            refine ⟨5, _, A4, c4, rfl, by first | rfl | simp, by decide, by have := HM2.out; omega, Lib.hid (by have := HM2.out; omega), Lib.hid ?_, Lib.hid (Below.trans HE.out HE4.out)⟩
            have h := HO4.out
            simp only [S.be64, List.take_succ_cons, List.take_zero] at h ⊢
            rw [show ∀ (l : List UInt8) (b : UInt8), bvs l ++ [.int .u8 (b.toNat : Int)] = bvs (l ++ [b]) from fun l b => by rw [bvs_app]; rfl, List.append_assoc] at h
            exact h
          case measure => simp [intOf]
          -- devend
        · -- devbegin
          have hb : IntKind.u8.wrap ((n8 : Int) / 65536) = ((UInt8.ofNat (n8 / 256 ^ 2)).toNat : Int) := byteAt n8 65536
          go_wp2_with (at_builtin; refine wpList_append_own _ rfl _ _ _ rfl w2.heap.size 5 i0 _ 1 1 Try.underlying23 hi hz0 hz1 hz2 rfl (by decide) _ _ _ rfl (own_ext HO.out (show ExtW _ _ from (Below.refl _ _).alloc (Nat.le_refl _) _)) ⟨wr.heap.size, 0, none⟩ 1 1 [.int .u8 ((UInt8.ofNat (n8 / 256 ^ 2)).toNat : Int)] rfl rfl (cell_one_new _ _ _) (by simp [Value.oneCell']) (by simp [maxLen]; omega) (by omega) (by simp; exact Nat.le_succ_of_le HE.out.size) ?_; intro v4 w4 hown4 hgrow4 _; have HO4 := Lib.hid hown4; have HE4 := Lib.hid (((Below.refl w2.heap.size wr).alloc HE.out.size _).grown hgrow4 (by simp; exact Nat.le_succ_of_le HE.out.size) (fun k hk => own_ge HO.out k hk)); clear hown4 hgrow4; obtain ⟨A4, c4, hv4⟩ := own_slice' HO4.out; subst hv4)
          go_roundw
          case rel =>
            refine ⟨6, _, A4, c4, rfl, by first | rfl | simp, by decide, by have := HM2.out; omega, Lib.hid (by have := HM2.out; omega), Lib.hid ?_, Lib.hid (Below.trans HE.out HE4.out)⟩
            have h := HO4.out
            simp only [S.be64, List.take_succ_cons, List.take_zero] at h ⊢
            rw [show ∀ (l : List UInt8) (b : UInt8), bvs l ++ [.int .u8 (b.toNat : Int)] = bvs (l ++ [b]) from fun l b => by rw [bvs_app]; rfl, List.append_assoc] at h
            exact h
          case measure => simp [intOf]
          -- devend
        · -- devbegin
          have hb : IntKind.u8.wrap ((n8 : Int) / 256) = ((UInt8.ofNat (n8 / 256)).toNat : Int) := byteAt n8 256
          go_wp2_with (at_builtin; refine wpList_append_own _ rfl _ _ _ rfl w2.heap.size 5 i0 _ 1 1 Try.underlying23 hi hz0 hz1 hz2 rfl (by decide) _ _ _ rfl (own_ext HO.out (show ExtW _ _ from (Below.refl _ _).alloc (Nat.le_refl _) _)) ⟨wr.heap.size, 0, none⟩ 1 1 [.int .u8 ((UInt8.ofNat (n8 / 256)).toNat : Int)] rfl rfl (cell_one_new _ _ _) (by simp [Value.oneCell']) (by simp [maxLen]; omega) (by omega) (by simp; exact Nat.le_succ_of_le HE.out.size) ?_; intro v4 w4 hown4 hgrow4 _; have HO4 := Lib.hid hown4; have HE4 := Lib.hid (((Below.refl w2.heap.size wr).alloc HE.out.size _).grown hgrow4 (by simp; exact Nat.le_succ_of_le HE.out.size) (fun k hk => own_ge HO.out k hk)); clear hown4 hgrow4; obtain ⟨A4, c4, hv4⟩ := own_slice' HO4.out; subst hv4)
          go_roundw
          case rel =>
            refine ⟨7, _, A4, c4, rfl, by first | rfl | simp, by decide, by have := HM2.out; omega, Lib.hid (by have := HM2.out; omega), Lib.hid ?_, Lib.hid (Below.trans HE.out HE4.out)⟩
            have h := HO4.out
            simp only [S.be64, List.take_succ_cons, List.take_zero] at h ⊢
            rw [show ∀ (l : List UInt8) (b : UInt8), bvs l ++ [.int .u8 (b.toNat : Int)] = bvs (l ++ [b]) from fun l b => by rw [bvs_app]; rfl, List.append_assoc] at h
            exact h
          case measure => simp [intOf]
          -- devend
        · -- devbegin
          have hb : IntKind.u8.wrap ((n8 : Int)) = ((UInt8.ofNat (n8)).toNat : Int) := byteAt1 n8
          go_wp2_with (at_builtin; refine wpList_append_own _ rfl _ _ _ rfl w2.heap.size 5 i0 _ 1 1 Try.underlying23 hi hz0 hz1 hz2 rfl (by decide) _ _ _ rfl (own_ext HO.out (show ExtW _ _ from (Below.refl _ _).alloc (Nat.le_refl _) _)) ⟨wr.heap.size, 0, none⟩ 1 1 [.int .u8 ((UInt8.ofNat (n8)).toNat : Int)] rfl rfl (cell_one_new _ _ _) (by simp [Value.oneCell']) (by simp [maxLen]; omega) (by omega) (by simp; exact Nat.le_succ_of_le HE.out.size) ?_; intro v4 w4 hown4 hgrow4 _; have HO4 := Lib.hid hown4; have HE4 := Lib.hid (((Below.refl w2.heap.size wr).alloc HE.out.size _).grown hgrow4 (by simp; exact Nat.le_succ_of_le HE.out.size) (fun k hk => own_ge HO.out k hk)); clear hown4 hgrow4; obtain ⟨A4, c4, hv4⟩ := own_slice' HO4.out; subst hv4)
          go_roundw
          case rel =>
            refine ⟨8, _, A4, c4, rfl, by first | rfl | simp, by decide, by have := HM2.out; omega, Lib.hid (by have := HM2.out; omega), Lib.hid ?_, Lib.hid (Below.trans HE.out HE4.out)⟩
            have h := HO4.out
            simp only [S.be64, List.take_succ_cons, List.take_zero] at h ⊢
            rw [show ∀ (l : List UInt8) (b : UInt8), bvs l ++ [.int .u8 (b.toNat : Int)] = bvs (l ++ [b]) from fun l b => by rw [bvs_app]; rfl, List.append_assoc] at h
            exact h
          case measure => simp [intOf]
          -- devend
        · -- 8
          have HA2 : Hid (∀ a, A2 = some a → a.block ≠ x) := Lib.hid fun a ha => by
            have := own_ge HO.out a.block (by rw [ha]; rfl)
            have := HS2.out
            omega
          obtain ⟨ts, hts⟩ : ∃ ts, ts = (128 :: List.replicate m 0) ++ (S.be64 n8).take 8 := ⟨_, rfl⟩
          rw [← hts] at HO
          have HPD : Hid (S.padded l = l ++ ts) := Lib.hid (by
            unfold S.padded S.tail
            rw [hts, ← HT.out, HZZ.out, HN8.out, HK.out]
            rfl)
          have HRT : Hid (Rd wr A2 m2 c2 1 (bvs ts)) := Lib.hid (by obtain ⟨A', c', e1, h1, _⟩ := Rd.of_own HO.out; cases e1; exact h1)
          clear hts HO
          go_wp2_with fail
          refine (write_any x l A2 m2 c2 ts _ ⟨part, HP1.out, HP2.out, by have h := HX2.out.ext HE.out; rw [HT.out] at h; exact h⟩ HRT.out (fun _ => HA2.out) (by rw [← HT.out]; omega)).mono ?_
          rintro e w5 ⟨rfl, hg5, hh5⟩
          have HD5 : Hid (Row w5 w.heap.size 45 (bvs (List.replicate 32 0))) := Lib.hid ((hg5.block _ (HD2.out.ext HE.out).lt (fun e => by
            have h1 := Option.some.inj e
            have h2 := HD0.out.lt
            rw [h1, HXX.out] at h2
            exact absurd h2 (Nat.lt_irrefl _))).trans (HD2.out.ext HE.out))
          have HE5 : Hid (Below x w2 w5) := Lib.hid (Below.grown (HE.out.mono (Nat.le_of_lt HS2.out)) hg5 (Nat.le_trans (Nat.le_of_lt HS2.out) HE.out.size) (fun k hk => by rw [← Option.some.inj hk]; exact Nat.le_refl _))
          rw [← HPD.out] at hh5
          obtain ⟨p5, hq1, hq2, hq3⟩ := hh5
          obtain ⟨H, hH⟩ : ∃ H, H = S.hs (S.padded l) := ⟨_, rfl⟩
          rw [← hH] at hq3
          have HSH : Hid (S.sha l = S.digest H) := Lib.hid (by unfold S.sha; rw [hH])
          have HX5 := Lib.hid hq3
          clear hg5 hq1 hq2 hq3 hH HE HRT HA2 HPD HM2 hm80 hj
          go_upto_region 12 with (refine wpList_runW rfl rfl ?_; refine ⟨.pointer (some ⟨w5.heap.size, 0, none⟩), w5.alloc (.cells zDig 45), by kernel_rfl, ?_⟩)
          have HX6 : Hid (Row (w5.alloc (.cells zDig 45)) x 121 _) := Lib.hid (HX5.out.ext ((Below.refl _ _).alloc (Nat.le_refl _) _))
          have HD6 : Hid (Row (w5.alloc (.cells zDig 45)) w.heap.size 45 (bvs (List.replicate 32 0))) := Lib.hid (HD5.out.ext ((Below.refl _ _).alloc (Nat.le_refl _) _))
          have HN6 : Hid (Row (w5.alloc (.cells zDig 45)) w5.heap.size 45 (bvs (List.replicate 32 0))) := Lib.hid (by unfold Row; rw [heap_alloc_last]; rfl)
          have HE6 : Hid (Below x w2 (w5.alloc (.cells zDig 45))) := Lib.hid (HE5.out.alloc (Nat.le_trans (Nat.le_of_lt HS2.out) HE5.out.size) _)
          have HXL : Hid (x ≤ w5.heap.size) := Lib.hid (Nat.le_of_lt (Nat.lt_of_lt_of_le HS2.out HE5.out.size))
          have HWD : Hid (w.heap.size < w5.heap.size) := Lib.hid HD5.out.lt
          generalize w5.alloc (.cells zDig 45) = w6 at HX6 HD6 HN6 HE6 ⊢
          obtain ⟨y, hy⟩ : ∃ y, y = w5.heap.size := ⟨_, rfl⟩
          rw [← hy] at HN6 HXL HWD ⊢
          clear hy HX5 HD5 HE5
          obtain ⟨e0, e1, e2, e3, e4, e5, e6, e7⟩ := objV_h H p5 ((S.padded l).length % 64) (S.padded l).length
          have c0 := HX6.out.cell e0
          have c1 := HX6.out.cell e1
          have c2 := HX6.out.cell e2
          have c3 := HX6.out.cell e3
          have c4 := HX6.out.cell e4
          have c5 := HX6.out.cell e5
          have c6 := HX6.out.cell e6
          have c7 := HX6.out.cell e7
          simp only [uv] at c0 c1 c2 c3 c4 c5 c6 c7
          clear e0 e1 e2 e3 e4 e5 e6 e7
          go_wp2_with fail
          clear c0 c1 c2 c3 c4 c5 c6 c7
          go_loopw [43] (fun i wr => ∃ t : Nat, i = .int .i64 t ∧ t ≤ 8 ∧ Hid (Row wr y 45 (digV H t)) ∧ Hid (Below y w6 wr)) (fun i _ => 8 - (intOf i).toNat)
          case atStart => exact ⟨0, rfl, Nat.zero_le _, HN6, Lib.hid (Below.refl _ _)⟩
          case round =>
            obtain ⟨t, rfl, ht, HN, HB⟩ := hrel
            by_cases hlt : t < 8
            · -- devbegin
              have hti : (t : Int) < 8 := by omega
              rcases (by omega : t = 0 ∨ t = 1 ∨ t = 2 ∨ t = 3 ∨ t = 4 ∨ t = 5 ∨ t = 6 ∨ t = 7) with rfl | rfl | rfl | rfl | rfl | rfl | rfl | rfl
              · have HSET := Lib.hid (digV_set H (t := 0) (by decide))
                have c0 := HN.out.cell (j := 0) (v := _) rfl
                have c1 := HN.out.cell (j := 1) (v := _) rfl
                have c2 := HN.out.cell (j := 2) (v := _) rfl
                have c3 := HN.out.cell (j := 3) (v := _) rfl
                have f0 := HN.out.frozen 0
                have f1 := HN.out.frozen 1
                have f2 := HN.out.frozen 2
                have f3 := HN.out.frozen 3
                have b0 : IntKind.u8.wrap ((un H.a : Int) / (16777216 : Int)) = ((UInt8.ofNat (un H.a / 16777216)).toNat : Int) := byteAt (un H.a) 16777216
                have b1 : IntKind.u8.wrap ((un H.a : Int) / (65536 : Int)) = ((UInt8.ofNat (un H.a / 65536)).toNat : Int) := byteAt (un H.a) 65536
                have b2 : IntKind.u8.wrap ((un H.a : Int) / (256 : Int)) = ((UInt8.ofNat (un H.a / 256)).toNat : Int) := byteAt (un H.a) 256
                have b3 := byteAt1 (un H.a)
                have hidx : ∀ W : World, (Instr.index 115 (.agg #[.int .u32 (un H.a : Nat), .int .u32 (un H.b : Nat), .int .u32 (un H.c : Nat), .int .u32 (un H.d : Nat), .int .u32 (un H.e : Nat), .int .u32 (un H.f : Nat), .int .u32 (un H.g : Nat), .int .u32 (un H.h : Nat)]) (.int .i64 (0 : Int))).run Try.prog W = .ok (.int .u32 (un H.a : Nat)) W := fun W => idx8 H (t := 0) (by decide) W
                go_wp2_with fail
                go_roundw
                case rel =>
                  refine ⟨1, by first | rfl | simp, by decide, Lib.hid ?_, Lib.hid ((((HB.out.setCell (p := ⟨y, 0, none⟩) (Nat.le_refl _) _).setCell (p := ⟨y, 1, none⟩) (Nat.le_refl _) _).setCell (p := ⟨y, 2, none⟩) (Nat.le_refl _) _).setCell (p := ⟨y, 3, none⟩) (Nat.le_refl _) _)⟩
                  rw [← HSET.out]
                  exact (((HN.out.set 0 _).set 1 _).set 2 _).set 3 _
                case measure => simp [intOf]
              · have HSET := Lib.hid (digV_set H (t := 1) (by decide))
                have c0 := HN.out.cell (j := 4) (v := _) rfl
                have c1 := HN.out.cell (j := 5) (v := _) rfl
                have c2 := HN.out.cell (j := 6) (v := _) rfl
                have c3 := HN.out.cell (j := 7) (v := _) rfl
                have f0 := HN.out.frozen 4
                have f1 := HN.out.frozen 5
                have f2 := HN.out.frozen 6
                have f3 := HN.out.frozen 7
                have b0 : IntKind.u8.wrap ((un H.b : Int) / (16777216 : Int)) = ((UInt8.ofNat (un H.b / 16777216)).toNat : Int) := byteAt (un H.b) 16777216
                have b1 : IntKind.u8.wrap ((un H.b : Int) / (65536 : Int)) = ((UInt8.ofNat (un H.b / 65536)).toNat : Int) := byteAt (un H.b) 65536
                have b2 : IntKind.u8.wrap ((un H.b : Int) / (256 : Int)) = ((UInt8.ofNat (un H.b / 256)).toNat : Int) := byteAt (un H.b) 256
                have b3 := byteAt1 (un H.b)
                have hidx : ∀ W : World, (Instr.index 115 (.agg #[.int .u32 (un H.a : Nat), .int .u32 (un H.b : Nat), .int .u32 (un H.c : Nat), .int .u32 (un H.d : Nat), .int .u32 (un H.e : Nat), .int .u32 (un H.f : Nat), .int .u32 (un H.g : Nat), .int .u32 (un H.h : Nat)]) (.int .i64 (1 : Int))).run Try.prog W = .ok (.int .u32 (un H.b : Nat)) W := fun W => idx8 H (t := 1) (by decide) W
                go_wp2_with fail
                go_roundw
                case rel =>
                  refine ⟨2, by first | rfl | simp, by decide, Lib.hid ?_, Lib.hid ((((HB.out.setCell (p := ⟨y, 4, none⟩) (Nat.le_refl _) _).setCell (p := ⟨y, 5, none⟩) (Nat.le_refl _) _).setCell (p := ⟨y, 6, none⟩) (Nat.le_refl _) _).setCell (p := ⟨y, 7, none⟩) (Nat.le_refl _) _)⟩
                  rw [← HSET.out]
                  exact (((HN.out.set 4 _).set 5 _).set 6 _).set 7 _
                case measure => simp [intOf]
              · have HSET := Lib.hid (digV_set H (t := 2) (by decide))
                have c0 := HN.out.cell (j := 8) (v := _) rfl
                have c1 := HN.out.cell (j := 9) (v := _) rfl
                have c2 := HN.out.cell (j := 10) (v := _) rfl
                have c3 := HN.out.cell (j := 11) (v := _) rfl
                have f0 := HN.out.frozen 8
                have f1 := HN.out.frozen 9
                have f2 := HN.out.frozen 10
                have f3 := HN.out.frozen 11
                have b0 : IntKind.u8.wrap ((un H.c : Int) / (16777216 : Int)) = ((UInt8.ofNat (un H.c / 16777216)).toNat : Int) := byteAt (un H.c) 16777216
                have b1 : IntKind.u8.wrap ((un H.c : Int) / (65536 : Int)) = ((UInt8.ofNat (un H.c / 65536)).toNat : Int) := byteAt (un H.c) 65536
                have b2 : IntKind.u8.wrap ((un H.c : Int) / (256 : Int)) = ((UInt8.ofNat (un H.c / 256)).toNat : Int) := byteAt (un H.c) 256
                have b3 := byteAt1 (un H.c)
                have hidx : ∀ W : World, (Instr.index 115 (.agg #[.int .u32 (un H.a : Nat), .int .u32 (un H.b : Nat), .int .u32 (un H.c : Nat), .int .u32 (un H.d : Nat), .int .u32 (un H.e : Nat), .int .u32 (un H.f : Nat), .int .u32 (un H.g : Nat), .int .u32 (un H.h : Nat)]) (.int .i64 (2 : Int))).run Try.prog W = .ok (.int .u32 (un H.c : Nat)) W := fun W => idx8 H (t := 2) (by decide) W
                go_wp2_with fail
                go_roundw
                case rel =>
                  refine ⟨3, by first | rfl | simp, by decide, Lib.hid ?_, Lib.hid ((((HB.out.setCell (p := ⟨y, 8, none⟩) (Nat.le_refl _) _).setCell (p := ⟨y, 9, none⟩) (Nat.le_refl _) _).setCell (p := ⟨y, 10, none⟩) (Nat.le_refl _) _).setCell (p := ⟨y, 11, none⟩) (Nat.le_refl _) _)⟩
                  rw [← HSET.out]
                  exact (((HN.out.set 8 _).set 9 _).set 10 _).set 11 _
                case measure => simp [intOf]
              · have HSET := Lib.hid (digV_set H (t := 3) (by decide))
                have c0 := HN.out.cell (j := 12) (v := _) rfl
                have c1 := HN.out.cell (j := 13) (v := _) rfl
                have c2 := HN.out.cell (j := 14) (v := _) rfl
                have c3 := HN.out.cell (j := 15) (v := _) rfl
                have f0 := HN.out.frozen 12
                have f1 := HN.out.frozen 13
                have f2 := HN.out.frozen 14
                have f3 := HN.out.frozen 15
                have b0 : IntKind.u8.wrap ((un H.d : Int) / (16777216 : Int)) = ((UInt8.ofNat (un H.d / 16777216)).toNat : Int) := byteAt (un H.d) 16777216
                have b1 : IntKind.u8.wrap ((un H.d : Int) / (65536 : Int)) = ((UInt8.ofNat (un H.d / 65536)).toNat : Int) := byteAt (un H.d) 65536
                have b2 : IntKind.u8.wrap ((un H.d : Int) / (256 : Int)) = ((UInt8.ofNat (un H.d / 256)).toNat : Int) := byteAt (un H.d) 256
                have b3 := byteAt1 (un H.d)
                have hidx : ∀ W : World, (Instr.index 115 (.agg #[.int .u32 (un H.a : Nat), .int .u32 (un H.b : Nat), .int .u32 (un H.c : Nat), .int .u32 (un H.d : Nat), .int .u32 (un H.e : Nat), .int .u32 (un H.f : Nat), .int .u32 (un H.g : Nat), .int .u32 (un H.h : Nat)]) (.int .i64 (3 : Int))).run Try.prog W = .ok (.int .u32 (un H.d : Nat)) W := fun W => idx8 H (t := 3) (by decide) W
                go_wp2_with fail
                go_roundw
                case rel =>
                  refine ⟨4, by first | rfl | simp, by decide, Lib.hid ?_, Lib.hid ((((HB.out.setCell (p := ⟨y, 12, none⟩) (Nat.le_refl _) _).setCell (p := ⟨y, 13, none⟩) (Nat.le_refl _) _).setCell (p := ⟨y, 14, none⟩) (Nat.le_refl _) _).setCell (p := ⟨y, 15, none⟩) (Nat.le_refl _) _)⟩
                  rw [← HSET.out]
                  exact (((HN.out.set 12 _).set 13 _).set 14 _).set 15 _
                case measure => simp [intOf]
              · have HSET := Lib.hid (digV_set H (t := 4) (by decide))
                have c0 := HN.out.cell (j := 16) (v := _) rfl
                have c1 := HN.out.cell (j := 17) (v := _) rfl
                have c2 := HN.out.cell (j := 18) (v := _) rfl
                have c3 := HN.out.cell (j := 19) (v := _) rfl
                have f0 := HN.out.frozen 16
                have f1 := HN.out.frozen 17
                have f2 := HN.out.frozen 18
                have f3 := HN.out.frozen 19
                have b0 : IntKind.u8.wrap ((un H.e : Int) / (16777216 : Int)) = ((UInt8.ofNat (un H.e / 16777216)).toNat : Int) := byteAt (un H.e) 16777216
                have b1 : IntKind.u8.wrap ((un H.e : Int) / (65536 : Int)) = ((UInt8.ofNat (un H.e / 65536)).toNat : Int) := byteAt (un H.e) 65536
                have b2 : IntKind.u8.wrap ((un H.e : Int) / (256 : Int)) = ((UInt8.ofNat (un H.e / 256)).toNat : Int) := byteAt (un H.e) 256
                have b3 := byteAt1 (un H.e)
                have hidx : ∀ W : World, (Instr.index 115 (.agg #[.int .u32 (un H.a : Nat), .int .u32 (un H.b : Nat), .int .u32 (un H.c : Nat), .int .u32 (un H.d : Nat), .int .u32 (un H.e : Nat), .int .u32 (un H.f : Nat), .int .u32 (un H.g : Nat), .int .u32 (un H.h : Nat)]) (.int .i64 (4 : Int))).run Try.prog W = .ok (.int .u32 (un H.e : Nat)) W := fun W => idx8 H (t := 4) (by decide) W
                go_wp2_with fail
                go_roundw
                case rel =>
                  refine ⟨5, by first | rfl | simp, by decide, Lib.hid ?_, Lib.hid ((((HB.out.setCell (p := ⟨y, 16, none⟩) (Nat.le_refl _) _).setCell (p := ⟨y, 17, none⟩) (Nat.le_refl _) _).setCell (p := ⟨y, 18, none⟩) (Nat.le_refl _) _).setCell (p := ⟨y, 19, none⟩) (Nat.le_refl _) _)⟩
                  rw [← HSET.out]
                  exact (((HN.out.set 16 _).set 17 _).set 18 _).set 19 _
                case measure => simp [intOf]
              · have HSET := Lib.hid (digV_set H (t := 5) (by decide))
                have c0 := HN.out.cell (j := 20) (v := _) rfl
                have c1 := HN.out.cell (j := 21) (v := _) rfl
                have c2 := HN.out.cell (j := 22) (v := _) rfl
                have c3 := HN.out.cell (j := 23) (v := _) rfl
                have f0 := HN.out.frozen 20
                have f1 := HN.out.frozen 21
                have f2 := HN.out.frozen 22
                have f3 := HN.out.frozen 23
                have b0 : IntKind.u8.wrap ((un H.f : Int) / (16777216 : Int)) = ((UInt8.ofNat (un H.f / 16777216)).toNat : Int) := byteAt (un H.f) 16777216
                have b1 : IntKind.u8.wrap ((un H.f : Int) / (65536 : Int)) = ((UInt8.ofNat (un H.f / 65536)).toNat : Int) := byteAt (un H.f) 65536
                have b2 : IntKind.u8.wrap ((un H.f : Int) / (256 : Int)) = ((UInt8.ofNat (un H.f / 256)).toNat : Int) := byteAt (un H.f) 256
                have b3 := byteAt1 (un H.f)
                have hidx : ∀ W : World, (Instr.index 115 (.agg #[.int .u32 (un H.a : Nat), .int .u32 (un H.b : Nat), .int .u32 (un H.c : Nat), .int .u32 (un H.d : Nat), .int .u32 (un H.e : Nat), .int .u32 (un H.f : Nat), .int .u32 (un H.g : Nat), .int .u32 (un H.h : Nat)]) (.int .i64 (5 : Int))).run Try.prog W = .ok (.int .u32 (un H.f : Nat)) W := fun W => idx8 H (t := 5) (by decide) W
                go_wp2_with fail
                go_roundw
                case rel =>
                  refine ⟨6, by first | rfl | simp, by decide, Lib.hid ?_, Lib.hid ((((HB.out.setCell (p := ⟨y, 20, none⟩) (Nat.le_refl _) _).setCell (p := ⟨y, 21, none⟩) (Nat.le_refl _) _).setCell (p := ⟨y, 22, none⟩) (Nat.le_refl _) _).setCell (p := ⟨y, 23, none⟩) (Nat.le_refl _) _)⟩
                  rw [← HSET.out]
                  exact (((HN.out.set 20 _).set 21 _).set 22 _).set 23 _
                case measure => simp [intOf]
              · have HSET := Lib.hid (digV_set H (t := 6) (by decide))
                have c0 := HN.out.cell (j := 24) (v := _) rfl
                have c1 := HN.out.cell (j := 25) (v := _) rfl
                have c2 := HN.out.cell (j := 26) (v := _) rfl
                have c3 := HN.out.cell (j := 27) (v := _) rfl
                have f0 := HN.out.frozen 24
                have f1 := HN.out.frozen 25
                have f2 := HN.out.frozen 26
                have f3 := HN.out.frozen 27
                have b0 : IntKind.u8.wrap ((un H.g : Int) / (16777216 : Int)) = ((UInt8.ofNat (un H.g / 16777216)).toNat : Int) := byteAt (un H.g) 16777216
                have b1 : IntKind.u8.wrap ((un H.g : Int) / (65536 : Int)) = ((UInt8.ofNat (un H.g / 65536)).toNat : Int) := byteAt (un H.g) 65536
                have b2 : IntKind.u8.wrap ((un H.g : Int) / (256 : Int)) = ((UInt8.ofNat (un H.g / 256)).toNat : Int) := byteAt (un H.g) 256
                have b3 := byteAt1 (un H.g)
                have hidx : ∀ W : World, (Instr.index 115 (.agg #[.int .u32 (un H.a : Nat), .int .u32 (un H.b : Nat), .int .u32 (un H.c : Nat), .int .u32 (un H.d : Nat), .int .u32 (un H.e : Nat), .int .u32 (un H.f : Nat), .int .u32 (un H.g : Nat), .int .u32 (un H.h : Nat)]) (.int .i64 (6 : Int))).run Try.prog W = .ok (.int .u32 (un H.g : Nat)) W := fun W => idx8 H (t := 6) (by decide) W
                go_wp2_with fail
                go_roundw
                case rel =>
                  refine ⟨7, by first | rfl | simp, by decide, Lib.hid ?_, Lib.hid ((((HB.out.setCell (p := ⟨y, 24, none⟩) (Nat.le_refl _) _).setCell (p := ⟨y, 25, none⟩) (Nat.le_refl _) _).setCell (p := ⟨y, 26, none⟩) (Nat.le_refl _) _).setCell (p := ⟨y, 27, none⟩) (Nat.le_refl _) _)⟩
                  rw [← HSET.out]
                  exact (((HN.out.set 24 _).set 25 _).set 26 _).set 27 _
                case measure => simp [intOf]
              · have HSET := Lib.hid (digV_set H (t := 7) (by decide))
                have c0 := HN.out.cell (j := 28) (v := _) rfl
                have c1 := HN.out.cell (j := 29) (v := _) rfl
                have c2 := HN.out.cell (j := 30) (v := _) rfl
                have c3 := HN.out.cell (j := 31) (v := _) rfl
                have f0 := HN.out.frozen 28
                have f1 := HN.out.frozen 29
                have f2 := HN.out.frozen 30
                have f3 := HN.out.frozen 31
                have b0 : IntKind.u8.wrap ((un H.h : Int) / (16777216 : Int)) = ((UInt8.ofNat (un H.h / 16777216)).toNat : Int) := byteAt (un H.h) 16777216
                have b1 : IntKind.u8.wrap ((un H.h : Int) / (65536 : Int)) = ((UInt8.ofNat (un H.h / 65536)).toNat : Int) := byteAt (un H.h) 65536
                have b2 : IntKind.u8.wrap ((un H.h : Int) / (256 : Int)) = ((UInt8.ofNat (un H.h / 256)).toNat : Int) := byteAt (un H.h) 256
                have b3 := byteAt1 (un H.h)
                have hidx : ∀ W : World, (Instr.index 115 (.agg #[.int .u32 (un H.a : Nat), .int .u32 (un H.b : Nat), .int .u32 (un H.c : Nat), .int .u32 (un H.d : Nat), .int .u32 (un H.e : Nat), .int .u32 (un H.f : Nat), .int .u32 (un H.g : Nat), .int .u32 (un H.h : Nat)]) (.int .i64 (7 : Int))).run Try.prog W = .ok (.int .u32 (un H.h : Nat)) W := fun W => idx8 H (t := 7) (by decide) W
                go_wp2_with fail
                go_roundw
                case rel =>
                  refine ⟨8, by first | rfl | simp, by decide, Lib.hid ?_, Lib.hid ((((HB.out.setCell (p := ⟨y, 28, none⟩) (Nat.le_refl _) _).setCell (p := ⟨y, 29, none⟩) (Nat.le_refl _) _).setCell (p := ⟨y, 30, none⟩) (Nat.le_refl _) _).setCell (p := ⟨y, 31, none⟩) (Nat.le_refl _) _)⟩
                  rw [← HSET.out]
                  exact (((HN.out.set 28 _).set 29 _).set 30 _).set 31 _
                case measure => simp [intOf]
              -- devend
            · obtain rfl : t = 8 := by omega
              have hti : ¬ ((8 : Nat) : Int) < 8 := by omega
              have HD7 : Hid (Row wr w.heap.size 45 (bvs (List.replicate 32 0))) := Lib.hid ((HB.out.block _ HWD.out).trans HD6.out)
              have HVL : Hid ((digV H 8).toArray.size = 32) := Lib.hid (by rw [List.size_toArray, digV_len H (by decide)])
              have HV1 : Hid ((digV H 8).toArray.all (·.oneCell') = true) := Lib.hid (all_oneCell_toArray (bvs_one _))
              go_wp2_with (first
                | (refine wpList_ld rfl rfl ?_; refine ⟨y, _, _, _, rfl, HN.out, Try.underlying45, rfl, by rw [HVL.out]; kernel_rfl, ?_⟩)
                | (refine wpList_st rfl rfl ?_; refine ⟨w.heap.size, _, _, _, rfl, rfl, HD7.out, by rw [HVL.out]; kernel_rfl, Eq.trans (show (bvs (List.replicate 32 0)).toArray.size = 32 from rfl) HVL.out.symm, HV1.out, ?_⟩))
              (try simp only [Exit.inBlock, Exit.then])
              have HFB : Hid (ExtW w (wr.setRow w.heap.size (digV H 8).toArray)) := Lib.hid (below_setRow (Below.trans HE0.out (Below.mono (Below.trans HE2.out (Below.mono (Below.trans HE6.out (HB.out.mono HXL.out)) (by rw [HXX.out]; exact Nat.le_refl _))) HE0.out.size)) (Nat.le_refl _) _)
              refine bodyPost_ret (v := .agg (bvs (S.sha l)).toArray) ?_ rfl ⟨rfl, HFB.out⟩
              have h := run_loadVar_row (P := Try.prog) (wr.setRow w.heap.size (digV H 8).toArray) w.heap.size 45 45 (digV H 8).toArray (0, 0) _ (Row.setRow HD7.out (digV H 8)) Try.underlying45 rfl (by rw [HVL.out]; kernel_rfl)
              have e : digV H 8 = bvs (S.sha l) := by rw [HSH.out]; rfl
              rw [e] at h ⊢
              simpa [results, Try.f68, Act.put, asAddr] using h
end Go.Proofs.Ythaoibgcgkmnbaa
