/- A row of bytes that a string was turned into, appended to; walks of the document's turned, Constants and Padded. Walk of the document's schedule. Walk of the document's Of. The bits that are kept, plainly. Walk of the document's Kept. -/
import Derived.Test.YthaoibgcgkmnbaaS5
import Derived.Laws.IdiomStrings
import Derived.ArgAppend
import Derived.Test.YthaoibgcgkmnbaaExtT
import Derived.StillTailTactics
import Derived.Test.YthaoibgcgkmnbaaKept
namespace Go.Proofs.Ythaoibgcgkmnbaa
set_option maxRecDepth 100000
set_option maxRecDepth 100000
open Go.RowKit

/-- a row of bytes of the call's own, which may bear the mark of a conversion -/
def OwM (w : World) (base : Nat) (v : Value) (n : Nat) (xs : List UInt8) : Prop :=
  ∃ (g c : Nat) (cur : Array Value) (fz : Nat × Nat), v = .slice (some ⟨g, 0, none⟩) n c ∧ base ≤ g ∧ w.heap[g]? = some (.cells cur 5 fz) ∧ n ≤ c ∧ c ≤ maxLen ∧ cur.size = c ∧ (fz = (0, 0) ∨ c ≤ fz.1) ∧ cur.toList.take n = bvs xs

theorem OwM.len {w : World} {base n : Nat} {v : Value} {xs : List UInt8} (h : OwM w base v n xs) : xs.length = n := by
  obtain ⟨g, c, cur, fz, _, _, _, h4, _, h6, _, h8⟩ := h
  have := congrArg List.length h8
  rw [List.length_take, Array.length_toList, bvs_len, h6] at this
  omega
theorem OwM.rd {w : World} {base n : Nat} {v : Value} {xs : List UInt8} (h : OwM w base v n xs) : ∃ g c, v = .slice (some ⟨g, 0, none⟩) n c ∧ base ≤ g ∧ g < w.heap.size ∧ Rd w (some ⟨g, 0, none⟩) n c 1 (bvs xs) := by
  have hl := h.len
  obtain ⟨g, c, cur, fz, h1, h2, h3, h4, h5, h6, h7, h8⟩ := h
  refine ⟨g, c, h1, h2, (Array.getElem?_eq_some_iff.1 h3).1, by rw [bvs_len, hl, Nat.mul_one], h4, h5, (fun e => by cases e), fun a ha j u hj => ?_⟩
  cases ha
  rw [Addr.add_mid, Nat.zero_add, cell_of_row w g j cur _ fz h3]
  rw [← h8, List.getElem?_take] at hj
  split at hj
  · simpa using hj
  · cases hj
theorem OwM.ext {w w' : World} {base n : Nat} {v : Value} {xs : List UInt8} (h : OwM w base v n xs) (hb : ExtW w w') : OwM w' base v n xs := by
  obtain ⟨g, c, cur, fz, h1, h2, h3, h⟩ := h
  exact ⟨g, c, cur, fz, h1, h2, (hb.block g (Array.getElem?_eq_some_iff.1 h3).1).trans h3, h⟩

/-- one byte more -/
theorem append_m {w : World} {base n : Nat} {v : Value} {xs : List UInt8} (h : OwM w base v n xs) (x : UInt8) (a : Nat) (hx : w.cell? ⟨a, 0, none⟩ = some (.int .u8 (x.toNat : Int))) (hn : n + 1 ≤ 1000000000000) (hbase : base ≤ w.heap.size) :
    ∃ v' w', (Builtin.append_ #[23, 23] 23 #[v, .slice (some ⟨a, 0, none⟩) 1 1]).run Try.prog w = .ok v' w' ∧ OwM w' base v' (n + 1) (xs ++ [x]) ∧ Below base w w' := by
  obtain ⟨i0, hi, hz0, hz1, hz2⟩ := info_parts infoB
  have hl := h.len
  obtain ⟨g0, c0, e0, _, _, hrd⟩ := h.rd
  obtain ⟨g, c, cur, fz, h1, h2, h3, h4, h5, h6, h7, h8⟩ := h
  rw [h1] at e0
  obtain ⟨rfl, rfl⟩ : g0 = g ∧ c0 = c := by cases e0; exact ⟨rfl, rfl⟩
  clear e0
  subst h1
  have hnews : ∀ j u, [Value.int .u8 (x.toNat : Int)][j]? = some u → w.cell? ((⟨a, 0, none⟩ : Addr).add j) = some u := by
    intro j u hj
    cases j with
    | zero => simp at hj; subst hj; rw [Addr.add_mid]; exact hx
    | succ j => simp at hj
  by_cases hroom : n + 1 ≤ c0
  · have hfr : w.frozen? ⟨g0, n, none⟩ = false := by
      unfold World.frozen?
      rw [h3]
      rcases h7 with rfl | h7
      · simp
      · obtain ⟨lo, hi'⟩ := fz
        simp only at h7 ⊢
        simp
        omega
    have hce : (w.cell? ⟨g0, n, none⟩).isSome = true := by
      rw [cell_of_row w g0 n cur _ fz h3, Array.getElem?_eq_getElem (by omega)]; rfl
    have hrun := run_append_room_cells (P := Try.prog) w 23 23 5 i0 Try.underlying23 hi g0 0 n c0 ⟨a, 0, none⟩ 1 1 [.int .u8 (x.toNat : Int)] (by rw [hz1]; rfl) hnews (by simp [Value.oneCell']) hroom
      (fun j hj => by simp at hj; subst hj; rw [hz1]; simpa using hce) (fun j hj => by simp at hj; subst hj; rw [hz1]; simpa using hfr)
    rw [hz1, Nat.zero_add, Nat.mul_one] at hrun
    refine ⟨_, _, hrun, ⟨g0, c0, cur.setIfInBounds n (.int .u8 (x.toNat : Int)), fz, rfl, h2, ?_, hroom, h5, by simpa using h6, h7, ?_⟩, ?_⟩
    · show (w.setCell ⟨g0, n, none⟩ _).heap[g0]? = _
      rw [setCell_eq_setRow w g0 n cur 5 fz _ h3]
      exact setRow_heap w g0 cur _ _ fz h3
    · rw [Array.toList_setIfInBounds, List.take_add_one, List.take_set_of_le (Nat.le_refl _), h8, bvs_app]
      congr 1
      rw [List.getElem?_set_self (by rw [Array.length_toList]; omega)]
      rfl
    · exact (Below.refl base w).setCell (p := ⟨g0, n, none⟩) h2 _
  · obtain ⟨v', w', hrun, hown, hgr⟩ := run_append_arg_grows (P := Try.prog) w 23 23 5 i0 _ 1 1 Try.underlying23 hi hz0 hz1 hz2 rfl (by omega) ⟨g0, 0, none⟩ n c0 (bvs xs) (by rw [bvs_len, hl, Nat.mul_one]) (hrd.cell _ rfl) ⟨a, 0, none⟩ 1 1 [.int .u8 (x.toNat : Int)] rfl hnews (by omega) (by simp [maxLen]; omega) (by omega)
    refine ⟨v', w', hrun, ?_, (Below.refl base w).grown hgr hbase (fun k hk => by cases hk)⟩
    rcases hown.2 with ⟨_, h0⟩ | ⟨g0', c0', cur', hv', hb', hg', hn', hm', hs', ht'⟩
    · omega
    · refine ⟨g0', c0', cur', (0, 0), hv', Nat.le_trans hbase hb', hg', hn', hm', by simpa using hs', .inl rfl, ?_⟩
      rw [bvs_app]
      rw [Nat.mul_one] at ht'; exact ht'

theorem wpList_append_m {ops : Array Oper} {rest : List Oper} {o : Oper} {a : Act} {w : World} {Q : Exit → Act → World → Prop} (hgd : o.guard = none) (s x : Operand)
    (ho : o.op = .call { callee := .builtin .append, args := #[s, x], argTypes := #[23, 23] }) (hot : o.type = 23) (base n : Nat) (v : Value) (xs : List UInt8) (hs : a.eval s = v) (h : OwM w base v n xs) (b : UInt8) (g : Nat)
    (hx : a.eval x = .slice (some ⟨g, 0, none⟩) 1 1) (hc : w.cell? ⟨g, 0, none⟩ = some (.int .u8 (b.toNat : Int))) (hn : n + 1 ≤ 1000000000000) (hbase : base ≤ w.heap.size)
    (hK : ∀ v' w', OwM w' base v' (n + 1) (xs ++ [b]) → Below base w w' → wpList Try.prog ops Q rest (a.put o.dst v') w') : wpList Try.prog ops Q (o :: rest) a w := by
  obtain ⟨v', w', hrun, h1, h2⟩ := append_m h b g hc hn hbase
  refine wpList_plain hgd fun K hK' => ?_
  unfold Oper.wp execOp
  simp only [ho, hot, resolve, invoke, builtin, Sem.run_bind, Sem.run_pure, Result.andThen_ok, List.map_toArray, List.map_cons, List.map_nil, hs, hx, hrun]
  exact hK' _ _ (hK v' w' h1 h2)

/-- what '[]byte(s)' makes -/
theorem bytes_of (s : ByteArray) (w : World) (hs : s.size ≤ 1000000000000) : ∃ v w', (convert 9 23 (.string s)).run Try.prog w = .ok v w' ∧ OwM w' w.heap.size v s.size s.data.toList ∧ ExtW w w' := by
  have h := run_bytes_of_string (P := Try.prog) w 9 23 5 s Try.underlying9 Try.underlying23 Try.underlying5
  have hge := grownCap_ge w s.size 0 5
  have hle := grownCap_le_maxLen w s.size 0 5 (by simp [maxLen]; omega)
  obtain ⟨c, hc⟩ : ∃ c, c = grownCap w s.size 0 5 := ⟨_, rfl⟩
  rw [← hc] at h hge hle
  have hsz : (bytesRow s c).size = c := by
    unfold bytesRow
    rw [Array.size_append, Array.size_map, Array.size_replicate]
    have : s.data.size = s.size := rfl
    omega
  rw [hsz] at h
  refine ⟨_, _, h, ⟨w.heap.size, c, bytesRow s c, (c, c + 1), rfl, Nat.le_refl _, heap_alloc_new w.drew _, hge, hle, hsz, .inr (Nat.le_refl _), ?_⟩, ?_⟩
  · have e : (bytesRow s c).toList = bvs s.data.toList ++ List.replicate (c - s.size) (.int .u8 0) := by
      unfold bytesRow bvs
      simp
    rw [e, List.take_append_of_le_length (by rw [bvs_len, size_list]; exact Nat.le_refl _), List.take_of_length_le (by rw [bvs_len, size_list]; exact Nat.le_refl _)]
  · exact Below.trans ((Below.refl _ w).drew) ((Below.refl _ w.drew).alloc (Nat.le_refl _) _)

theorem turned_any (x n : UInt32) (k : Nat) (hk : 1 ≤ k ∧ k ≤ 31) (hn : n.toNat = k) (w : World) :
    Calls Try.prog 72 #[.int .u32 (un x : Nat), .int .i64 (k : Int)] w fun e w' => e = .returned (.int .u32 (un (S.rotr x n) : Nat)) ∧ w' = w := by
  obtain ⟨s, hs⟩ : ∃ s, s = 32 - k := ⟨_, rfl⟩
  have hk32 : k < 32 := by omega
  have hs32 : s < 32 := by omega
  have hfin : bits .or .u32 ((un x : Int) / 2 ^ k) ((un x : Int) * 2 ^ s % 4294967296) = (un (S.rotr x n) : Int) := by
    have hl := un_shl x (32 - n) s (by rw [UInt32.toNat_sub]; simp; omega) hs32
    have hr := un_shr x n k hn hk32
    have ho := un_or (x >>> n) (x <<< (32 - n))
    have e1 : ((2 ^ s : Nat) : Int) = 2 ^ s := by simp
    have e2 : ((2 ^ k : Nat) : Int) = 2 ^ k := by simp
    rw [← e1, ← e2, hl, hr, ho]
    rfl
  have hsk : (32 : Int) - (k : Int) = (s : Int) := by omega
  clear hs
  go_enter Try.func72, Try.ntmps72
  go_wp2
  go_ret
  exact ⟨rfl, rfl⟩

set_option maxRecDepth 100000 in
set_option maxHeartbeats 4000000 in
theorem consts_any (w : World) : Calls Try.prog 69 #[] w fun e w' => ∃ g, e = .returned (.slice (some ⟨g, 0, none⟩) 64 64) ∧ Row w' g 109 (S.KS.map uv) ∧ ExtW w w' := by
  go_enter Try.func69, Try.ntmps69
  go_wp2
  go_ret
  refine ⟨w.heap.size, rfl, ?_, (Below.refl _ _).alloc (Nat.le_refl _) _⟩
  unfold Row
  rw [heap_alloc_last]
  kernel_rfl
theorem cell_new1p (w : World) (v : Value) (e : TypeId) : (w.alloc (.cells #[v] e)).cell? ⟨w.heap.size, 0, none⟩ = some v := by
  have h1 : (w.alloc (.cells #[v] e)).heap[w.heap.size]? = some (.cells #[v] e) := heap_alloc_new w _
  unfold World.cell?
  simp only [h1]
  rfl

set_option maxHeartbeats 4000000 in
set_option maxRecDepth 100000 in
theorem padded_any (s : ByteArray) (w : World) (hn : s.size ≤ 1000000000) :
    Calls Try.prog 70 #[.string s] w fun e w' => ∃ v, e = .returned v ∧ OwM w' w.heap.size v (S.padded s.data.toList).length (S.padded s.data.toList) ∧ ExtW w w' := by
  obtain ⟨v1, w1, hcv, hown1, hb1⟩ := bytes_of s w (by omega)
  obtain ⟨l, hl⟩ : ∃ l, l = s.data.toList := ⟨_, rfl⟩
  rw [← hl] at hown1 ⊢
  obtain ⟨T, hT⟩ : ∃ T, T = s.size := ⟨_, rfl⟩
  have HTL : Hid (T = l.length) := Lib.hid (by rw [hT, hl, size_list])
  have HSZ := Lib.hid hT
  rw [← hT] at hown1 hn
  have HB1 := Lib.hid hb1
  have HO1 := Lib.hid hown1
  obtain ⟨g1, c1, hv1, _, _, _⟩ := hown1.rd
  subst hv1
  have hsz : s.size = T := hT.symm
  clear hown1 hb1 hl hT
  go_enter Try.func70, Try.ntmps70
  go_upto_region 2 with (fail)
  clear hcv
  go_upto_block 0 with (at_builtin; refine wpList_append_m rfl _ _ rfl rfl w.heap.size T _ l rfl (HO1.out.ext ((Below.refl _ _).alloc (Nat.le_refl _) _)) 128 _ rfl (cell_new1p _ _ _) (by omega) (by simp; exact Nat.le_succ_of_le HB1.out.size) ?_; intro v4 w4 hown4 hb4; have HO4 := Lib.hid hown4; have HE4 := Lib.hid (Below.trans ((Below.refl _ _).alloc HB1.out.size _) hb4); clear hown4 hb4; obtain ⟨g4, c4, hv4, _, _, _⟩ := HO4.out.rd; subst hv4)
  have HE1 := Lib.hid (Below.trans HB1.out HE4.out)
  obtain ⟨zz, hzz⟩ : ∃ z, z = (119 - T % 64) % 64 := ⟨_, rfl⟩
  have hz64 : zz < 64 := by omega
  have HZZ := Lib.hid hzz
  clear hzz
  go_wp2_with fail
  go_loopw [3] (fun v wr => ∃ (m : Nat) (A : Option Addr) (c : Nat), v = .slice A (T + 1 + m) c ∧ m ≤ zz ∧ Hid (OwM wr w.heap.size v (T + 1 + m) (l ++ (128 :: List.replicate m 0))) ∧ Hid (ExtW w wr)) (fun v _ => T + 1 + zz - slLen v)
  case atStart => exact ⟨0, _, _, rfl, Nat.zero_le _, HO4, HE1⟩
  case round =>
    clear HO4 HE1 HE4 HO1 HB1
    obtain ⟨m, A, c, rfl, hmz, HO, HE⟩ := hrel
    by_cases hlt : m < zz
    · have hne : (((T : Int) + 1 + (m : Int)) % 64 != 56) = true := by have := HZZ.out; simp; omega
      go_wp2_with (at_builtin; refine wpList_append_m rfl _ _ rfl rfl w.heap.size (T + 1 + m) _ _ rfl (HO.out.ext ((Below.refl _ _).alloc (Nat.le_refl _) _)) 0 _ rfl (cell_new1p _ _ _) (by omega) (by simp; exact Nat.le_succ_of_le HE.out.size) ?_; intro v4 w4 hown4 hb4; have HO4 := Lib.hid hown4; have HE4 := Lib.hid (Below.trans ((Below.refl _ _).alloc HE.out.size _) hb4); clear hown4 hb4; obtain ⟨g4, c4, hv4, _, _, _⟩ := HO4.out.rd; subst hv4)
      go_roundw
      case rel =>
        refine ⟨m + 1, _, _, rfl, hlt, Lib.hid ?_, Lib.hid (Below.trans HE.out HE4.out)⟩
        have h := HO4.out
        rw [List.append_assoc, List.cons_append, ← List.replicate_succ'] at h
        exact h
      case measure => simp [slLen]; omega
    · obtain rfl : m = zz := by omega
      have hne : (((T : Int) + 1 + (m : Int)) % 64 != 56) = false := by have := HZZ.out; simp; omega
      obtain ⟨n8, hn8⟩ : ∃ n, n = 8 * T := ⟨_, rfl⟩
      have h8 : (T : Int) * 8 = (n8 : Int) := by omega
      have h8w : IntKind.u64.wrap ((T : Int) * 8) = (n8 : Int) := by rw [h8]; simp [IntKind.wrap, IntKind.bits, IntKind.signed]; omega
      have HN8 := Lib.hid hn8
      have HW4 := Lib.hid HO.out
      have HE5 := Lib.hid HE.out
      clear HO HE hn8
      go_upto_region 6 with (fail)
      clear h8 h8w hne hsz
      go_wp2_with fail
      go_loopw [3, 5] (fun v i wr => ∃ (j q : Nat) (A : Option Addr) (c : Nat), v = .slice A q c ∧ i = .int .i64 (7 - (j : Int)) ∧ j ≤ 8 ∧ q ≤ 2000000000 ∧ Hid (q = T + 1 + m + j) ∧ Hid (OwM wr w.heap.size v q ((l ++ (128 :: List.replicate m 0)) ++ (S.be64 n8).take j)) ∧ Hid (ExtW w wr)) (fun _ i _ => (intOf i + 1).toNat)
      case atStart => exact ⟨0, _, _, _, rfl, rfl, by decide, by omega, Lib.hid rfl, Lib.hid (by rw [List.take_zero, List.append_nil]; exact HW4.out), HE5⟩
      case round =>
        clear HW4 HE5
        obtain ⟨j, m2, A2, c2, rfl, rfl, hj, hm80, HM2, HO, HE⟩ := hrel
        rcases (by omega : j = 0 ∨ j = 1 ∨ j = 2 ∨ j = 3 ∨ j = 4 ∨ j = 5 ∨ j = 6 ∨ j = 7 ∨ j = 8) with rfl | rfl | rfl | rfl | rfl | rfl | rfl | rfl | rfl
        · have hb : IntKind.u8.wrap ((n8 : Int) / 72057594037927936) = ((UInt8.ofNat (n8 / 256 ^ 7)).toNat : Int) := byteAt n8 72057594037927936
          go_wp2_with (at_builtin; refine wpList_append_m rfl _ _ rfl rfl w.heap.size m2 _ _ rfl (HO.out.ext ((Below.refl _ _).alloc (Nat.le_refl _) _)) (UInt8.ofNat (n8 / 256 ^ 7)) _ rfl (cell_new1p _ _ _) (by omega) (by simp; exact Nat.le_succ_of_le HE.out.size) ?_; intro v4 w4 hown4 hb4; have HO4 := Lib.hid hown4; have HE4 := Lib.hid (Below.trans ((Below.refl _ _).alloc HE.out.size _) hb4); clear hown4 hb4; obtain ⟨g4, c4, hv4, _, _, _⟩ := HO4.out.rd; subst hv4)
          go_roundw
          case rel =>
            refine ⟨1, _, _, _, rfl, by first | rfl | simp, by decide, by have := HM2.out; omega, Lib.hid (by have := HM2.out; omega), Lib.hid ?_, Lib.hid (Below.trans HE.out HE4.out)⟩
            have h := HO4.out
            simp only [S.be64, List.take_succ_cons, List.take_zero] at h ⊢
            rw [List.append_assoc] at h
            exact h
          case measure => simp [intOf]
        · have hb : IntKind.u8.wrap ((n8 : Int) / 281474976710656) = ((UInt8.ofNat (n8 / 256 ^ 6)).toNat : Int) := byteAt n8 281474976710656
          go_wp2_with (at_builtin; refine wpList_append_m rfl _ _ rfl rfl w.heap.size m2 _ _ rfl (HO.out.ext ((Below.refl _ _).alloc (Nat.le_refl _) _)) (UInt8.ofNat (n8 / 256 ^ 6)) _ rfl (cell_new1p _ _ _) (by omega) (by simp; exact Nat.le_succ_of_le HE.out.size) ?_; intro v4 w4 hown4 hb4; have HO4 := Lib.hid hown4; have HE4 := Lib.hid (Below.trans ((Below.refl _ _).alloc HE.out.size _) hb4); clear hown4 hb4; obtain ⟨g4, c4, hv4, _, _, _⟩ := HO4.out.rd; subst hv4)
          go_roundw
          case rel =>
            refine ⟨2, _, _, _, rfl, by first | rfl | simp, by decide, by have := HM2.out; omega, Lib.hid (by have := HM2.out; omega), Lib.hid ?_, Lib.hid (Below.trans HE.out HE4.out)⟩
            have h := HO4.out
            simp only [S.be64, List.take_succ_cons, List.take_zero] at h ⊢
            rw [List.append_assoc] at h
            exact h
          case measure => simp [intOf]
        · have hb : IntKind.u8.wrap ((n8 : Int) / 1099511627776) = ((UInt8.ofNat (n8 / 256 ^ 5)).toNat : Int) := byteAt n8 1099511627776
          go_wp2_with (at_builtin; refine wpList_append_m rfl _ _ rfl rfl w.heap.size m2 _ _ rfl (HO.out.ext ((Below.refl _ _).alloc (Nat.le_refl _) _)) (UInt8.ofNat (n8 / 256 ^ 5)) _ rfl (cell_new1p _ _ _) (by omega) (by simp; exact Nat.le_succ_of_le HE.out.size) ?_; intro v4 w4 hown4 hb4; have HO4 := Lib.hid hown4; have HE4 := Lib.hid (Below.trans ((Below.refl _ _).alloc HE.out.size _) hb4); clear hown4 hb4; obtain ⟨g4, c4, hv4, _, _, _⟩ := HO4.out.rd; subst hv4)
          go_roundw
          case rel =>
            refine ⟨3, _, _, _, rfl, by first | rfl | simp, by decide, by have := HM2.out; omega, Lib.hid (by have := HM2.out; omega), Lib.hid ?_, Lib.hid (Below.trans HE.out HE4.out)⟩
            have h := HO4.out
            simp only [S.be64, List.take_succ_cons, List.take_zero] at h ⊢
            rw [List.append_assoc] at h
            exact h
          case measure => simp [intOf]
        · have hb : IntKind.u8.wrap ((n8 : Int) / 4294967296) = ((UInt8.ofNat (n8 / 256 ^ 4)).toNat : Int) := byteAt n8 4294967296
          go_wp2_with (at_builtin; refine wpList_append_m rfl _ _ rfl rfl w.heap.size m2 _ _ rfl (HO.out.ext ((Below.refl _ _).alloc (Nat.le_refl _) _)) (UInt8.ofNat (n8 / 256 ^ 4)) _ rfl (cell_new1p _ _ _) (by omega) (by simp; exact Nat.le_succ_of_le HE.out.size) ?_; intro v4 w4 hown4 hb4; have HO4 := Lib.hid hown4; have HE4 := Lib.hid (Below.trans ((Below.refl _ _).alloc HE.out.size _) hb4); clear hown4 hb4; obtain ⟨g4, c4, hv4, _, _, _⟩ := HO4.out.rd; subst hv4)
          go_roundw
          case rel =>
            refine ⟨4, _, _, _, rfl, by first | rfl | simp, by decide, by have := HM2.out; omega, Lib.hid (by have := HM2.out; omega), Lib.hid ?_, Lib.hid (Below.trans HE.out HE4.out)⟩
            have h := HO4.out
            simp only [S.be64, List.take_succ_cons, List.take_zero] at h ⊢
            rw [List.append_assoc] at h
            exact h
          case measure => simp [intOf]
        · have hb : IntKind.u8.wrap ((n8 : Int) / 16777216) = ((UInt8.ofNat (n8 / 256 ^ 3)).toNat : Int) := byteAt n8 16777216
          go_wp2_with (at_builtin; refine wpList_append_m rfl _ _ rfl rfl w.heap.size m2 _ _ rfl (HO.out.ext ((Below.refl _ _).alloc (Nat.le_refl _) _)) (UInt8.ofNat (n8 / 256 ^ 3)) _ rfl (cell_new1p _ _ _) (by omega) (by simp; exact Nat.le_succ_of_le HE.out.size) ?_; intro v4 w4 hown4 hb4; have HO4 := Lib.hid hown4; have HE4 := Lib.hid (Below.trans ((Below.refl _ _).alloc HE.out.size _) hb4); clear hown4 hb4; obtain ⟨g4, c4, hv4, _, _, _⟩ := HO4.out.rd; subst hv4)
          go_roundw
          case rel =>
            refine ⟨5, _, _, _, rfl, by first | rfl | simp, by decide, by have := HM2.out; omega, Lib.hid (by have := HM2.out; omega), Lib.hid ?_, Lib.hid (Below.trans HE.out HE4.out)⟩
            have h := HO4.out
            simp only [S.be64, List.take_succ_cons, List.take_zero] at h ⊢
            rw [List.append_assoc] at h
            exact h
          case measure => simp [intOf]
        · have hb : IntKind.u8.wrap ((n8 : Int) / 65536) = ((UInt8.ofNat (n8 / 256 ^ 2)).toNat : Int) := byteAt n8 65536
          go_wp2_with (at_builtin; refine wpList_append_m rfl _ _ rfl rfl w.heap.size m2 _ _ rfl (HO.out.ext ((Below.refl _ _).alloc (Nat.le_refl _) _)) (UInt8.ofNat (n8 / 256 ^ 2)) _ rfl (cell_new1p _ _ _) (by omega) (by simp; exact Nat.le_succ_of_le HE.out.size) ?_; intro v4 w4 hown4 hb4; have HO4 := Lib.hid hown4; have HE4 := Lib.hid (Below.trans ((Below.refl _ _).alloc HE.out.size _) hb4); clear hown4 hb4; obtain ⟨g4, c4, hv4, _, _, _⟩ := HO4.out.rd; subst hv4)
          go_roundw
          case rel =>
            refine ⟨6, _, _, _, rfl, by first | rfl | simp, by decide, by have := HM2.out; omega, Lib.hid (by have := HM2.out; omega), Lib.hid ?_, Lib.hid (Below.trans HE.out HE4.out)⟩
            have h := HO4.out
            simp only [S.be64, List.take_succ_cons, List.take_zero] at h ⊢
            rw [List.append_assoc] at h
            exact h
          case measure => simp [intOf]
        · have hb : IntKind.u8.wrap ((n8 : Int) / 256) = ((UInt8.ofNat (n8 / 256)).toNat : Int) := byteAt n8 256
          go_wp2_with (at_builtin; refine wpList_append_m rfl _ _ rfl rfl w.heap.size m2 _ _ rfl (HO.out.ext ((Below.refl _ _).alloc (Nat.le_refl _) _)) (UInt8.ofNat (n8 / 256)) _ rfl (cell_new1p _ _ _) (by omega) (by simp; exact Nat.le_succ_of_le HE.out.size) ?_; intro v4 w4 hown4 hb4; have HO4 := Lib.hid hown4; have HE4 := Lib.hid (Below.trans ((Below.refl _ _).alloc HE.out.size _) hb4); clear hown4 hb4; obtain ⟨g4, c4, hv4, _, _, _⟩ := HO4.out.rd; subst hv4)
          go_roundw
          case rel =>
            refine ⟨7, _, _, _, rfl, by first | rfl | simp, by decide, by have := HM2.out; omega, Lib.hid (by have := HM2.out; omega), Lib.hid ?_, Lib.hid (Below.trans HE.out HE4.out)⟩
            have h := HO4.out
            simp only [S.be64, List.take_succ_cons, List.take_zero] at h ⊢
            rw [List.append_assoc] at h
            exact h
          case measure => simp [intOf]
        · have hb : IntKind.u8.wrap ((n8 : Int)) = ((UInt8.ofNat (n8)).toNat : Int) := byteAt1 n8
          go_wp2_with (at_builtin; refine wpList_append_m rfl _ _ rfl rfl w.heap.size m2 _ _ rfl (HO.out.ext ((Below.refl _ _).alloc (Nat.le_refl _) _)) (UInt8.ofNat (n8)) _ rfl (cell_new1p _ _ _) (by omega) (by simp; exact Nat.le_succ_of_le HE.out.size) ?_; intro v4 w4 hown4 hb4; have HO4 := Lib.hid hown4; have HE4 := Lib.hid (Below.trans ((Below.refl _ _).alloc HE.out.size _) hb4); clear hown4 hb4; obtain ⟨g4, c4, hv4, _, _, _⟩ := HO4.out.rd; subst hv4)
          go_roundw
          case rel =>
            refine ⟨8, _, _, _, rfl, by first | rfl | simp, by decide, by have := HM2.out; omega, Lib.hid (by have := HM2.out; omega), Lib.hid ?_, Lib.hid (Below.trans HE.out HE4.out)⟩
            have h := HO4.out
            simp only [S.be64, List.take_succ_cons, List.take_zero] at h ⊢
            rw [List.append_assoc] at h
            exact h
          case measure => simp [intOf]
        · have hfin : (l ++ (128 :: List.replicate m 0)) ++ (S.be64 n8).take 8 = S.padded l := by
            unfold S.padded S.tail
            rw [← HTL.out, HZZ.out, HN8.out, List.append_assoc]
            rfl
          have HO5 : Hid (OwM wr w.heap.size (.slice A2 m2 c2) (S.padded l).length (S.padded l)) := Lib.hid (by
            have h := HO.out
            rw [hfin] at h
            rw [h.len]
            exact h)
          clear hfin HO
          go_wp2
          go_ret
          exact ⟨_, rfl, HO5.out, HE.out⟩
end Go.Proofs.Ythaoibgcgkmnbaa

namespace Go.Proofs.Ythaoibgcgkmnbaa
set_option maxRecDepth 100000
open Go.RowKit

theorem infoU : (Try.prog.info? 109).map (fun i => (i.zero, i.size, i.bytes)) = some (some (.int .u32 0), 1, 4) := by kernel_rfl
theorem own_emptyU (w : World) (base : Nat) (hb : base ≤ w.heap.size) : (w.alloc (.cells #[] 109)).ownsRow base 109 1 (.slice (some ⟨w.heap.size, 0, none⟩) 0 0) 0 [] := by
  refine ⟨rfl, .inr ⟨w.heap.size, 0, #[], rfl, hb, heap_alloc_new w _, Nat.le_refl _, by simp [maxLen], rfl, rfl⟩⟩
theorem news_one {w : World} {g : Nat} {v : Value} (h : w.cell? ⟨g, 0, none⟩ = some v) : ∀ j u, [v][j]? = some u → w.cell? ((⟨g, 0, none⟩ : Addr).add j) = some u := by
  intro j u hj
  cases j with
  | zero => simp at hj; subst hj; rw [Addr.add_mid]; exact h
  | succ j => simp at hj
theorem turn7 (x : UInt32) (w : World) : Calls Try.prog 72 #[.int .u32 (un x : Nat), .int .i64 7] w fun e w' => e = .returned (.int .u32 (un (S.rotr x 7) : Nat)) ∧ w' = w := turned_any x 7 7 (by decide) rfl w
theorem turn18 (x : UInt32) (w : World) : Calls Try.prog 72 #[.int .u32 (un x : Nat), .int .i64 18] w fun e w' => e = .returned (.int .u32 (un (S.rotr x 18) : Nat)) ∧ w' = w := turned_any x 18 18 (by decide) rfl w
theorem turn17 (x : UInt32) (w : World) : Calls Try.prog 72 #[.int .u32 (un x : Nat), .int .i64 17] w fun e w' => e = .returned (.int .u32 (un (S.rotr x 17) : Nat)) ∧ w' = w := turned_any x 17 17 (by decide) rfl w
theorem turn19 (x : UInt32) (w : World) : Calls Try.prog 72 #[.int .u32 (un x : Nat), .int .i64 19] w fun e w' => e = .returned (.int .u32 (un (S.rotr x 19) : Nat)) ∧ w' = w := turned_any x 19 19 (by decide) rfl w
theorem sched_cell {w : World} {base n c : Nat} {A : Option Addr} {g : Nat} {b : List UInt8} (h : w.ownsRow base 109 1 (.slice A n c) n ((S.sched b n).map uv)) (hA : A = some ⟨g, 0, none⟩) {j : Nat} (hj : j < n) :
    w.cell? ⟨g, j, none⟩ = some (.int .u32 (un ((S.sched b n).getD j 0) : Nat)) := by
  obtain ⟨A', c', e, hr, _⟩ := Rd.of_own h
  cases e
  have := hr.cell _ hA j (uv ((S.sched b n).getD j 0)) (by rw [List.getElem?_map, List.getD_eq_getElem?_getD, List.getElem?_eq_getElem (by rw [S.sched_len]; exact hj)]; rfl)
  rw [Addr.add_mid, Nat.zero_add] at this
  exact this
def val4 (b : List UInt8) (t : Nat) : Nat → Nat
  | 0 => 0
  | k + 1 => val4 b t k * 256 + (b.getD (4 * t + k) 0).toNat
theorem val4_lt (b : List UInt8) (t : Nat) : ∀ k, val4 b t k < 256 ^ k
  | 0 => by simp [val4]
  | k + 1 => by
    have h1 := val4_lt b t k
    have h2 := (b.getD (4 * t + k) 0).toNat_lt
    simp only [val4, Nat.pow_succ]
    omega
theorem val4_all (b : List UInt8) (t : Nat) : UInt32.ofNat (val4 b t 4) = S.word b t := by
  unfold S.word S.be32
  simp [val4]

set_option maxHeartbeats 4000000 in
set_option maxRecDepth 100000 in
theorem schedule_any (b : List UInt8) (a : Addr) (c0 : Nat) (w : World) (hr : Rd w (some a) 64 c0 1 (bvs b)) :
    Calls Try.prog 71 #[.slice (some a) 64 c0] w fun e w' => ∃ v, e = .returned v ∧ w'.ownsRow w.heap.size 109 1 v 64 ((S.sched b 64).map uv) ∧ ExtW w w' := by
  obtain ⟨i0, hi, hz0, hz1, hz2⟩ := info_parts infoU
  have HR := Lib.hid hr
  have HBL : Hid (b.length = 64) := Lib.hid (by have := hr.len; rw [bvs_len] at this; omega)
  have HO := Lib.hid (own_emptyU w w.heap.size (Nat.le_refl _))
  have HE : Hid (ExtW w (w.alloc (.cells #[] 109))) := Lib.hid ((Below.refl _ _).alloc (Nat.le_refl _) _)
  clear hr
  go_enter Try.func71, Try.ntmps71
  go_wp2_with fail
  go_loopw [3, 4] (fun v i wr => ∃ (t : Nat) (A : Option Addr) (c : Nat), v = .slice A t c ∧ i = .int .i64 t ∧ t ≤ 16 ∧ Hid (wr.ownsRow w.heap.size 109 1 (.slice A t c) t ((S.sched b t).map uv)) ∧ Hid (ExtW w wr)) (fun _ i _ => 16 - (intOf i).toNat)
  case atStart => exact ⟨0, _, _, rfl, rfl, Nat.zero_le _, HO, HE⟩
  case round =>
    clear HO HE
    obtain ⟨t, A, c, rfl, rfl, ht, HO, HE⟩ := hrel
    by_cases hlt : t < 16
    · -- devbegin
      have hti : (t : Int) < 16 := by omega
      go_wp2_with fail
      obtain ⟨wo, rfl⟩ : ∃ wo, wo = wr := ⟨_, rfl⟩
      go_loopw [5, 6] (fun x i wn => ∃ (k m : Nat), x = .int .u32 m ∧ i = .int .i64 k ∧ k ≤ 4 ∧ Hid (m = val4 b t k) ∧ Hid (wn = wo)) (fun _ i _ => 4 - (intOf i).toNat)
      case atStart => exact ⟨0, 0, rfl, rfl, Nat.zero_le _, Lib.hid rfl, Lib.hid rfl⟩
      case round =>
        obtain ⟨k, m, rfl, rfl, hk, HM, HW⟩ := hrel
        obtain rfl := HW.out
        by_cases hlt2 : k < 4
        · have hki : (k : Int) < 4 := by omega
          obtain ⟨p, hp⟩ : ∃ p, p = 4 * t + k := ⟨_, rfl⟩
          have hpi : 4 * (t : Int) + (k : Int) = (p : Int) := by omega
          have hp64 : (p : Int) < 64 := by omega
          obtain ⟨x, hx⟩ : ∃ x, x = b.getD p 0 := ⟨_, rfl⟩
          have hcell : wr.cell? (a.add p) = some (.int .u8 (x.toNat : Int)) := by
            have := (HR.out.below HE.out (Nat.le_refl _)).cell a rfl p _ (bvs_get b p (by rw [HBL.out]; omega))
            rw [this, hx, List.getD_eq_getElem?_getD, List.getElem?_eq_getElem (by rw [HBL.out]; omega)]; rfl
          have hm : m * 256 + x.toNat < 4294967296 := by
            have h1 := val4_lt b t k
            rw [← HM.out] at h1
            have h2 := x.toNat_lt
            have h3 : 256 ^ k ≤ 256 ^ 3 := Nat.pow_le_pow_right (by decide) (by omega)
            omega
          obtain ⟨m1, hm1⟩ : ∃ m1, m1 = m * 256 := ⟨_, rfl⟩
          obtain ⟨m2, hm2⟩ : ∃ m2, m2 = m1 + x.toNat := ⟨_, rfl⟩
          have hx256 := x.toNat_lt
          have e1 : (m : Int) * 256 % 4294967296 = (m1 : Int) := by omega
          have e3 : (m1 : Int) + (x.toNat : Int) = (m2 : Int) := by omega
          have HM2 : Hid (m2 = val4 b t (k + 1)) := Lib.hid (by simp only [val4]; rw [hm2, hm1, HM.out, hx, hp])
          clear hm hm1 hm2 hx hp
          go_wp2_with fail
          go_roundw
          case rel => exact ⟨k + 1, m2, rfl, by simp, hlt2, HM2, by first | exact Lib.hid rfl | exact Lib.hid trivial⟩
          case measure => simp [intOf]; omega
        · obtain rfl : k = 4 := by omega
          have hki : ¬ ((4 : Nat) : Int) < 4 := by omega
          have hmu : (m : Int) = (un (S.word b t) : Int) := by
            rw [← val4_all, un_of _ (val4_lt b t 4), HM.out]
          rw [hmu]
          have HNX : Hid ((S.sched b (t + 1)).map uv = (S.sched b t).map uv ++ [.int .u32 (un (S.word b t) : Int)]) := Lib.hid (by simp only [S.sched, hlt, if_true, List.map_append]; rfl)
          clear hmu
          go_wp2_with (at_builtin; refine wpList_append_own _ rfl _ _ _ rfl w.heap.size 109 i0 _ 1 4 Try.underlying110 hi hz0 hz1 hz2 rfl (by decide) _ _ _ rfl (own_ext HO.out (show ExtW _ _ from (Below.refl _ _).alloc (Nat.le_refl _) _)) ⟨wr.heap.size, 0, none⟩ 1 1 [.int .u32 (un (S.word b t) : Int)] rfl rfl (cell_one_new _ _ _) (by simp [Value.oneCell']) (by simp [maxLen]; omega) (by omega) (by simp; exact Nat.le_succ_of_le HE.out.size) ?_; intro v4 w4 hown4 hgrow4 _; have HO4 := Lib.hid hown4; have HE4 := Lib.hid (((Below.refl w.heap.size wr).alloc HE.out.size _).grown hgrow4 (by simp; exact Nat.le_succ_of_le HE.out.size) (fun k hk => own_ge HO.out k hk)); clear hown4 hgrow4; obtain ⟨A4, c4, hv4⟩ := own_slice' HO4.out; subst hv4)
          go_roundw
          case rel =>
            refine ⟨t + 1, A4, c4, rfl, by simp, hlt, Lib.hid ?_, Lib.hid (Below.trans HE.out HE4.out)⟩
            have h := HO4.out
            rw [HNX.out]
            exact h
          case measure => simp [intOf]; omega
      -- devend
    · obtain rfl : t = 16 := by omega
      have hti : ¬ ((16 : Nat) : Int) < 16 := by omega
      go_wp2_with fail
      go_loopw [3, 7] (fun v i wr => ∃ (t : Nat) (A : Option Addr) (c : Nat), v = .slice A t c ∧ i = .int .i64 t ∧ 16 ≤ t ∧ t ≤ 64 ∧ Hid (wr.ownsRow w.heap.size 109 1 (.slice A t c) t ((S.sched b t).map uv)) ∧ Hid (ExtW w wr)) (fun _ i _ => 64 - (intOf i).toNat)
      case atStart => exact ⟨16, _, _, rfl, rfl, Nat.le_refl _, by decide, HO, HE⟩
      case round =>
        clear HO HE
        obtain ⟨t, A, c, rfl, rfl, ht1, ht2, HO, HE⟩ := hrel
        by_cases hlt2 : t < 64
        · -- devbegin
          have hti2 : (t : Int) < 64 := by omega
          obtain ⟨g, c', hv, hg1, hg2⟩ := own_form HO.out (by omega)
          cases hv
          obtain ⟨i15, hi15⟩ : ∃ k, k = t - 15 := ⟨_, rfl⟩
          obtain ⟨i2, hi2⟩ : ∃ k, k = t - 2 := ⟨_, rfl⟩
          obtain ⟨i7, hi7⟩ : ∃ k, k = t - 7 := ⟨_, rfl⟩
          obtain ⟨i16, hi16⟩ : ∃ k, k = t - 16 := ⟨_, rfl⟩
          have p15 : (t : Int) - 15 = (i15 : Int) := by omega
          have p2 : (t : Int) - 2 = (i2 : Int) := by omega
          have q7 : IntKind.i64.wrap ((t : Int) - 7) = (i7 : Int) := by rw [IntWalk.i64_in _ (by omega)]; omega
          have q16 : IntKind.i64.wrap ((t : Int) - 16) = (i16 : Int) := by rw [IntWalk.i64_in _ (by omega)]; omega
          have l15 : (i15 : Int) < (t : Int) := by omega
          have l2 : (i2 : Int) < (t : Int) := by omega
          have l7 : (i7 : Int) < (t : Int) := by omega
          have l16 : (i16 : Int) < (t : Int) := by omega
          obtain ⟨x, hx⟩ : ∃ x, x = (S.sched b t).getD i15 0 := ⟨_, rfl⟩
          obtain ⟨y, hy⟩ : ∃ x, x = (S.sched b t).getD i2 0 := ⟨_, rfl⟩
          obtain ⟨u7, hu7⟩ : ∃ x, x = (S.sched b t).getD i7 0 := ⟨_, rfl⟩
          obtain ⟨u16, hu16⟩ : ∃ x, x = (S.sched b t).getD i16 0 := ⟨_, rfl⟩
          have c15 := sched_cell HO.out rfl (show i15 < t by omega)
          have c2 := sched_cell HO.out rfl (show i2 < t by omega)
          have c7 := sched_cell HO.out rfl (show i7 < t by omega)
          have c16 := sched_cell HO.out rfl (show i16 < t by omega)
          rw [← hx] at c15
          rw [← hy] at c2
          rw [← hu7] at c7
          rw [← hu16] at c16
          have C7 := Lib.hid c7
          have C16 := Lib.hid c16
          obtain ⟨s0, hs0⟩ : ∃ s, s = S.rotr x 7 ^^^ S.rotr x 18 ^^^ x >>> 3 := ⟨_, rfl⟩
          obtain ⟨s1, hs1⟩ : ∃ s, s = S.rotr y 17 ^^^ S.rotr y 19 ^^^ y >>> 10 := ⟨_, rfl⟩
          have f1 := un_xor (S.rotr x 7) (S.rotr x 18)
          have f2 := un_shr3 x
          have f3 := un_xor (S.rotr x 7 ^^^ S.rotr x 18) (x >>> 3)
          have f4 := un_xor (S.rotr y 17) (S.rotr y 19)
          have f5 := un_shr10 y
          have f6 := un_xor (S.rotr y 17 ^^^ S.rotr y 19) (y >>> 10)
          rw [← hs0] at f3
          rw [← hs1] at f6
          have HNX : Hid ((S.sched b (t + 1)).map uv = (S.sched b t).map uv ++ [.int .u32 (un (s1 + u7 + s0 + u16) : Int)]) := Lib.hid (by
            simp only [S.sched]
            rw [if_neg (by omega), ← hi15, ← hi2, ← hi7, ← hi16, ← hx, ← hy, ← hu7, ← hu16, List.map_append]
            unfold S.nextW; rw [← hs0, ← hs1]; rfl)
          clear hi15 hi2 hi7 hi16 hx hy hu7 hu16 hs0 hs1 c7 c16 hg1 hg2
          have L7 := Lib.hid l7
          have L16 := Lib.hid l16
          have Q7 := Lib.hid q7
          have Q16 := Lib.hid q16
          clear l7 l16 q7 q16
          go_upto_region 16 with (fail)
          clear c15 c2 l15 l2 p15 p2
          go_wp2_with fail
          refine (turn7 _ _).mono ?_
          rintro e w' ⟨rfl, rfl⟩
          go_wp2_with fail
          refine (turn18 _ _).mono ?_
          rintro e w' ⟨rfl, rfl⟩
          go_wp2_with fail
          refine (turn17 _ _).mono ?_
          rintro e w' ⟨rfl, rfl⟩
          go_wp2_with fail
          refine (turn19 _ _).mono ?_
          rintro e w' ⟨rfl, rfl⟩
          go_wp2_with fail
          have C7' : w'.drew.cell? ⟨g, i7, none⟩ = some (.int .u32 (un u7 : Nat)) := C7.out
          have C16' : w'.drew.cell? ⟨g, i16, none⟩ = some (.int .u32 (un u16 : Nat)) := C16.out
          have l7 := L7.out
          have l16 := L16.out
          have q7 := Q7.out
          have q16 := Q16.out
          have g1 := un_addw s1 u7
          have g2 := un_addw (s1 + u7) s0
          have g3 := un_addw (s1 + u7 + s0) u16
          apply wp_region_ext_tail 17 _ (by kernel_rfl) (by kernel_rfl)
          simp only [List.take_succ_cons, List.take_zero, List.drop_succ_cons, List.drop_zero]
          have HO2 : Hid (w'.drew.ownsRow w.heap.size 109 1 (.slice (some ⟨g, 0, none⟩) t c) t ((S.sched b t).map uv)) := Lib.hid HO.out
          have HE2 : Hid (ExtW w w'.drew) := Lib.hid HE.out.drew
          iterate 16 (apply wpZ_det; (intro wq hE hG; have k7 := hE.cellAt C7'; have k16 := hE.cellAt C16'; first | exact obl_non (by rfl) | (apply obl_val (by rfl); go_simp; rfl)); (intro ak hak; simp only [Act.put, List.setIfInBounds_toArray, List.set_cons_succ, List.set_cons_zero] at hak; subst hak))
          apply wpZ_nd (fun v wq => ∃ gb, v = .slice (some ⟨gb, 0, none⟩) 1 1 ∧ wq.cell? ⟨gb, 0, none⟩ = some (.int .u32 (un (s1 + u7 + s0 + u16) : Nat)))
          · rintro v wa wb ⟨gb, rfl, hc⟩ he
            exact ⟨gb, rfl, he.cellAt hc⟩
          · intro wq hE hG
            apply obl_on (by kernel_rfl)
            go_simp
            simp only [extUpon_value]
            exact ⟨(Below.refl _ _).alloc (Nat.le_refl _) _, wq.heap.size, rfl, cell_new1p _ _ _⟩
          (intro u ak hak; simp only [Act.put, List.setIfInBounds_toArray, List.set_cons_succ, List.set_cons_zero] at hak; subst hak)
          apply wpZ_nil
          intro wq hE hG
          obtain ⟨gb, hgb, hcb⟩ := hG _ (List.mem_cons_self ..)
          try simp only at hgb hcb
          subst hgb
          refine wpList_append_own _ rfl _ _ _ rfl w.heap.size 109 i0 _ 1 4 Try.underlying110 hi hz0 hz1 hz2 rfl (by decide) _ _ _ rfl (own_ext HO2.out hE) ⟨gb, 0, none⟩ 1 1 [.int .u32 (un (s1 + u7 + s0 + u16) : Int)] rfl rfl (news_one hcb) (by simp [Value.oneCell']) (by simp [maxLen]; omega) (by omega) (Nat.le_trans HE2.out.size hE.size) ?_
          intro v4 w4 hown4 hgrow4 _
          have HO4 := Lib.hid hown4
          have HE4 := Lib.hid (Below.trans (ExtW.trans HE2.out hE) ((Below.refl w.heap.size wq).grown hgrow4 (Nat.le_trans HE2.out.size hE.size) (fun k hk => own_ge HO.out k hk)))
          clear hown4 hgrow4
          obtain ⟨A4, c4, hv4⟩ := own_slice' HO4.out
          subst hv4
          clear C7' C16' l7 l16 q7 q16 g1 g2 g3 hcb hG
          go_wp2_with fail
          go_roundw
          case rel =>
            refine ⟨t + 1, A4, c4, rfl, by simp, by omega, hlt2, Lib.hid ?_, HE4⟩
            have h := HO4.out
            rw [HNX.out]
            exact h
          case measure => simp [intOf]; omega
          -- devend
        · obtain rfl : t = 64 := by omega
          have hti2 : ¬ ((64 : Nat) : Int) < 64 := by omega
          go_wp2
          go_ret
          exact ⟨_, rfl, HO.out, HE.out⟩
end Go.Proofs.Ythaoibgcgkmnbaa

namespace Go.Proofs.Ythaoibgcgkmnbaa
set_option maxRecDepth 100000
open Go.RowKit

theorem turn6 (x : UInt32) (w : World) : Calls Try.prog 72 #[.int .u32 (un x : Nat), .int .i64 6] w fun e w' => e = .returned (.int .u32 (un (S.rotr x 6) : Nat)) ∧ w' = w := turned_any x 6 6 (by decide) rfl w
theorem turn11 (x : UInt32) (w : World) : Calls Try.prog 72 #[.int .u32 (un x : Nat), .int .i64 11] w fun e w' => e = .returned (.int .u32 (un (S.rotr x 11) : Nat)) ∧ w' = w := turned_any x 11 11 (by decide) rfl w
theorem turn25 (x : UInt32) (w : World) : Calls Try.prog 72 #[.int .u32 (un x : Nat), .int .i64 25] w fun e w' => e = .returned (.int .u32 (un (S.rotr x 25) : Nat)) ∧ w' = w := turned_any x 25 25 (by decide) rfl w
theorem turn2 (x : UInt32) (w : World) : Calls Try.prog 72 #[.int .u32 (un x : Nat), .int .i64 2] w fun e w' => e = .returned (.int .u32 (un (S.rotr x 2) : Nat)) ∧ w' = w := turned_any x 2 2 (by decide) rfl w
theorem turn13 (x : UInt32) (w : World) : Calls Try.prog 72 #[.int .u32 (un x : Nat), .int .i64 13] w fun e w' => e = .returned (.int .u32 (un (S.rotr x 13) : Nat)) ∧ w' = w := turned_any x 13 13 (by decide) rfl w
theorem turn22 (x : UInt32) (w : World) : Calls Try.prog 72 #[.int .u32 (un x : Nat), .int .i64 22] w fun e w' => e = .returned (.int .u32 (un (S.rotr x 22) : Nat)) ∧ w' = w := turned_any x 22 22 (by decide) rfl w

theorem padded_len (l : List UInt8) : (S.padded l).length % 64 = 0 ∧ (S.padded l).length ≤ l.length + 200 ∧ 0 < (S.padded l).length := by
  have : (S.padded l).length = l.length + (1 + (119 - l.length % 64) % 64 + 8) := by simp [S.padded, S.tail, S.be64]; omega
  rw [this]
  omega
/-- half added -/
def hU (H s : S.St) (t : Nat) : List Value := ((H.add s).list.take t ++ H.list.drop t).map uv
theorem hU_get (H s : S.St) {t : Nat} (h : t < 8) : (hU H s t)[t]? = some (uv (H.list.getD t 0)) ∧ (s.list.map uv)[t]? = some (uv (s.list.getD t 0)) ∧ (hU H s t).set t (uv (H.list.getD t 0 + s.list.getD t 0)) = hU H s (t + 1) := by
  match t, h with
  | 0, _ => exact ⟨rfl, rfl, rfl⟩
  | 1, _ => exact ⟨rfl, rfl, rfl⟩
  | 2, _ => exact ⟨rfl, rfl, rfl⟩
  | 3, _ => exact ⟨rfl, rfl, rfl⟩
  | 4, _ => exact ⟨rfl, rfl, rfl⟩
  | 5, _ => exact ⟨rfl, rfl, rfl⟩
  | 6, _ => exact ⟨rfl, rfl, rfl⟩
  | 7, _ => exact ⟨rfl, rfl, rfl⟩
theorem half_set (a z : List UInt8) (h : a.length = z.length) {t : Nat} (ht : t < a.length) : (bvs (a.take t ++ z.drop t)).set t (.int .u8 ((a.getD t 0).toNat : Int)) = bvs (a.take (t + 1) ++ z.drop (t + 1)) := by
  have hl : (bvs (a.take t)).length = t := by rw [bvs_len, List.length_take]; omega
  rw [List.take_add_one, bvs_app, bvs_app, List.set_append_right (h := by omega), hl, Nat.sub_self, bvs_app, List.append_assoc]
  congr 1
  rw [List.drop_eq_getElem_cons (show t < z.length by omega), List.getElem?_eq_getElem ht, List.getD_eq_getElem?_getD, List.getElem?_eq_getElem ht]
  rfl
def digB (H : S.St) (t : Nat) : List Value := bvs ((S.digest H).take t ++ (List.replicate 32 (0 : UInt8)).drop t)
theorem digB_set (H : S.St) {t : Nat} (h : t < 32) : (digB H t).set t (.int .u8 (((S.digest H).getD t 0).toNat : Int)) = digB H (t + 1) := half_set _ _ (by rw [S.digest_len, List.length_replicate]) (by rw [S.digest_len]; exact h)
theorem digB_len (H : S.St) {t : Nat} (h : t ≤ 32) : (digB H t).length = 32 := by unfold digB; rw [bvs_len, List.length_append, List.length_take, S.digest_len, List.length_drop, List.length_replicate]; omega
theorem dig_byte (H : S.St) {q : Nat} (h : q < 8) : (S.digest H).getD (4 * q) 0 = UInt8.ofNat (un (H.list.getD q 0) / 16777216) ∧ (S.digest H).getD (4 * q + 1) 0 = UInt8.ofNat (un (H.list.getD q 0) / 65536) ∧
    (S.digest H).getD (4 * q + 2) 0 = UInt8.ofNat (un (H.list.getD q 0) / 256) ∧ (S.digest H).getD (4 * q + 3) 0 = UInt8.ofNat (un (H.list.getD q 0)) := by
  match q, h with
  | 0, _ => exact ⟨rfl, rfl, rfl, rfl⟩
  | 1, _ => exact ⟨rfl, rfl, rfl, rfl⟩
  | 2, _ => exact ⟨rfl, rfl, rfl, rfl⟩
  | 3, _ => exact ⟨rfl, rfl, rfl, rfl⟩
  | 4, _ => exact ⟨rfl, rfl, rfl, rfl⟩
  | 5, _ => exact ⟨rfl, rfl, rfl, rfl⟩
  | 6, _ => exact ⟨rfl, rfl, rfl, rfl⟩
  | 7, _ => exact ⟨rfl, rfl, rfl, rfl⟩
/-- eight words at the head of a block -/
def V8 (w : World) (g : Nat) (s : S.St) : Prop := ∀ j u, (s.list.map uv)[j]? = some u → w.cell? ⟨g, j, none⟩ = some u
theorem V8.ext {w w' : World} {g : Nat} {s : S.St} (h : V8 w g s) (hb : ExtW w w') : V8 w' g s := fun j u hj => hb.cellAt (h j u hj)
theorem V8.of_row {w : World} {g : Nat} {s : S.St} (h : Row w g 109 (s.list.map uv)) : V8 w g s := fun _ _ hj => h.cell hj
/-- the cells that a round reads -/
def RD (gw gs gk t : Nat) (s : S.St) (kt wt : UInt32) (w : World) : Prop :=
  w.cell? ⟨gw, t, none⟩ = some (.int .u32 (un wt : Nat)) ∧ w.cell? ⟨gk, t, none⟩ = some (.int .u32 (un kt : Nat)) ∧
  w.cell? ⟨gs, 0, none⟩ = some (.int .u32 (un s.a : Nat)) ∧ w.cell? ⟨gs, 1, none⟩ = some (.int .u32 (un s.b : Nat)) ∧ w.cell? ⟨gs, 2, none⟩ = some (.int .u32 (un s.c : Nat)) ∧ w.cell? ⟨gs, 3, none⟩ = some (.int .u32 (un s.d : Nat)) ∧
  w.cell? ⟨gs, 4, none⟩ = some (.int .u32 (un s.e : Nat)) ∧ w.cell? ⟨gs, 5, none⟩ = some (.int .u32 (un s.f : Nat)) ∧ w.cell? ⟨gs, 6, none⟩ = some (.int .u32 (un s.g : Nat)) ∧ w.cell? ⟨gs, 7, none⟩ = some (.int .u32 (un s.h : Nat))
theorem hs_next (P : List UInt8) (z : Nat) (hz : z % 64 = 0) (h : z + 64 ≤ P.length) : S.hs (P.take (z + 64)) = S.blockF (S.hs (P.take z)) ((P.drop z).take 64) := by
  rw [List.take_add]
  have hl : (P.take z).length = z := by rw [List.length_take]; omega
  have hl2 : ((P.drop z).take 64).length = 64 := by rw [List.length_take, List.length_drop]; omega
  rw [S.hs_block (by rw [hl, hl2]; omega), hl, show 64 * (z / 64) = z by omega, List.drop_of_length_le (by rw [hl]; exact Nat.le_refl _), List.nil_append]
theorem row_ne {w : World} {g k : Nat} {e e' : TypeId} {xs ys : List Value} (h : Row w g e xs) (h' : Row w k e' ys) (hl : xs.length ≠ ys.length) : g ≠ k := by
  intro e
  subst e
  unfold Row at h h'
  rw [h] at h'
  cases h'
  exact hl rfl

set_option maxHeartbeats 8000000 in
set_option maxRecDepth 100000 in
theorem refOf_any (str : ByteArray) (w : World) (hn : str.size ≤ 1000000000) :
    Calls Try.prog 64 #[.string str] w fun e w' => e = .returned (dgV (S.sha str.data.toList)) ∧ ExtW w w' := by
  obtain ⟨i0, hi, hz0, hz1, hz2⟩ := info_parts infoU
  obtain ⟨j0, hj, hy0, hy1, hy2⟩ := info_parts infoB
  have HE1 : Hid (ExtW w (w.alloc (.cells zDig 45))) := Lib.hid ((Below.refl _ _).alloc (Nat.le_refl _) _)
  have HD1 := Lib.hid (zDig_row w)
  have HN := Lib.hid hn
  have hstr : str.data.toList.length = str.size := size_list str
  obtain ⟨PL, hPL⟩ : ∃ P, P = S.padded str.data.toList := ⟨_, rfl⟩
  obtain ⟨hp1, hp2, hp3⟩ := padded_len str.data.toList
  rw [← hPL] at hp1 hp2 hp3
  have hsha : S.sha str.data.toList = S.digest (S.hs PL) := by rw [hPL]; rfl
  rw [hsha]
  obtain ⟨L, hL⟩ : ∃ L, L = PL.length := ⟨_, rfl⟩
  rw [← hL] at hp1 hp2 hp3
  have HL := Lib.hid hL
  have HPL := Lib.hid hPL
  have HL64 := Lib.hid hp1
  have hL2 : L ≤ 1000000200 := by omega
  clear hp1 hp2 hp3 hsha hPL hL hstr hn
  go_enter Try.func64, Try.ntmps64
  go_upto_region 1 with (refine wpList_runW rfl rfl ?_; refine ⟨.pointer (some ⟨w.heap.size, 0, none⟩), w.alloc (.cells zDig 45), by kernel_rfl, ?_⟩)
  have HLT : Hid (w.heap.size < (w.alloc (.cells zDig 45)).heap.size) := Lib.hid HD1.out.lt
  generalize w.alloc (.cells zDig 45) = w1 at HE1 HD1 HLT ⊢
  have HH : Hid (Row (w1.alloc (.cells #[.int .u32 1779033703, .int .u32 3144134277, .int .u32 1013904242, .int .u32 2773480762, .int .u32 1359893119, .int .u32 2600822924, .int .u32 528734635, .int .u32 1541459225] 109)) w1.heap.size 109 (S.H0.list.map uv)) := Lib.hid (by unfold Row; rw [heap_alloc_last]; kernel_rfl)
  have HEH : Hid (ExtW w1 (w1.alloc (.cells #[.int .u32 1779033703, .int .u32 3144134277, .int .u32 1013904242, .int .u32 2773480762, .int .u32 1359893119, .int .u32 2600822924, .int .u32 528734635, .int .u32 1541459225] 109))) := Lib.hid ((Below.refl _ _).alloc (Nat.le_refl _) _)
  go_wp2_with fail
  refine (consts_any _).mono ?_
  rintro e w2 ⟨gk, rfl, hrk, hb2⟩
  have HK := Lib.hid hrk
  have HH2 := Lib.hid (HH.out.ext hb2)
  have HE2 := Lib.hid (ExtW.trans HEH.out hb2)
  clear hrk hb2 HH HEH
  go_wp2_with fail
  refine (padded_any str _ HN.out).mono ?_
  rintro e w3 ⟨vp, rfl, hown, hb3⟩
  rw [← HPL.out, ← HL.out] at hown
  obtain ⟨gp, cp, hvp, hgp1, hgp2, hrp⟩ := hown.rd
  subst hvp
  have HP := Lib.hid hrp
  have HK3 := Lib.hid (HK.out.ext hb3)
  have HH3 := Lib.hid (HH2.out.ext hb3)
  have HE3 := Lib.hid (ExtW.trans HE2.out hb3)
  have HD3 := Lib.hid (HD1.out.ext HE3.out)
  have HGP : Hid (gp ≠ w1.heap.size) := Lib.hid (by have := HH2.out.lt; omega)
  have HGK : Hid (gk ≠ w1.heap.size) := Lib.hid (row_ne HK3.out HH3.out (by rw [List.length_map, List.length_map, S.KS_len]; decide))
  have HNC := Lib.hid hrp.nc
  obtain ⟨gh, hgh⟩ : ∃ g, g = w1.heap.size := ⟨_, rfl⟩
  rw [← hgh] at HH3 HGP HGK HLT ⊢
  have HG1 := Lib.hid hgh
  clear hgh hown hb3 hgp1 hgp2 hrp HK HH2 HE2
  go_wp2_with fail
  go_loopw [6] (fun i wr => ∃ z : Nat, i = .int .i64 z ∧ z ≤ L ∧ Hid (z % 64 = 0) ∧ Hid (Row wr gh 109 ((S.hs (PL.take z)).list.map uv)) ∧ Hid (w3.grownBy wr (some gh))) (fun i _ => L - (intOf i).toNat)
  case atStart => exact ⟨0, rfl, Nat.zero_le _, Lib.hid rfl, Lib.hid (by rw [List.take_zero]; exact HH3.out), Lib.hid (grown_but (grown_of_below (Below.refl _ _)) _)⟩
  case round =>
    clear HH3
    obtain ⟨z, rfl, hz, HZ, HH, HG⟩ := hrel
    by_cases hlt : z < L
    · -- devbegin
      have hzi : (z : Int) < (L : Int) := by omega
      have hz64 : z + 64 ≤ L := by have h1 := HZ.out; have h2 := HL64.out; omega
      obtain ⟨z2, hz2'⟩ : ∃ z2, z2 = z + 64 := ⟨_, rfl⟩
      have hz2i : (z : Int) + 64 = (z2 : Int) := by omega
      have HZ2 : Hid (z2 = z + 64) := Lib.hid hz2'
      obtain ⟨H, hH⟩ : ∃ H, H = S.hs (PL.take z) := ⟨_, rfl⟩
      obtain ⟨b, hb⟩ : ∃ b, b = (PL.drop z).take 64 := ⟨_, rfl⟩
      rw [← hH] at HH
      have HNX : Hid (S.hs (PL.take z2) = S.blockF H b) := Lib.hid (by rw [hz2', hH, hb]; exact hs_next PL z HZ.out (by rw [← HL.out]; exact hz64))
      have hrp : Rd wr (some ⟨gp, 0, none⟩) L cp 1 (bvs PL) := HP.out.same (fun a ha hl => by cases ha; exact HG.out.block gp (HP.out.blk hl) (fun e => HGP.out (Option.some.inj e)))
      obtain ⟨A', hsl, hslr⟩ := cut_lh (P := Try.prog) Try.underlying23 hj hy1 (some ⟨gp, 0, none⟩) L cp .i64 .i64 (z : Int) (z2 : Int) z z2 rfl rfl (by omega) (by omega) HNC.out
      have hrs := hslr _ _ hrp
      rw [show z2 - z = 64 by omega] at hrs hsl
      rw [Nat.mul_one, Nat.mul_one, bvs_drop, bvs_take, ← hb] at hrs
      obtain ⟨a, ha⟩ : ∃ a, A' = some a := by
        cases A' with
        | none => have := hrs.nil0 rfl; have := hrs.nc; omega
        | some a => exact ⟨a, rfl⟩
      subst ha
      have HRS := Lib.hid hrs
      clear hslr hrp hrs hH hb hz64 hz2'
      go_wp2_with fail
      refine (schedule_any b a _ _ HRS.out).mono ?_
      rintro e w4 ⟨vs, rfl, howns, hb4⟩
      clear hsl hz2i
      obtain ⟨gs, cs, hvs, _, hgs⟩ := own_form howns (by decide)
      subst hvs
      have HS : Hid (∀ j, j < 64 → w4.cell? ⟨gs, j, none⟩ = some (.int .u32 (un ((S.sched b 64).getD j 0) : Nat))) := Lib.hid fun j hj => sched_cell howns rfl hj
      have HE4 := Lib.hid hb4
      have HH4 := Lib.hid (HH.out.ext hb4)
      have HK4 : Hid (Row w4 gk 109 (S.KS.map uv)) := Lib.hid (Row.ext ((HG.out.block gk HK3.out.lt (fun e => HGK.out (Option.some.inj e))).trans HK3.out) hb4)
      have HOV := Lib.hid (own_emptyU w4 w4.heap.size (Nat.le_refl _))
      have hcp : ∀ j u, (H.list.map uv)[j]? = some u → (w4.alloc (.cells #[] 109)).cell? ((⟨gh, 0, none⟩ : Addr).add j) = some u := fun j u hj => by
        rw [Addr.add_mid, Nat.zero_add]
        exact ((HH4.out.ext ((Below.refl _ _).alloc (Nat.le_refl _) _)).cell hj)
      have HCP := Lib.hid hcp
      clear hcp howns hb4 hgs HRS
      go_upto_region 10 with (at_builtin; refine wpList_append_own _ rfl _ _ _ rfl w4.heap.size 109 i0 _ 1 4 Try.underlying110 hi hz0 hz1 hz2 rfl (by decide) _ _ _ rfl HOV.out ⟨gh, 0, none⟩ 8 8 (H.list.map uv) rfl rfl HCP.out (by simp [S.St.list, uv, Value.oneCell']) (by decide) (by decide) (by simp) ?_; intro v5 w5 hown5 hgrow5 _; rw [Nat.zero_add] at hown5; have HO5 := Lib.hid hown5; have HE5 := Lib.hid (((Below.refl w4.heap.size w4).alloc (Nat.le_refl _) (.cells #[] 109)).grown hgrow5 (by simp) (fun k hk => own_ge HOV.out k hk)); clear hown5 hgrow5)
      obtain ⟨gv, cv, hvv, hgv, _⟩ := own_form HO5.out (by decide)
      subst hvv
      have HV5 : Hid (V8 w5 gv H) := Lib.hid fun j u hj => by
        obtain ⟨A', c', e, hr, _⟩ := Rd.of_own HO5.out
        cases e
        have := hr.cell _ rfl j u (by rw [List.nil_append]; exact hj)
        rw [Addr.add_mid, Nat.zero_add] at this
        exact this
      have HGV := Lib.hid hgv
      clear hgv HO5 HOV HCP
      go_wp2_with fail
      obtain ⟨wo, rfl⟩ : ∃ wo, wo = wr := ⟨_, rfl⟩
      go_loopw [8, 9] (fun v i wr => ∃ (t gv cv : Nat), v = .slice (some ⟨gv, 0, none⟩) 8 cv ∧ i = .int .i64 t ∧ t ≤ 64 ∧ Hid (w4.heap.size ≤ gv) ∧ Hid (V8 wr gv (S.rounds (S.sched b 64) H t)) ∧ Hid (ExtW w5 wr)) (fun _ i _ => 64 - (intOf i).toNat)
      case atStart => exact ⟨0, gv, cv, rfl, rfl, Nat.zero_le _, HGV, HV5, Lib.hid (Below.refl _ _)⟩
      case round =>
        clear HGV HV5
        obtain ⟨t, gs2, cv2, rfl, rfl, ht, HGV, HV, HE6⟩ := hrel
        obtain ⟨gv, rfl⟩ : ∃ g, g = gs2 := ⟨_, rfl⟩
        by_cases hlt2 : t < 64
        · -- devbegin
          have hti : (t : Int) < 64 := by omega
          obtain ⟨s, hs⟩ : ∃ s, s = S.rounds (S.sched b 64) H t := ⟨_, rfl⟩
          obtain ⟨kt, hkt⟩ : ∃ k, k = S.KS.getD t 0 := ⟨_, rfl⟩
          obtain ⟨wt, hwt⟩ : ∃ k, k = (S.sched b 64).getD t 0 := ⟨_, rfl⟩
          have HST : Hid (S.rounds (S.sched b 64) H (t + 1) = S.step kt wt s) := Lib.hid (by rw [S.rounds, ← hkt, ← hwt, ← hs])
          rw [← hs] at HV
          have hE45 : ExtW w4 wr := Below.trans HE5.out (Below.mono HE6.out HE5.out.size)
          have cw : wr.cell? ⟨gs, t, none⟩ = some (.int .u32 (un wt : Nat)) := by rw [hwt]; exact hE45.cellAt (HS.out t hlt2)
          have ck : wr.cell? ⟨gk, t, none⟩ = some (.int .u32 (un kt : Nat)) := by
            rw [hkt]
            refine (HK4.out.ext hE45).cell ?_
            rw [List.getElem?_map, List.getD_eq_getElem?_getD, List.getElem?_eq_getElem (by rw [S.KS_len]; exact hlt2)]; rfl
          have HRC : RD gs gv gk t s kt wt wr := ⟨cw, ck, HV.out 0 _ rfl, HV.out 1 _ rfl, HV.out 2 _ rfl, HV.out 3 _ rfl, HV.out 4 _ rfl, HV.out 5 _ rfl, HV.out 6 _ rfl, HV.out 7 _ rfl⟩
          obtain ⟨r1, hr1⟩ : ∃ x, x = S.rotr s.e 6 ^^^ S.rotr s.e 11 ^^^ S.rotr s.e 25 := ⟨_, rfl⟩
          obtain ⟨ch, hch⟩ : ∃ x, x = s.e &&& s.f ^^^ ~~~s.e &&& s.g := ⟨_, rfl⟩
          obtain ⟨one, hone⟩ : ∃ x, x = s.h + r1 + ch + kt + wt := ⟨_, rfl⟩
          obtain ⟨r2, hr2⟩ : ∃ x, x = S.rotr s.a 2 ^^^ S.rotr s.a 13 ^^^ S.rotr s.a 22 := ⟨_, rfl⟩
          obtain ⟨mj, hmj⟩ : ∃ x, x = s.a &&& s.b ^^^ s.a &&& s.c ^^^ s.b &&& s.c := ⟨_, rfl⟩
          obtain ⟨two, htwo⟩ : ∃ x, x = r2 + mj := ⟨_, rfl⟩
          have HFN : Hid (S.step kt wt s = ⟨one + two, s.a, s.b, s.c, s.d + one, s.e, s.f, s.g⟩) := Lib.hid (by unfold S.step; simp only [hone, htwo, hr1, hch, hr2, hmj])
          have g1 := un_xor (S.rotr s.e 6) (S.rotr s.e 11)
          have g2 := un_xor (S.rotr s.e 6 ^^^ S.rotr s.e 11) (S.rotr s.e 25)
          rw [← hr1] at g2
          have g3 := un_addw s.h r1
          have g4 := un_and s.e s.f
          have g5 : bits .xor .u32 (if IntKind.u32.signed = true then -1 else IntKind.u32.max) (un s.e : Int) = (un (~~~s.e) : Int) := un_not s.e
          have g6 := un_and (~~~s.e) s.g
          have g7 := un_xor (s.e &&& s.f) (~~~s.e &&& s.g)
          rw [← hch] at g7
          have g8 := un_addw (s.h + r1) ch
          have g9 := un_addw (s.h + r1 + ch) kt
          have g10 := un_addw (s.h + r1 + ch + kt) wt
          rw [← hone] at g10
          have k1 := un_xor (S.rotr s.a 2) (S.rotr s.a 13)
          have k2 := un_xor (S.rotr s.a 2 ^^^ S.rotr s.a 13) (S.rotr s.a 22)
          rw [← hr2] at k2
          have k3 := un_and s.a s.b
          have k4 := un_and s.a s.c
          have k5 := un_and s.b s.c
          have k6 := un_xor (s.a &&& s.b) (s.a &&& s.c)
          have k7 := un_xor (s.a &&& s.b ^^^ s.a &&& s.c) (s.b &&& s.c)
          rw [← hmj] at k7
          have k8 := un_add r2 mj
          rw [← htwo] at k8
          have k9 := un_addw one two
          have k10 := un_addw s.d one
          clear hone htwo hr1 hr2 hch hmj hs hkt hwt cw ck hE45
          go_upto_region 13 with (fail)
          obtain ⟨cw, ck, c0, c1, c2, c3, c4, c5, c6, c7⟩ := id HRC
          clear cw ck c0 c1 c2 c3 c5 c6 c7
          refine wp_region_still_lit (by kernel_rfl) (by kernel_rfl) ?_
          repeat still_step
          still_call (turn6 _ _)
          repeat still_step
          still_call (turn11 _ _)
          repeat still_step
          still_call (turn25 _ _)
          repeat still_step
          refine wpStill_nil ?_
          change Exit.then _ _ _ _ wr.drew
          replace HRC : RD gs gv gk t s kt wt wr.drew := HRC
          replace HE6 : Hid (ExtW w5 wr.drew) := Lib.hid HE6.out.drew
          generalize wr.drew = wd at HRC HE6 ⊢
          clear c4 g1 g2
          go_upto_region 14 with (fail)
          obtain ⟨cw, ck, c0, c1, c2, c3, c4, c5, c6, c7⟩ := id HRC
          clear cw ck c0 c1 c2 c3 c7
          go_still (by kernel_rfl)
          change Exit.then _ _ _ _ wd.drew
          replace HRC : RD gs gv gk t s kt wt wd.drew := HRC
          replace HE6 : Hid (ExtW w5 wd.drew) := Lib.hid HE6.out.drew
          generalize wd.drew = we at HRC HE6 ⊢
          clear c4 c5 c6 g4 g5 g6 g7
          go_upto_region 15 with (fail)
          obtain ⟨cw, ck, c0, c1, c2, c3, c4, c5, c6, c7⟩ := id HRC
          clear c0 c1 c2 c3 c4 c5 c6
          go_still (by kernel_rfl)
          change Exit.then _ _ _ _ we.drew
          replace HRC : RD gs gv gk t s kt wt we.drew := HRC
          replace HE6 : Hid (ExtW w5 we.drew) := Lib.hid HE6.out.drew
          generalize we.drew = wf at HRC HE6 ⊢
          clear cw ck c7 g3 g8 g9 g10
          go_upto_region 16 with (fail)
          obtain ⟨cw, ck, c0, c1, c2, c3, c4, c5, c6, c7⟩ := id HRC
          clear cw ck c1 c2 c3 c4 c5 c6 c7
          refine wp_region_still_lit (by kernel_rfl) (by kernel_rfl) ?_
          repeat still_step
          still_call (turn2 _ _)
          repeat still_step
          still_call (turn13 _ _)
          repeat still_step
          still_call (turn22 _ _)
          repeat still_step
          refine wpStill_nil ?_
          change Exit.then _ _ _ _ wf.drew
          replace HRC : RD gs gv gk t s kt wt wf.drew := HRC
          replace HE6 : Hid (ExtW w5 wf.drew) := Lib.hid HE6.out.drew
          generalize wf.drew = wg at HRC HE6 ⊢
          clear c0 k1 k2
          go_upto_region 17 with (fail)
          obtain ⟨cw, ck, c0, c1, c2, c3, c4, c5, c6, c7⟩ := id HRC
          clear cw ck c3 c4 c5 c6 c7
          go_still (by kernel_rfl)
          change Exit.then _ _ _ _ wg.drew
          replace HRC : RD gs gv gk t s kt wt wg.drew := HRC
          replace HE6 : Hid (ExtW w5 wg.drew) := Lib.hid HE6.out.drew
          generalize wg.drew = wh at HRC HE6 ⊢
          clear c0 c1 c2 k3 k4 k5 k6 k7
          go_upto_region 19 with (fail)
          obtain ⟨cw, ck, c0, c1, c2, c3, c4, c5, c6, c7⟩ := id HRC
          clear cw ck c7
          go_still_tail 26, (by kernel_rfl)
          change wpList _ _ _ _ _ wh.drew
          replace HE6 : Hid (ExtW w5 wh.drew) := Lib.hid HE6.out.drew
          generalize wh.drew = wi at HE6 ⊢
          clear c0 c1 c2 c3 c4 c5 c6 k8 k9 k10
          have HV9 : Hid (V8 (wi.alloc (.cells #[.int .u32 (un (one + two) : Nat), .int .u32 (un s.a : Nat), .int .u32 (un s.b : Nat), .int .u32 (un s.c : Nat), .int .u32 (un (s.d + one) : Nat), .int .u32 (un s.e : Nat), .int .u32 (un s.f : Nat), .int .u32 (un s.g : Nat)] 109)) wi.heap.size (S.rounds (S.sched b 64) H (t + 1))) := Lib.hid (by
            rw [HST.out, HFN.out]
            refine V8.of_row ?_
            unfold Row; rw [heap_alloc_last]; rfl)
          have HGV9 : Hid (w4.heap.size ≤ wi.heap.size) := Lib.hid (Nat.le_trans HE5.out.size HE6.out.size)
          go_wp2_with fail
          go_roundw
          case rel => exact ⟨t + 1, _, _, rfl, by simp, hlt2, HGV9, HV9, Lib.hid (HE6.out.alloc HE6.out.size _)⟩
          case measure => simp [intOf]; omega
          -- devend
        · obtain rfl : t = 64 := by omega
          have hti : ¬ ((64 : Nat) : Int) < 64 := by omega
          obtain ⟨s, hs⟩ : ∃ s, s = S.rounds (S.sched b 64) H 64 := ⟨_, rfl⟩
          rw [← hs] at HV
          have HBF : Hid (S.blockF H b = H.add s) := Lib.hid (by unfold S.blockF; rw [← hs])
          clear hs
          have HE46 : Hid (ExtW w4 wr) := Lib.hid (Below.trans HE5.out (Below.mono HE6.out HE5.out.size))
          have HGW : Hid (wo.grownBy wr (some gh)) := Lib.hid (grown_but (grown_of_below (ExtW.trans HE4.out HE46.out)) _)
          have HHU : Hid (Row wr gh 109 (hU H s 0)) := Lib.hid (HH4.out.ext HE46.out)
          have HNE : Hid (gv ≠ gh) := Lib.hid (by have h1 := HGV.out; have h2 := HH4.out.lt; omega)
          clear HE6 HE5
          go_wp2_with fail
          go_loopw [16] (fun i wn => ∃ t : Nat, i = .int .i64 t ∧ t ≤ 8 ∧ Hid (V8 wn gv s) ∧ Hid (Row wn gh 109 (hU H s t)) ∧ Hid (wo.grownBy wn (some gh))) (fun i _ => 8 - (intOf i).toNat)
          case atStart => exact ⟨0, rfl, Nat.zero_le _, HV, HHU, HGW⟩
          case round =>
            clear HV HHU HGW HE46
            obtain ⟨t, rfl, ht, HV, HHU, HGW⟩ := hrel
            by_cases hlt4 : t < 8
            · -- devbegin
              have hti4 : (t : Int) < 8 := by omega
              obtain ⟨h1, h2, h3⟩ := hU_get H s hlt4
              obtain ⟨hv, hhv⟩ : ∃ x, x = H.list.getD t 0 := ⟨_, rfl⟩
              obtain ⟨sv, hsv⟩ : ∃ x, x = s.list.getD t 0 := ⟨_, rfl⟩
              rw [← hhv] at h1 h3
              rw [← hsv] at h2 h3
              have H3 := Lib.hid h3
              have c1 := HHU.out.cell h1
              have c2 := HV.out _ _ h2
              simp only [uv] at c1 c2
              have f1 := un_addw hv sv
              clear h1 h2 h3 hhv hsv
              go_upto_region 23 with (fail)
              go_still_tail 12, (by kernel_rfl)
              change wpList _ _ _ _ _ wr.drew
              replace HHU : Hid (Row wr.drew gh 109 (hU H s t)) := Lib.hid HHU.out
              replace HV : Hid (V8 wr.drew gv s) := Lib.hid HV.out
              replace HGW : Hid (wo.grownBy wr.drew (some gh)) := Lib.hid (grown_drew HGW.out)
              have c1' : wr.drew.cell? ⟨gh, t, none⟩ = some (.int .u32 (un hv : Nat)) := c1
              generalize wr.drew = wd at HHU HV HGW c1' ⊢
              have hfz := HHU.out.frozen t
              clear c1 c2 f1
              go_wp2_with fail
              go_roundw
              case rel =>
                refine ⟨t + 1, by simp, hlt4, Lib.hid ?_, Lib.hid ?_, Lib.hid (grown_set HGW.out _ _)⟩
                · intro j u hj
                  exact (World.cell?_of_block (Below.heap_setCell _ ⟨gh, t, none⟩ _ gv HNE.out)).trans (HV.out j u hj)
                · rw [← H3.out]
                  exact HHU.out.set t _
              case measure => simp [intOf]; omega
              -- devend
            · obtain rfl : t = 8 := by omega
              have hti4 : ¬ ((8 : Nat) : Int) < 8 := by omega
              clear HS HE4 HH4 HK4
              go_wp2_with fail
              go_roundw
              case rel =>
                refine ⟨z2, by first | rfl | (simp; have := HZ2.out; omega), by have := HZ2.out; have h1 := HZ.out; have h2 := HL64.out; omega, Lib.hid (by have := HZ2.out; have h1 := HZ.out; omega), Lib.hid ?_, Lib.hid ?_⟩
                · rw [HNX.out, HBF.out]
                  exact HHU.out
                · exact ⟨HGW.out.os.trans HG.out.os, HGW.out.tape.trans HG.out.tape, HGW.out.output.trans HG.out.output, Nat.le_trans HG.out.size HGW.out.size, fun k hk hne => (HGW.out.block k (Nat.lt_of_lt_of_le hk HG.out.size) hne).trans (HG.out.block k hk hne)⟩
              case measure => simp [intOf]; have := HZ2.out; omega
      -- devend
    · obtain rfl : z = L := by omega
      have hzi : ¬ (z : Int) < (z : Int) := by omega
      obtain ⟨H, hH⟩ : ∃ H, H = S.hs PL := ⟨_, rfl⟩
      have HHF : Hid (Row wr gh 109 (H.list.map uv)) := Lib.hid (by
        have h := HH.out
        rw [List.take_of_length_le (by rw [← HL.out]; exact Nat.le_refl _), ← hH] at h
        exact h)
      have HDG : Hid (S.digest (S.hs PL) = S.digest H) := Lib.hid (by rw [hH])
      have HDW : Hid (Row wr w.heap.size 45 (bvs (List.replicate 32 0))) := Lib.hid ((HG.out.block _ HD3.out.lt (fun e => by have h1 := Option.some.inj e; have h2 := HLT.out; omega)).trans HD3.out)
      have HEW : Hid (ExtW w wr) := Lib.hid (Below.trans (Below.trans HE1.out (Below.mono HE3.out HE1.out.size)) ((Below.refl _ _).grown HG.out (Nat.le_trans HE1.out.size HE3.out.size) (fun k hk => by rw [← Option.some.inj hk, HG1.out]; exact HE1.out.size)))
      clear hH HH HG HD3 HD1 HE1 HE3 HK3 HNC HP HGP HGK HG1 HLT
      go_upto_region 25 with (first
        | (refine wpList_bldG rfl (by rfl) ?_; refine ⟨.agg zDig, by kernel_rfl, ?_⟩)
        | (refine wpList_runW rfl rfl ?_; refine ⟨.pointer (some ⟨wr.heap.size, 0, none⟩), wr.alloc (.cells zDig 45), by kernel_rfl, ?_⟩)
        | (refine wpList_st rfl rfl ?_; refine ⟨wr.heap.size, zDig, _, _, rfl, rfl, zDig_row wr, by kernel_rfl, rfl, dg_one (List.replicate 32 0), ?_⟩))
      have HY0 : Hid (Row ((wr.alloc (.cells zDig 45)).setRow wr.heap.size zDig) wr.heap.size 45 (digB H 0)) := Lib.hid ((zDig_row wr).setRow (bvs (List.replicate 32 0)))
      have HE5 : Hid (ExtW wr ((wr.alloc (.cells zDig 45)).setRow wr.heap.size zDig)) := Lib.hid (below_setRow ((Below.refl _ _).alloc (Nat.le_refl _) _) (Nat.le_refl _) _)
      generalize (wr.alloc (.cells zDig 45)).setRow wr.heap.size zDig = w5 at HY0 HE5 ⊢
      have HH5 := Lib.hid (HHF.out.ext HE5.out)
      have HD5 := Lib.hid (HDW.out.ext HE5.out)
      have HLH := Lib.hid HHF.out.lt
      have HLD := Lib.hid HDW.out.lt
      obtain ⟨y, hy⟩ : ∃ y, y = wr.heap.size := ⟨_, rfl⟩
      rw [← hy] at HY0 HLH HLD ⊢
      have HYY := Lib.hid hy
      clear hy
      go_wp2_with fail
      go_loopw [18] (fun i wn => ∃ t : Nat, i = .int .i64 t ∧ t ≤ 32 ∧ Hid (Row wn y 45 (digB H t)) ∧ Hid (Below y w5 wn)) (fun i _ => 32 - (intOf i).toNat)
      case atStart => exact ⟨0, rfl, Nat.zero_le _, HY0, Lib.hid (Below.refl _ _)⟩
      case round =>
        clear HY0
        obtain ⟨t, rfl, ht, HY, HB⟩ := hrel
        by_cases hlt2 : t < 32
        · have hti : (t : Int) < 32 := by omega
          obtain ⟨q, hq⟩ : ∃ q, q = t / 4 := ⟨_, rfl⟩
          have hq8 : q < 8 := by omega
          have hqi : (t : Int) / 4 = (q : Int) := by omega
          have hq8i : (q : Int) < 8 := by omega
          obtain ⟨x, hx⟩ : ∃ x, x = H.list.getD q 0 := ⟨_, rfl⟩
          have hcx : wr.cell? ⟨gh, q, none⟩ = some (.int .u32 (un x : Nat)) := by
            have h : Row wr gh 109 (H.list.map uv) := (HB.out.block gh HLH.out).trans HH5.out
            rw [hx]
            refine h.cell ?_
            rw [List.getElem?_map, List.getD_eq_getElem?_getD, List.getElem?_eq_getElem (show q < H.list.length from hq8)]; rfl
          have hfz := HY.out.frozen t
          obtain ⟨u0, hu0⟩ : ∃ u, (digB H t)[t]? = some u := ⟨_, List.getElem?_eq_getElem (by rw [digB_len H ht]; exact hlt2)⟩
          have cy := HY.out.cell hu0
          clear hu0
          rcases (by omega : t % 4 = 0 ∨ t % 4 = 1 ∨ t % 4 = 2 ∨ t % 4 = 3) with hr | hr | hr | hr
          · have hri : (t : Int) % 4 = 0 := by omega
            have HST := Lib.hid (digB_set H hlt2)
            have ed := (dig_byte H hq8).1
            rw [← hx, ← (show t = 4 * q by omega)] at ed
            rw [ed] at HST
            have HBB : Hid ((un x : Int) / 16777216 % 256 = ((UInt8.ofNat (un x / 16777216)).toNat : Int)) := Lib.hid (by rw [UInt8.toNat_ofNat']; omega)
            clear hx hq hr ed
            go_wp2_with fail
            go_roundw
            case rel =>
              refine ⟨t + 1, by simp, hlt2, Lib.hid ?_, Lib.hid (HB.out.setCell (p := ⟨y, t, none⟩) (Nat.le_refl _) _)⟩
              rw [← HST.out]
              exact HY.out.set t _
            case measure => simp [intOf]; omega
          · have hri : (t : Int) % 4 = 1 := by omega
            have HST := Lib.hid (digB_set H hlt2)
            have ed := (dig_byte H hq8).2.1
            rw [← hx, ← (show t = 4 * q + 1 by omega)] at ed
            rw [ed] at HST
            have HBB : Hid ((un x : Int) / 65536 % 256 = ((UInt8.ofNat (un x / 65536)).toNat : Int)) := Lib.hid (by rw [UInt8.toNat_ofNat']; omega)
            clear hx hq hr ed
            go_wp2_with fail
            go_roundw
            case rel =>
              refine ⟨t + 1, by simp, hlt2, Lib.hid ?_, Lib.hid (HB.out.setCell (p := ⟨y, t, none⟩) (Nat.le_refl _) _)⟩
              rw [← HST.out]
              exact HY.out.set t _
            case measure => simp [intOf]; omega
          · have hri : (t : Int) % 4 = 2 := by omega
            have HST := Lib.hid (digB_set H hlt2)
            have ed := (dig_byte H hq8).2.2.1
            rw [← hx, ← (show t = 4 * q + 2 by omega)] at ed
            rw [ed] at HST
            have HBB : Hid ((un x : Int) / 256 % 256 = ((UInt8.ofNat (un x / 256)).toNat : Int)) := Lib.hid (by rw [UInt8.toNat_ofNat']; omega)
            clear hx hq hr ed
            go_wp2_with fail
            go_roundw
            case rel =>
              refine ⟨t + 1, by simp, hlt2, Lib.hid ?_, Lib.hid (HB.out.setCell (p := ⟨y, t, none⟩) (Nat.le_refl _) _)⟩
              rw [← HST.out]
              exact HY.out.set t _
            case measure => simp [intOf]; omega
          · have hri : (t : Int) % 4 = 3 := by omega
            have HST := Lib.hid (digB_set H hlt2)
            have ed := (dig_byte H hq8).2.2.2
            rw [← hx, ← (show t = 4 * q + 3 by omega)] at ed
            rw [ed] at HST
            have HBB : Hid ((un x : Int) % 256 = ((UInt8.ofNat (un x)).toNat : Int)) := Lib.hid (by rw [UInt8.toNat_ofNat']; omega)
            clear hx hq hr ed
            go_wp2_with fail
            go_roundw
            case rel =>
              refine ⟨t + 1, by simp, hlt2, Lib.hid ?_, Lib.hid (HB.out.setCell (p := ⟨y, t, none⟩) (Nat.le_refl _) _)⟩
              rw [← HST.out]
              exact HY.out.set t _
            case measure => simp [intOf]; omega
        · obtain rfl : t = 32 := by omega
          have hti : ¬ ((32 : Nat) : Int) < 32 := by omega
          have hfin : digB H 32 = bvs (S.digest H) := by
            unfold digB
            rw [List.take_of_length_le (by rw [S.digest_len]; exact Nat.le_refl _), List.drop_of_length_le (by rw [List.length_replicate]; exact Nat.le_refl _), List.append_nil]
          obtain ⟨dg, hdg⟩ : ∃ d, d = S.digest H := ⟨_, rfl⟩
          have hdl : dg.length = 32 := by rw [hdg, S.digest_len]
          rw [← hdg] at hfin HDG
          have HY2 : Hid (Row wr y 45 (bvs dg)) := Lib.hid (by rw [← hfin]; exact HY.out)
          have HKS : Hid ((bvs dg).toArray.size = 32) := Lib.hid (dg_size hdl)
          have HD6 : Hid (Row wr w.heap.size 45 (bvs (List.replicate 32 0))) := Lib.hid ((HB.out.block _ HLD.out).trans HD5.out)
          clear hfin hdg hdl
          go_wp2_with (first
            | (refine wpList_ld rfl rfl ?_; refine ⟨y, _, _, _, rfl, HY2.out, Try.underlying45, rfl, by rw [HKS.out]; kernel_rfl, ?_⟩)
            | (refine wpList_st rfl rfl ?_; refine ⟨w.heap.size, _, _, _, rfl, rfl, HD6.out, by rw [HKS.out]; kernel_rfl, Eq.trans (show (bvs (List.replicate 32 0)).toArray.size = 32 from rfl) HKS.out.symm, dg_one _, ?_⟩))
          (try simp only [Exit.inBlock, Exit.then])
          have HFB : Hid (ExtW w (wr.setRow w.heap.size (bvs dg).toArray)) := Lib.hid (below_setRow (Below.trans (Below.trans HEW.out (Below.mono HE5.out HEW.out.size)) (HB.out.mono (by rw [HYY.out]; exact HEW.out.size))) (Nat.le_refl _) _)
          refine bodyPost_ret (v := dgV dg) ?_ rfl ⟨by rw [HDG.out], HFB.out⟩
          have h := run_loadVar_row (P := Try.prog) (wr.setRow w.heap.size (bvs dg).toArray) w.heap.size 45 45 (bvs dg).toArray (0, 0) _ (Row.setRow HD6.out (bvs dg)) Try.underlying45 rfl (by rw [HKS.out]; kernel_rfl)
          simpa [results, Try.f64, Act.put, asAddr, dgV] using h
end Go.Proofs.Ythaoibgcgkmnbaa

namespace Go.Proofs.Ythaoibgcgkmnbaa
set_option maxRecDepth 100000
open Go.RowKit

theorem i64_and7 (n : Nat) (h : n < 256) : bits .and .i64 (n : Int) 7 = ((n % 8 : Nat) : Int) := by
  have : ∀ m : Fin 256, bits .and .i64 ((m.1 : Nat) : Int) 7 = ((m.1 % 8 : Nat) : Int) := by decide +kernel
  exact this ⟨n, h⟩
/-- bit r of a byte, from the greatest on -/
def bitR (r : Nat) : UInt8 := UInt8.ofNat (128 / 2 ^ r)
theorem keepB_bit (b : UInt8) (m : Nat) {r : Nat} (hr : r < 8) : keepB b m &&& bitR r = if r < m then b &&& bitR r else 0 := by
  have key : ∀ (m r : Fin 8), m.1 ≠ 0 → UInt8.ofNat (255 * 2 ^ (8 - m.1) % 256) &&& bitR r.1 = if r.1 < m.1 then bitR r.1 else 0 := by decide
  unfold keepB
  by_cases h0 : m = 0
  · rw [if_pos h0, if_neg (by omega), UInt8.zero_and]
  · rw [if_neg h0]
    by_cases h8 : m < 8
    · rw [if_pos h8, UInt8.and_assoc, key ⟨m, h8⟩ ⟨r, hr⟩ h0]
      split
      · rfl
      · rw [UInt8.and_zero]
    · rw [if_neg h8, if_pos (by omega)]
theorem keep_bit {d : List UInt8} {n i : Nat} (hd : d.length = 32) (hi : i < 256) : (keep d n).getD (i / 8) 0 &&& bitR (i % 8) = if i < n then d.getD (i / 8) 0 &&& bitR (i % 8) else 0 := by
  have h := keep_get d n (i / 8) (by omega)
  rw [List.getD_eq_getElem?_getD, h, Option.getD_some, keepB_bit _ _ (Nat.mod_lt _ (by decide))]
  by_cases h1 : i < n
  · rw [if_pos h1, if_pos (by omega)]
  · rw [if_neg h1, if_neg (by omega)]
theorem bitsN_lt {x : Int} {i : Nat} (h : i < 256) : i < bitsN x ↔ (i : Int) < x := by unfold bitsN; omega
theorem and_u8 (a b : UInt8) : bits .and .u8 (a.toNat : Int) (b.toNat : Int) = ((a &&& b).toNat : Int) := by
  rw [u8_and_nat _ _ a.toNat_lt b.toNat_lt, UInt8.toNat_and]
end Go.Proofs.Ythaoibgcgkmnbaa

namespace Go.Proofs.Ythaoibgcgkmnbaa
set_option maxRecDepth 100000
open Go.RowKit

/-- a byte of which the bits from m on are cleared as far as r -/
def pB (b : UInt8) (m : Nat) : Nat → UInt8
  | 0 => b
  | r + 1 => if m ≤ r then pB b m r &&& ~~~bitR r else pB b m r
theorem pB_all (b : UInt8) (m : Nat) : pB b m 8 = keepB b m := by
  by_cases h : m < 8
  · have key : ∀ (x : Fin 256) (m : Fin 8), pB (UInt8.ofNat x.1) m.1 8 = keepB (UInt8.ofNat x.1) m.1 := by decide +kernel
    have := key ⟨b.toNat, b.toNat_lt⟩ ⟨m, h⟩
    simpa using this
  · unfold keepB
    rw [if_neg (by omega), if_neg (by omega)]
    simp only [pB]
    repeat rw [if_neg (by omega)]
def pL (d : List UInt8) (n t : Nat) : List UInt8 := (List.range 32).map fun j => pB (d.getD j 0) (n - 8 * j) (min 8 (t - 8 * j))
def pV (d : List UInt8) (n t : Nat) : List Value := bvs (pL d n t)
theorem pL_get (d : List UInt8) (n t : Nat) {j : Nat} (h : j < 32) : (pL d n t)[j]? = some (pB (d.getD j 0) (n - 8 * j) (min 8 (t - 8 * j))) := by
  unfold pL; rw [List.getElem?_map, List.getElem?_range h]; rfl
theorem pL_len (d : List UInt8) (n t : Nat) : (pL d n t).length = 32 := by simp [pL]
theorem pL_zero {d : List UInt8} (n : Nat) (hd : d.length = 32) : pL d n 0 = d := by
  apply List.ext_getElem?
  intro j
  by_cases h : j < 32
  · rw [pL_get d n 0 h, Nat.zero_sub, Nat.min_zero, List.getD_eq_getElem?_getD, List.getElem?_eq_getElem (by omega)]
    rfl
  · rw [List.getElem?_eq_none (by rw [pL_len]; omega), List.getElem?_eq_none (by omega)]
theorem pL_all {d : List UInt8} (n : Nat) (hd : d.length = 32) : pL d n 256 = keep d n := by
  apply List.ext_getElem?
  intro j
  by_cases h : j < 32
  · rw [pL_get d n 256 h, keep_get d n j (by omega), Nat.min_eq_left (by omega), pB_all]
  · rw [List.getElem?_eq_none (by rw [pL_len]; omega), List.getElem?_eq_none (by rw [keep_len]; omega)]
theorem pV_at (d : List UInt8) (n : Nat) {t q r : Nat} (ht : t = 8 * q + r) (hr : r < 8) (hq : q < 32) : (pV d n t)[q]? = some (.int .u8 ((pB (d.getD q 0) (n - 8 * q) r).toNat : Int)) := by
  unfold pV
  rw [bvs, List.getElem?_map, pL_get d n t hq, show min 8 (t - 8 * q) = r by omega]
  rfl
theorem pL_set (d : List UInt8) (n : Nat) {t q r : Nat} (ht : t = 8 * q + r) (hr : r < 8) (hq : q < 32) : (pL d n t).set q (pB (d.getD q 0) (n - 8 * q) (r + 1)) = pL d n (t + 1) := by
  apply List.ext_getElem?
  intro j
  rw [List.getElem?_set]
  by_cases hj : j < 32
  · rw [pL_get d n (t + 1) hj]
    split
    · rename_i e
      subst e
      rw [if_pos (by rw [pL_len]; exact hj), show min 8 (t + 1 - 8 * q) = r + 1 by omega]
    · rename_i e
      rw [pL_get d n t hj]
      congr 2
      omega
  · rw [if_neg (by omega), List.getElem?_eq_none (by rw [pL_len]; omega), List.getElem?_eq_none (by rw [pL_len]; omega)]
theorem pV_set (d : List UInt8) (n : Nat) {t q r : Nat} (ht : t = 8 * q + r) (hr : r < 8) (hq : q < 32) : (pV d n t).set q (.int .u8 ((pB (d.getD q 0) (n - 8 * q) (r + 1)).toNat : Int)) = pV d n (t + 1) := by
  unfold pV
  rw [← pL_set d n ht hr hq, bvs, bvs, List.map_set]
theorem pV_same (d : List UInt8) (n : Nat) {t q r : Nat} (ht : t = 8 * q + r) (hr : r < 8) (hq : q < 32) (h : t < n) : pV d n t = pV d n (t + 1) := by
  unfold pV
  rw [← pL_set d n ht hr hq]
  have e : pB (d.getD q 0) (n - 8 * q) (r + 1) = pB (d.getD q 0) (n - 8 * q) r := by simp only [pB]; rw [if_neg (by omega)]
  rw [e]
  congr 1
  have hg : (pL d n t)[q]? = some (pB (d.getD q 0) (n - 8 * q) r) := by rw [pL_get d n t hq, show min 8 (t - 8 * q) = r by omega]
  apply List.ext_getElem?
  intro j
  rw [List.getElem?_set]
  split
  · rename_i e
    subst e
    rw [hg, if_pos (by rw [pL_len]; exact hq)]
  · rfl
theorem andNot_u8 (a b : UInt8) : (a &&& ~~~b).toNat = a.toNat &&& 255 - b.toNat := by
  rw [UInt8.toNat_and, UInt8.toNat_not]; rfl

set_option maxHeartbeats 4000000 in
set_option maxRecDepth 100000 in
theorem refKept_any (str : ByteArray) (x : Int) (w : World) (hn : str.size ≤ 1000000000) (_hx : -9223372036854775808 ≤ x ∧ x ≤ 9223372036854775807) :
    Calls Try.prog 46 #[.string str, .int .i64 x] w fun e w' => e = .returned (dgV (keep (S.sha str.data.toList) (bitsN x))) ∧ ExtW w w' := by
  obtain ⟨n, hn2⟩ : ∃ n, n = bitsN x := ⟨_, rfl⟩
  have HBN : Hid (∀ i : Nat, i < 256 → (i < n ↔ (i : Int) < x)) := Lib.hid fun i hi => by rw [hn2]; exact bitsN_lt hi
  obtain ⟨d, hd⟩ : ∃ d, d = S.sha str.data.toList := ⟨_, rfl⟩
  have hdl : d.length = 32 := by rw [hd]; rfl
  have HD := Lib.hid hd
  have HDL := Lib.hid hdl
  rw [← hn2, ← hd]
  have HE1 : Hid (ExtW w (w.alloc (.cells zDig 45))) := Lib.hid ((Below.refl _ _).alloc (Nat.le_refl _) _)
  have HD1 := Lib.hid (zDig_row w)
  have HSC : Hid ((bvs d).toArray.size = 32) := Lib.hid (dg_size hdl)
  have HN := Lib.hid hn
  clear hn2 hd hdl hn
  go_enter Try.func46, Try.ntmps46
  go_upto_region 1 with (refine wpList_runW rfl rfl ?_; refine ⟨.pointer (some ⟨w.heap.size, 0, none⟩), w.alloc (.cells zDig 45), by kernel_rfl, ?_⟩)
  generalize w.alloc (.cells zDig 45) = w1 at HE1 HD1 ⊢
  go_wp2_with fail
  refine (refOf_any str _ HN.out).mono ?_
  rintro e w2 ⟨rfl, hb2⟩
  rw [← HD.out]
  have HB2 := Lib.hid hb2
  have HD2 := Lib.hid (HD1.out.ext hb2)
  clear hb2
  unfold dgV
  go_upto_region 2 with (first
    | (refine wpList_runW rfl rfl ?_; refine ⟨.pointer (some ⟨w2.heap.size, 0, none⟩), w2.alloc (.cells zDig 45), by kernel_rfl, ?_⟩)
    | (refine wpList_st rfl rfl ?_; refine ⟨w2.heap.size, _, _, _, rfl, rfl, zDig_row w2, by rw [HSC.out]; kernel_rfl, Eq.trans (show (bvs (List.replicate 32 0)).toArray.size = 32 from rfl) HSC.out.symm, dg_one _, ?_⟩))
  have HY0 : Hid (Row ((w2.alloc (.cells zDig 45)).setRow w2.heap.size (bvs d).toArray) w2.heap.size 45 (pV d n 0)) := Lib.hid (by unfold pV; rw [pL_zero n HDL.out]; exact (zDig_row w2).setRow (bvs d))
  have HE3 : Hid (ExtW w2 ((w2.alloc (.cells zDig 45)).setRow w2.heap.size (bvs d).toArray)) := Lib.hid (below_setRow ((Below.refl _ _).alloc (Nat.le_refl _) _) (Nat.le_refl _) _)
  generalize (w2.alloc (.cells zDig 45)).setRow w2.heap.size (bvs d).toArray = w3 at HY0 HE3 ⊢
  obtain ⟨y, hy⟩ : ∃ y, y = w2.heap.size := ⟨_, rfl⟩
  rw [← hy] at HY0 ⊢
  have HYY := Lib.hid hy
  clear hy
  go_wp2_with fail
  go_loopw [6] (fun i wr => ∃ t : Nat, i = .int .i64 t ∧ t ≤ 256 ∧ Hid (Row wr y 45 (pV d n t)) ∧ Hid (Below y w3 wr)) (fun i _ => 256 - (intOf i).toNat)
  case atStart => exact ⟨0, rfl, Nat.zero_le _, HY0, Lib.hid (Below.refl _ _)⟩
  case round =>
    obtain ⟨t, rfl, ht, HY, HB⟩ := hrel
    by_cases hlt : t < 256
    · have hti : (t : Int) < 256 := by omega
      obtain ⟨q, hq⟩ : ∃ q, q = t / 8 := ⟨_, rfl⟩
      obtain ⟨r, hrr⟩ : ∃ r, r = t % 8 := ⟨_, rfl⟩
      have hr8 : r < 8 := by omega
      have hq32 : q < 32 := by omega
      have htq : t = 8 * q + r := by omega
      by_cases hnt : t < n
      · have hgei : ¬ x ≤ (t : Int) := by have := (HBN.out t hlt).1 hnt; omega
        have HST := Lib.hid (pV_same d n htq hr8 hq32 hnt)
        clear hq hrr htq
        go_wp2_with fail
        go_roundw
        case rel =>
          refine ⟨t + 1, by simp, hlt, Lib.hid ?_, HB⟩
          rw [← HST.out]
          exact HY.out
        case measure => simp [intOf]; omega
      · have hgei : x ≤ (t : Int) := by
          rcases Int.lt_or_le (t : Int) x with h | h
          · exact absurd ((HBN.out t hlt).2 h) hnt
          · exact h
        have hqi : (t : Int) / 8 = (q : Int) := by omega
        have hri : (t : Int) % 8 = (r : Int) := by omega
        have hqi32 : (q : Int) < 32 := by omega
        have HST := Lib.hid (pV_set d n htq hr8 hq32)
        obtain ⟨b, hb⟩ : ∃ b, b = pB (d.getD q 0) (n - 8 * q) r := ⟨_, rfl⟩
        have cb := HY.out.cell (pV_at d n htq hr8 hq32)
        rw [← hb] at cb
        have hpb : pB (d.getD q 0) (n - 8 * q) (r + 1) = b &&& ~~~bitR r := by
          simp only [pB]
          rw [if_pos (by omega), ← hb]
        rw [hpb, andNot_u8] at HST
        have hfz := HY.out.frozen q
        have h128 : (128 : Int) / 2 ^ r = ((bitR r).toNat : Int) := by
          rcases (by omega : r = 0 ∨ r = 1 ∨ r = 2 ∨ r = 3 ∨ r = 4 ∨ r = 5 ∨ r = 6 ∨ r = 7) with rfl | rfl | rfl | rfl | rfl | rfl | rfl | rfl <;> rfl
        clear hq hrr htq hb hpb
        go_wp2_with fail
        go_roundw
        case rel =>
          refine ⟨t + 1, by simp, hlt, Lib.hid ?_, Lib.hid (HB.out.setCell (p := ⟨y, q, none⟩) (Nat.le_refl _) _)⟩
          rw [← HST.out, u8_andNot_nat _ _ b.toNat_lt (bitR r).toNat_lt]
          exact HY.out.set q _
        case measure => simp [intOf]; omega
    · obtain rfl : t = 256 := by omega
      have hti : ¬ ((256 : Nat) : Int) < 256 := by omega
      have hkl : (keep d n).length = 32 := by rw [keep_len, HDL.out]
      have HY2 : Hid (Row wr y 45 (bvs (keep d n))) := Lib.hid (by have h := HY.out; unfold pV at h; rw [pL_all n HDL.out] at h; exact h)
      have HKS : Hid ((bvs (keep d n)).toArray.size = 32) := Lib.hid (dg_size hkl)
      have HD4 : Hid (Row wr w.heap.size 45 (bvs (List.replicate 32 0))) := Lib.hid (by
        have h3 := HD2.out.ext HE3.out
        have h4 : w.heap.size < y := by rw [HYY.out]; exact HD2.out.lt
        exact (HB.out.block _ h4).trans h3)
      clear hkl
      go_wp2_with (first
        | (refine wpList_ld rfl rfl ?_; refine ⟨y, _, _, _, rfl, HY2.out, Try.underlying45, rfl, by rw [HKS.out]; kernel_rfl, ?_⟩)
        | (refine wpList_st rfl rfl ?_; refine ⟨w.heap.size, _, _, _, rfl, rfl, HD4.out, by rw [HKS.out]; kernel_rfl, Eq.trans (show (bvs (List.replicate 32 0)).toArray.size = 32 from rfl) HKS.out.symm, dg_one _, ?_⟩))
      (try simp only [Exit.inBlock, Exit.then])
      have HFB : Hid (ExtW w (wr.setRow w.heap.size (bvs (keep d n)).toArray)) := Lib.hid (below_setRow (Below.trans (ExtW.trans HE1.out (ExtW.trans HB2.out HE3.out)) (HB.out.mono (by rw [HYY.out]; exact (ExtW.trans HE1.out HB2.out).size))) (Nat.le_refl _) _)
      refine bodyPost_ret (v := dgV (keep d n)) ?_ rfl ⟨rfl, HFB.out⟩
      have h := run_loadVar_row (P := Try.prog) (wr.setRow w.heap.size (bvs (keep d n)).toArray) w.heap.size 45 45 (bvs (keep d n)).toArray (0, 0) _ (Row.setRow HD4.out (bvs (keep d n))) Try.underlying45 rfl (by rw [HKS.out]; kernel_rfl)
      simpa [results, Try.f46, Act.put, asAddr, dgV] using h
end Go.Proofs.Ythaoibgcgkmnbaa
