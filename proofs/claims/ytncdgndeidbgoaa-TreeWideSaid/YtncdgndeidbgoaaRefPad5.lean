/- A row of bytes that a string was turned into, appended to; walks of the document's turned, Constants and Padded. -/
import Derived.Test.YtncdgndeidbgoaaS5
import Derived.Laws.IdiomStrings
import Derived.ArgAppend
namespace Go.Proofs.Ytncdgndeidbgoaa
open Go.RowKit

/-- a row of bytes of the call's own, which may bear the mark of a conversion -/
def OwM (w : World) (base : Nat) (v : Value) (n : Nat) (xs : List UInt8) : Prop :=
  ∃ (g c : Nat) (cur : Array Value) (fz : Nat × Nat), v = .slice (some ⟨g, 0, none⟩) n c ∧ base ≤ g ∧ w.heap[g]? = some (.cells cur 5 fz) ∧ n ≤ c ∧ c ≤ maxLen ∧ cur.size = c ∧ (fz = (0, 0) ∨ c ≤ fz.1) ∧ cur.toList.take n = bvs xs

theorem OwM.len {w : World} {base n : Nat} {v : Value} {xs : List UInt8} (h : OwM w base v n xs) : xs.length = n := by
  obtain ⟨g, c, cur, fz, _, _, _, h4, _, h6, _, h8⟩ := h
  have := congrArg List.length h8
  rw [List.length_take, Array.length_toList, bvs_len, h6] at this
  omega
theorem OwM.rd {w : World} {base n : Nat} {v : Value} {xs : List UInt8} (h : OwM w base v n xs) : ∃ g c, v = .slice (some ⟨g, 0, none⟩) n c ∧ base ≤ g ∧ g < w.heap.size ∧ Rd w (some ⟨g, 0, none⟩) n c 1 (bvs xs) := by
  have hl := h.len
  obtain ⟨g, c, cur, fz, h1, h2, h3, h4, h5, h6, h7, h8⟩ := h
  refine ⟨g, c, h1, h2, (Array.getElem?_eq_some_iff.1 h3).1, by rw [bvs_len, hl, Nat.mul_one], h4, h5, (fun e => by cases e), fun a ha j u hj => ?_⟩
  cases ha
  rw [Addr.add_mid, Nat.zero_add, cell_of_row w g j cur _ fz h3]
  rw [← h8, List.getElem?_take] at hj
  split at hj
  · simpa using hj
  · cases hj
theorem OwM.ext {w w' : World} {base n : Nat} {v : Value} {xs : List UInt8} (h : OwM w base v n xs) (hb : ExtW w w') : OwM w' base v n xs := by
  obtain ⟨g, c, cur, fz, h1, h2, h3, h⟩ := h
  exact ⟨g, c, cur, fz, h1, h2, (hb.block g (Array.getElem?_eq_some_iff.1 h3).1).trans h3, h⟩

/-- one byte more -/
theorem append_m {w : World} {base n : Nat} {v : Value} {xs : List UInt8} (h : OwM w base v n xs) (x : UInt8) (a : Nat) (hx : w.cell? ⟨a, 0, none⟩ = some (.int .u8 (x.toNat : Int))) (hn : n + 1 ≤ 1000000000000) (hbase : base ≤ w.heap.size) :
    ∃ v' w', (Builtin.append_ #[36, 36] 36 #[v, .slice (some ⟨a, 0, none⟩) 1 1]).run Try.prog w = .ok v' w' ∧ OwM w' base v' (n + 1) (xs ++ [x]) ∧ Below base w w' := by
  obtain ⟨i0, hi, hz0, hz1, hz2⟩ := info_parts infoB
  have hl := h.len
  obtain ⟨g0, c0, e0, _, _, hrd⟩ := h.rd
  obtain ⟨g, c, cur, fz, h1, h2, h3, h4, h5, h6, h7, h8⟩ := h
  rw [h1] at e0
  obtain ⟨rfl, rfl⟩ : g0 = g ∧ c0 = c := by cases e0; exact ⟨rfl, rfl⟩
  clear e0
  subst h1
  have hnews : ∀ j u, [Value.int .u8 (x.toNat : Int)][j]? = some u → w.cell? ((⟨a, 0, none⟩ : Addr).add j) = some u := by
    intro j u hj
    cases j with
    | zero => simp at hj; subst hj; rw [Addr.add_mid]; exact hx
    | succ j => simp at hj
  by_cases hroom : n + 1 ≤ c0
  · have hfr : w.frozen? ⟨g0, n, none⟩ = false := by
      unfold World.frozen?
      rw [h3]
      rcases h7 with rfl | h7
      · simp
      · obtain ⟨lo, hi'⟩ := fz
        simp only at h7 ⊢
        simp
        omega
    have hce : (w.cell? ⟨g0, n, none⟩).isSome = true := by
      rw [cell_of_row w g0 n cur _ fz h3, Array.getElem?_eq_getElem (by omega)]; rfl
    have hrun := run_append_room_cells (P := Try.prog) w 36 36 5 i0 Try.underlying36 hi g0 0 n c0 ⟨a, 0, none⟩ 1 1 [.int .u8 (x.toNat : Int)] (by rw [hz1]; rfl) hnews (by simp [Value.oneCell']) hroom
      (fun j hj => by simp at hj; subst hj; rw [hz1]; simpa using hce) (fun j hj => by simp at hj; subst hj; rw [hz1]; simpa using hfr)
    rw [hz1, Nat.zero_add, Nat.mul_one] at hrun
    refine ⟨_, _, hrun, ⟨g0, c0, cur.setIfInBounds n (.int .u8 (x.toNat : Int)), fz, rfl, h2, ?_, hroom, h5, by simpa using h6, h7, ?_⟩, ?_⟩
    · show (w.setCell ⟨g0, n, none⟩ _).heap[g0]? = _
      rw [setCell_eq_setRow w g0 n cur 5 fz _ h3]
      exact setRow_heap w g0 cur _ _ fz h3
    · rw [Array.toList_setIfInBounds, List.take_add_one, List.take_set_of_le (Nat.le_refl _), h8, bvs_app]
      congr 1
      rw [List.getElem?_set_self (by rw [Array.length_toList]; omega)]
      rfl
    · exact (Below.refl base w).setCell (p := ⟨g0, n, none⟩) h2 _
  · obtain ⟨v', w', hrun, hown, hgr⟩ := run_append_arg_grows (P := Try.prog) w 36 36 5 i0 _ 1 1 Try.underlying36 hi hz0 hz1 hz2 rfl (by omega) ⟨g0, 0, none⟩ n c0 (bvs xs) (by rw [bvs_len, hl, Nat.mul_one]) (hrd.cell _ rfl) ⟨a, 0, none⟩ 1 1 [.int .u8 (x.toNat : Int)] rfl hnews (by omega) (by simp [maxLen]; omega) (by omega)
    refine ⟨v', w', hrun, ?_, (Below.refl base w).grown hgr hbase (fun k hk => by cases hk)⟩
    rcases hown.2 with ⟨_, h0⟩ | ⟨g0', c0', cur', hv', hb', hg', hn', hm', hs', ht'⟩
    · omega
    · refine ⟨g0', c0', cur', (0, 0), hv', Nat.le_trans hbase hb', hg', hn', hm', by simpa using hs', .inl rfl, ?_⟩
      rw [bvs_app]
      rw [Nat.mul_one] at ht'; exact ht'

theorem wpList_append_m {ops : Array Oper} {rest : List Oper} {o : Oper} {a : Act} {w : World} {Q : Exit → Act → World → Prop} (hgd : o.guard = none) (s x : Operand)
    (ho : o.op = .call { callee := .builtin .append, args := #[s, x], argTypes := #[36, 36] }) (hot : o.type = 36) (base n : Nat) (v : Value) (xs : List UInt8) (hs : a.eval s = v) (h : OwM w base v n xs) (b : UInt8) (g : Nat)
    (hx : a.eval x = .slice (some ⟨g, 0, none⟩) 1 1) (hc : w.cell? ⟨g, 0, none⟩ = some (.int .u8 (b.toNat : Int))) (hn : n + 1 ≤ 1000000000000) (hbase : base ≤ w.heap.size)
    (hK : ∀ v' w', OwM w' base v' (n + 1) (xs ++ [b]) → Below base w w' → wpList Try.prog ops Q rest (a.put o.dst v') w') : wpList Try.prog ops Q (o :: rest) a w := by
  obtain ⟨v', w', hrun, h1, h2⟩ := append_m h b g hc hn hbase
  refine wpList_plain hgd fun K hK' => ?_
  unfold Oper.wp execOp
  simp only [ho, hot, resolve, invoke, builtin, Sem.run_bind, Sem.run_pure, Result.andThen_ok, List.map_toArray, List.map_cons, List.map_nil, hs, hx, hrun]
  exact hK' _ _ (hK v' w' h1 h2)

/-- what '[]byte(s)' makes -/
theorem bytes_of (s : ByteArray) (w : World) (hs : s.size ≤ 1000000000000) : ∃ v w', (convert 9 36 (.string s)).run Try.prog w = .ok v w' ∧ OwM w' w.heap.size v s.size s.data.toList ∧ ExtW w w' := by
  have h := run_bytes_of_string (P := Try.prog) w 9 36 5 s Try.underlying9 Try.underlying36 Try.underlying5
  have hge := grownCap_ge w s.size 0 5
  have hle := grownCap_le_maxLen w s.size 0 5 (by simp [maxLen]; omega)
  obtain ⟨c, hc⟩ : ∃ c, c = grownCap w s.size 0 5 := ⟨_, rfl⟩
  rw [← hc] at h hge hle
  have hsz : (bytesRow s c).size = c := by
    unfold bytesRow
    rw [Array.size_append, Array.size_map, Array.size_replicate]
    have : s.data.size = s.size := rfl
    omega
  rw [hsz] at h
  refine ⟨_, _, h, ⟨w.heap.size, c, bytesRow s c, (c, c + 1), rfl, Nat.le_refl _, heap_alloc_new w.drew _, hge, hle, hsz, .inr (Nat.le_refl _), ?_⟩, ?_⟩
  · have e : (bytesRow s c).toList = bvs s.data.toList ++ List.replicate (c - s.size) (.int .u8 0) := by
      unfold bytesRow bvs
      simp
    rw [e, List.take_append_of_le_length (by rw [bvs_len, size_list]; exact Nat.le_refl _), List.take_of_length_le (by rw [bvs_len, size_list]; exact Nat.le_refl _)]
  · exact Below.trans ((Below.refl _ w).drew) ((Below.refl _ w.drew).alloc (Nat.le_refl _) _)

theorem turned_any (x n : UInt32) (k : Nat) (hk : 1 ≤ k ∧ k ≤ 31) (hn : n.toNat = k) (w : World) :
    Calls Try.prog 63 #[.int .u32 (un x : Nat), .int .i64 (k : Int)] w fun e w' => e = .returned (.int .u32 (un (S.rotr x n) : Nat)) ∧ w' = w := by
  obtain ⟨s, hs⟩ : ∃ s, s = 32 - k := ⟨_, rfl⟩
  have hk32 : k < 32 := by omega
  have hs32 : s < 32 := by omega
  have hfin : bits .or .u32 ((un x : Int) / 2 ^ k) ((un x : Int) * 2 ^ s % 4294967296) = (un (S.rotr x n) : Int) := by
    have hl := un_shl x (32 - n) s (by rw [UInt32.toNat_sub]; simp; omega) hs32
    have hr := un_shr x n k hn hk32
    have ho := un_or (x >>> n) (x <<< (32 - n))
    have e1 : ((2 ^ s : Nat) : Int) = 2 ^ s := by simp
    have e2 : ((2 ^ k : Nat) : Int) = 2 ^ k := by simp
    rw [← e1, ← e2, hl, hr, ho]
    rfl
  have hsk : (32 : Int) - (k : Int) = (s : Int) := by omega
  clear hs
  go_enter Try.func63, Try.ntmps63
  go_wp2
  go_ret
  exact ⟨rfl, rfl⟩

set_option maxRecDepth 100000 in
set_option maxHeartbeats 4000000 in
theorem consts_any (w : World) : Calls Try.prog 60 #[] w fun e w' => ∃ g, e = .returned (.slice (some ⟨g, 0, none⟩) 64 64) ∧ Row w' g 86 (S.KS.map uv) ∧ ExtW w w' := by
  go_enter Try.func60, Try.ntmps60
  go_wp2
  go_ret
  refine ⟨w.heap.size, rfl, ?_, (Below.refl _ _).alloc (Nat.le_refl _) _⟩
  unfold Row
  rw [heap_alloc_last]
  kernel_rfl
theorem cell_new1p (w : World) (v : Value) (e : TypeId) : (w.alloc (.cells #[v] e)).cell? ⟨w.heap.size, 0, none⟩ = some v := by
  have h1 : (w.alloc (.cells #[v] e)).heap[w.heap.size]? = some (.cells #[v] e) := heap_alloc_new w _
  unfold World.cell?
  simp only [h1]
  rfl

set_option maxHeartbeats 4000000 in
set_option maxRecDepth 100000 in
theorem padded_any (s : ByteArray) (w : World) (hn : s.size ≤ 1000000000) :
    Calls Try.prog 61 #[.string s] w fun e w' => ∃ v, e = .returned v ∧ OwM w' w.heap.size v (S.padded s.data.toList).length (S.padded s.data.toList) ∧ ExtW w w' := by
  obtain ⟨v1, w1, hcv, hown1, hb1⟩ := bytes_of s w (by omega)
  obtain ⟨l, hl⟩ : ∃ l, l = s.data.toList := ⟨_, rfl⟩
  rw [← hl] at hown1 ⊢
  obtain ⟨T, hT⟩ : ∃ T, T = s.size := ⟨_, rfl⟩
  have HTL : Hid (T = l.length) := Lib.hid (by rw [hT, hl, size_list])
  have HSZ := Lib.hid hT
  rw [← hT] at hown1 hn
  have HB1 := Lib.hid hb1
  have HO1 := Lib.hid hown1
  obtain ⟨g1, c1, hv1, _, _, _⟩ := hown1.rd
  subst hv1
  have hsz : s.size = T := hT.symm
  clear hown1 hb1 hl hT
  go_enter Try.func61, Try.ntmps61
  go_upto_region 2 with (fail)
  clear hcv
  go_upto_block 0 with (at_builtin; refine wpList_append_m rfl _ _ rfl rfl w.heap.size T _ l rfl (HO1.out.ext ((Below.refl _ _).alloc (Nat.le_refl _) _)) 128 _ rfl (cell_new1p _ _ _) (by omega) (by simp; exact Nat.le_succ_of_le HB1.out.size) ?_; intro v4 w4 hown4 hb4; have HO4 := Lib.hid hown4; have HE4 := Lib.hid (Below.trans ((Below.refl _ _).alloc HB1.out.size _) hb4); clear hown4 hb4; obtain ⟨g4, c4, hv4, _, _, _⟩ := HO4.out.rd; subst hv4)
  have HE1 := Lib.hid (Below.trans HB1.out HE4.out)
  obtain ⟨zz, hzz⟩ : ∃ z, z = (119 - T % 64) % 64 := ⟨_, rfl⟩
  have hz64 : zz < 64 := by omega
  have HZZ := Lib.hid hzz
  clear hzz
  go_wp2_with fail
  go_loopw [3] (fun v wr => ∃ (m : Nat) (A : Option Addr) (c : Nat), v = .slice A (T + 1 + m) c ∧ m ≤ zz ∧ Hid (OwM wr w.heap.size v (T + 1 + m) (l ++ (128 :: List.replicate m 0))) ∧ Hid (ExtW w wr)) (fun v _ => T + 1 + zz - slLen v)
  case atStart => exact ⟨0, _, _, rfl, Nat.zero_le _, HO4, HE1⟩
  case round =>
    clear HO4 HE1 HE4 HO1 HB1
    obtain ⟨m, A, c, rfl, hmz, HO, HE⟩ := hrel
    by_cases hlt : m < zz
    · have hne : (((T : Int) + 1 + (m : Int)) % 64 != 56) = true := by have := HZZ.out; simp; omega
      go_wp2_with (at_builtin; refine wpList_append_m rfl _ _ rfl rfl w.heap.size (T + 1 + m) _ _ rfl (HO.out.ext ((Below.refl _ _).alloc (Nat.le_refl _) _)) 0 _ rfl (cell_new1p _ _ _) (by omega) (by simp; exact Nat.le_succ_of_le HE.out.size) ?_; intro v4 w4 hown4 hb4; have HO4 := Lib.hid hown4; have HE4 := Lib.hid (Below.trans ((Below.refl _ _).alloc HE.out.size _) hb4); clear hown4 hb4; obtain ⟨g4, c4, hv4, _, _, _⟩ := HO4.out.rd; subst hv4)
      go_roundw
      case rel =>
        refine ⟨m + 1, _, _, rfl, hlt, Lib.hid ?_, Lib.hid (Below.trans HE.out HE4.out)⟩
        have h := HO4.out
        rw [List.append_assoc, List.cons_append, ← List.replicate_succ'] at h
        exact h
      case measure => simp [slLen]; omega
    · obtain rfl : m = zz := by omega
      have hne : (((T : Int) + 1 + (m : Int)) % 64 != 56) = false := by have := HZZ.out; simp; omega
      obtain ⟨n8, hn8⟩ : ∃ n, n = 8 * T := ⟨_, rfl⟩
      have h8 : (T : Int) * 8 = (n8 : Int) := by omega
      have h8w : IntKind.u64.wrap ((T : Int) * 8) = (n8 : Int) := by rw [h8]; simp [IntKind.wrap, IntKind.bits, IntKind.signed]; omega
      have HN8 := Lib.hid hn8
      have HW4 := Lib.hid HO.out
      have HE5 := Lib.hid HE.out
      clear HO HE hn8
      go_upto_region 6 with (fail)
      clear h8 h8w hne hsz
      go_wp2_with fail
      go_loopw [3, 5] (fun v i wr => ∃ (j q : Nat) (A : Option Addr) (c : Nat), v = .slice A q c ∧ i = .int .i64 (7 - (j : Int)) ∧ j ≤ 8 ∧ q ≤ 2000000000 ∧ Hid (q = T + 1 + m + j) ∧ Hid (OwM wr w.heap.size v q ((l ++ (128 :: List.replicate m 0)) ++ (S.be64 n8).take j)) ∧ Hid (ExtW w wr)) (fun _ i _ => (intOf i + 1).toNat)
      case atStart => exact ⟨0, _, _, _, rfl, rfl, by decide, by omega, Lib.hid rfl, Lib.hid (by rw [List.take_zero, List.append_nil]; exact HW4.out), HE5⟩
      case round =>
        clear HW4 HE5
        obtain ⟨j, m2, A2, c2, rfl, rfl, hj, hm80, HM2, HO, HE⟩ := hrel
        rcases (by omega : j = 0 ∨ j = 1 ∨ j = 2 ∨ j = 3 ∨ j = 4 ∨ j = 5 ∨ j = 6 ∨ j = 7 ∨ j = 8) with rfl | rfl | rfl | rfl | rfl | rfl | rfl | rfl | rfl
        · have hb : IntKind.u8.wrap ((n8 : Int) / 72057594037927936) = ((UInt8.ofNat (n8 / 256 ^ 7)).toNat : Int) := byteAt n8 72057594037927936
          go_wp2_with (at_builtin; refine wpList_append_m rfl _ _ rfl rfl w.heap.size m2 _ _ rfl (HO.out.ext ((Below.refl _ _).alloc (Nat.le_refl _) _)) (UInt8.ofNat (n8 / 256 ^ 7)) _ rfl (cell_new1p _ _ _) (by omega) (by simp; exact Nat.le_succ_of_le HE.out.size) ?_; intro v4 w4 hown4 hb4; have HO4 := Lib.hid hown4; have HE4 := Lib.hid (Below.trans ((Below.refl _ _).alloc HE.out.size _) hb4); clear hown4 hb4; obtain ⟨g4, c4, hv4, _, _, _⟩ := HO4.out.rd; subst hv4)
          go_roundw
          case rel =>
            refine ⟨1, _, _, _, rfl, by first | rfl | simp, by decide, by have := HM2.out; omega, Lib.hid (by have := HM2.out; omega), Lib.hid ?_, Lib.hid (Below.trans HE.out HE4.out)⟩
            have h := HO4.out
            simp only [S.be64, List.take_succ_cons, List.take_zero] at h ⊢
            rw [List.append_assoc] at h
            exact h
          case measure => simp [intOf]
        · have hb : IntKind.u8.wrap ((n8 : Int) / 281474976710656) = ((UInt8.ofNat (n8 / 256 ^ 6)).toNat : Int) := byteAt n8 281474976710656
          go_wp2_with (at_builtin; refine wpList_append_m rfl _ _ rfl rfl w.heap.size m2 _ _ rfl (HO.out.ext ((Below.refl _ _).alloc (Nat.le_refl _) _)) (UInt8.ofNat (n8 / 256 ^ 6)) _ rfl (cell_new1p _ _ _) (by omega) (by simp; exact Nat.le_succ_of_le HE.out.size) ?_; intro v4 w4 hown4 hb4; have HO4 := Lib.hid hown4; have HE4 := Lib.hid (Below.trans ((Below.refl _ _).alloc HE.out.size _) hb4); clear hown4 hb4; obtain ⟨g4, c4, hv4, _, _, _⟩ := HO4.out.rd; subst hv4)
          go_roundw
          case rel =>
            refine ⟨2, _, _, _, rfl, by first | rfl | simp, by decide, by have := HM2.out; omega, Lib.hid (by have := HM2.out; omega), Lib.hid ?_, Lib.hid (Below.trans HE.out HE4.out)⟩
            have h := HO4.out
            simp only [S.be64, List.take_succ_cons, List.take_zero] at h ⊢
            rw [List.append_assoc] at h
            exact h
          case measure => simp [intOf]
        · have hb : IntKind.u8.wrap ((n8 : Int) / 1099511627776) = ((UInt8.ofNat (n8 / 256 ^ 5)).toNat : Int) := byteAt n8 1099511627776
          go_wp2_with (at_builtin; refine wpList_append_m rfl _ _ rfl rfl w.heap.size m2 _ _ rfl (HO.out.ext ((Below.refl _ _).alloc (Nat.le_refl _) _)) (UInt8.ofNat (n8 / 256 ^ 5)) _ rfl (cell_new1p _ _ _) (by omega) (by simp; exact Nat.le_succ_of_le HE.out.size) ?_; intro v4 w4 hown4 hb4; have HO4 := Lib.hid hown4; have HE4 := Lib.hid (Below.trans ((Below.refl _ _).alloc HE.out.size _) hb4); clear hown4 hb4; obtain ⟨g4, c4, hv4, _, _, _⟩ := HO4.out.rd; subst hv4)
          go_roundw
          case rel =>
            refine ⟨3, _, _, _, rfl, by first | rfl | simp, by decide, by have := HM2.out; omega, Lib.hid (by have := HM2.out; omega), Lib.hid ?_, Lib.hid (Below.trans HE.out HE4.out)⟩
            have h := HO4.out
            simp only [S.be64, List.take_succ_cons, List.take_zero] at h ⊢
            rw [List.append_assoc] at h
            exact h
          case measure => simp [intOf]
        · have hb : IntKind.u8.wrap ((n8 : Int) / 4294967296) = ((UInt8.ofNat (n8 / 256 ^ 4)).toNat : Int) := byteAt n8 4294967296
          go_wp2_with (at_builtin; refine wpList_append_m rfl _ _ rfl rfl w.heap.size m2 _ _ rfl (HO.out.ext ((Below.refl _ _).alloc (Nat.le_refl _) _)) (UInt8.ofNat (n8 / 256 ^ 4)) _ rfl (cell_new1p _ _ _) (by omega) (by simp; exact Nat.le_succ_of_le HE.out.size) ?_; intro v4 w4 hown4 hb4; have HO4 := Lib.hid hown4; have HE4 := Lib.hid (Below.trans ((Below.refl _ _).alloc HE.out.size _) hb4); clear hown4 hb4; obtain ⟨g4, c4, hv4, _, _, _⟩ := HO4.out.rd; subst hv4)
          go_roundw
          case rel =>
            refine ⟨4, _, _, _, rfl, by first | rfl | simp, by decide, by have := HM2.out; omega, Lib.hid (by have := HM2.out; omega), Lib.hid ?_, Lib.hid (Below.trans HE.out HE4.out)⟩
            have h := HO4.out
            simp only [S.be64, List.take_succ_cons, List.take_zero] at h ⊢
            rw [List.append_assoc] at h
            exact h
          case measure => simp [intOf]
        · have hb : IntKind.u8.wrap ((n8 : Int) / 16777216) = ((UInt8.ofNat (n8 / 256 ^ 3)).toNat : Int) := byteAt n8 16777216
          go_wp2_with (at_builtin; refine wpList_append_m rfl _ _ rfl rfl w.heap.size m2 _ _ rfl (HO.out.ext ((Below.refl _ _).alloc (Nat.le_refl _) _)) (UInt8.ofNat (n8 / 256 ^ 3)) _ rfl (cell_new1p _ _ _) (by omega) (by simp; exact Nat.le_succ_of_le HE.out.size) ?_; intro v4 w4 hown4 hb4; have HO4 := Lib.hid hown4; have HE4 := Lib.hid (Below.trans ((Below.refl _ _).alloc HE.out.size _) hb4); clear hown4 hb4; obtain ⟨g4, c4, hv4, _, _, _⟩ := HO4.out.rd; subst hv4)
          go_roundw
          case rel =>
            refine ⟨5, _, _, _, rfl, by first | rfl | simp, by decide, by have := HM2.out; omega, Lib.hid (by have := HM2.out; omega), Lib.hid ?_, Lib.hid (Below.trans HE.out HE4.out)⟩
            have h := HO4.out
            simp only [S.be64, List.take_succ_cons, List.take_zero] at h ⊢
            rw [List.append_assoc] at h
            exact h
          case measure => simp [intOf]
        · have hb : IntKind.u8.wrap ((n8 : Int) / 65536) = ((UInt8.ofNat (n8 / 256 ^ 2)).toNat : Int) := byteAt n8 65536
          go_wp2_with (at_builtin; refine wpList_append_m rfl _ _ rfl rfl w.heap.size m2 _ _ rfl (HO.out.ext ((Below.refl _ _).alloc (Nat.le_refl _) _)) (UInt8.ofNat (n8 / 256 ^ 2)) _ rfl (cell_new1p _ _ _) (by omega) (by simp; exact Nat.le_succ_of_le HE.out.size) ?_; intro v4 w4 hown4 hb4; have HO4 := Lib.hid hown4; have HE4 := Lib.hid (Below.trans ((Below.refl _ _).alloc HE.out.size _) hb4); clear hown4 hb4; obtain ⟨g4, c4, hv4, _, _, _⟩ := HO4.out.rd; subst hv4)
          go_roundw
          case rel =>
            refine ⟨6, _, _, _, rfl, by first | rfl | simp, by decide, by have := HM2.out; omega, Lib.hid (by have := HM2.out; omega), Lib.hid ?_, Lib.hid (Below.trans HE.out HE4.out)⟩
            have h := HO4.out
            simp only [S.be64, List.take_succ_cons, List.take_zero] at h ⊢
            rw [List.append_assoc] at h
            exact h
          case measure => simp [intOf]
        · have hb : IntKind.u8.wrap ((n8 : Int) / 256) = ((UInt8.ofNat (n8 / 256)).toNat : Int) := byteAt n8 256
          go_wp2_with (at_builtin; refine wpList_append_m rfl _ _ rfl rfl w.heap.size m2 _ _ rfl (HO.out.ext ((Below.refl _ _).alloc (Nat.le_refl _) _)) (UInt8.ofNat (n8 / 256)) _ rfl (cell_new1p _ _ _) (by omega) (by simp; exact Nat.le_succ_of_le HE.out.size) ?_; intro v4 w4 hown4 hb4; have HO4 := Lib.hid hown4; have HE4 := Lib.hid (Below.trans ((Below.refl _ _).alloc HE.out.size _) hb4); clear hown4 hb4; obtain ⟨g4, c4, hv4, _, _, _⟩ := HO4.out.rd; subst hv4)
          go_roundw
          case rel =>
            refine ⟨7, _, _, _, rfl, by first | rfl | simp, by decide, by have := HM2.out; omega, Lib.hid (by have := HM2.out; omega), Lib.hid ?_, Lib.hid (Below.trans HE.out HE4.out)⟩
            have h := HO4.out
            simp only [S.be64, List.take_succ_cons, List.take_zero] at h ⊢
            rw [List.append_assoc] at h
            exact h
          case measure => simp [intOf]
        · have hb : IntKind.u8.wrap ((n8 : Int)) = ((UInt8.ofNat (n8)).toNat : Int) := byteAt1 n8
          go_wp2_with (at_builtin; refine wpList_append_m rfl _ _ rfl rfl w.heap.size m2 _ _ rfl (HO.out.ext ((Below.refl _ _).alloc (Nat.le_refl _) _)) (UInt8.ofNat (n8)) _ rfl (cell_new1p _ _ _) (by omega) (by simp; exact Nat.le_succ_of_le HE.out.size) ?_; intro v4 w4 hown4 hb4; have HO4 := Lib.hid hown4; have HE4 := Lib.hid (Below.trans ((Below.refl _ _).alloc HE.out.size _) hb4); clear hown4 hb4; obtain ⟨g4, c4, hv4, _, _, _⟩ := HO4.out.rd; subst hv4)
          go_roundw
          case rel =>
            refine ⟨8, _, _, _, rfl, by first | rfl | simp, by decide, by have := HM2.out; omega, Lib.hid (by have := HM2.out; omega), Lib.hid ?_, Lib.hid (Below.trans HE.out HE4.out)⟩
            have h := HO4.out
            simp only [S.be64, List.take_succ_cons, List.take_zero] at h ⊢
            rw [List.append_assoc] at h
            exact h
          case measure => simp [intOf]
        · have hfin : (l ++ (128 :: List.replicate m 0)) ++ (S.be64 n8).take 8 = S.padded l := by
            unfold S.padded S.tail
            rw [← HTL.out, HZZ.out, HN8.out, List.append_assoc]
            rfl
          have HO5 : Hid (OwM wr w.heap.size (.slice A2 m2 c2) (S.padded l).length (S.padded l)) := Lib.hid (by
            have h := HO.out
            rw [hfin] at h
            rw [h.len]
            exact h)
          clear hfin HO
          go_wp2
          go_ret
          exact ⟨_, rfl, HO5.out, HE.out⟩
end Go.Proofs.Ytncdgndeidbgoaa
