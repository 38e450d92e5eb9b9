/- Walks of package codec's writers: each computes the bytes that the plain functions name. -/
import Derived.Test.YtimmgaifhkhhhaaW
import Derived.Test.YtimmgaifhkhhhaaNum
import Derived.Outline
namespace Go.Proofs.Ytimmgaifhkhhhaa
open Go.RowKit

theorem infoB : (Try.prog.info? 5).map (fun i => (i.zero, i.size, i.bytes)) = some (some (.int .u8 0), 1, 1) := by kernel_rfl

def U64 (v : Nat) : Prop := v < 18446744073709551616

set_option maxHeartbeats 400000 in
set_option maxRecDepth 100000 in
theorem size_any (v : Nat) (w : World) (hv : U64 v) :
    Calls Try.prog 12 #[.int .u64 v] w fun e w' => e = .returned (.int .i64 ((enc v).length : Nat)) ∧ w = w' := by
  have H10 := Lib.hid (enc_le10 hv)
  clear hv
  go_enter Try.func12, Try.ntmps12
  go_wp2
  go_loop [0, 3] (fun x n => ∃ (y k : Nat), x = .int .u64 y ∧ n = .int .i64 k ∧ Hid (k + (enc y).length = (enc v).length + 1) ∧ k ≤ 10) (fun x _ => (intOf x).toNat)
  case atStart => exact ⟨v, 1, rfl, rfl, Lib.hid (by omega), by omega⟩
  case round =>
    obtain ⟨y, k, rfl, rfl, H, hk⟩ := hrel
    by_cases hy : y < 128
    · go_wp2
      go_ret
      refine ⟨?_, rfl⟩
      have h1 := H.out
      rw [enc_small hy] at h1
      simp at h1
      show Ending.returned (Value.int .i64 (k : Int)) = _
      rw [h1]
    · have hk9 : k ≤ 9 := by
        have := H.out; rw [enc_great (by omega)] at this; have := enc_pos (y / 128); have := H10.out; simp only [List.length_cons] at *; omega
      go_wp2
      go_round
      case rel => exact ⟨y / 128, k + 1, by go_num, by go_num, Lib.hid (by have := H.out; rw [enc_great (by omega)] at this; simp only [List.length_cons] at this; omega), by omega⟩
      case measure => simp [intOf]; omega

theorem Rd.full {w : World} {A : Option Addr} {n c size : Nat} {cs : List Value} (h : Rd w A n c size cs) : Rd w A n n size cs :=
  ⟨h.len, Nat.le_refl _, Nat.le_trans h.nc h.cm, fun ha => by have := h.nil0 ha; have := h.nc; omega, h.cell⟩

theorem or128 (y : Nat) : bits .or .u8 ((y : Int) % 256) 128 = ((UInt8.ofNat (y % 128 + 128)).toNat : Int) := by
  have h : ∀ m : Fin 256, bits .or .u8 (m.val : Int) 128 = ((UInt8.ofNat (m.val % 128 + 128)).toNat : Int) := by decide +kernel
  have := h ⟨y % 256, by omega⟩
  have e1 : y % 256 % 128 = y % 128 := by omega
  simp only [e1] at this
  rw [← this]; congr 1

theorem put_last {w1 : World} {B e n y : Nat} {v' : Value} {xs pre l : List UInt8} (hy : y < 128) (h : l = pre ++ enc y)
    (hown : w1.ownsRow B e 1 v' (n + pre.length + 1) (bvs (xs ++ pre) ++ [Value.int IntKind.u8 ↑y])) : w1.ownsRow B e 1 v' (n + l.length) (bvs (xs ++ l)) := by
  have e1 : bvs (xs ++ l) = bvs (xs ++ pre) ++ [Value.int IntKind.u8 ↑y] := by
    rw [h, enc_small hy, ← List.append_assoc, bvs_app (xs ++ pre)]
    congr 1
    simp only [bvs, List.map_cons, List.map_nil]
    rw [ofNat_toNat_of_lt (by omega)]
  have e2 : n + l.length = n + pre.length + 1 := by rw [h, enc_small hy]; simp; omega
  rw [e1, e2]; exact hown

theorem put_more {w1 : World} {B e n y : Nat} {v' : Value} {xs pre : List UInt8} 
    (hown : w1.ownsRow B e 1 v' (n + pre.length + 1) (bvs (xs ++ pre) ++ [Value.int IntKind.u8 (bits BinOp.or IntKind.u8 (↑y % 256) 128)])) :
    w1.ownsRow B e 1 v' (n + (pre ++ [UInt8.ofNat (y % 128 + 128)]).length) (bvs (xs ++ (pre ++ [UInt8.ofNat (y % 128 + 128)]))) := by
  rw [or128] at hown
  have e1 : bvs (xs ++ (pre ++ [UInt8.ofNat (y % 128 + 128)])) = bvs (xs ++ pre) ++ [Value.int IntKind.u8 ((UInt8.ofNat (y % 128 + 128)).toNat : Int)] := by
    rw [← List.append_assoc, bvs_app (xs ++ pre)]
    rfl
  have e2 : n + (pre ++ [UInt8.ofNat (y % 128 + 128)]).length = n + pre.length + 1 := by simp; omega
  rw [e1, e2]; exact hown

set_option maxHeartbeats 400000 in
set_option maxRecDepth 100000 in
theorem put_any (A : Option Addr) (n c : Nat) (xs : List UInt8) (v : Nat) (w : World) (hv : U64 v) (hr : Rd w A n c 1 (bvs xs)) (hn : n ≤ 140737488351232) :
    Calls Try.prog 11 #[.slice A n c, .int .u64 v] w fun e w' => ∃ r, e = .returned r ∧ w'.ownsRow w.heap.size 5 1 r (n + (enc v).length) (bvs (xs ++ enc v)) ∧ Below w.heap.size w w' := by
  obtain ⟨i0, hi, hz0, hz1, hz2⟩ := info_parts infoB
  have H10 := Lib.hid (enc_le10 hv)
  clear hv
  have hnc := hr.nc
  obtain ⟨B, hB⟩ : ∃ B, B = w.heap.size := ⟨_, rfl⟩
  rw [← hB]
  have HB := Lib.hid hB; clear hB
  go_enter Try.func11, Try.ntmps11
  go_wp2
  go_loopw [0, 1] (fun b x wr => ∃ (y : Nat) (pre : List UInt8), x = .int .u64 y ∧ Hid (enc v = pre ++ enc y) ∧ Hid (Appd wr B 5 1 b (n + pre.length) (bvs (xs ++ pre))) ∧ Hid (Below B w wr) ∧ B ≤ wr.heap.size ∧ pre.length ≤ 10) (fun _ x _ => (intOf x).toNat)
  case atStart => exact ⟨v, [], rfl, Lib.hid rfl, Lib.hid (.inl ⟨A, rfl, by simpa using hr.full⟩), Lib.hid (Below.refl _ _), by rw [HB.out]; exact Nat.le_refl _, by simp⟩
  case round =>
    clear hr
    obtain ⟨y, pre, rfl, H, HA, HL, hBw, hpre⟩ := hrel
    by_cases hy : y < 128
    · go_wp2_with (at_builtin; refine wpList_append_appd _ rfl _ _ _ rfl B 5 i0 _ 1 1 Try.underlying22 hi hz0 hz1 hz2 rfl (by omega) _ _ _ rfl (Appd.alloc HA.out _) _ 1 1 _ rfl (Rd.new1 _ _ _) (one_cell _ rfl) (by simp [maxLen]; omega) (by omega) (by simp; omega) (.inr (by omega)) ?_; intro v' w1 hown hbel _)
      have hb2 := (HL.out.alloc hBw _).trans hbel
      go_ret
      exact ⟨v', rfl, put_last hy H.out hown, hb2⟩
    · go_wp2_with (at_builtin; refine wpList_append_appd _ rfl _ _ _ rfl B 5 i0 _ 1 1 Try.underlying22 hi hz0 hz1 hz2 rfl (by omega) _ _ _ rfl (Appd.alloc HA.out _) _ 1 1 _ rfl (Rd.new1 _ _ _) (one_cell _ rfl) (by simp [maxLen]; omega) (by omega) (by simp; omega) (.inr (by omega)) ?_; intro v' w1 hown hbel _)
      have hsz : B ≤ w1.heap.size := by have := hbel.size; simp at this; omega
      have hb2 := (HL.out.alloc hBw _).trans hbel
      go_roundw
      case rel => exact ⟨y / 128, pre ++ [UInt8.ofNat (y % 128 + 128)], by go_num, Lib.hid (by rw [H.out, enc_great (v := y) (by omega)]; simp), Lib.hid (.inr (put_more hown)), Lib.hid hb2, hsz, by
        have h1 := H.out
        have h2 := H10.out
        have h3 := enc_pos (y / 128)
        rw [h1, enc_great (v := y) (by omega)] at h2
        simp at h2 ⊢; omega⟩
      case measure => simp [intOf]; omega
end Go.Proofs.Ytimmgaifhkhhhaa
