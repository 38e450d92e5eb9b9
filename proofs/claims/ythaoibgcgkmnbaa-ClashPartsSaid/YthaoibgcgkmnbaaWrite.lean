/- Walk of Write. -/
import Derived.Test.YthaoibgcgkmnbaaNew
import Derived.Laws.CopyRow
import Derived.Lib.SlBuf
namespace Go.Proofs.Ythaoibgcgkmnbaa
set_option maxRecDepth 100000
open Go.RowKit

theorem objV_form (H : S.St) (part : List UInt8) (held size : Nat) : objV H part held size = (H.list.map uv ++ S.KS.map uv) ++ (bvs part ++ [.int .i64 held, .int .u64 size]) := by unfold objV; rw [List.append_assoc]
theorem pre72 (H : S.St) : (H.list.map uv ++ S.KS.map uv).length = 72 := rfl
theorem objV_len (H : S.St) (part : List UInt8) (held size : Nat) (h : part.length = 64) : (objV H part held size).length = 138 := by
  rw [objV_form, List.length_append, pre72, List.length_append, bvs_len, h]; rfl
theorem objV_held (H : S.St) (part : List UInt8) (held size : Nat) (h : part.length = 64) : (objV H part held size)[136]? = some (.int .i64 held) := by
  rw [objV_form, List.getElem?_append_right (by rw [pre72]; decide), pre72, List.getElem?_append_right (by rw [bvs_len, h]; decide), bvs_len, h]; rfl
theorem objV_size (H : S.St) (part : List UInt8) (held size : Nat) (h : part.length = 64) : (objV H part held size)[137]? = some (.int .u64 size) := by
  rw [objV_form, List.getElem?_append_right (by rw [pre72]; decide), pre72, List.getElem?_append_right (by rw [bvs_len, h]; decide), bvs_len, h]; rfl
theorem objV_setHeld (H : S.St) (part : List UInt8) (held size k : Nat) (h : part.length = 64) : (objV H part held size).set 136 (.int .i64 k) = objV H part k size := by
  rw [objV_form, objV_form, List.set_append_right (h := by rw [pre72]; decide), pre72, List.set_append_right (h := by rw [bvs_len, h]; decide), bvs_len, h]; rfl
theorem objV_setSize (H : S.St) (part : List UInt8) (held size k : Nat) (h : part.length = 64) : (objV H part held size).set 137 (.int .u64 k) = objV H part held k := by
  rw [objV_form, objV_form, List.set_append_right (h := by rw [pre72]; decide), pre72, List.set_append_right (h := by rw [bvs_len, h]; decide), bvs_len, h]; rfl
theorem objV_part (H : S.St) (part : List UInt8) (held size j : Nat) (hj : j < part.length) : (objV H part held size)[72 + j]? = some (.int .u8 (part[j].toNat : Int)) := by
  rw [objV_form, List.getElem?_append_right (by rw [pre72]; omega), pre72, Nat.add_sub_cancel_left, List.getElem?_append_left (by rw [bvs_len]; exact hj), bvs_get]
theorem objV_splice (H : S.St) (part ys : List UInt8) (held size k : Nat) (h : part.length = 64) (hk : k + ys.length ≤ 64) :
    (objV H part held size).take (72 + k) ++ bvs ys ++ (objV H part held size).drop (72 + k + (bvs ys).length) = objV H (part.take k ++ ys ++ part.drop (k + ys.length)) held size := by
  rw [objV_form, objV_form, List.take_append, List.drop_append, pre72, bvs_len]
  rw [List.take_of_length_le (by rw [pre72]; omega), List.drop_of_length_le (by rw [pre72]; omega)]
  rw [show 72 + k - 72 = k by omega, show 72 + k + ys.length - 72 = k + ys.length by omega]
  rw [List.take_append_of_le_length (by rw [bvs_len]; omega), List.drop_append_of_le_length (by rw [bvs_len]; omega), bvs_take, bvs_drop, bvs_app, bvs_app]
  simp [List.append_assoc]

def slLen : Value → Nat
  | .slice _ n _ => n
  | _ => 0
/-- in w, at block g, lies a Hash that has taken l, with the size told as T -/
def HashAt (w : World) (g : Nat) (l : List UInt8) (T : Nat) : Prop :=
  ∃ part : List UInt8, part.length = 64 ∧ part.take (l.length % 64) = l.drop (64 * (l.length / 64)) ∧ Row w g 121 (objV (S.hs l) part (l.length % 64) T)

theorem cut_lb {P : Program} {t e : TypeId} {i : TypeInfo} (ht : P.underlying t = some (.slice e)) (hi : P.info? e = some i) (hsz : i.size = 1)
    (A : Option Addr) (n c : Nat) (kl : IntKind) (l : Int) (lo : Nat) (hl : l = lo) (h1 : lo ≤ n) (h3 : n ≤ c) :
    ∃ A', (∀ W : World, (Instr.slice t (.slice A n c) (some (.int kl l)) none none).run P W = .ok (.slice A' (n - lo) (c - lo)) W) ∧
      (∀ (w : World) (xs : List UInt8), Rd w A n c 1 (bvs xs) → Rd w A' (n - lo) (c - lo) 1 (bvs (xs.drop lo))) ∧ (∀ a', A' = some a' → ∃ a, A = some a ∧ a'.block = a.block) := by
  have hel : P.elem t = e := by simp [Program.elem, ht]
  have hu : P.underlying t = some (.slice (P.elem t)) := by rw [hel]; exact ht
  refine ⟨if c = lo then A else A.map (·.add (lo * 1)), fun W => ?_, fun w xs hr => ?_, fun a' ha => ?_⟩
  · rw [run_slice_l W t A n c hu kl l (by omega) (by omega), hel]
    simp [sizeOf, typeInfo, hi, hsz, sliced, Result.andThen, hl]
  · have h := hr.sub h1 (Nat.le_refl _) h3 (Nat.le_refl _)
    have hxl : xs.length = n := by have := hr.len; rw [bvs_len] at this; omega
    rw [Nat.mul_one, Nat.mul_one, bvs_drop, bvs_take, List.take_of_length_le (by rw [List.length_drop]; omega)] at h
    rw [Nat.mul_one]
    exact h
  · split at ha
    · exact ⟨a', ha, rfl⟩
    · cases A with
      | none => cases ha
      | some a => cases ha; exact ⟨a, rfl, add_block _ _⟩

theorem step_full {L ys part : List UInt8} {k : Nat} (hk : k = L.length % 64) (hp : part.length = 64) (ht : part.take k = L.drop (64 * (L.length / 64))) (hy : k + ys.length = 64) :
    S.hs (L ++ ys) = S.blockF (S.hs L) (part.take k ++ ys ++ part.drop (k + ys.length)) ∧ (L ++ ys).length % 64 = 0 ∧ (L ++ ys).drop (64 * ((L ++ ys).length / 64)) = [] := by
  have hm : (L ++ ys).length % 64 = 0 := by rw [List.length_append]; omega
  refine ⟨?_, hm, List.drop_of_length_le (by omega)⟩
  have e : part.drop 64 = [] := List.drop_of_length_le (by omega)
  rw [S.hs_block (by omega), hy, e, List.append_nil, ht]
theorem step_part {L ys part : List UInt8} {k : Nat} (hk : k = L.length % 64) (hp : part.length = 64) (ht : part.take k = L.drop (64 * (L.length / 64))) (hy : k + ys.length < 64) :
    S.hs (L ++ ys) = S.hs L ∧ (L ++ ys).length % 64 = k + ys.length ∧ (part.take k ++ ys ++ part.drop (k + ys.length)).take (k + ys.length) = (L ++ ys).drop (64 * ((L ++ ys).length / 64)) := by
  refine ⟨S.hs_part (by omega), by rw [List.length_append]; omega, ?_⟩
  have hd : (L ++ ys).length / 64 = L.length / 64 := by rw [List.length_append]; omega
  rw [hd, List.drop_append_of_le_length (by omega), ← ht]
  have hl : (part.take k ++ ys).length = k + ys.length := by rw [List.length_append, List.length_take]; omega
  rw [List.take_append_of_le_length (by omega), List.take_of_length_le (by omega)]

set_option maxHeartbeats 4000000 in
set_option maxRecDepth 100000 in
theorem write_any (g : Nat) (l : List UInt8) (A : Option Addr) (N c : Nat) (xs : List UInt8) (w : World) (ho : HashAt w g l l.length) (hr : Rd w A N c 1 (bvs xs)) (hA : 0 < N → ∀ a, A = some a → a.block ≠ g) (hsz : l.length + N ≤ 1000000000000000) :
    Calls Try.prog 67 #[.pointer (some ⟨g, 0, none⟩), .slice A N c] w fun e w' => e = .returned (.tuple #[]) ∧ w.grownBy w' (some g) ∧ HashAt w' g (l ++ xs) (l ++ xs).length := by
  obtain ⟨i0, hi, hz0, hz1, hz2⟩ := info_parts infoB
  have hxl : xs.length = N := by have := hr.len; rw [bvs_len] at this; omega
  have HXL := Lib.hid hxl
  have HR := Lib.hid hr
  have HA := Lib.hid hA
  obtain ⟨part, hp1, hp2, hp3⟩ := ho
  have HP1 := Lib.hid hp1
  have HP2 := Lib.hid hp2
  have HP3 := Lib.hid hp3
  obtain ⟨T, hT⟩ : ∃ T, T = l.length := ⟨_, rfl⟩
  rw [← hT] at HP3 hsz
  have HT := Lib.hid hT
  have cs := HP3.out.cell (objV_size _ part _ T hp1)
  have fs := HP3.out.frozen 137
  clear hxl hr hA hp1 hp2 hp3 hT
  go_enter Try.func67, Try.ntmps67
  go_wp2_with fail
  have hH0 : HashAt (w.setCell ⟨g, 137, none⟩ (.int .u64 ((T : Int) + (N : Int)))) g l (T + N) := by
    refine ⟨part, HP1.out, HP2.out, ?_⟩
    have h := HP3.out.set 137 (.int .u64 ((T + N : Nat) : Int))
    rw [objV_setSize _ _ _ _ _ HP1.out, HT.out] at h
    rw [HT.out]
    exact h
  have HH0 := Lib.hid hH0
  have HG0 : Hid (w.grownBy (w.setCell ⟨g, 137, none⟩ (.int .u64 ((T : Int) + (N : Int)))) (some g)) := Lib.hid (grown_set (World.grownBy.refl w _) _ _)
  clear hH0 cs fs
  go_loopw [1] (fun b wr => ∃ (d m : Nat) (A' : Option Addr) (c' : Nat), b = .slice A' m c' ∧ m ≤ N ∧ Hid (d + m = N) ∧ Hid (Rd w A' m c' 1 (bvs (xs.drop d))) ∧ Hid (0 < m → ∀ a, A' = some a → a.block ≠ g) ∧ Hid (HashAt wr g (l ++ xs.take d) (T + N)) ∧ Hid (w.grownBy wr (some g))) (fun b _ => slLen b)
  case atStart => exact ⟨0, N, A, c, rfl, Nat.le_refl _, Lib.hid (Nat.zero_add _), HR, HA, Lib.hid (by rw [List.take_zero, List.append_nil]; exact HH0.out), HG0⟩
  case round =>
    clear HH0 HG0
    obtain ⟨d, m, A', c', rfl, hmN, HD, HR2, HA2, HH, HG⟩ := hrel
    by_cases hm : 0 < m
    · have hmi : (0 : Int) < (m : Int) := by omega
      obtain ⟨pt, h1, h2, h3⟩ := HH.out
      obtain ⟨L, hL⟩ : ∃ L, L = l ++ xs.take d := ⟨_, rfl⟩
      rw [← hL] at h2 h3
      obtain ⟨k, hk⟩ : ∃ k, k = L.length % 64 := ⟨_, rfl⟩
      rw [← hk] at h2 h3
      have hk64 : k < 64 := by rw [hk]; exact Nat.mod_lt _ (by decide)
      have H1 := Lib.hid h1
      have H2 := Lib.hid h2
      have H3 := Lib.hid h3
      have HK := Lib.hid hk
      have HLL := Lib.hid hL
      have ch := H3.out.cell (objV_held _ pt k _ h1)
      have hk65 : (k : Int) ≤ 64 := by omega
      have hk67 : (0 : Int) ≤ (k : Int) := by omega
      have hne : ¬ 64 = k := by omega
      obtain ⟨a', rfl⟩ : ∃ a', A' = some a' := by
        cases A' with
        | none => have := HR2.out.nil0 rfl; have := HR2.out.nc; omega
        | some a => exact ⟨_, rfl⟩
      obtain ⟨n, hn⟩ : ∃ n, n = min m (64 - k) := ⟨_, rfl⟩
      have hnm : n ≤ m := by omega
      have hn64 : k + n ≤ 64 := by omega
      have hn0 : 0 < n := by omega
      have hxd : (xs.drop d).length = m := by have := HR2.out.len; rw [bvs_len] at this; omega
      obtain ⟨ys, hys⟩ : ∃ ys, ys = (xs.drop d).take n := ⟨_, rfl⟩
      have hyl : ys.length = n := by rw [hys, List.length_take]; omega
      obtain ⟨pt2, hpt2⟩ : ∃ p, p = pt.take k ++ ys ++ pt.drop (k + ys.length) := ⟨_, rfl⟩
      have hpl : pt2.length = 64 := by rw [hpt2]; simp; omega
      have hblk : a'.block < w.heap.size := HR2.out.blk (by rw [bvs_len, hxd]; exact hm)
      have hrd : Rd wr.drew (some a') m c' 1 (bvs (xs.drop d)) := HR2.out.same fun b hb _ => by
        cases hb
        exact HG.out.block _ hblk (fun e => HA2.out hm a' rfl (Option.some.inj e))
      obtain ⟨w5, hcopy, HR5, HG5⟩ : ∃ w5, (Builtin.copy_ #[23, 23] 3 #[.slice (some ⟨g, 72 + k, none⟩) (64 - k) (64 - k), .slice (some a') m c']).run Try.prog wr.drew = .ok (.int .i64 (n : Nat)) w5 ∧
          Hid (Row w5 g 121 (objV (S.hs L) pt2 k (T + N))) ∧ Hid (w.grownBy w5 (some g)) := by
        have h := run_copy_row (P := Try.prog) wr.drew 23 23 3 5 g (72 + k) (64 - k) (64 - k) a' m c' _ _ (bvs ys) Try.underlying23 (by kernel_rfl) (show Row wr.drew g _ _ from H3.out)
          (by rw [bvs_len, hyl, hn]) (fun j v hj => by
            refine hrd.cell a' rfl j v ?_
            rw [hys, ← bvs_take] at hj
            rw [List.getElem?_take] at hj
            split at hj
            · exact hj
            · cases hj) (by rw [List.size_toArray, objV_len _ _ _ _ h1, bvs_len, hyl]; omega) (bvs_one _)
        rw [List.toList_toArray, objV_splice _ _ _ _ _ _ h1 (by rw [hyl]; exact hn64), ← hpt2, bvs_len, hyl] at h
        refine ⟨_, h, Lib.hid (Row.setRow (cs := objV (S.hs L) pt k (T + N)) (show Row wr.drew g 121 _ from H3.out) _), Lib.hid ⟨HG.out.os, HG.out.tape, HG.out.output, by rw [setRow_size]; exact HG.out.size, fun q hq hne => ?_⟩⟩
        exact (setRow_other _ _ _ _ (fun e => hne (by rw [e]))).trans (HG.out.block q hq hne)
      obtain ⟨A2, hsl, hslr, hslb⟩ := cut_lb (P := Try.prog) Try.underlying23 hi hz1 (some a') m c' .i64 (n : Int) n rfl hnm HR2.out.nc
      have HR6 : Hid (Rd w A2 (m - n) (c' - n) 1 (bvs (xs.drop (d + n)))) := Lib.hid (by have := hslr _ _ HR2.out; rwa [List.drop_drop] at this)
      have HA6 : Hid (0 < m - n → ∀ a, A2 = some a → a.block ≠ g) := Lib.hid fun _ a ha => by obtain ⟨b, hb, e⟩ := hslb a ha; cases hb; rw [e]; exact HA2.out hm _ rfl
      have HD6 : Hid (d + n + (m - n) = N) := Lib.hid (by have := HD.out; omega)
      have HLY : Hid (l ++ xs.take (d + n) = L ++ ys) := Lib.hid (by rw [hL, hys, List.append_assoc, List.take_add])
      have HPT := Lib.hid hpt2
      have HYL := Lib.hid hyl
      have HPL := Lib.hid hpl
      have c5 := HR5.out.cell (objV_held _ pt2 k _ hpl)
      have f5 := HR5.out.frozen 136
      clear h1 h2 h3 hk hL hxd hys hpt2 hyl hpl hrd hslr hslb HR2 HA2 HD HH HG hblk hn
      go_upto_region 2 with (fail)
      go_still_tail 9, (by kernel_rfl)
      change wpList _ _ _ _ _ wr.drew
      generalize wr.drew = wd at hcopy ⊢
      clear ch
      go_upto_region 5 with (at_builtin; refine Lib.wpList_copy_run _ rfl _ _ 23 23 rfl _ _ rfl rfl hcopy ?_)
      have HR7 : Hid (Row (w5.setCell ⟨g, 136, none⟩ (.int .i64 ((k : Int) + (n : Int)))) g 121 (objV (S.hs L) pt2 (k + n) (T + N))) := Lib.hid (by
        have h := HR5.out.set 136 (.int .i64 ((k + n : Nat) : Int))
        rw [objV_setHeld _ _ _ _ _ HPL.out] at h
        exact h)
      have HG7 : Hid (w.grownBy (w5.setCell ⟨g, 136, none⟩ (.int .i64 ((k : Int) + (n : Int)))) (some g)) := Lib.hid (grown_set HG5.out _ _)
      generalize w5.setCell ⟨g, 136, none⟩ (.int .i64 ((k : Int) + (n : Int))) = w7 at HR7 HG7 ⊢
      clear c5 f5 hcopy hsl
      have c7 := HR7.out.cell (objV_held _ pt2 (k + n) _ HPL.out)
      by_cases hfull : k + n = 64
      · rw [hfull] at c7 HR7
        have HFULL := Lib.hid hfull
        clear hfull hk65 hk67 hne hn64
        go_wp2_with fail
        refine (block_any g (S.hs L) pt2 64 (T + N) ⟨g, 72, none⟩ pt2 _ HR7.out ?_).mono ?_
        · refine ⟨by rw [bvs_len, HPL.out], Nat.le_refl _, by decide, (fun h => by cases h), fun a ha j v hv => ?_⟩
          cases ha
          have hj : j < pt2.length := by have := (List.getElem?_eq_some_iff.1 hv).1; rw [bvs_len] at this; exact this
          rw [bvs_get pt2 j hj] at hv
          cases hv
          rw [Addr.add_mid]
          exact HR7.out.cell (objV_part _ _ _ _ j hj)
        · rintro e w8 ⟨rfl, hg8, hr8⟩
          have HR8 := Lib.hid hr8
          have HG8 := Lib.hid (HG7.out.trans hg8)
          have c8 := hr8.cell (objV_held _ pt2 64 _ HPL.out)
          have f8 := hr8.frozen 136
          clear hg8 hr8 c7
          go_wp2_with fail
          go_roundw
          case rel =>
            refine ⟨d + n, m - n, A2, c' - n, rfl, Nat.le_trans (Nat.sub_le _ _) hmN, HD6, HR6, HA6, Lib.hid ?_, Lib.hid (grown_set HG8.out _ _)⟩
            rw [HLY.out]
            obtain ⟨s1, s2, s3⟩ := step_full (L := L) (ys := ys) HK.out H1.out H2.out (by rw [HYL.out]; exact HFULL.out)
            refine ⟨pt2, HPL.out, by rw [s2, s3, List.take_zero], ?_⟩
            rw [s1, s2, ← HPT.out]
            have h := HR8.out.set 136 (.int .i64 ((0 : Nat) : Int))
            rw [objV_setHeld _ _ _ _ _ HPL.out] at h
            exact h
          case measure => simp [slLen]; omega
      · have hbf : (((k + n : Nat) : Int) == 64) = false := by simp; omega
        have hlt64 : k + n < 64 := by omega
        go_wp2_with fail
        go_roundw
        case rel =>
          refine ⟨d + n, m - n, A2, c' - n, rfl, Nat.le_trans (Nat.sub_le _ _) hmN, HD6, HR6, HA6, Lib.hid ?_, HG7⟩
          rw [HLY.out]
          obtain ⟨s1, s2, s3⟩ := step_part (L := L) (ys := ys) HK.out H1.out H2.out (by rw [HYL.out]; exact hlt64)
          rw [HYL.out] at s2 s3
          refine ⟨pt2, HPL.out, by rw [s2, ← s3, HPT.out, HYL.out], ?_⟩
          rw [s1, s2]
          exact HR7.out
        case measure => simp [slLen]; omega
    · obtain rfl : m = 0 := by omega
      have hmi : ¬ (0 : Int) < ((0 : Nat) : Int) := by omega
      go_wp2
      go_end0
      refine ⟨rfl, HG.out, ?_⟩
      have e1 : xs.take d = xs := List.take_of_length_le (by have := HD.out; have := HXL.out; omega)
      have e2 : T + N = l.length + xs.length := by rw [HXL.out, HT.out]
      have h := HH.out
      rw [e1, e2] at h
      exact h
end Go.Proofs.Ythaoibgcgkmnbaa
