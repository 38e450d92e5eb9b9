/- Walk of the document's Of. -/
import Derived.Test.YtncdgndeidbgoaaRefSched5
import Derived.StillTailTactics
namespace Go.Proofs.Ytncdgndeidbgoaa
open Go.RowKit

theorem turn6 (x : UInt32) (w : World) : Calls Try.prog 63 #[.int .u32 (un x : Nat), .int .i64 6] w fun e w' => e = .returned (.int .u32 (un (S.rotr x 6) : Nat)) ∧ w' = w := turned_any x 6 6 (by decide) rfl w
theorem turn11 (x : UInt32) (w : World) : Calls Try.prog 63 #[.int .u32 (un x : Nat), .int .i64 11] w fun e w' => e = .returned (.int .u32 (un (S.rotr x 11) : Nat)) ∧ w' = w := turned_any x 11 11 (by decide) rfl w
theorem turn25 (x : UInt32) (w : World) : Calls Try.prog 63 #[.int .u32 (un x : Nat), .int .i64 25] w fun e w' => e = .returned (.int .u32 (un (S.rotr x 25) : Nat)) ∧ w' = w := turned_any x 25 25 (by decide) rfl w
theorem turn2 (x : UInt32) (w : World) : Calls Try.prog 63 #[.int .u32 (un x : Nat), .int .i64 2] w fun e w' => e = .returned (.int .u32 (un (S.rotr x 2) : Nat)) ∧ w' = w := turned_any x 2 2 (by decide) rfl w
theorem turn13 (x : UInt32) (w : World) : Calls Try.prog 63 #[.int .u32 (un x : Nat), .int .i64 13] w fun e w' => e = .returned (.int .u32 (un (S.rotr x 13) : Nat)) ∧ w' = w := turned_any x 13 13 (by decide) rfl w
theorem turn22 (x : UInt32) (w : World) : Calls Try.prog 63 #[.int .u32 (un x : Nat), .int .i64 22] w fun e w' => e = .returned (.int .u32 (un (S.rotr x 22) : Nat)) ∧ w' = w := turned_any x 22 22 (by decide) rfl w

theorem padded_len (l : List UInt8) : (S.padded l).length % 64 = 0 ∧ (S.padded l).length ≤ l.length + 200 ∧ 0 < (S.padded l).length := by
  have : (S.padded l).length = l.length + (1 + (119 - l.length % 64) % 64 + 8) := by simp [S.padded, S.tail, S.be64]; omega
  rw [this]
  omega
/-- half added -/
def hU (H s : S.St) (t : Nat) : List Value := ((H.add s).list.take t ++ H.list.drop t).map uv
theorem hU_get (H s : S.St) {t : Nat} (h : t < 8) : (hU H s t)[t]? = some (uv (H.list.getD t 0)) ∧ (s.list.map uv)[t]? = some (uv (s.list.getD t 0)) ∧ (hU H s t).set t (uv (H.list.getD t 0 + s.list.getD t 0)) = hU H s (t + 1) := by
  match t, h with
  | 0, _ => exact ⟨rfl, rfl, rfl⟩
  | 1, _ => exact ⟨rfl, rfl, rfl⟩
  | 2, _ => exact ⟨rfl, rfl, rfl⟩
  | 3, _ => exact ⟨rfl, rfl, rfl⟩
  | 4, _ => exact ⟨rfl, rfl, rfl⟩
  | 5, _ => exact ⟨rfl, rfl, rfl⟩
  | 6, _ => exact ⟨rfl, rfl, rfl⟩
  | 7, _ => exact ⟨rfl, rfl, rfl⟩
theorem half_set (a z : List UInt8) (h : a.length = z.length) {t : Nat} (ht : t < a.length) : (bvs (a.take t ++ z.drop t)).set t (.int .u8 ((a.getD t 0).toNat : Int)) = bvs (a.take (t + 1) ++ z.drop (t + 1)) := by
  have hl : (bvs (a.take t)).length = t := by rw [bvs_len, List.length_take]; omega
  rw [List.take_add_one, bvs_app, bvs_app, List.set_append_right (h := by omega), hl, Nat.sub_self, bvs_app, List.append_assoc]
  congr 1
  rw [List.drop_eq_getElem_cons (show t < z.length by omega), List.getElem?_eq_getElem ht, List.getD_eq_getElem?_getD, List.getElem?_eq_getElem ht]
  rfl
def digB (H : S.St) (t : Nat) : List Value := bvs ((S.digest H).take t ++ (List.replicate 32 (0 : UInt8)).drop t)
theorem digB_set (H : S.St) {t : Nat} (h : t < 32) : (digB H t).set t (.int .u8 (((S.digest H).getD t 0).toNat : Int)) = digB H (t + 1) := half_set _ _ (by rw [S.digest_len, List.length_replicate]) (by rw [S.digest_len]; exact h)
theorem digB_len (H : S.St) {t : Nat} (h : t ≤ 32) : (digB H t).length = 32 := by unfold digB; rw [bvs_len, List.length_append, List.length_take, S.digest_len, List.length_drop, List.length_replicate]; omega
theorem dig_byte (H : S.St) {q : Nat} (h : q < 8) : (S.digest H).getD (4 * q) 0 = UInt8.ofNat (un (H.list.getD q 0) / 16777216) ∧ (S.digest H).getD (4 * q + 1) 0 = UInt8.ofNat (un (H.list.getD q 0) / 65536) ∧
    (S.digest H).getD (4 * q + 2) 0 = UInt8.ofNat (un (H.list.getD q 0) / 256) ∧ (S.digest H).getD (4 * q + 3) 0 = UInt8.ofNat (un (H.list.getD q 0)) := by
  match q, h with
  | 0, _ => exact ⟨rfl, rfl, rfl, rfl⟩
  | 1, _ => exact ⟨rfl, rfl, rfl, rfl⟩
  | 2, _ => exact ⟨rfl, rfl, rfl, rfl⟩
  | 3, _ => exact ⟨rfl, rfl, rfl, rfl⟩
  | 4, _ => exact ⟨rfl, rfl, rfl, rfl⟩
  | 5, _ => exact ⟨rfl, rfl, rfl, rfl⟩
  | 6, _ => exact ⟨rfl, rfl, rfl, rfl⟩
  | 7, _ => exact ⟨rfl, rfl, rfl, rfl⟩
/-- eight words at the head of a block -/
def V8 (w : World) (g : Nat) (s : S.St) : Prop := ∀ j u, (s.list.map uv)[j]? = some u → w.cell? ⟨g, j, none⟩ = some u
theorem V8.ext {w w' : World} {g : Nat} {s : S.St} (h : V8 w g s) (hb : ExtW w w') : V8 w' g s := fun j u hj => hb.cellAt (h j u hj)
theorem V8.of_row {w : World} {g : Nat} {s : S.St} (h : Row w g 86 (s.list.map uv)) : V8 w g s := fun _ _ hj => h.cell hj
/-- the cells that a round reads -/
def RD (gw gs gk t : Nat) (s : S.St) (kt wt : UInt32) (w : World) : Prop :=
  w.cell? ⟨gw, t, none⟩ = some (.int .u32 (un wt : Nat)) ∧ w.cell? ⟨gk, t, none⟩ = some (.int .u32 (un kt : Nat)) ∧
  w.cell? ⟨gs, 0, none⟩ = some (.int .u32 (un s.a : Nat)) ∧ w.cell? ⟨gs, 1, none⟩ = some (.int .u32 (un s.b : Nat)) ∧ w.cell? ⟨gs, 2, none⟩ = some (.int .u32 (un s.c : Nat)) ∧ w.cell? ⟨gs, 3, none⟩ = some (.int .u32 (un s.d : Nat)) ∧
  w.cell? ⟨gs, 4, none⟩ = some (.int .u32 (un s.e : Nat)) ∧ w.cell? ⟨gs, 5, none⟩ = some (.int .u32 (un s.f : Nat)) ∧ w.cell? ⟨gs, 6, none⟩ = some (.int .u32 (un s.g : Nat)) ∧ w.cell? ⟨gs, 7, none⟩ = some (.int .u32 (un s.h : Nat))
theorem hs_next (P : List UInt8) (z : Nat) (hz : z % 64 = 0) (h : z + 64 ≤ P.length) : S.hs (P.take (z + 64)) = S.blockF (S.hs (P.take z)) ((P.drop z).take 64) := by
  rw [List.take_add]
  have hl : (P.take z).length = z := by rw [List.length_take]; omega
  have hl2 : ((P.drop z).take 64).length = 64 := by rw [List.length_take, List.length_drop]; omega
  rw [S.hs_block (by rw [hl, hl2]; omega), hl, show 64 * (z / 64) = z by omega, List.drop_of_length_le (by rw [hl]; exact Nat.le_refl _), List.nil_append]
theorem row_ne {w : World} {g k : Nat} {e e' : TypeId} {xs ys : List Value} (h : Row w g e xs) (h' : Row w k e' ys) (hl : xs.length ≠ ys.length) : g ≠ k := by
  intro e
  subst e
  unfold Row at h h'
  rw [h] at h'
  cases h'
  exact hl rfl

set_option maxHeartbeats 8000000 in
set_option maxRecDepth 100000 in
theorem refOf_any (str : ByteArray) (w : World) (hn : str.size ≤ 1000000000) :
    Calls Try.prog 57 #[.string str] w fun e w' => e = .returned (dgV (S.sha str.data.toList)) ∧ ExtW w w' := by
  obtain ⟨i0, hi, hz0, hz1, hz2⟩ := info_parts infoU
  obtain ⟨j0, hj, hy0, hy1, hy2⟩ := info_parts infoB
  have HE1 : Hid (ExtW w (w.alloc (.cells zDig 24))) := Lib.hid ((Below.refl _ _).alloc (Nat.le_refl _) _)
  have HD1 := Lib.hid (zDig_row w)
  have HN := Lib.hid hn
  have hstr : str.data.toList.length = str.size := size_list str
  obtain ⟨PL, hPL⟩ : ∃ P, P = S.padded str.data.toList := ⟨_, rfl⟩
  obtain ⟨hp1, hp2, hp3⟩ := padded_len str.data.toList
  rw [← hPL] at hp1 hp2 hp3
  have hsha : S.sha str.data.toList = S.digest (S.hs PL) := by rw [hPL]; rfl
  rw [hsha]
  obtain ⟨L, hL⟩ : ∃ L, L = PL.length := ⟨_, rfl⟩
  rw [← hL] at hp1 hp2 hp3
  have HL := Lib.hid hL
  have HPL := Lib.hid hPL
  have HL64 := Lib.hid hp1
  have hL2 : L ≤ 1000000200 := by omega
  clear hp1 hp2 hp3 hsha hPL hL hstr hn
  go_enter Try.func57, Try.ntmps57
  go_upto_region 1 with (refine wpList_runW rfl rfl ?_; refine ⟨.pointer (some ⟨w.heap.size, 0, none⟩), w.alloc (.cells zDig 24), by kernel_rfl, ?_⟩)
  have HLT : Hid (w.heap.size < (w.alloc (.cells zDig 24)).heap.size) := Lib.hid HD1.out.lt
  generalize w.alloc (.cells zDig 24) = w1 at HE1 HD1 HLT ⊢
  have HH : Hid (Row (w1.alloc (.cells #[.int .u32 1779033703, .int .u32 3144134277, .int .u32 1013904242, .int .u32 2773480762, .int .u32 1359893119, .int .u32 2600822924, .int .u32 528734635, .int .u32 1541459225] 86)) w1.heap.size 86 (S.H0.list.map uv)) := Lib.hid (by unfold Row; rw [heap_alloc_last]; kernel_rfl)
  have HEH : Hid (ExtW w1 (w1.alloc (.cells #[.int .u32 1779033703, .int .u32 3144134277, .int .u32 1013904242, .int .u32 2773480762, .int .u32 1359893119, .int .u32 2600822924, .int .u32 528734635, .int .u32 1541459225] 86))) := Lib.hid ((Below.refl _ _).alloc (Nat.le_refl _) _)
  go_wp2_with fail
  refine (consts_any _).mono ?_
  rintro e w2 ⟨gk, rfl, hrk, hb2⟩
  have HK := Lib.hid hrk
  have HH2 := Lib.hid (HH.out.ext hb2)
  have HE2 := Lib.hid (ExtW.trans HEH.out hb2)
  clear hrk hb2 HH HEH
  go_wp2_with fail
  refine (padded_any str _ HN.out).mono ?_
  rintro e w3 ⟨vp, rfl, hown, hb3⟩
  rw [← HPL.out, ← HL.out] at hown
  obtain ⟨gp, cp, hvp, hgp1, hgp2, hrp⟩ := hown.rd
  subst hvp
  have HP := Lib.hid hrp
  have HK3 := Lib.hid (HK.out.ext hb3)
  have HH3 := Lib.hid (HH2.out.ext hb3)
  have HE3 := Lib.hid (ExtW.trans HE2.out hb3)
  have HD3 := Lib.hid (HD1.out.ext HE3.out)
  have HGP : Hid (gp ≠ w1.heap.size) := Lib.hid (by have := HH2.out.lt; omega)
  have HGK : Hid (gk ≠ w1.heap.size) := Lib.hid (row_ne HK3.out HH3.out (by rw [List.length_map, List.length_map, S.KS_len]; decide))
  have HNC := Lib.hid hrp.nc
  obtain ⟨gh, hgh⟩ : ∃ g, g = w1.heap.size := ⟨_, rfl⟩
  rw [← hgh] at HH3 HGP HGK HLT ⊢
  have HG1 := Lib.hid hgh
  clear hgh hown hb3 hgp1 hgp2 hrp HK HH2 HE2
  go_wp2_with fail
  go_loopw [6] (fun i wr => ∃ z : Nat, i = .int .i64 z ∧ z ≤ L ∧ Hid (z % 64 = 0) ∧ Hid (Row wr gh 86 ((S.hs (PL.take z)).list.map uv)) ∧ Hid (w3.grownBy wr (some gh))) (fun i _ => L - (intOf i).toNat)
  case atStart => exact ⟨0, rfl, Nat.zero_le _, Lib.hid rfl, Lib.hid (by rw [List.take_zero]; exact HH3.out), Lib.hid (grown_but (grown_of_below (Below.refl _ _)) _)⟩
  case round =>
    clear HH3
    obtain ⟨z, rfl, hz, HZ, HH, HG⟩ := hrel
    by_cases hlt : z < L
    · -- devbegin
      have hzi : (z : Int) < (L : Int) := by omega
      have hz64 : z + 64 ≤ L := by have h1 := HZ.out; have h2 := HL64.out; omega
      obtain ⟨z2, hz2'⟩ : ∃ z2, z2 = z + 64 := ⟨_, rfl⟩
      have hz2i : (z : Int) + 64 = (z2 : Int) := by omega
      have HZ2 : Hid (z2 = z + 64) := Lib.hid hz2'
      obtain ⟨H, hH⟩ : ∃ H, H = S.hs (PL.take z) := ⟨_, rfl⟩
      obtain ⟨b, hb⟩ : ∃ b, b = (PL.drop z).take 64 := ⟨_, rfl⟩
      rw [← hH] at HH
      have HNX : Hid (S.hs (PL.take z2) = S.blockF H b) := Lib.hid (by rw [hz2', hH, hb]; exact hs_next PL z HZ.out (by rw [← HL.out]; exact hz64))
      have hrp : Rd wr (some ⟨gp, 0, none⟩) L cp 1 (bvs PL) := HP.out.same (fun a ha hl => by cases ha; exact HG.out.block gp (HP.out.blk hl) (fun e => HGP.out (Option.some.inj e)))
      obtain ⟨A', hsl, hslr⟩ := cut_lh (P := Try.prog) Try.underlying36 hj hy1 (some ⟨gp, 0, none⟩) L cp .i64 .i64 (z : Int) (z2 : Int) z z2 rfl rfl (by omega) (by omega) HNC.out
      have hrs := hslr _ _ hrp
      rw [show z2 - z = 64 by omega] at hrs hsl
      rw [Nat.mul_one, Nat.mul_one, bvs_drop, bvs_take, ← hb] at hrs
      obtain ⟨a, ha⟩ : ∃ a, A' = some a := by
        cases A' with
        | none => have := hrs.nil0 rfl; have := hrs.nc; omega
        | some a => exact ⟨a, rfl⟩
      subst ha
      have HRS := Lib.hid hrs
      clear hslr hrp hrs hH hb hz64 hz2'
      go_wp2_with fail
      refine (schedule_any b a _ _ HRS.out).mono ?_
      rintro e w4 ⟨vs, rfl, howns, hb4⟩
      clear hsl hz2i
      obtain ⟨gs, cs, hvs, _, hgs⟩ := own_form howns (by decide)
      subst hvs
      have HS : Hid (∀ j, j < 64 → w4.cell? ⟨gs, j, none⟩ = some (.int .u32 (un ((S.sched b 64).getD j 0) : Nat))) := Lib.hid fun j hj => sched_cell howns rfl hj
      have HE4 := Lib.hid hb4
      have HH4 := Lib.hid (HH.out.ext hb4)
      have HK4 : Hid (Row w4 gk 86 (S.KS.map uv)) := Lib.hid (Row.ext ((HG.out.block gk HK3.out.lt (fun e => HGK.out (Option.some.inj e))).trans HK3.out) hb4)
      have HOV := Lib.hid (own_emptyU w4 w4.heap.size (Nat.le_refl _))
      have hcp : ∀ j u, (H.list.map uv)[j]? = some u → (w4.alloc (.cells #[] 86)).cell? ((⟨gh, 0, none⟩ : Addr).add j) = some u := fun j u hj => by
        rw [Addr.add_mid, Nat.zero_add]
        exact ((HH4.out.ext ((Below.refl _ _).alloc (Nat.le_refl _) _)).cell hj)
      have HCP := Lib.hid hcp
      clear hcp howns hb4 hgs HRS
      go_upto_region 10 with (at_builtin; refine wpList_append_own _ rfl _ _ _ rfl w4.heap.size 86 i0 _ 1 4 Try.underlying94 hi hz0 hz1 hz2 rfl (by decide) _ _ _ rfl HOV.out ⟨gh, 0, none⟩ 8 8 (H.list.map uv) rfl rfl HCP.out (by simp [S.St.list, uv, Value.oneCell']) (by decide) (by decide) (by simp) ?_; intro v5 w5 hown5 hgrow5 _; rw [Nat.zero_add] at hown5; have HO5 := Lib.hid hown5; have HE5 := Lib.hid (((Below.refl w4.heap.size w4).alloc (Nat.le_refl _) (.cells #[] 86)).grown hgrow5 (by simp) (fun k hk => own_ge HOV.out k hk)); clear hown5 hgrow5)
      obtain ⟨gv, cv, hvv, hgv, _⟩ := own_form HO5.out (by decide)
      subst hvv
      have HV5 : Hid (V8 w5 gv H) := Lib.hid fun j u hj => by
        obtain ⟨A', c', e, hr, _⟩ := Rd.of_own HO5.out
        cases e
        have := hr.cell _ rfl j u (by rw [List.nil_append]; exact hj)
        rw [Addr.add_mid, Nat.zero_add] at this
        exact this
      have HGV := Lib.hid hgv
      clear hgv HO5 HOV HCP
      go_wp2_with fail
      obtain ⟨wo, rfl⟩ : ∃ wo, wo = wr := ⟨_, rfl⟩
      go_loopw [8, 9] (fun v i wr => ∃ (t gv cv : Nat), v = .slice (some ⟨gv, 0, none⟩) 8 cv ∧ i = .int .i64 t ∧ t ≤ 64 ∧ Hid (w4.heap.size ≤ gv) ∧ Hid (V8 wr gv (S.rounds (S.sched b 64) H t)) ∧ Hid (ExtW w5 wr)) (fun _ i _ => 64 - (intOf i).toNat)
      case atStart => exact ⟨0, gv, cv, rfl, rfl, Nat.zero_le _, HGV, HV5, Lib.hid (Below.refl _ _)⟩
      case round =>
        clear HGV HV5
        obtain ⟨t, gs2, cv2, rfl, rfl, ht, HGV, HV, HE6⟩ := hrel
        obtain ⟨gv, rfl⟩ : ∃ g, g = gs2 := ⟨_, rfl⟩
        by_cases hlt2 : t < 64
        · -- devbegin
          have hti : (t : Int) < 64 := by omega
          obtain ⟨s, hs⟩ : ∃ s, s = S.rounds (S.sched b 64) H t := ⟨_, rfl⟩
          obtain ⟨kt, hkt⟩ : ∃ k, k = S.KS.getD t 0 := ⟨_, rfl⟩
          obtain ⟨wt, hwt⟩ : ∃ k, k = (S.sched b 64).getD t 0 := ⟨_, rfl⟩
          have HST : Hid (S.rounds (S.sched b 64) H (t + 1) = S.step kt wt s) := Lib.hid (by rw [S.rounds, ← hkt, ← hwt, ← hs])
          rw [← hs] at HV
          have hE45 : ExtW w4 wr := Below.trans HE5.out (Below.mono HE6.out HE5.out.size)
          have cw : wr.cell? ⟨gs, t, none⟩ = some (.int .u32 (un wt : Nat)) := by rw [hwt]; exact hE45.cellAt (HS.out t hlt2)
          have ck : wr.cell? ⟨gk, t, none⟩ = some (.int .u32 (un kt : Nat)) := by
            rw [hkt]
            refine (HK4.out.ext hE45).cell ?_
            rw [List.getElem?_map, List.getD_eq_getElem?_getD, List.getElem?_eq_getElem (by rw [S.KS_len]; exact hlt2)]; rfl
          have HRC : RD gs gv gk t s kt wt wr := ⟨cw, ck, HV.out 0 _ rfl, HV.out 1 _ rfl, HV.out 2 _ rfl, HV.out 3 _ rfl, HV.out 4 _ rfl, HV.out 5 _ rfl, HV.out 6 _ rfl, HV.out 7 _ rfl⟩
          obtain ⟨r1, hr1⟩ : ∃ x, x = S.rotr s.e 6 ^^^ S.rotr s.e 11 ^^^ S.rotr s.e 25 := ⟨_, rfl⟩
          obtain ⟨ch, hch⟩ : ∃ x, x = s.e &&& s.f ^^^ ~~~s.e &&& s.g := ⟨_, rfl⟩
          obtain ⟨one, hone⟩ : ∃ x, x = s.h + r1 + ch + kt + wt := ⟨_, rfl⟩
          obtain ⟨r2, hr2⟩ : ∃ x, x = S.rotr s.a 2 ^^^ S.rotr s.a 13 ^^^ S.rotr s.a 22 := ⟨_, rfl⟩
          obtain ⟨mj, hmj⟩ : ∃ x, x = s.a &&& s.b ^^^ s.a &&& s.c ^^^ s.b &&& s.c := ⟨_, rfl⟩
          obtain ⟨two, htwo⟩ : ∃ x, x = r2 + mj := ⟨_, rfl⟩
          have HFN : Hid (S.step kt wt s = ⟨one + two, s.a, s.b, s.c, s.d + one, s.e, s.f, s.g⟩) := Lib.hid (by unfold S.step; simp only [hone, htwo, hr1, hch, hr2, hmj])
          have g1 := un_xor (S.rotr s.e 6) (S.rotr s.e 11)
          have g2 := un_xor (S.rotr s.e 6 ^^^ S.rotr s.e 11) (S.rotr s.e 25)
          rw [← hr1] at g2
          have g3 := un_addw s.h r1
          have g4 := un_and s.e s.f
          have g5 : bits .xor .u32 (if IntKind.u32.signed = true then -1 else IntKind.u32.max) (un s.e : Int) = (un (~~~s.e) : Int) := un_not s.e
          have g6 := un_and (~~~s.e) s.g
          have g7 := un_xor (s.e &&& s.f) (~~~s.e &&& s.g)
          rw [← hch] at g7
          have g8 := un_addw (s.h + r1) ch
          have g9 := un_addw (s.h + r1 + ch) kt
          have g10 := un_addw (s.h + r1 + ch + kt) wt
          rw [← hone] at g10
          have k1 := un_xor (S.rotr s.a 2) (S.rotr s.a 13)
          have k2 := un_xor (S.rotr s.a 2 ^^^ S.rotr s.a 13) (S.rotr s.a 22)
          rw [← hr2] at k2
          have k3 := un_and s.a s.b
          have k4 := un_and s.a s.c
          have k5 := un_and s.b s.c
          have k6 := un_xor (s.a &&& s.b) (s.a &&& s.c)
          have k7 := un_xor (s.a &&& s.b ^^^ s.a &&& s.c) (s.b &&& s.c)
          rw [← hmj] at k7
          have k8 := un_add r2 mj
          rw [← htwo] at k8
          have k9 := un_addw one two
          have k10 := un_addw s.d one
          clear hone htwo hr1 hr2 hch hmj hs hkt hwt cw ck hE45
          go_upto_region 13 with (fail)
          obtain ⟨cw, ck, c0, c1, c2, c3, c4, c5, c6, c7⟩ := id HRC
          clear cw ck c0 c1 c2 c3 c5 c6 c7
          refine wp_region_still_lit (by kernel_rfl) (by kernel_rfl) ?_
          repeat still_step
          still_call (turn6 _ _)
          repeat still_step
          still_call (turn11 _ _)
          repeat still_step
          still_call (turn25 _ _)
          repeat still_step
          refine wpStill_nil ?_
          change Exit.then _ _ _ _ wr.drew
          replace HRC : RD gs gv gk t s kt wt wr.drew := HRC
          replace HE6 : Hid (ExtW w5 wr.drew) := Lib.hid HE6.out.drew
          generalize wr.drew = wd at HRC HE6 ⊢
          clear c4 g1 g2
          go_upto_region 14 with (fail)
          obtain ⟨cw, ck, c0, c1, c2, c3, c4, c5, c6, c7⟩ := id HRC
          clear cw ck c0 c1 c2 c3 c7
          go_still (by kernel_rfl)
          change Exit.then _ _ _ _ wd.drew
          replace HRC : RD gs gv gk t s kt wt wd.drew := HRC
          replace HE6 : Hid (ExtW w5 wd.drew) := Lib.hid HE6.out.drew
          generalize wd.drew = we at HRC HE6 ⊢
          clear c4 c5 c6 g4 g5 g6 g7
          go_upto_region 15 with (fail)
          obtain ⟨cw, ck, c0, c1, c2, c3, c4, c5, c6, c7⟩ := id HRC
          clear c0 c1 c2 c3 c4 c5 c6
          go_still (by kernel_rfl)
          change Exit.then _ _ _ _ we.drew
          replace HRC : RD gs gv gk t s kt wt we.drew := HRC
          replace HE6 : Hid (ExtW w5 we.drew) := Lib.hid HE6.out.drew
          generalize we.drew = wf at HRC HE6 ⊢
          clear cw ck c7 g3 g8 g9 g10
          go_upto_region 16 with (fail)
          obtain ⟨cw, ck, c0, c1, c2, c3, c4, c5, c6, c7⟩ := id HRC
          clear cw ck c1 c2 c3 c4 c5 c6 c7
          refine wp_region_still_lit (by kernel_rfl) (by kernel_rfl) ?_
          repeat still_step
          still_call (turn2 _ _)
          repeat still_step
          still_call (turn13 _ _)
          repeat still_step
          still_call (turn22 _ _)
          repeat still_step
          refine wpStill_nil ?_
          change Exit.then _ _ _ _ wf.drew
          replace HRC : RD gs gv gk t s kt wt wf.drew := HRC
          replace HE6 : Hid (ExtW w5 wf.drew) := Lib.hid HE6.out.drew
          generalize wf.drew = wg at HRC HE6 ⊢
          clear c0 k1 k2
          go_upto_region 17 with (fail)
          obtain ⟨cw, ck, c0, c1, c2, c3, c4, c5, c6, c7⟩ := id HRC
          clear cw ck c3 c4 c5 c6 c7
          go_still (by kernel_rfl)
          change Exit.then _ _ _ _ wg.drew
          replace HRC : RD gs gv gk t s kt wt wg.drew := HRC
          replace HE6 : Hid (ExtW w5 wg.drew) := Lib.hid HE6.out.drew
          generalize wg.drew = wh at HRC HE6 ⊢
          clear c0 c1 c2 k3 k4 k5 k6 k7
          go_upto_region 19 with (fail)
          obtain ⟨cw, ck, c0, c1, c2, c3, c4, c5, c6, c7⟩ := id HRC
          clear cw ck c7
          go_still_tail 26, (by kernel_rfl)
          change wpList _ _ _ _ _ wh.drew
          replace HE6 : Hid (ExtW w5 wh.drew) := Lib.hid HE6.out.drew
          generalize wh.drew = wi at HE6 ⊢
          clear c0 c1 c2 c3 c4 c5 c6 k8 k9 k10
          have HV9 : Hid (V8 (wi.alloc (.cells #[.int .u32 (un (one + two) : Nat), .int .u32 (un s.a : Nat), .int .u32 (un s.b : Nat), .int .u32 (un s.c : Nat), .int .u32 (un (s.d + one) : Nat), .int .u32 (un s.e : Nat), .int .u32 (un s.f : Nat), .int .u32 (un s.g : Nat)] 86)) wi.heap.size (S.rounds (S.sched b 64) H (t + 1))) := Lib.hid (by
            rw [HST.out, HFN.out]
            refine V8.of_row ?_
            unfold Row; rw [heap_alloc_last]; rfl)
          have HGV9 : Hid (w4.heap.size ≤ wi.heap.size) := Lib.hid (Nat.le_trans HE5.out.size HE6.out.size)
          go_wp2_with fail
          go_roundw
          case rel => exact ⟨t + 1, _, _, rfl, by simp, hlt2, HGV9, HV9, Lib.hid (HE6.out.alloc HE6.out.size _)⟩
          case measure => simp [intOf]; omega
          -- devend
        · obtain rfl : t = 64 := by omega
          have hti : ¬ ((64 : Nat) : Int) < 64 := by omega
          obtain ⟨s, hs⟩ : ∃ s, s = S.rounds (S.sched b 64) H 64 := ⟨_, rfl⟩
          rw [← hs] at HV
          have HBF : Hid (S.blockF H b = H.add s) := Lib.hid (by unfold S.blockF; rw [← hs])
          clear hs
          have HE46 : Hid (ExtW w4 wr) := Lib.hid (Below.trans HE5.out (Below.mono HE6.out HE5.out.size))
          have HGW : Hid (wo.grownBy wr (some gh)) := Lib.hid (grown_but (grown_of_below (ExtW.trans HE4.out HE46.out)) _)
          have HHU : Hid (Row wr gh 86 (hU H s 0)) := Lib.hid (HH4.out.ext HE46.out)
          have HNE : Hid (gv ≠ gh) := Lib.hid (by have h1 := HGV.out; have h2 := HH4.out.lt; omega)
          clear HE6 HE5
          go_wp2_with fail
          go_loopw [16] (fun i wn => ∃ t : Nat, i = .int .i64 t ∧ t ≤ 8 ∧ Hid (V8 wn gv s) ∧ Hid (Row wn gh 86 (hU H s t)) ∧ Hid (wo.grownBy wn (some gh))) (fun i _ => 8 - (intOf i).toNat)
          case atStart => exact ⟨0, rfl, Nat.zero_le _, HV, HHU, HGW⟩
          case round =>
            clear HV HHU HGW HE46
            obtain ⟨t, rfl, ht, HV, HHU, HGW⟩ := hrel
            by_cases hlt4 : t < 8
            · -- devbegin
              have hti4 : (t : Int) < 8 := by omega
              obtain ⟨h1, h2, h3⟩ := hU_get H s hlt4
              obtain ⟨hv, hhv⟩ : ∃ x, x = H.list.getD t 0 := ⟨_, rfl⟩
              obtain ⟨sv, hsv⟩ : ∃ x, x = s.list.getD t 0 := ⟨_, rfl⟩
              rw [← hhv] at h1 h3
              rw [← hsv] at h2 h3
              have H3 := Lib.hid h3
              have c1 := HHU.out.cell h1
              have c2 := HV.out _ _ h2
              simp only [uv] at c1 c2
              have f1 := un_addw hv sv
              clear h1 h2 h3 hhv hsv
              go_upto_region 23 with (fail)
              go_still_tail 12, (by kernel_rfl)
              change wpList _ _ _ _ _ wr.drew
              replace HHU : Hid (Row wr.drew gh 86 (hU H s t)) := Lib.hid HHU.out
              replace HV : Hid (V8 wr.drew gv s) := Lib.hid HV.out
              replace HGW : Hid (wo.grownBy wr.drew (some gh)) := Lib.hid (grown_drew HGW.out)
              have c1' : wr.drew.cell? ⟨gh, t, none⟩ = some (.int .u32 (un hv : Nat)) := c1
              generalize wr.drew = wd at HHU HV HGW c1' ⊢
              have hfz := HHU.out.frozen t
              clear c1 c2 f1
              go_wp2_with fail
              go_roundw
              case rel =>
                refine ⟨t + 1, by simp, hlt4, Lib.hid ?_, Lib.hid ?_, Lib.hid (grown_set HGW.out _ _)⟩
                · intro j u hj
                  exact (World.cell?_of_block (Below.heap_setCell _ ⟨gh, t, none⟩ _ gv HNE.out)).trans (HV.out j u hj)
                · rw [← H3.out]
                  exact HHU.out.set t _
              case measure => simp [intOf]; omega
              -- devend
            · obtain rfl : t = 8 := by omega
              have hti4 : ¬ ((8 : Nat) : Int) < 8 := by omega
              clear HS HE4 HH4 HK4
              go_wp2_with fail
              go_roundw
              case rel =>
                refine ⟨z2, by first | rfl | (simp; have := HZ2.out; omega), by have := HZ2.out; have h1 := HZ.out; have h2 := HL64.out; omega, Lib.hid (by have := HZ2.out; have h1 := HZ.out; omega), Lib.hid ?_, Lib.hid ?_⟩
                · rw [HNX.out, HBF.out]
                  exact HHU.out
                · exact ⟨HGW.out.os.trans HG.out.os, HGW.out.tape.trans HG.out.tape, HGW.out.output.trans HG.out.output, Nat.le_trans HG.out.size HGW.out.size, fun k hk hne => (HGW.out.block k (Nat.lt_of_lt_of_le hk HG.out.size) hne).trans (HG.out.block k hk hne)⟩
              case measure => simp [intOf]; have := HZ2.out; omega
      -- devend
    · obtain rfl : z = L := by omega
      have hzi : ¬ (z : Int) < (z : Int) := by omega
      obtain ⟨H, hH⟩ : ∃ H, H = S.hs PL := ⟨_, rfl⟩
      have HHF : Hid (Row wr gh 86 (H.list.map uv)) := Lib.hid (by
        have h := HH.out
        rw [List.take_of_length_le (by rw [← HL.out]; exact Nat.le_refl _), ← hH] at h
        exact h)
      have HDG : Hid (S.digest (S.hs PL) = S.digest H) := Lib.hid (by rw [hH])
      have HDW : Hid (Row wr w.heap.size 24 (bvs (List.replicate 32 0))) := Lib.hid ((HG.out.block _ HD3.out.lt (fun e => by have h1 := Option.some.inj e; have h2 := HLT.out; omega)).trans HD3.out)
      have HEW : Hid (ExtW w wr) := Lib.hid (Below.trans (Below.trans HE1.out (Below.mono HE3.out HE1.out.size)) ((Below.refl _ _).grown HG.out (Nat.le_trans HE1.out.size HE3.out.size) (fun k hk => by rw [← Option.some.inj hk, HG1.out]; exact HE1.out.size)))
      clear hH HH HG HD3 HD1 HE1 HE3 HK3 HNC HP HGP HGK HG1 HLT
      go_upto_region 25 with (first
        | (refine wpList_bldG rfl (by rfl) ?_; refine ⟨.agg zDig, by kernel_rfl, ?_⟩)
        | (refine wpList_runW rfl rfl ?_; refine ⟨.pointer (some ⟨wr.heap.size, 0, none⟩), wr.alloc (.cells zDig 24), by kernel_rfl, ?_⟩)
        | (refine wpList_st rfl rfl ?_; refine ⟨wr.heap.size, zDig, _, _, rfl, rfl, zDig_row wr, by kernel_rfl, rfl, dg_one (List.replicate 32 0), ?_⟩))
      have HY0 : Hid (Row ((wr.alloc (.cells zDig 24)).setRow wr.heap.size zDig) wr.heap.size 24 (digB H 0)) := Lib.hid ((zDig_row wr).setRow (bvs (List.replicate 32 0)))
      have HE5 : Hid (ExtW wr ((wr.alloc (.cells zDig 24)).setRow wr.heap.size zDig)) := Lib.hid (below_setRow ((Below.refl _ _).alloc (Nat.le_refl _) _) (Nat.le_refl _) _)
      generalize (wr.alloc (.cells zDig 24)).setRow wr.heap.size zDig = w5 at HY0 HE5 ⊢
      have HH5 := Lib.hid (HHF.out.ext HE5.out)
      have HD5 := Lib.hid (HDW.out.ext HE5.out)
      have HLH := Lib.hid HHF.out.lt
      have HLD := Lib.hid HDW.out.lt
      obtain ⟨y, hy⟩ : ∃ y, y = wr.heap.size := ⟨_, rfl⟩
      rw [← hy] at HY0 HLH HLD ⊢
      have HYY := Lib.hid hy
      clear hy
      go_wp2_with fail
      go_loopw [18] (fun i wn => ∃ t : Nat, i = .int .i64 t ∧ t ≤ 32 ∧ Hid (Row wn y 24 (digB H t)) ∧ Hid (Below y w5 wn)) (fun i _ => 32 - (intOf i).toNat)
      case atStart => exact ⟨0, rfl, Nat.zero_le _, HY0, Lib.hid (Below.refl _ _)⟩
      case round =>
        clear HY0
        obtain ⟨t, rfl, ht, HY, HB⟩ := hrel
        by_cases hlt2 : t < 32
        · have hti : (t : Int) < 32 := by omega
          obtain ⟨q, hq⟩ : ∃ q, q = t / 4 := ⟨_, rfl⟩
          have hq8 : q < 8 := by omega
          have hqi : (t : Int) / 4 = (q : Int) := by omega
          have hq8i : (q : Int) < 8 := by omega
          obtain ⟨x, hx⟩ : ∃ x, x = H.list.getD q 0 := ⟨_, rfl⟩
          have hcx : wr.cell? ⟨gh, q, none⟩ = some (.int .u32 (un x : Nat)) := by
            have h : Row wr gh 86 (H.list.map uv) := (HB.out.block gh HLH.out).trans HH5.out
            rw [hx]
            refine h.cell ?_
            rw [List.getElem?_map, List.getD_eq_getElem?_getD, List.getElem?_eq_getElem (show q < H.list.length from hq8)]; rfl
          have hfz := HY.out.frozen t
          obtain ⟨u0, hu0⟩ : ∃ u, (digB H t)[t]? = some u := ⟨_, List.getElem?_eq_getElem (by rw [digB_len H ht]; exact hlt2)⟩
          have cy := HY.out.cell hu0
          clear hu0
          rcases (by omega : t % 4 = 0 ∨ t % 4 = 1 ∨ t % 4 = 2 ∨ t % 4 = 3) with hr | hr | hr | hr
          · have hri : (t : Int) % 4 = 0 := by omega
            have HST := Lib.hid (digB_set H hlt2)
            have ed := (dig_byte H hq8).1
            rw [← hx, ← (show t = 4 * q by omega)] at ed
            rw [ed] at HST
            have HBB : Hid ((un x : Int) / 16777216 % 256 = ((UInt8.ofNat (un x / 16777216)).toNat : Int)) := Lib.hid (by rw [UInt8.toNat_ofNat']; omega)
            clear hx hq hr ed
            go_wp2_with fail
            go_roundw
            case rel =>
              refine ⟨t + 1, by simp, hlt2, Lib.hid ?_, Lib.hid (HB.out.setCell (p := ⟨y, t, none⟩) (Nat.le_refl _) _)⟩
              rw [← HST.out]
              exact HY.out.set t _
            case measure => simp [intOf]; omega
          · have hri : (t : Int) % 4 = 1 := by omega
            have HST := Lib.hid (digB_set H hlt2)
            have ed := (dig_byte H hq8).2.1
            rw [← hx, ← (show t = 4 * q + 1 by omega)] at ed
            rw [ed] at HST
            have HBB : Hid ((un x : Int) / 65536 % 256 = ((UInt8.ofNat (un x / 65536)).toNat : Int)) := Lib.hid (by rw [UInt8.toNat_ofNat']; omega)
            clear hx hq hr ed
            go_wp2_with fail
            go_roundw
            case rel =>
              refine ⟨t + 1, by simp, hlt2, Lib.hid ?_, Lib.hid (HB.out.setCell (p := ⟨y, t, none⟩) (Nat.le_refl _) _)⟩
              rw [← HST.out]
              exact HY.out.set t _
            case measure => simp [intOf]; omega
          · have hri : (t : Int) % 4 = 2 := by omega
            have HST := Lib.hid (digB_set H hlt2)
            have ed := (dig_byte H hq8).2.2.1
            rw [← hx, ← (show t = 4 * q + 2 by omega)] at ed
            rw [ed] at HST
            have HBB : Hid ((un x : Int) / 256 % 256 = ((UInt8.ofNat (un x / 256)).toNat : Int)) := Lib.hid (by rw [UInt8.toNat_ofNat']; omega)
            clear hx hq hr ed
            go_wp2_with fail
            go_roundw
            case rel =>
              refine ⟨t + 1, by simp, hlt2, Lib.hid ?_, Lib.hid (HB.out.setCell (p := ⟨y, t, none⟩) (Nat.le_refl _) _)⟩
              rw [← HST.out]
              exact HY.out.set t _
            case measure => simp [intOf]; omega
          · have hri : (t : Int) % 4 = 3 := by omega
            have HST := Lib.hid (digB_set H hlt2)
            have ed := (dig_byte H hq8).2.2.2
            rw [← hx, ← (show t = 4 * q + 3 by omega)] at ed
            rw [ed] at HST
            have HBB : Hid ((un x : Int) % 256 = ((UInt8.ofNat (un x)).toNat : Int)) := Lib.hid (by rw [UInt8.toNat_ofNat']; omega)
            clear hx hq hr ed
            go_wp2_with fail
            go_roundw
            case rel =>
              refine ⟨t + 1, by simp, hlt2, Lib.hid ?_, Lib.hid (HB.out.setCell (p := ⟨y, t, none⟩) (Nat.le_refl _) _)⟩
              rw [← HST.out]
              exact HY.out.set t _
            case measure => simp [intOf]; omega
        · obtain rfl : t = 32 := by omega
          have hti : ¬ ((32 : Nat) : Int) < 32 := by omega
          have hfin : digB H 32 = bvs (S.digest H) := by
            unfold digB
            rw [List.take_of_length_le (by rw [S.digest_len]; exact Nat.le_refl _), List.drop_of_length_le (by rw [List.length_replicate]; exact Nat.le_refl _), List.append_nil]
          obtain ⟨dg, hdg⟩ : ∃ d, d = S.digest H := ⟨_, rfl⟩
          have hdl : dg.length = 32 := by rw [hdg, S.digest_len]
          rw [← hdg] at hfin HDG
          have HY2 : Hid (Row wr y 24 (bvs dg)) := Lib.hid (by rw [← hfin]; exact HY.out)
          have HKS : Hid ((bvs dg).toArray.size = 32) := Lib.hid (dg_size hdl)
          have HD6 : Hid (Row wr w.heap.size 24 (bvs (List.replicate 32 0))) := Lib.hid ((HB.out.block _ HLD.out).trans HD5.out)
          clear hfin hdg hdl
          go_wp2_with (first
            | (refine wpList_ld rfl rfl ?_; refine ⟨y, _, _, _, rfl, HY2.out, Try.underlying24, rfl, by rw [HKS.out]; kernel_rfl, ?_⟩)
            | (refine wpList_st rfl rfl ?_; refine ⟨w.heap.size, _, _, _, rfl, rfl, HD6.out, by rw [HKS.out]; kernel_rfl, Eq.trans (show (bvs (List.replicate 32 0)).toArray.size = 32 from rfl) HKS.out.symm, dg_one _, ?_⟩))
          (try simp only [Exit.inBlock, Exit.then])
          have HFB : Hid (ExtW w (wr.setRow w.heap.size (bvs dg).toArray)) := Lib.hid (below_setRow (Below.trans (Below.trans HEW.out (Below.mono HE5.out HEW.out.size)) (HB.out.mono (by rw [HYY.out]; exact HEW.out.size))) (Nat.le_refl _) _)
          refine bodyPost_ret (v := dgV dg) ?_ rfl ⟨by rw [HDG.out], HFB.out⟩
          have h := run_loadVar_row (P := Try.prog) (wr.setRow w.heap.size (bvs dg).toArray) w.heap.size 24 24 (bvs dg).toArray (0, 0) _ (Row.setRow HD6.out (bvs dg)) Try.underlying24 rfl (by rw [HKS.out]; kernel_rfl)
          simpa [results, Try.f57, Act.put, asAddr, dgV] using h
end Go.Proofs.Ytncdgndeidbgoaa
