/- Walks of package codec's writers of texts and of numbers of four bytes. -/
import Derived.Test.YtimmgaifhkhhhaaPut
namespace Go.Proofs.Ytimmgaifhkhhhaa
open Go.RowKit

def fix4 (v : Nat) : List UInt8 := [UInt8.ofNat (v / 16777216), UInt8.ofNat (v / 65536), UInt8.ofNat (v / 256), UInt8.ofNat v]
def encText (s : List UInt8) : List UInt8 := enc s.length ++ s

set_option maxHeartbeats 400000 in
set_option maxRecDepth 100000 in
theorem putText_any (A : Option Addr) (n c : Nat) (xs : List UInt8) (s : ByteArray) (w : World) (hs : n + s.size ≤ 140737488351232) (hr : Rd w A n c 1 (bvs xs)) :
    Calls Try.prog 13 #[.slice A n c, .string s] w fun e w' => ∃ r, e = .returned r ∧ w'.ownsRow w.heap.size 5 1 r (n + (encText s.data.toList).length) (bvs (xs ++ encText s.data.toList)) ∧ Below w.heap.size w w' := by
  obtain ⟨i0, hi, hz0, hz1, hz2⟩ := info_parts infoB
  have hss : s.size ≤ 140737488351232 := by omega
  have hn : n ≤ 140737488351232 := by omega
  have H10 := Lib.hid (enc_le10 (v := s.size) (by omega))
  have hl : s.data.toList.length = s.size := by rw [Array.length_toList]; rfl
  have HF : Hid (∀ (r : Value) (w' : World), w'.ownsRow w.heap.size 5 1 r (n + (enc s.size).length + s.size) (bvs (xs ++ enc s.size) ++ Go.Lib.strCells s) → w'.ownsRow w.heap.size 5 1 r (n + (encText s.data.toList).length) (bvs (xs ++ encText s.data.toList))) := by
    refine Lib.hid fun r w' h => ?_
    have e1 : bvs (xs ++ encText s.data.toList) = bvs (xs ++ enc s.size) ++ Go.Lib.strCells s := by
      rw [bvs_str, encText, hl, ← List.append_assoc, bvs_app (xs ++ enc s.size)]
    have e2 : n + (encText s.data.toList).length = n + (enc s.size).length + s.size := by rw [encText, hl, List.length_append, hl]; omega
    rw [e1, e2]; exact h
  clear hl
  go_enter Try.func13, Try.ntmps13
  go_wp2_with (first | (go_at_call 11; refine (put_any A n c xs s.size _ (by unfold U64; omega) hr hn).mono ?_; rintro e w1 ⟨r, rfl, hown, hbel⟩) | (at_builtin; have hb := hbel.size; have h10 := H10.out; refine Go.Lib.wpList_append_own_string _ rfl _ _ _ _ rfl w.heap.size 5 i0 Try.underlying22 Try.underlying9 hi hz0 hz1 hz2 _ _ _ rfl hown s rfl (by simp [maxLen]; omega) (by omega) hb ?_; intro v' w2 hown2 hg2 _))
  have hb3 := hbel.trans (below_of_grown hown hbel.size hg2)
  go_ret
  exact ⟨v', rfl, HF.out _ _ hown2, hb3⟩

theorem fix4_own {w1 : World} {B e n v : Nat} {v' : Value} {xs : List UInt8} (hv : v < 4294967296)
    (h : w1.ownsRow B e 1 v' (n + 4) (bvs xs ++ [Value.int IntKind.u8 (↑v / 16777216), Value.int IntKind.u8 (↑v / 65536 % 256), Value.int IntKind.u8 (↑v / 256 % 256), Value.int IntKind.u8 (↑v % 256)])) :
    w1.ownsRow B e 1 v' (n + 4) (bvs (xs ++ fix4 v)) := by
  have e1 : bvs (xs ++ fix4 v) = bvs xs ++ [Value.int IntKind.u8 (↑v / 16777216), Value.int IntKind.u8 (↑v / 65536 % 256), Value.int IntKind.u8 (↑v / 256 % 256), Value.int IntKind.u8 (↑v % 256)] := by
    rw [bvs_app]
    congr 1
    simp only [bvs, fix4, List.map_cons, List.map_nil, UInt8.toNat_ofNat']
    have a1 : ((v / 16777216 % 2 ^ 8 : Nat) : Int) = (v : Int) / 16777216 := by omega
    have a2 : ((v / 65536 % 2 ^ 8 : Nat) : Int) = (v : Int) / 65536 % 256 := by omega
    have a3 : ((v / 256 % 2 ^ 8 : Nat) : Int) = (v : Int) / 256 % 256 := by omega
    have a4 : ((v % 2 ^ 8 : Nat) : Int) = (v : Int) % 256 := by omega
    rw [a1, a2, a3, a4]
  rw [e1]; exact h

set_option maxHeartbeats 400000 in
set_option maxRecDepth 100000 in
theorem putFixed_any (A : Option Addr) (n c : Nat) (xs : List UInt8) (v : Nat) (w : World) (hv : v < 4294967296) (hn : n ≤ 140737488351232) (hr : Rd w A n c 1 (bvs xs)) :
    Calls Try.prog 15 #[.slice A n c, .int .u32 v] w fun e w' => ∃ r, e = .returned r ∧ w'.ownsRow w.heap.size 5 1 r (n + 4) (bvs (xs ++ fix4 v)) ∧ Below w.heap.size w w' := by
  obtain ⟨i0, hi, hz0, hz1, hz2⟩ := info_parts infoB
  have hnc := hr.nc
  have HR := Lib.hid hr; clear hr
  go_enter Try.func15, Try.ntmps15
  go_wp2_with (at_builtin; refine wpList_append_appd _ rfl _ _ _ rfl w.heap.size 5 i0 _ 1 1 Try.underlying22 hi hz0 hz1 hz2 rfl (by omega) _ _ (bvs xs) rfl (.inl ⟨A, rfl, HR.out.full.alloc _⟩) _ 4 4 _ rfl (Rd.new _ [_, _, _, _] _ 1 4 rfl (by simp [maxLen])) ?_ (by simp [maxLen]; omega) (by omega) (by simp) (.inr (by omega)) ?_)
  case refine_1 => intro u hu; simp at hu; rcases hu with rfl | rfl | rfl | rfl <;> rfl
  intro v' w1 hown hbel _
  have hb2 := ((Below.refl _ _).alloc (Nat.le_refl _) _).trans hbel
  have hfin := fix4_own hv hown
  go_wp2
  go_ret
  exact ⟨v', rfl, hfin, hb2⟩
end Go.Proofs.Ytimmgaifhkhhhaa
