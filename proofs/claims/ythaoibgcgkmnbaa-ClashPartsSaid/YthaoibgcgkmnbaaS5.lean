/- Walk of shown. -/
import Derived.Test.YthaoibgcgkmnbaaTe
import Derived.Lib.SlBytesConst
namespace Go.Proofs.Ythaoibgcgkmnbaa
set_option maxRecDepth 100000
open Go.RowKit

theorem keep_full {d : List UInt8} (h : d.length = 32) : keep d 256 = d := by
  apply List.ext_getElem?
  intro i
  by_cases hi : i < d.length
  · rw [keep_get d 256 i hi]
    have : keepB (d.getD i 0) (256 - 8 * i) = d.getD i 0 := by unfold keepB; rw [if_neg (by omega), if_neg (by omega)]
    rw [this, List.getD_eq_getElem?_getD, List.getElem?_eq_getElem hi]; rfl
  · rw [List.getElem?_eq_none (by rw [keep_len]; omega), List.getElem?_eq_none (by omega)]
theorem T.leafD_full (xs : List UInt8) : T.leafD 256 xs = S.sha (0 :: xs) := keep_full (S.sha_len _)
theorem T.emptyD_full : T.emptyD 256 = S.sha [] := keep_full (S.sha_len _)
namespace T
theorem half2 : half 2 = 1 := by unfold half; rfl
theorem half3 : half 3 = 2 := half_eq (j := 1) (by decide) (by decide) (by decide)
theorem root2 (B : Nat) (x y : List UInt8) : rootD B [x, y] = nodeD B (leafD B x) (leafD B y) := by
  rw [rootD_more B (n := 2) (k := 1) rfl (by decide) half2.symm]
  rw [show ([x, y].take 1) = [x] from rfl, show ([x, y].drop 1) = [y] from rfl, rootD_one, rootD_one]
theorem root3 (B : Nat) (x y z : List UInt8) : rootD B [x, y, z] = nodeD B (nodeD B (leafD B x) (leafD B y)) (leafD B z) := by
  rw [rootD_more B (n := 3) (k := 2) rfl (by decide) half3.symm]
  rw [show ([x, y, z].take 2) = [x, y] from rfl, show ([x, y, z].drop 2) = [z] from rfl, rootD_one, root2]
theorem path3 (B : Nat) (x y z : List UInt8) : pathD B [x, y, z] 2 = [nodeD B (leafD B x) (leafD B y)] := by
  rw [pathD_hi B (n := 3) (k := 2) rfl (by decide) half3.symm (by decide)]
  rw [show ([x, y, z].take 2) = [x, y] from rfl, show ([x, y, z].drop 2) = [z] from rfl, root2, pathD_one B rfl]
  rfl
theorem beside3 (B : Nat) (x y z : List UInt8) : besideD B [x, y, z] 1 2 = [leafD B x, leafD B z] := by
  rw [besideD_more B (n := 3) (k := 2) rfl (by decide) (by decide) half3.symm]
  rw [show ([x, y, z].take 2) = [x, y] from rfl, show ([x, y, z].drop 2) = [z] from rfl]
  rw [besideD_more B (n := 2) (k := 1) (l := [x, y]) rfl (by decide) (by decide) half2.symm]
  rw [show ([x, y].take 1) = [x] from rfl, show ([x, y].drop 1) = [y] from rfl]
  rw [besideD_out B (l := [x]) (n := 1) rfl (by decide), besideD_one B (l := [y]) (n := 1) rfl (by decide) rfl, besideD_out B (l := [z]) (n := 1) rfl (by decide), rootD_one, rootD_one]
  rfl
theorem downs32 : downs 3 2 = [false] := by
  rw [downs_hi (k := 2) (by decide) half3.symm (by decide), downs_one (by decide)]
theorem check3 (B : Nat) (x y z : List UInt8) : checkD B (rootD B [x, y, z]) 3 2 z [nodeD B (leafD B x) (leafD B y)] = true := by
  unfold checkD
  rw [if_neg (by decide), show (3 : Int).toNat = 3 from rfl, show (2 : Int).toNat = 2 from rfl, downs32, root3]
  simp [climb, stepD]
theorem check3n (B : Nat) (r z : List UInt8) : checkD B r 3 2 z [] = false := by
  unfold checkD
  rw [if_neg (by decide), show (3 : Int).toNat = 3 from rfl, show (2 : Int).toNat = 2 from rfl, downs32]
  simp
theorem checkR3 (B : Nat) (x y z : List UInt8) : checkRD B (rootD B [x, y, z]) 3 1 [y] [leafD B x, leafD B z] = true := by
  have h0 : checkRD B (rootD B [x, y, z]) ((3 : Nat) : Int) 1 [y] [leafD B x, leafD B z] = _ := checkRD_in (cn := 3) (n := 1) (o := (rootD B [x, y, z], [], false)) rfl (by decide) (by
    rw [openD_more (pn := 1) (k := 2) rfl (by decide) (by decide) half3.symm]
    have h1 : openD B [y] 2 1 [leafD B x, leafD B z] false = (nodeD B (leafD B x) (leafD B y), [leafD B z], false) := by
      rw [openD_more (pn := 1) (k := 1) rfl (by decide) (by decide) half2.symm]
      have h2 : openD B [y] 1 1 [leafD B x, leafD B z] false = (leafD B x, [leafD B z], false) := openD_take (pn := 1) rfl (by decide)
      rw [h2]
      have h3 : openD B [y] (2 - 1) (1 - ((1 : Nat) : Int)) [leafD B z] false = (leafD B y, [leafD B z], false) := openD_leaf (pn := 1) rfl (by decide) (by decide)
      rw [h3]
    rw [h1]
    have h4 : openD B [y] (3 - 2) (1 - ((2 : Nat) : Int)) [leafD B z] false = (leafD B z, [], false) := openD_take (pn := 1) rfl (by decide)
    rw [h4, root3])
  rw [show (3 : Int) = ((3 : Nat) : Int) from rfl, h0]
  simp
theorem checkR3n (B : Nat) (r : List UInt8) (q : List (List UInt8)) : checkRD B r 3 1 [] q = false := checkRD_no (n := 0) rfl (.inl rfl)
end T

theorem Rd.newM (w : World) (cs : List Value) (e size : Nat) (n : Nat) (m : Nat × Nat) (hl : cs.length = n * size) (hn : n ≤ maxLen) : Rd (w.alloc (.cells cs.toArray e m)) (some ⟨w.heap.size, 0, none⟩) n n size cs := by
  refine ⟨hl, Nat.le_refl _, hn, (fun h => by cases h), fun a ha j u hj => ?_⟩
  cases ha
  have h1 : (w.alloc (.cells cs.toArray e m)).heap[w.heap.size]? = some (.cells cs.toArray e m) := heap_alloc_new w _
  rw [Addr.add_mid, Nat.zero_add]
  simp only [World.cell?, h1]
  simpa using hj

end Go.Proofs.Ythaoibgcgkmnbaa
