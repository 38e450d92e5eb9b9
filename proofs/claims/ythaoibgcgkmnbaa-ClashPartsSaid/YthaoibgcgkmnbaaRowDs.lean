/- A slice of digests as an argument, opened. -/
import Derived.Test.YthaoibgcgkmnbaaRowD
import Derived.Test.YthaoibgcgkmnbaaTd
import Derived.Deep.Slices
namespace Go.Proofs.Ythaoibgcgkmnbaa
set_option maxRecDepth 100000
open Go.ChangeShapes Go.WideShapes Go.ChangeAt Go.RowKit

theorem open_dgc {H : Type} {enc : TypeId × Value → H} {W : World} {base : Nat} {spare : Nat → Bool} {held : Bool} {fuel : Nat} {cs : List Value} {x : DataW H × List MemPlace}
    (hf : DataW.trod enc Try.prog W base spare held fuel 45 cs = some x) : ∃ l : List UInt8, cs = bvs l ∧ l.length = 32 := by
  obtain ⟨xs, m, rfl, hx, hcl, hxl, hel⟩ := DataW.trod_array Try.underlying45 hf
  have h1 : Try.prog.cellsOf 45 = 32 := by kernel_rfl
  have h2 : Try.prog.cellsOf 5 = 1 := by kernel_rfl
  rw [h1] at hcl
  rw [h2] at hel
  have key : ∀ i, i < 32 → ∃ n : Int, cs[i]? = some (.int .u8 n) ∧ 0 ≤ n ∧ n < 256 := by
    intro i hi
    have h := hel i hi
    rw [List.getElem?_eq_getElem (by omega : i < xs.length)] at h
    obtain ⟨n, hc, _, hw⟩ := DataW.trod_int Try.underlying5 h
    refine ⟨n, ?_, (u8_of_wf hw).1, (u8_of_wf hw).2⟩
    have := congrArg (fun l : List Value => l[0]?) hc
    simpa [List.getElem?_take, List.getElem?_drop] using this
  refine ⟨cs.map fun u => match u with | .int _ n => UInt8.ofNat n.toNat | _ => 0, ?_, by rw [List.length_map, hcl]⟩
  symm
  apply List.ext_getElem?
  intro i
  by_cases hi : i < 32
  · obtain ⟨n, hc, h0, h255⟩ := key i hi
    simp only [bvs, List.getElem?_map, hc, Option.map_some]
    rw [UInt8.toNat_ofNat']
    congr 2
    omega
  · rw [List.getElem?_eq_none (by rw [bvs_len, List.length_map]; omega), List.getElem?_eq_none (by omega)]
/-- a cell of digests lies in one of them -/
theorem dcs_get {l : List (List UInt8)} (h : ∀ d ∈ l, d.length = 32) {j : Nat} {u : Value} (hu : (dcs l)[j]? = some u) : ∃ d, l[j / 32]? = some d ∧ (bvs d)[j % 32]? = some u := by
  have hj : j < l.length * 32 := by rw [← dcs_len h]; exact (List.getElem?_eq_some_iff.1 hu).1
  have hk : j / 32 < l.length := by omega
  refine ⟨l[j / 32], List.getElem?_eq_getElem hk, ?_⟩
  have h1 := dcs_drop h (j / 32)
  rw [List.drop_eq_getElem_cons hk, dcs_cons] at h1
  have h2 : ((dcs l).drop (j / 32 * 32))[j % 32]? = some u := by rw [List.getElem?_drop, show j / 32 * 32 + j % 32 = j by omega]; exact hu
  rw [h1, List.getElem?_append_left (by rw [bvs_len, h _ (List.getElem_mem hk)]; omega)] at h2
  exact h2
theorem open_dls {H : Type} {enc : TypeId × Value → H} {W : World} {held : Bool} {A : Option Addr} {len cap : Nat} {d : DataW H} {p : List MemPlace}
    (h : DataW.Trod enc Try.prog W 0 (fun _ => true) held 24 (.slice A len cap) d p) : ∃ l, Dls W A len cap l := by
  obtain ⟨fuel, hf⟩ := h
  rcases Go.Deep.open_slice Try.underlying24 hf with ⟨hcs, _⟩ | ⟨a, l, c, m, n, D, Pl, hcs, _, hl, hm, hmm, _, hx⟩
  · simp [Value.cells] at hcs
    obtain ⟨rfl, rfl, rfl⟩ := hcs
    exact ⟨[], Dls.nil W⟩
  · simp [Value.cells] at hcs
    obtain ⟨rfl, rfl, rfl⟩ := hcs
    simp only [if_true] at hmm
    subst hmm
    have h1 : Try.prog.cellsOf 45 = 32 := by kernel_rfl
    rw [h1] at hx
    have each : ∀ i, i < m → ∃ x : List UInt8, x.length = 32 ∧ ∀ j u, (bvs x)[j]? = some u → W.cell? (a.add (i * 32 + j)) = some u := fun i hi => by
      obtain ⟨cs', h2, h3⟩ := hx i hi
      obtain ⟨x, rfl, hxl⟩ := open_dgc h3
      obtain ⟨_, _, h4⟩ := World.cells?_some h2
      refine ⟨x, hxl, fun j u hu => ?_⟩
      have hj : j < 32 := by have := (List.getElem?_eq_some_iff.1 hu).1; rw [bvs_len, hxl] at this; exact this
      have h5 := h4 j hj
      rw [Go.Deep.add_add] at h5
      rw [h5]; exact hu
    obtain ⟨f, hf2⟩ := Go.Deep.choose_lt each
    have hall : ∀ d ∈ (List.range len).map f, d.length = 32 := by
      intro d hd
      obtain ⟨i, hi, rfl⟩ := List.mem_map.1 hd
      exact (hf2 i (by have := List.mem_range.1 hi; omega)).1
    refine ⟨(List.range len).map f, by simp, hall, by rw [dcs_len hall]; simp, hl, hm, (fun e => by cases e), ?_⟩
    rintro b hb j u hu
    cases hb
    obtain ⟨d, hd, hu2⟩ := dcs_get hall hu
    rw [List.getElem?_map] at hd
    by_cases hi : j / 32 < len
    · rw [List.getElem?_range hi] at hd
      cases hd
      have := (hf2 (j / 32) (by omega)).2 (j % 32) u hu2
      rwa [show j / 32 * 32 + j % 32 = j by omega] at this
    · rw [List.getElem?_eq_none (by simp; omega)] at hd; cases hd
end Go.Proofs.Ythaoibgcgkmnbaa
