/- A digest as an argument, opened. -/
import Derived.Test.YthaoibgcgkmnbaaRow
namespace Go.Proofs.Ythaoibgcgkmnbaa
set_option maxRecDepth 100000
open Go.ChangeShapes Go.WideShapes Go.ChangeAt Go.RowKit

theorem open_dg {H : Type} {enc : TypeId × Value → H} {W : World} {base : Nat} {spare : Nat → Bool} {held : Bool} {v : Value} {d : DataW H} {p : List MemPlace}
    (h : DataW.Trod enc Try.prog W base spare held 45 v d p) : ∃ l : List UInt8, v = .agg (bvs l).toArray ∧ l.length = 32 ∧ p = [] := by
  obtain ⟨fuel, hf⟩ := h
  obtain ⟨xs, m, rfl, hx, hcl, hxl, hel⟩ := DataW.trod_array Try.underlying45 hf
  have h1 : Try.prog.cellsOf 45 = 32 := by kernel_rfl
  have h2 : Try.prog.cellsOf 5 = 1 := by kernel_rfl
  rw [h1] at hcl
  rw [h2] at hel
  obtain ⟨cs, hcs⟩ : ∃ cs, cs = v.cells.toList := ⟨_, rfl⟩
  rw [← hcs] at hcl hel
  have key : ∀ i, i < 32 → ∃ (n : Int) (dd : DataW H), cs[i]? = some (.int .u8 n) ∧ 0 ≤ n ∧ n < 256 ∧ xs[i]? = some (dd, []) := by
    intro i hi
    have h := hel i hi
    rw [List.getElem?_eq_getElem (by omega : i < xs.length)] at h
    obtain ⟨n, hc, hx2, hw⟩ := DataW.trod_int Try.underlying5 h
    refine ⟨n, .lit (.int .u8 n), ?_, (u8_of_wf hw).1, (u8_of_wf hw).2, ?_⟩
    · have := congrArg (fun l : List Value => l[0]?) hc
      simpa [List.getElem?_take, List.getElem?_drop] using this
    · rw [List.getElem?_eq_getElem (by omega : i < xs.length), hx2]
  have hb : bvs (cs.map fun u => match u with | .int _ n => UInt8.ofNat n.toNat | _ => 0) = cs := by
    apply List.ext_getElem?
    intro i
    by_cases hi : i < 32
    · obtain ⟨n, dd, hc, h0, h255, _⟩ := key i hi
      simp only [bvs, List.getElem?_map, hc, Option.map_some]
      rw [UInt8.toNat_ofNat']
      congr 2
      omega
    · rw [List.getElem?_eq_none (by rw [bvs_len, List.length_map]; omega), List.getElem?_eq_none (by omega)]
  refine ⟨cs.map fun u => match u with | .int _ n => UInt8.ofNat n.toNat | _ => 0, ?_, ?_, ?_⟩
  · rw [hb, hcs]
    cases v
    case agg c => simp [Value.cells]
    all_goals (exfalso; rw [hcs] at hcl; simp [Value.cells] at hcl)
  · rw [List.length_map, hcl]
  · have hp : p = xs.flatMap (·.2) := (congrArg Prod.snd hx)
    rw [hp, List.flatMap_eq_nil_iff]
    intro y hy
    obtain ⟨i, hi, he⟩ := List.getElem_of_mem hy
    obtain ⟨n, dd, _, _, _, hxx⟩ := key i (by omega)
    rw [List.getElem?_eq_getElem hi, he] at hxx
    rw [Option.some.inj hxx]
end Go.Proofs.Ythaoibgcgkmnbaa
