/-
  A pair of bytes, opened.
-/
import Derived.Test.YtbglblamoodocaaDoorCardH
namespace Go.Proofs.YtbglblamoodocaaDoor
open Go Go.ChangeShapes Go.WideShapes Go.ChangeAt Go.RowKit Go.Deep
section
variable {H : Type} {enc : TypeId × Value → H}
theorem open_two8 {W : World} {base : Nat} {v : Value} {d : DataW H} {ps : List MemPlace} (hok : Value.okWide Tryd.prog W .any base 42 v) (h : DataW.Trod enc Tryd.prog W 0 (fun _ => true) true 42 v d ps) :
    ∃ x y : B, v = .agg #[b8 x, b8 y] := by
  simp only [Value.okWide, show Tryd.prog.underlying 42 = some (.array 2 5) by kernel_rfl] at hok
  obtain ⟨cs, rfl, -, -⟩ := hok
  obtain ⟨fuel, hf⟩ := h
  obtain ⟨xs, m, rfl, -, hl, hxl, hf⟩ := DataW.trod_array (show Tryd.prog.underlying 42 = some (.array 2 5) by kernel_rfl) hf
  rw [show Tryd.prog.cellsOf 42 = 2 by kernel_rfl] at hl
  have each : ∀ i (hi : i < (Value.agg cs).cells.toList.length), ∃ u : B, (Value.agg cs).cells.toList[i] = b8 u := by
    intro i hi
    have := hf i (by omega)
    rw [show Tryd.prog.cellsOf 5 = 1 by kernel_rfl, Nat.mul_one, List.drop_eq_getElem_cons hi, List.take_succ_cons, List.take_zero, List.getElem?_eq_getElem (by omega)] at this
    obtain ⟨z, hz, -, hw⟩ := DataW.trod_int (show Tryd.prog.underlying 5 = some (.int .u8) by kernel_rfl) this
    exact ⟨_, (List.head_eq_of_cons_eq hz).trans (b8_ofInt (wf_u8 hw))⟩
  obtain ⟨x, hx⟩ := each 0 (by omega)
  obtain ⟨y, hy⟩ := each 1 (by omega)
  refine ⟨x, y, ?_⟩
  have : cs = #[b8 x, b8 y] := by
    apply Array.ext'
    have hl2 : cs.toList.length = 2 := hl
    obtain ⟨a, b, hab⟩ : ∃ a b, cs.toList = [a, b] := by
      match hcs : cs.toList, hl2 with
      | [a, b], _ => exact ⟨a, b, rfl⟩
    have hx' : cs.toList[0]'(by omega) = b8 x := hx
    have hy' : cs.toList[1]'(by omega) = b8 y := hy
    simp only [hab, List.getElem_cons_zero, List.getElem_cons_succ] at hx' hy'
    rw [hab, hx', hy']
  rw [this]
end
end Go.Proofs.YtbglblamoodocaaDoor
