/-
  A pair of hashes, opened.
-/
import Derived.Test.YtadiijieldldhaaDoorCardH
namespace Go.Proofs.YtadiijieldldhaaDoor
open Go Go.ChangeShapes Go.WideShapes Go.ChangeAt Go.RowKit Go.Deep
section
variable {H : Type} {enc : TypeId × Value → H}
theorem open_two {W : World} {base : Nat} {v : Value} {d : DataW H} {ps : List MemPlace} (hok : Value.okWide Tryd.prog W .any base 45 v) (h : DataW.Trod enc Tryd.prog W 0 (fun _ => true) true 45 v d ps) :
    ∃ x y : Hs, v = .agg (x.1.map b8 ++ y.1.map b8).toArray := by
  simp only [Value.okWide, show Tryd.prog.underlying 45 = some (.array 2 23) by kernel_rfl] at hok
  obtain ⟨cs, rfl, -, -⟩ := hok
  obtain ⟨fuel, hf⟩ := h
  obtain ⟨xs, m, rfl, -, hl, hxl, hf⟩ := DataW.trod_array (show Tryd.prog.underlying 45 = some (.array 2 23) by kernel_rfl) hf
  rw [show Tryd.prog.cellsOf 45 = 64 by kernel_rfl] at hl
  have h0 := hf 0 (by omega)
  have h1 := hf 1 (by omega)
  rw [show Tryd.prog.cellsOf 23 = 32 by kernel_rfl, List.getElem?_eq_getElem (by omega)] at h0 h1
  obtain ⟨x, hx⟩ := hash_cells h0
  obtain ⟨y, hy⟩ := hash_cells h1
  refine ⟨x, y, ?_⟩
  have : cs = (x.1.map b8 ++ y.1.map b8).toArray := by
    apply Array.ext'
    have hl2 : cs.toList.length = 64 := hl
    have hx' : (cs.toList.drop (0 * 32)).take 32 = x.1.map b8 := hx
    have hy' : (cs.toList.drop (1 * 32)).take 32 = y.1.map b8 := hy
    rw [List.toList_toArray, ← hx', ← hy', Nat.zero_mul, Nat.one_mul, List.drop_zero, List.take_of_length_le (i := 32) (l := cs.toList.drop 32) (by rw [List.length_drop]; omega), List.take_append_drop]
  rw [this]
end
end Go.Proofs.YtadiijieldldhaaDoor
