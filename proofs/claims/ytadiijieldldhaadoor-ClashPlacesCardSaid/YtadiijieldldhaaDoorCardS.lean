/-
  What is said of hashes, opened.
-/
import Derived.Test.YtadiijieldldhaaDoorCardC
import Derived.Test.YtadiijieldldhaaDoorSaid
namespace Go.Proofs.YtadiijieldldhaaDoor
open Go Go.ChangeShapes Go.WideShapes Go.ChangeAt Go.RowKit Go.Deep
def witSaid : Value := .agg (sdA none 0 0 0 zeroH)
section
variable {H : Type} {enc : TypeId × Value → H}
theorem open_said {W : World} {base : Nat} {v : Value} {d : DataW H} {ps : List MemPlace} (hok : Value.okWide Tryd.prog W .any base 40 v) (h : DataW.Trod enc Tryd.prog W 0 (fun _ => true) true 40 v d ps) :
    ∃ (ao : Option Addr) (l : List Hs) (cp : Nat) (M : Int) (x : Hs), v = .agg (sdA ao l.length cp M x) ∧ (-9223372036854775808 ≤ M ∧ M ≤ 9223372036854775807) ∧ Hts W ao l ∧ l.length ≤ cp ∧ cp ≤ maxLen := by
  obtain ⟨fs, hfs⟩ := saidU
  simp only [Value.okWide, hfs] at hok
  obtain ⟨cs, rfl, -, -⟩ := hok
  obtain ⟨fuel, hf⟩ := h
  obtain ⟨hl, n, hel⟩ := fields_of (t := 40) (by kernel_rfl) (L := [(24, 0), (3, 1), (23, 2)]) (by kernel_rfl) hf
  rw [show Tryd.prog.cellsOf 40 = 34 by kernel_rfl] at hl
  obtain ⟨_, h0⟩ := hel 0 _ _ rfl
  obtain ⟨_, h1⟩ := hel 1 _ _ rfl
  obtain ⟨_, h2⟩ := hel 2 _ _ rfl
  rw [show Tryd.prog.cellsOf 24 = 1 by kernel_rfl] at h0
  rw [show Tryd.prog.cellsOf 3 = 1 by kernel_rfl] at h1
  rw [show Tryd.prog.cellsOf 23 = 32 by kernel_rfl] at h2
  obtain ⟨ao, l, cp, e0, hH, hc, hm⟩ := hts_of_slice h0
  obtain ⟨M, e1, -, w1⟩ := DataW.trod_int (show Tryd.prog.underlying 3 = some (.int .i64) by kernel_rfl) h1
  obtain ⟨x, e2⟩ := hash_cells h2
  refine ⟨ao, l, cp, M, x, ?_, wf_i64 w1, hH, hc, hm⟩
  have : (Value.agg cs).cells.toList = sdc (.slice ao l.length cp) M x := by
    obtain ⟨C, hC⟩ : ∃ C, C = (Value.agg cs).cells.toList := ⟨_, rfl⟩
    rw [← hC] at e0 e1 e2 hl ⊢
    rw [show C = C.drop 0 from rfl, cut_at C 0 1, e0, cut_at C (0 + 1) 1, e1, cut_at C (0 + 1 + 1) 32, e2, List.drop_of_length_le (by omega)]
    simp [sdc]
  have h9 : cs = sdA ao l.length cp M x := by
    apply Array.ext'
    rw [List.toList_toArray]
    exact this
  rw [h9]
end
end Go.Proofs.YtadiijieldldhaaDoor
