/-
  Claims, what is said, pairs of hashes: opened.
-/
import Derived.Test.YtadiijieldldhaaDoorCardH
import Derived.Test.YtadiijieldldhaaDoorFits
import Derived.ChangeArms
namespace Go.Proofs.YtadiijieldldhaaDoor
open Go Go.ChangeShapes Go.WideShapes Go.ChangeAt Go.RowKit Go.Deep
def witClaim : Value := .agg (clmA 0 0 zeroH none 0 0 zeroH)
section
variable {H : Type} {enc : TypeId × Value → H}
def fsOf : Option TypeDesc → Array Field
  | some (.struct fs) => fs
  | _ => #[]
theorem fsOf_spec {t : TypeId} (h : isStruct (Tryd.prog.underlying t) = true) : Tryd.prog.underlying t = some (.struct (fsOf (Tryd.prog.underlying t))) := by
  obtain ⟨fs, e⟩ := isStruct_spec h
  rw [e]; rfl
theorem fields_of {W : World} {base : Nat} {sp : Nat → Bool} {held : Bool} {fuel : Nat} {cs : List Value} {x : DataW H × List MemPlace} {t : TypeId} (ht : isStruct (Tryd.prog.underlying t) = true) {L : List (TypeId × Nat)} (hL : (fsOf (Tryd.prog.underlying t)).toList.map (fun f => (f.type, f.offset)) = L)
    (h : DataW.trod enc Tryd.prog W base sp held fuel t cs = some x) : cs.length = Tryd.prog.cellsOf t ∧ ∃ n : Nat, ∀ (i : Nat) (ty : TypeId) (off : Nat), L[i]? = some (ty, off) → ∃ y, DataW.trod enc Tryd.prog W base sp held n ty ((cs.drop off).take (Tryd.prog.cellsOf ty)) = some y := by
  obtain ⟨xs, n, -, -, hl, hxl, hf⟩ := DataW.trod_struct (fsOf_spec ht) h
  refine ⟨hl, n, fun i ty off hi => ?_⟩
  rw [← hL, List.getElem?_map, Option.map_eq_some_iff] at hi
  obtain ⟨f, hf1, hf2⟩ := hi
  have hf3 : (fsOf (Tryd.prog.underlying t))[i]? = some f := by simpa using hf1
  have h2 := hf i f hf3
  have hi2 : i < xs.length := by rw [hxl]; exact (Array.getElem?_eq_some_iff.1 hf3).1
  injection hf2 with e1 e2
  rw [e1, e2, List.getElem?_eq_getElem hi2] at h2
  exact ⟨_, h2⟩
theorem cut_at (cs : List Value) (k n : Nat) : cs.drop k = (cs.drop k).take n ++ cs.drop (k + n) := by
  rw [← List.drop_drop]; exact (List.take_append_drop _ _).symm
theorem open_claim {W : World} {base : Nat} {v : Value} {d : DataW H} {ps : List MemPlace} (hok : Value.okWide Tryd.prog W .any base 26 v) (h : DataW.Trod enc Tryd.prog W 0 (fun _ => true) true 26 v d ps) :
    ∃ (M N : Int) (x : Hs) (ao : Option Addr) (l : List Hs) (cp : Nat) (y : Hs), v = .agg (clmA M N x ao l.length cp y) ∧ (-9223372036854775808 ≤ M ∧ M ≤ 9223372036854775807) ∧ (-9223372036854775808 ≤ N ∧ N ≤ 9223372036854775807) ∧ Hts W ao l ∧ l.length ≤ cp ∧ cp ≤ maxLen := by
  obtain ⟨fs, hfs⟩ := claimU
  simp only [Value.okWide, hfs] at hok
  obtain ⟨cs, rfl, -, -⟩ := hok
  obtain ⟨fuel, hf⟩ := h
  obtain ⟨hl, n, hel⟩ := fields_of (t := 26) (by kernel_rfl) (L := [(3, 0), (3, 1), (23, 2), (24, 34), (23, 35)]) (by kernel_rfl) hf
  rw [show Tryd.prog.cellsOf 26 = 67 by kernel_rfl] at hl
  obtain ⟨_, h0⟩ := hel 0 _ _ rfl
  obtain ⟨_, h1⟩ := hel 1 _ _ rfl
  obtain ⟨_, h2⟩ := hel 2 _ _ rfl
  obtain ⟨_, h3⟩ := hel 3 _ _ rfl
  obtain ⟨_, h4⟩ := hel 4 _ _ rfl
  rw [show Tryd.prog.cellsOf 3 = 1 by kernel_rfl] at h0 h1
  rw [show Tryd.prog.cellsOf 23 = 32 by kernel_rfl] at h2 h4
  rw [show Tryd.prog.cellsOf 24 = 1 by kernel_rfl] at h3
  obtain ⟨M, e0, -, w0⟩ := DataW.trod_int (show Tryd.prog.underlying 3 = some (.int .i64) by kernel_rfl) h0
  obtain ⟨N, e1, -, w1⟩ := DataW.trod_int (show Tryd.prog.underlying 3 = some (.int .i64) by kernel_rfl) h1
  obtain ⟨x, e2⟩ := hash_cells h2
  obtain ⟨ao, l, cp, e3, hH, hc, hm⟩ := hts_of_slice h3
  obtain ⟨y, e4⟩ := hash_cells h4
  refine ⟨M, N, x, ao, l, cp, y, ?_, wf_i64 w0, wf_i64 w1, hH, hc, hm⟩
  have : (Value.agg cs).cells.toList = clm M N x (.slice ao l.length cp) y := by
    obtain ⟨C, hC⟩ : ∃ C, C = (Value.agg cs).cells.toList := ⟨_, rfl⟩
    rw [← hC] at e0 e1 e2 e3 e4 hl ⊢
    rw [show C = C.drop 0 from rfl, cut_at C 0 1, e0, cut_at C (0 + 1) 1, e1, cut_at C (0 + 1 + 1) 32, e2, cut_at C (0 + 1 + 1 + 32) 1, e3, cut_at C (0 + 1 + 1 + 32 + 1) 32, e4, List.drop_of_length_le (by omega)]
    simp [clm]
  have h9 : cs = clmA M N x ao l.length cp y := by
    apply Array.ext'
    rw [List.toList_toArray]
    exact this
  rw [h9]
end
end Go.Proofs.YtadiijieldldhaaDoor
