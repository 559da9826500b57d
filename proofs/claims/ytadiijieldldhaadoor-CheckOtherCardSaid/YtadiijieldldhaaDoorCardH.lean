/-
  Arguments opened: hashes, lists of hashes, pairs, records of them.
-/
import Derived.Test.YtadiijieldldhaaDoorCard
import Derived.Test.YtadiijieldldhaaDoorHs
import Derived.Deep.Slices
namespace Go.Proofs.YtadiijieldldhaaDoor
open Go Go.ChangeShapes Go.WideShapes Go.ChangeAt Go.RowKit Go.Deep
theorem wf_u32 {z : Int} (h : (Lit.int .u32 z).wf = true) : 0 ≤ z ∧ z ≤ 4294967295 := by
  simpa [Lit.wf, IntKind.min, IntKind.max, IntKind.bits, IntKind.signed] using h
theorem wf_i64 {z : Int} (h : (Lit.int .i64 z).wf = true) : -9223372036854775808 ≤ z ∧ z ≤ 9223372036854775807 := by
  simpa [Lit.wf, IntKind.min, IntKind.max, IntKind.bits, IntKind.signed] using h
instance : Inhabited Hs := ⟨nilH⟩
section
variable {H : Type} {enc : TypeId × Value → H}
def un8 : Value → B
  | .int _ z => BitVec.ofInt 8 z
  | _ => 0
/-- the cells of a hash -/
theorem hash_cells {W : World} {base : Nat} {sp : Nat → Bool} {held : Bool} {fuel : Nat} {cs : List Value} {x : DataW H × List MemPlace} (h : DataW.trod enc Tryd.prog W base sp held fuel 23 cs = some x) : ∃ u : Hs, cs = u.1.map b8 := by
  obtain ⟨xs, m, rfl, rfl, hl, hxl, hf⟩ := DataW.trod_array (show Tryd.prog.underlying 23 = some (.array 32 5) by kernel_rfl) h
  rw [show Tryd.prog.cellsOf 23 = 32 by kernel_rfl] at hl
  have each : ∀ i (hi : i < cs.length), cs[i] = b8 (un8 cs[i]) := by
    intro i hi
    have := hf i (by omega)
    rw [show Tryd.prog.cellsOf 5 = 1 by kernel_rfl, Nat.mul_one, List.drop_eq_getElem_cons hi, List.take_succ_cons, List.take_zero, List.getElem?_eq_getElem (by omega)] at this
    obtain ⟨z, hz, -, hw⟩ := DataW.trod_int (show Tryd.prog.underlying 5 = some (.int .u8) by kernel_rfl) this
    have hz' : cs[i] = .int .u8 z := List.head_eq_of_cons_eq hz
    rw [hz']
    exact b8_ofInt (wf_u8 hw)
  refine ⟨⟨cs.map un8, by rw [List.length_map]; exact hl⟩, ?_⟩
  apply List.ext_getElem (by simp)
  intro i h1 h2
  rw [List.getElem_map, List.getElem_map]; exact each i h1
theorem open_hash {W : World} {base : Nat} {v : Value} {d : DataW H} {ps : List MemPlace} (hok : Value.okWide Tryd.prog W .any base 23 v) (h : DataW.Trod enc Tryd.prog W 0 (fun _ => true) true 23 v d ps) :
    ∃ u : Hs, v = hval u := by
  simp only [Value.okWide, show Tryd.prog.underlying 23 = some (.array 32 5) by kernel_rfl] at hok
  obtain ⟨cs, rfl, -, -⟩ := hok
  obtain ⟨fuel, hf⟩ := h
  obtain ⟨u, hu⟩ := hash_cells hf
  refine ⟨u, ?_⟩
  have : cs = (u.1.map b8).toArray := by
    apply Array.ext'
    simpa [Value.cells] using hu
  rw [this]
/-- a list of hashes, opened -/
theorem hts_of_slice {W : World} {base fuel : Nat} {cs : List Value} {x : DataW H × List MemPlace} (hf : DataW.trod enc Tryd.prog W base (fun _ => true) true fuel 24 cs = some x) :
    ∃ (ao : Option Addr) (l : List Hs) (cp : Nat), cs = [.slice ao l.length cp] ∧ Hts W ao l ∧ l.length ≤ cp ∧ cp ≤ maxLen := by
  rcases open_slice (show Tryd.prog.underlying 24 = some (.slice 23) by kernel_rfl) hf with ⟨rfl, -⟩ | ⟨a, len, cap, m, n, D, Pl, rfl, -, hl, hm, hmm, -, hel⟩
  · exact ⟨none, [], 0, rfl, Hts.nil _ _, Nat.le_refl _, Nat.zero_le _⟩
  · simp only [if_true] at hmm
    subst hmm
    rw [show Tryd.prog.cellsOf 23 = 32 by kernel_rfl] at hel
    obtain ⟨V, hV⟩ := choose_lt (α := Hs) (p := fun i u => ∀ j, j < 32 → W.cell? ((a.add (i * 32)).add j) = (u.1.map b8)[j]?) (fun i hi => by
      obtain ⟨cs', h1, h2⟩ := hel i hi
      obtain ⟨-, hlen, hc⟩ := World.cells?_some h1
      obtain ⟨u, rfl⟩ := hash_cells h2
      exact ⟨u, hc⟩)
    refine ⟨some a, (List.range len).map V, m, by simp, ?_, by simpa using hl, hm⟩
    by_cases h0 : len = 0
    · subst h0; exact Hts.nil _ _
    · have hs : ((a.add (0 * 32)).add 0).spot = none := by
        have h1 := hV 0 (by omega) 0 (by omega)
        have hx := (V 0).2
        rw [List.getElem?_eq_getElem (by rw [List.length_map]; omega)] at h1
        exact spot_none h1
      rcases a with ⟨b, off, s⟩
      obtain rfl : s = none := by
        rcases s with _ | s
        · rfl
        · exfalso; simp [Addr.add] at hs
      refine hts_of fun i hi j v hv => ?_
      have hi' : i < len := by simpa using hi
      have hx := (V i).2
      have hj : j < 32 := by
        have := (List.getElem?_eq_some_iff.1 hv).1
        simp at this; omega
      have := hV i (by omega) j hj
      rw [Addr.add_lit, Addr.add_lit] at this
      rw [this, ← hv]
      simp
theorem open_hts {W : World} {base : Nat} {v : Value} {d : DataW H} {ps : List MemPlace} (hval : Value.okWide Tryd.prog W .any base 24 v) (h : DataW.Trod enc Tryd.prog W 0 (fun _ => true) true 24 v d ps) :
    ∃ (ao : Option Addr) (l : List Hs) (cp : Nat), v = .slice ao l.length cp ∧ Hts W ao l ∧ l.length ≤ cp ∧ cp ≤ maxLen := by
  obtain ⟨a1, len, cap, rfl⟩ := okWide_slice (show Tryd.prog.underlying 24 = some (.slice 23) by kernel_rfl) hval
  obtain ⟨fuel, hf⟩ := h
  obtain ⟨ao, l, cp, hcs, r⟩ := hts_of_slice hf
  refine ⟨ao, l, cp, ?_, r⟩
  simpa [Value.cells] using hcs
end
end Go.Proofs.YtadiijieldldhaaDoor
