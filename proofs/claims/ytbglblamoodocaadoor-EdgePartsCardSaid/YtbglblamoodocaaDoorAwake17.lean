/-
  What the statements of layer 17 ask first; a new tree.
-/
import Derived.Test.YtbglblamoodocaaDoorRefEdge
import Derived.Test.YtbglblamoodocaaDoorAwake18
namespace Go.Proofs.YtbglblamoodocaaDoor
open Go Go.RowKit
attribute [local irreducible] sha
def oneL : List B := (oneH 1).1
@[go_sem] theorem eq_hash_oneL (xs : List B) (hx : xs.length = 32) (w : World) :
    (Op.equalIn 10000 28 (.agg (xs.map b8).toArray) (.agg #[Value.int IntKind.u8 1, Value.int IntKind.u8 0, Value.int IntKind.u8 0, Value.int IntKind.u8 0, Value.int IntKind.u8 0, Value.int IntKind.u8 0, Value.int IntKind.u8 0, Value.int IntKind.u8 0, Value.int IntKind.u8 0, Value.int IntKind.u8 0, Value.int IntKind.u8 0, Value.int IntKind.u8 0, Value.int IntKind.u8 0, Value.int IntKind.u8 0, Value.int IntKind.u8 0, Value.int IntKind.u8 0, Value.int IntKind.u8 0, Value.int IntKind.u8 0, Value.int IntKind.u8 0, Value.int IntKind.u8 0, Value.int IntKind.u8 0, Value.int IntKind.u8 0, Value.int IntKind.u8 0, Value.int IntKind.u8 0, Value.int IntKind.u8 0, Value.int IntKind.u8 0, Value.int IntKind.u8 0, Value.int IntKind.u8 0, Value.int IntKind.u8 0, Value.int IntKind.u8 0, Value.int IntKind.u8 0, Value.int IntKind.u8 0])).run Tryd.prog w = .ok (xs == oneL) w :=
  eq_hash xs oneL hx (by simp [oneL, oneH]) w
def zeroT : Array Value := #[.int .i64 0, .slice none 0 0]
set_option maxRecDepth 100000 in
theorem infoT : (Tryd.prog.info? 46).bind (·.zero) = some (.agg zeroT) := by kernel_rfl
theorem run_zeroT (w : World) : (zeroValue 46).run Tryd.prog w = .ok (.agg zeroT) w := by
  have h := infoT
  cases hq : Tryd.prog.info? 46 with
  | none => rw [hq] at h; cases h
  | some i =>
    rw [hq] at h
    have h : i.zero = some (.agg zeroT) := h
    simp [zeroValue, typeInfo, hq, h]
theorem TreeAt.new (w : World) : TreeAt (w.alloc (.cells zeroT 46)) w.heap.size (.slice none 0 0) [] :=
  ⟨Blk.new w _ _, by unfold edgeH; rw [Tree.edge_nil]; exact Row.nil _ _ _, fun e => by cases e⟩
set_option maxRecDepth 100000 in
set_option maxHeartbeats 4000000 in
theorem awake17_any (w : World) (hL : Laid w) : Calls Tryd.prog 33 #[] w fun e w' => e = .returned (.bool true) ∧ Below w.heap.size w w' := by
  obtain ⟨r, hr⟩ : ∃ r, r = w.heap.size := ⟨_, rfl⟩
  obtain ⟨w1, hw1⟩ : ∃ w1, w1 = w.alloc (.cells zeroT 46) := ⟨_, rfl⟩
  have F1 : Below r w w1 := by rw [hw1, hr]; exact below_alloc1 _ _
  have hT1 : TreeAt w1 r (.slice none 0 0) [] := by rw [hw1, hr]; exact TreeAt.new w
  have hLt := hL.lt
  have hL1 : Laid w1 := hL.below F1 (by omega)
  have c1 := push_any w1 hL1 r (.slice none 0 0) [] (oneH 1) hT1 ⟨by omega, by omega⟩ (by simp)
  have HR := Lib.hid (And.intro hw1 hr)
  have hs1 : r < w1.heap.size := hT1.blk.lt
  have hzt := fun w => run_zeroT w
  have HL := Lib.hid hLt
  clear hw1 hr hT1 hL1 hLt
  go_enter Tryd.func33, Tryd.ntmps33
  go_wp2_with fail
  change Calls _ _ _ (w.alloc (.cells zeroT 46)) _
  rw [← HR.out.1, ← HR.out.2]
  refine c1.mono ?_
  rintro e w2 ⟨rfl, v2, hT2, G2, -⟩
  have F2 : Below r w w2 := Below.fr F1 G2 (by omega) (fun x hx => by
    rcases hx with rfl | hx
    · exact Nat.le_refl _
    · cases hx)
  have hs2 : r < w2.heap.size := hT2.blk.lt
  replace hT2 : TreeAt w2 r v2 [oneH 1] := hT2
  have c2 := tlen_any w2 r v2 [oneH 1] hT2
  have c3 := troot_any w2 (hL.below F2 (by rw [HR.out.2]; exact Nat.le_refl _)) r v2 [oneH 1] hT2 (by simp)
  rw [show rootH [oneH 1] = oneH 1 from Tree.root_one _ _ _] at c3
  obtain ⟨u, hu⟩ : ∃ u, u = oneH 1 := ⟨_, rfl⟩
  have hul := u.2
  have hut : (u.1 == oneL) = true := by rw [beq_iff_eq, hu]; rfl
  rw [← hu] at c3
  clear c1 F1 G2 hu hT2 hs1
  go_wp2_with fail
  refine c2.mono ?_
  rintro e w3 ⟨rfl, hw3⟩
  rw [hw3]
  clear hw3 c2
  clear w3
  go_wp2_with fail
  refine c3.mono ?_
  rintro e w4 ⟨rfl, G4⟩
  have F4 := F2.trans (G4.mono (Nat.le_of_lt hs2))
  rw [HR.out.2] at F4
  clear c3 F2 G4 hs2
  go_wp2
  go_ret
  exact ⟨rfl, F4⟩
end Go.Proofs.YtbglblamoodocaaDoor
