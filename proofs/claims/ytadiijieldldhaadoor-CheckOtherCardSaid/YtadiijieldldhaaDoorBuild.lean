/-
  A slice literal of one hash.
-/
import Derived.Test.YtadiijieldldhaaDoorHash
import Derived.Test.YtadiijieldldhaaDoorOwn
namespace Go.Proofs.YtadiijieldldhaaDoor
open Go Go.RowKit
theorem fold_set_at : ∀ (vs pre rest : List Value), rest.length = vs.length → (vs.zipIdx pre.length).foldl (fun cs x => cs.setIfInBounds x.snd x.fst) (pre ++ rest).toArray = (pre ++ vs).toArray := by
  intro vs
  induction vs with
  | nil => intro pre rest h; obtain rfl := List.eq_nil_of_length_eq_zero h; rfl
  | cons v vs ih =>
    intro pre rest h
    cases rest with
    | nil => cases h
    | cons r rest =>
      rw [List.zipIdx_cons, List.foldl_cons]
      have := ih (pre ++ [v]) rest (by simpa using h)
      rw [List.length_append, List.length_singleton, List.append_assoc, List.append_assoc, List.singleton_append, List.singleton_append] at this
      rw [← this]
      congr 1
      simp
theorem fold_set (vs : List Value) (A : Array Value) (h : vs.length = A.size) : vs.zipIdx.foldl (fun cs x => cs.setIfInBounds x.snd x.fst) A = vs.toArray := by
  have := fold_set_at vs [] A.toList (by simpa using h.symm)
  simpa using this
theorem run_build_one (w : World) (x : List B) (hx : x.length = 32) (a : Act) (o : Oper) (y : Operand) (ho : o.op = .buildSlice 24 1 #[(0, y)]) (hy : a.eval y = hashv x) :
    (execOp a.eval o).run Tryd.prog w = .ok (.value (.slice (some ⟨w.heap.size, 0, none⟩) 1 1)) (w.alloc (.cells (x.map b8).toArray 23)) := by
  generalize a.eval = ev at hy ⊢
  have hf : ∀ A : Array Value, A.size = 32 → (x.map b8).zipIdx.foldl (fun cs x => cs.setIfInBounds x.snd x.fst) A = (x.map b8).toArray := fun A hA => fold_set _ A (by simp [hx, hA])
  unfold execOp
  simp only [ho]
  go_simp
/-- the law as the walk takes it -/
theorem wpList_build_one {w : World} {ops : Array Oper} {rest : List Oper} {o : Oper} {a : Act} {Q : Exit → Act → World → Prop} (hg : o.guard = none) (x : List B) (hx : x.length = 32) (y : Operand) (ho : o.op = .buildSlice 24 1 #[(0, y)]) (hy : a.eval y = hashv x)
    (h : wpList Tryd.prog ops Q rest (a.put o.dst (.slice (some ⟨w.heap.size, 0, none⟩) 1 1)) (w.alloc (.cells (x.map b8).toArray 23))) : wpList Tryd.prog ops Q (o :: rest) a w := by
  refine wpList_plain hg fun K hK => ?_
  unfold Oper.wp
  rw [run_build_one w x hx a o y ho hy]
  exact hK _ _ h
theorem Row.shape {w : World} {v : Value} {e sz n : Nat} {xs : List Value} (h : Row w v e sz n xs) : ∃ ao cp, v = .slice ao n cp := by
  rcases h.2 with ⟨rfl, rfl⟩ | ⟨g, off, cap, cur, rfl, _⟩
  · exact ⟨none, 0, rfl⟩
  · exact ⟨_, cap, rfl⟩
end Go.Proofs.YtadiijieldldhaaDoor
