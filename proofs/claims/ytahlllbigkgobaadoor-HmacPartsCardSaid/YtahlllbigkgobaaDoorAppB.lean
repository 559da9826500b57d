/-
  append onto a slice literal that is empty, as the walk takes it. Of whatever program.
-/
import Derived.Test.YtahlllbigkgobaaDoorRegion
namespace Go.Proofs.YtahlllbigkgobaaDoor
open Go Go.RowKit
section
variable {P : Program} (w : World)
theorem run_append_emptyB (t tx ty e : TypeId) (i : TypeInfo) (z : Value) (sz bytes : Nat) (ht : P.underlying t = some (.slice e)) (hi : P.info? e = some i) (hz : i.zero = some z) (hsz : i.size = sz) (hby : i.bytes = bytes) (hzs : z.cells.size = sz)
    (g : Nat) (hg : w.heap[g]? = some (.cells #[] e (0, 0))) (x : Value) (m : Nat) (news : List Value) (hs : Src P sz tx x m news w) (h63 : m ≤ maxLen) (hbytes : m * bytes ≤ 140737488355328) :
    ∃ v' w', (Builtin.append_ #[t, tx] ty #[.slice (some ⟨g, 0, none⟩) 0 0, x]).run P w = .ok v' w' ∧ Row w' v' e sz m news ∧ Below w.heap.size w w' ∧ (v'.ownBlock = some g ∨ v'.ownBlock = some w.heap.size ∧ w.heap.size < w'.heap.size) := by
  subst hsz
  subst hby
  have hnl := hs.newsLen
  by_cases hm : m = 0
  · subst hm
    have hn : news = [] := List.eq_nil_of_length_eq_zero (by simpa using hnl)
    subst hn
    have hrun := run_append_room_at w t tx ty e i ht hi g 0 0 0 #[] hg x 0 [] hs (Nat.le_refl _) (by simp)
    have hX : (((#[] : Array Value).toList.take (0 + 0 * i.size) ++ [] ++ (#[] : Array Value).toList.drop (0 + 0 * i.size + ([] : List Value).length)).toArray : Array Value) = #[] := by simp
    rw [hX] at hrun
    refine ⟨_, _, hrun, ⟨by simp, .inr ⟨g, 0, 0, #[], rfl, ?_, Nat.le_refl _, Nat.zero_le _, by simp, fun j hj => by simp at hj⟩⟩, ⟨rfl, rfl, rfl, by simp [World.setRow], fun k hk => ?_⟩, .inl rfl⟩
    · exact setRow_heap w g #[] _ e _ hg
    · by_cases hkg : k = g
      · subst hkg; rw [setRow_heap w k #[] _ e _ hg, hg]
      · exact setRow_other w g k _ hkg
  · have hsmall : m ≤ 9223372036854775807 := by simp only [maxLen] at h63; omega
    have hold : (Builtin.firstCells i.size 0 (.slice (some ⟨g, 0, none⟩) 0 0)).run P w.drew = .ok ([] : List Value).toArray w.drew :=
      run_firstCells_some (P := P) w.drew i.size 0 ⟨g, 0, none⟩ 0 0 [] (by simp) (fun j u hu => by simp at hu)
    have hrun := run_append_grow_src (P := P) w t tx ty e i z ht hi hz (some ⟨g, 0, none⟩) 0 0 [] hold x m news hs (by omega) (by omega) (growslice_fits (by omega) (by simpa using hbytes))
    have hge := grownCap_ge w (0 + m) 0 e
    have hcm := grownCap_le_maxLen w (0 + m) 0 e (by omega)
    refine ⟨_, _, hrun, ⟨hnl, .inr ⟨w.heap.size, 0, _, _, by rw [Nat.zero_add], heap_alloc_new w.drew _, by omega, hcm, ?_, fun j hj => ?_⟩⟩, ⟨rfl, rfl, rfl, by simp, fun k hk => Below.heap_alloc w.drew _ k hk⟩, .inr ⟨rfl, by simp⟩⟩
    · simp only [List.nil_append, Array.size_append, List.size_toArray, hnl, size_zeroCells, hzs, ← Nat.add_mul]
      rw [show m + (grownCap w (0 + m) 0 e - (0 + m)) = grownCap w (0 + m) 0 e from by omega]; omega
    · rw [Nat.zero_add, Array.getElem?_append_left (by simpa using hj)]
      simp
end
theorem wpList_append_emptyB {P : Program} {w : World} {ops : Array Oper} {rest : List Oper} {o : Oper} {a : Act} {Q : Exit → Act → World → Prop} (hgd : o.guard = none) (s x : Operand) (t tx : TypeId) (hop : o.op = Op.call { callee := Callee.builtin Builtin.append, args := #[s, x], argTypes := #[t, tx] })
    (e : TypeId) (i : TypeInfo) (z : Value) (sz bytes : Nat) (ht : P.underlying t = some (.slice e)) (hi : P.info? e = some i) (hz : i.zero = some z) (hsz : i.size = sz) (hby : i.bytes = bytes) (hzs : z.cells.size = sz)
    {g : Nat} (hg : w.heap[g]? = some (.cells #[] e (0, 0))) (hv : a.eval s = .slice (some ⟨g, 0, none⟩) 0 0) {xv : Value} {m : Nat} {news : List Value} (hs : Src P sz tx xv m news w) (hx : a.eval x = xv) (h63 : m ≤ maxLen) (hbytes : m * bytes ≤ 140737488355328)
    (hK : ∀ v' w', Row w' v' e sz m news → Below w.heap.size w w' → (v'.ownBlock = some g ∨ v'.ownBlock = some w.heap.size ∧ w.heap.size < w'.heap.size) → wpList P ops Q rest (a.put o.dst v') w') : wpList P ops Q (o :: rest) a w := by
  refine wpList_plain hgd fun K hK' => ?_
  obtain ⟨v', w', hrun, h1, h2, h3⟩ := run_append_emptyB (P := P) w t tx o.type e i z sz bytes ht hi hz hsz hby hzs g hg xv m news hs h63 hbytes
  unfold Oper.wp
  simp [execOp, hop, resolve, invoke, builtin, hv, hx, hrun, Result.andThen]
  exact hK' _ _ (hK v' w' h1 h2 h3)
end Go.Proofs.YtahlllbigkgobaaDoor
