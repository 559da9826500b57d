/-
  A load that comes up ahead of a region's last stores by whatever chain. Of whatever program.
-/
import Derived.Test.YtadiijieldldhaaDoorDag
namespace Go.Proofs.YtadiijieldldhaaDoor
open Go Go.RowKit
section
variable {P : Program} {ops : Array Oper} {Q : Exit → Act → World → Prop} {md : Region.Mode} {S : World → Prop} {tail : List Nat}
/-- what is listed hangs on what is listed -/
def downOK (md : Region.Mode) (ops : Array Oper) (l : Array Bool) : Bool := (List.range ops.size).all fun k => !(l.getD k false) || match ops[k]? with
  | some o => o.after.toList.all fun e => !(Region.binds md e) || l.getD e.on false
  | none => true
theorem downOK_spec {l : Array Bool} (h : downOK md ops l = true) : ∀ k o, ops[k]? = some o → l.getD k false = true → ∀ e ∈ o.after, Region.binds md e = true → l.getD e.on false = true := by
  intro k o ho hk e he hb
  have hks : k < ops.size := (Array.getElem?_eq_some_iff.1 ho).1
  have h1 := List.all_eq_true.1 h k (List.mem_range.2 hks)
  rw [ho, hk] at h1
  simp only [Bool.not_true, Bool.false_or, List.all_eq_true] at h1
  have := h1 e (Array.mem_toList_iff.2 he)
  rw [hb] at this
  simpa using this
theorem wpAnyN_firstT {i : Nat} {oi : Oper} {v : Value} (hi : ops[i]? = some oi) (hsel : ∀ (j : Nat) (o : Oper) cs b, ops[j]? = some o → o.op ≠ .select cs b)
    (hQ : ∀ c a w, Q (.panic c) (a.put oi.dst v) w → Q (.panic c) a w) (hT : tail.all (fun j => hangsT md ops 4 j i) = true) :
    ∀ (f : Nat) (l : Array Bool) (a : Act) (w : World),
      (∀ j oj, ops[j]? = some oj → j ≠ i → l.getD j true = false → (∀ e ∈ oj.after, Region.binds md e = true → e.on ≠ i) → oi.apart ops oj = true) →
      (∀ k o, ops[k]? = some o → l.getD k false = true → ∀ e ∈ o.after, Region.binds md e = true → l.getD e.on false = true) → i ∈ Region.ready md ops l → YieldsIf P ops S oi v a → S w →
      wpAnyN P md ops Q S tail f (l.setIfInBounds i true) (a.put oi.dst v) w → wpAnyN P md ops Q S tail (f + 1) l a w := by
  intro f
  induction f with
  | zero =>
    intro l a w _ _ hr hy hS H
    refine ⟨fun h => (by rw [h] at hr; cases hr), fun j hj => ?_⟩
    by_cases hji : j = i
    · subst hji
      exact hy.wpOp hi hS ⟨fun _ h => h, H⟩
    · have h1 := ready_mono hj hji
      rw [H.1] at h1
      cases h1
  | succ f ih =>
    intro l a w hfree hdown hr hy hS H
    refine ⟨fun h => (by rw [h] at hr; cases hr), fun j hj => ?_⟩
    by_cases hji : j = i
    · subst hji
      exact hy.wpOp hi hS ⟨fun _ h => h, H⟩
    · have h1 := H.2 j (ready_mono hj hji)
      obtain ⟨hjun, oj, hoj, hall⟩ := mem_ready.1 hj
      have hun := (mem_ready.1 hr).1
      have hlti : i < l.size := by
        rcases Nat.lt_or_ge i l.size with h' | h'
        · exact h'
        · simp [h'] at hun
      have hltj : j < l.size := by
        rcases Nat.lt_or_ge j l.size with h' | h'
        · exact h'
        · simp [h'] at hjun
      have hnot : ∀ e ∈ oj.after, Region.binds md e = true → e.on ≠ i := by
        rintro e he hb rfl
        have h2 := hall e he hb
        simp [hlti] at h2 hun
        rw [hun] at h2; cases h2
      have h2 := wpOp_putIf hoj (hfree j oj hoj hji hjun hnot) (fun cs b => hsel i oi cs b hi) (fun cs b => hsel j oj cs b hoj) hQ hy h1
      refine wpOp_mono (fun a' w' h3 => ?_) h2
      obtain ⟨hy', hS', H'⟩ := h3
      refine ⟨hS', ih (l.setIfInBounds j true) a' w' ?_ ?_ (ready_mono hr (Ne.symm hji)) hy' ?_ ?_⟩
      · intro k ok hk hki hkun hno
        refine hfree k ok hk hki ?_ hno
        by_cases hjk : j = k
        · subst hjk; exact hjun
        · rwa [getD_set_ne true hjk] at hkun
      · have hgf : ∀ k, (l.setIfInBounds j true).getD k false = if k = j then true else l.getD k false := by
          intro k
          by_cases hk : k = j
          · subst hk; rw [if_pos rfl]; simp [hltj]
          · rw [if_neg hk, getD_set_ne false (Ne.symm hk)]
        intro k ok hok hkl e he hb
        rw [hgf] at hkl ⊢
        by_cases hei : e.on = j
        · rw [if_pos hei]
        · rw [if_neg hei]
          by_cases hki : k = j
          · subst hki
            obtain rfl := Option.some.inj (hoj.symm.trans hok)
            exact hall e he hb
          · rw [if_neg hki] at hkl
            exact hdown k ok hok hkl e he hb
      · have hjt : j ∉ tail := by
          intro hjt
          have h4 := List.all_eq_true.1 hT j hjt
          have h5 := hangsT_listed hdown i 4 j (fun o' ho' => by obtain rfl := Option.some.inj (hoj.symm.trans ho'); exact hall) h4
          simp [hlti] at h5 hun
          rw [hun] at h5; cases h5
        exact hS' hjt hS
      · rw [Array.setIfInBounds_comm _ _ hji]
        exact H'
theorem wpAnyN_takeT (i d : Nat) {oi : Oper} {v : Value} {f : Nat} {l : Array Bool} {a : Act} {w : World} (hi : ops[i]? = some oi) (hd : oi.dst = some d) (hs : Region.noSelect ops = true) (hf : Region.free md ops l i = true) (hr : (Region.ready md ops l).contains i = true)
    (hah : tail.all (fun j => hangsT md ops 4 j i) = true) (hdn : downOK md ops l = true) (hQ : ∀ c a w, Q (.panic c) (a.put (some d) v) w → Q (.panic c) a w) (hS : S w) (hg : oi.guard = none) (hy : ∀ w, S w → (execOp a.eval oi).run P w = .ok (.value v) w)
    (h : wpAnyN P md ops Q S tail f (l.setIfInBounds i true) (a.put (some d) v) w) : wpAnyN P md ops Q S tail (f + 1) l a w :=
  wpAnyN_firstT hi (Region.noSelect_spec hs) (by rw [hd]; exact hQ) hah f l a w (Region.free_spec hi hf) (downOK_spec hdn) (by simpa using hr) (.inl ⟨by simp [Region.wanted, hg], hy⟩) hS (by rw [hd]; exact h)
end
end Go.Proofs.YtadiijieldldhaaDoor
