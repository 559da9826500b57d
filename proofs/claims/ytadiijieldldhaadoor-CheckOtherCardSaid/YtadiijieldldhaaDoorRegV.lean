/-
  A load that comes up ahead of a region's last stores by way of a call. Of whatever program.
-/
import Derived.Test.YtadiijieldldhaaDoorRegion
namespace Go.Proofs.YtadiijieldldhaaDoor
open Go Go.RowKit
section
variable {P : Program} {ops : Array Oper} {Q : Exit → Act → World → Prop} {md : Region.Mode} {S : World → Prop} {tail : List Nat}
/-- operation j binds itself behind operation i -/
def edgeOn (md : Region.Mode) (ops : Array Oper) (j i : Nat) : Bool := match ops[j]? with
  | some oj => oj.after.any fun e => Region.binds md e && e.on == i
  | none => false
theorem edgeOn_spec {j i : Nat} (h : edgeOn md ops j i = true) : ∃ o, ops[j]? = some o ∧ ∃ e ∈ o.after, Region.binds md e = true ∧ e.on = i := by
  unfold edgeOn at h
  split at h
  · rename_i o ho
    simp only [Array.any_eq_true, Bool.and_eq_true, beq_iff_eq] at h
    obtain ⟨q, hq, hb, he⟩ := h
    exact ⟨o, ho, _, Array.getElem_mem hq, hb, he⟩
  · cases h
/-- operation i comes up ahead of every operation of the tail, by itself or by operation k -/
def aheadVia (md : Region.Mode) (ops : Array Oper) (tail : List Nat) (i k : Nat) : Bool := (tail.all fun j => edgeOn md ops j i || edgeOn md ops j k) && edgeOn md ops k i
theorem wpAnyN_firstV (k : Nat) {T : World → Prop} {i : Nat} {oi : Oper} {v : Value} (hi : ops[i]? = some oi) (hsel : ∀ (j : Nat) (o : Oper) cs b, ops[j]? = some o → o.op ≠ .select cs b)
    (hQ : ∀ c a w, Q (.panic c) (a.put oi.dst v) w → Q (.panic c) a w) (hT1 : ∀ w, T w → S w) (hT2 : ∀ w, S w → T w) (hT3 : aheadVia md ops tail i k = true) :
    ∀ (f : Nat) (l : Array Bool) (a : Act) (w : World),
      (∀ j oj, ops[j]? = some oj → j ≠ i → l.getD j true = false → (∀ e ∈ oj.after, Region.binds md e = true → e.on ≠ i) → oi.apart ops oj = true) →
      l.getD k true = false → i ∈ Region.ready md ops l → YieldsIf P ops T oi v a → T w →
      wpAnyN P md ops Q S tail f (l.setIfInBounds i true) (a.put oi.dst v) w → wpAnyN P md ops Q S tail (f + 1) l a w := by
  intro f
  induction f with
  | zero =>
    intro l a w _ _ hr hy hS H
    refine ⟨fun h => (by rw [h] at hr; cases hr), fun j hj => ?_⟩
    by_cases hji : j = i
    · subst hji
      exact hy.wpOp hi hS ⟨fun _ h => h, H⟩
    · have h1 := ready_mono hj hji
      rw [H.1] at h1
      cases h1
  | succ f ih =>
    intro l a w hfree hkf hr hy hS H
    refine ⟨fun h => (by rw [h] at hr; cases hr), fun j hj => ?_⟩
    by_cases hji : j = i
    · subst hji
      exact hy.wpOp hi hS ⟨fun _ h => h, H⟩
    · have h1 := H.2 j (ready_mono hj hji)
      obtain ⟨hjun, oj, hoj, hall⟩ := mem_ready.1 hj
      have hun := (mem_ready.1 hr).1
      have hlti : i < l.size := by
        rcases Nat.lt_or_ge i l.size with h' | h'
        · exact h'
        · simp [h'] at hun
      have hnot : ∀ e ∈ oj.after, Region.binds md e = true → e.on ≠ i := by
        rintro e he hb rfl
        have h2 := hall e he hb
        simp [hlti] at h2 hun
        rw [hun] at h2; cases h2
      have h2 := wpOp_putIf hoj (hfree j oj hoj hji hjun hnot) (fun cs b => hsel i oi cs b hi) (fun cs b => hsel j oj cs b hoj) hQ hy h1
      refine wpOp_mono (fun a' w' h3 => ?_) h2
      obtain ⟨hy', hS', H'⟩ := h3
      obtain ⟨ht, hke⟩ := Bool.and_eq_true_iff.1 hT3
      have hjk : j ≠ k := by
        rintro rfl
        obtain ⟨o, ho, e, he, hb, hon⟩ := edgeOn_spec hke
        obtain rfl := Option.some.inj (hoj.symm.trans ho)
        exact hnot e he hb hon
      refine ⟨hS', ih (l.setIfInBounds j true) a' w' ?_ (by rw [getD_set_ne true hjk]; exact hkf) (ready_mono hr (Ne.symm hji)) hy' ?_ ?_⟩
      · intro k ok hk hki hkun hno
        refine hfree k ok hk hki ?_ hno
        by_cases hjk : j = k
        · subst hjk; exact hjun
        · rwa [getD_set_ne true hjk] at hkun
      · have hjt : j ∉ tail := by
          intro hjt
          have h4 := List.all_eq_true.1 ht j hjt
          rcases Bool.or_eq_true_iff.1 h4 with h4 | h4
          · obtain ⟨o, ho, e, he, hb, hon⟩ := edgeOn_spec h4
            obtain rfl := Option.some.inj (hoj.symm.trans ho)
            exact hnot e he hb hon
          · obtain ⟨o, ho, e, he, hb, hon⟩ := edgeOn_spec h4
            obtain rfl := Option.some.inj (hoj.symm.trans ho)
            have h5 := hall e he hb
            rw [hon] at h5
            have hks : k < l.size := by
              rcases Nat.lt_or_ge k l.size with h' | h'
              · exact h'
              · simp [h'] at hkf
            simp [hks] at h5 hkf
            rw [hkf] at h5; cases h5
        exact hT2 _ (hS' hjt (hT1 _ hS))
      · rw [Array.setIfInBounds_comm _ _ hji]
        exact H'
theorem wpAnyN_takeV (i d k : Nat) {oi : Oper} {v : Value} {f : Nat} {l : Array Bool} {a : Act} {w : World} (hi : ops[i]? = some oi) (hd : oi.dst = some d) (hs : Region.noSelect ops = true) (hf : Region.free md ops l i = true) (hr : (Region.ready md ops l).contains i = true)
    (hah : aheadVia md ops tail i k = true) (hk : l.getD k true = false) (hQ : ∀ c a w, Q (.panic c) (a.put (some d) v) w → Q (.panic c) a w) (hS : S w) (hg : oi.guard = none) (hy : ∀ w, S w → (execOp a.eval oi).run P w = .ok (.value v) w)
    (h : wpAnyN P md ops Q S tail f (l.setIfInBounds i true) (a.put (some d) v) w) : wpAnyN P md ops Q S tail (f + 1) l a w :=
  wpAnyN_firstV k hi (Region.noSelect_spec hs) (by rw [hd]; exact hQ) (fun _ h => h) (fun _ h => h) hah f l a w (Region.free_spec hi hf) hk (by simpa using hr) (.inl ⟨by simp [Region.wanted, hg], hy⟩) hS (by rw [hd]; exact h)
end
end Go.Proofs.YtadiijieldldhaaDoor
