/-
  Guarded calls in a region that draws its order. Of whatever program.
-/
import Derived.Test.YtahlllbigkgobaaDoorRegion
namespace Go.Proofs.YtahlllbigkgobaaDoor
open Go Go.RowKit
section
variable {P : Program} {ops : Array Oper} {Q : Exit → Act → World → Prop} {md : Region.Mode} {S : World → Prop} {tail : List Nat}
theorem wpAnyN_oneW {i : Nat} {oi : Oper} {f : Nat} {l : Array Bool} {a : Act} {w : World} (hr : Region.ready md ops l = [i]) (hi : ops[i]? = some oi) (hw : Region.wanted oi (yielded ops a.tmps) = true)
    (h : ∀ K : Act → World → Prop, (∀ a' w', (i ∉ tail → S w → S w') → wpAnyN P md ops Q S tail f (l.setIfInBounds i true) a' w' → K a' w') → oi.wp P a w K Q) : wpAnyN P md ops Q S tail (f + 1) l a w := by
  refine ⟨fun h0 => (by rw [hr] at h0; cases h0), fun j hj => ?_⟩
  rw [hr] at hj
  obtain rfl : j = i := by simpa using hj
  unfold wpOp
  simp only [hi, hw, if_true]
  exact .inl (h _ fun a' w' h1 h2 => ⟨h1, h2⟩)
/-- a guarded call that is carried out, and nothing else, may come up -/
theorem wpAnyN_callW (i fn : Nat) (d : Option Tmp) (xs : List Operand) (args : List Value) {ats : Array TypeId} {oi : Oper} {f : Nat} {l : Array Bool} {a : Act} {w : World} (hr : Region.ready md ops l = [i])
    (hi : ops[i]? = some oi) (ho : oi.op = .call { callee := .value (.func fn), args := xs.toArray, argTypes := ats }) (hd : oi.dst = d) (hw : Region.wanted oi (yielded ops a.tmps) = true) (hxs : xs.map a.eval = args)
    (he : ∀ args w, (callFunc fn args).run P w = .ok (.enter fn args) w) (h : Calls P fn args.toArray w fun e w' => ∃ v, e = .returned v ∧ (i ∉ tail → S w → S w') ∧ wpAnyN P md ops Q S tail f (l.setIfInBounds i true) (a.put d v) w') : wpAnyN P md ops Q S tail (f + 1) l a w := by
  refine wpAnyN_oneW hr hi hw fun K hK => ?_
  obtain ⟨dst, op, ty, pos, after, guard⟩ := oi
  subst ho hd hxs
  unfold Oper.wp
  have e1 : execOp a.eval { dst := dst, op := .call { callee := .value (.func fn), args := xs.toArray, argTypes := ats }, type := ty, pos := pos, after := after, guard := guard } = callFunc fn (#[] ++ xs.toArray.map a.eval ++ #[]) := rfl
  rw [e1, Array.empty_append, Array.append_empty, List.map_toArray, he]
  refine h.mono fun e w' ⟨v, he, h1, h2⟩ => ?_
  subst he
  exact hK _ _ h1 h2
end
end Go.Proofs.YtahlllbigkgobaaDoor
