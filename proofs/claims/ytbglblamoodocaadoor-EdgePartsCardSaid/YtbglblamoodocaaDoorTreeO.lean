/-
  A tree of the call's own.
-/
import Derived.Test.YtbglblamoodocaaDoorAwake17
namespace Go.Proofs.YtbglblamoodocaaDoor
open Go Go.RowKit
attribute [local irreducible] sha
structure TreeO (r : Nat) (w0 w : World) (t : Nat) (v : Value) (l : List Hs) : Prop where
  tree : TreeAt w t v l
  ge : r ≤ t
  own : ∀ g, v.ownBlock = some g → r ≤ g
  bel : Below r w0 w
theorem TreeO.lt {r : Nat} {w0 w : World} {t : Nat} {v : Value} {l : List Hs} (h : TreeO r w0 w t v l) : t < w.heap.size := h.tree.blk.lt
theorem TreeO.le {r : Nat} {w0 w : World} {t : Nat} {v : Value} {l : List Hs} (h : TreeO r w0 w t v l) : r ≤ w.heap.size := Nat.le_trans h.ge (Nat.le_of_lt h.lt)
theorem TreeO.below {r : Nat} {w0 w w' : World} {t : Nat} {v : Value} {l : List Hs} (h : TreeO r w0 w t v l) (hb : Below w.heap.size w w') : TreeO r w0 w' t v l :=
  ⟨h.tree.below hb, h.ge, h.own, h.bel.trans (hb.mono h.le)⟩
theorem TreeO.drew {r : Nat} {w0 w : World} {t : Nat} {v : Value} {l : List Hs} (h : TreeO r w0 w t v l) : TreeO r w0 w.drew t v l := ⟨h.tree.drew, h.ge, h.own, h.bel.drew⟩
theorem TreeO.new {r : Nat} {w0 w : World} (hb : Below r w0 w) (hr : r ≤ w.heap.size) : TreeO r w0 (w.alloc (.cells zeroT 46)) w.heap.size (.slice none 0 0) [] :=
  ⟨TreeAt.new w, hr, (fun g e => by cases e), hb.alloc hr _⟩
theorem TreeO.push {r : Nat} {w0 w : World} {t : Nat} {v : Value} {l : List Hs} (h : TreeO r w0 w t v l) (hL : Laid w0) (hr : w0.heap.size ≤ r) (x : Hs) (hbig : l.length ≤ 1000000) :
    Calls Tryd.prog 38 #[.pointer (some ⟨t, 0, none⟩), hval x] w fun e w' => e = .returned (.tuple #[]) ∧ ∃ v', TreeO r w0 w' t v' (l ++ [x]) ∧ Fr (fun y => y = t ∨ v.ownBlock = some y) w w' ∧ (v'.ownBlock = v.ownBlock ∨ ∃ y, v'.ownBlock = some y ∧ w.heap.size ≤ y) := by
  have hLt := hL.lt
  have hge := h.ge
  refine (push_any w (hL.below h.bel hr) t v l x h.tree ⟨by omega, by omega⟩ hbig).mono ?_
  rintro e w' ⟨rfl, v', hT, hF, ho⟩
  refine ⟨rfl, v', ⟨hT, h.ge, fun g e => ?_, Below.fr h.bel hF h.le (fun y hy => ?_)⟩, hF, ho⟩
  · rcases ho with e1 | ⟨y, e1, hy⟩
    · exact h.own g (e1 ▸ e)
    · have := Option.some.inj (e1.symm.trans e); have := h.le; omega
  · rcases hy with rfl | hy
    · exact h.ge
    · exact h.own y hy
theorem TreeO.root {r : Nat} {w0 w : World} {t : Nat} {v : Value} {l : List Hs} (h : TreeO r w0 w t v l) (hL : Laid w0) (hr : w0.heap.size ≤ r) (hbig : l.length ≤ 1000000) :
    Calls Tryd.prog 37 #[.pointer (some ⟨t, 0, none⟩)] w fun e w' => e = .returned (hval (rootH l)) ∧ Below w.heap.size w w' :=
  troot_any w (hL.below h.bel hr) t v l h.tree hbig
end Go.Proofs.YtbglblamoodocaaDoor
