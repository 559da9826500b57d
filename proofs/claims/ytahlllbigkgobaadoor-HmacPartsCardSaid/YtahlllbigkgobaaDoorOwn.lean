/-
  A slice of the call's own under way, of whatever program: what came in stays, the slice lies in new memory.
-/
import Derived.Test.YtahlllbigkgobaaDoorMem
namespace Go.Proofs.YtahlllbigkgobaaDoor
open Go Go.RowKit

structure Own (r : Nat) (w wr : World) (e sz : Nat) (v : Value) (n : Nat) (xs : List Value) : Prop where
  row : Row wr v e sz n xs
  own : ∀ g, v.ownBlock = some g → r ≤ g
  bel : Below r w wr
  le : r ≤ wr.heap.size
theorem Own.nil (w : World) (e sz : Nat) {r : Nat} (hr : r = w.heap.size) : Own r w w e sz (.slice none 0 0) 0 [] :=
  ⟨Row.nil _ _ _, (fun _ e => by cases e), Below.refl _ _, by omega⟩
theorem Own.start {w wr : World} (e sz : Nat) {r : Nat} (hb : Below r w wr) (hr : r ≤ wr.heap.size) : Own r w wr e sz (.slice none 0 0) 0 [] :=
  ⟨Row.nil _ _ _, (fun _ e => by cases e), hb, hr⟩
theorem Own.alloc {r : Nat} {w wr : World} {e sz : Nat} {v : Value} {n : Nat} {xs : List Value} (h : Own r w wr e sz v n xs) (o : Obj) : Own r w (wr.alloc o) e sz v n xs :=
  ⟨h.row.alloc o, h.own, h.bel.alloc h.le o, by rw [alloc_size]; exact Nat.le_succ_of_le h.le⟩
theorem Own.app {r : Nat} {w wr w' : World} {e sz : Nat} {v v' : Value} {n n' : Nat} {xs xs' : List Value} (h : Own r w wr e sz v n xs) (hrow : Row w' v' e sz n' xs') (hg : wr.grownBy w' v.ownBlock)
    (hv : v'.ownBlock = v.ownBlock ∨ v'.ownBlock = some wr.heap.size ∧ wr.heap.size < w'.heap.size) : Own r w w' e sz v' n' xs' := by
  have hs := hg.size
  have hle := h.le
  refine ⟨hrow, fun g hg' => ?_, ⟨hg.os.trans h.bel.os, hg.tape.trans h.bel.tape, hg.output.trans h.bel.output, Nat.le_trans h.bel.size hg.size, fun k hk => (hg.block k (by omega) (fun e => ?_)).trans (h.bel.block k hk)⟩, by omega⟩
  · rcases hv with e | ⟨e, _⟩
    · exact h.own g (e ▸ hg')
    · obtain rfl := Option.some.inj (e.symm.trans hg'); exact hle
  · have := h.own k e.symm; omega
theorem Own.below {r : Nat} {w wr w' : World} {e sz : Nat} {v : Value} {n : Nat} {xs : List Value} (h : Own r w wr e sz v n xs) (hb : Below wr.heap.size wr w') : Own r w w' e sz v n xs :=
  ⟨h.row.below hb (fun g e => h.row.lt g e), h.own, h.bel.trans (hb.mono h.le), by have := hb.size; have := h.le; omega⟩
theorem Own.drewN {r : Nat} {w wr : World} {e sz : Nat} {v : Value} {n : Nat} {xs : List Value} (h : Own r w wr e sz v n xs) (k : Nat) : Own r w (wr.drewN k) e sz v n xs :=
  ⟨h.row.drewN k, h.own, h.bel.trans (below_drewN _ _ k), h.le⟩
/-- a write into a block of the call's own that isn't the slice's -/
theorem Own.upd {r : Nat} {w wr w' : World} {e sz : Nat} {v : Value} {n : Nat} {xs : List Value} (h : Own r w wr e sz v n xs) {b : Nat} (hg : wr.grownBy w' (some b)) (hb : r ≤ b) (hb2 : b < wr.heap.size) (hne : ∀ g, v.ownBlock = some g → g ≠ b) : Own r w w' e sz v n xs :=
  ⟨h.row.grown hg (fun g e e' => hne g e (Option.some.inj e')), h.own, below_upd h.bel hg hb hb2, by have := hg.size; have := h.le; omega⟩
theorem Own.setCell {r : Nat} {w wr : World} {e sz : Nat} {v : Value} {n : Nat} {xs : List Value} (h : Own r w wr e sz v n xs) (a : Addr) (u : Value) (hb : r ≤ a.block) (hne : ∀ g, v.ownBlock = some g → g ≠ a.block) : Own r w (wr.setCell a u) e sz v n xs :=
  ⟨h.row.setCell a u (fun e => hne _ e rfl), h.own, h.bel.setCell hb u, by simpa [World.setCell] using h.le⟩
theorem Own.push {r : Nat} {w wr w' : World} {e sz : Nat} {v v' : Value} {n n' : Nat} {xs xs' : List Value} (h : Own r w wr e sz v n xs) (o : Obj) (hrow : Row w' v' e sz n' xs') (hg : (wr.alloc o).grownBy w' v.ownBlock)
    (hv : v'.ownBlock = v.ownBlock ∨ v'.ownBlock = some (wr.heap.size + 1) ∧ wr.heap.size + 1 < w'.heap.size) : Own r w w' e sz v' n' xs' :=
  (h.alloc o).app hrow hg (by rw [alloc_size]; exact hv)
theorem alloc_lt (w : World) (o : Obj) : w.heap.size < (w.alloc o).heap.size := by rw [alloc_size]; exact Nat.lt_succ_self _
/-- bytes of the call's own -/
abbrev OwnB (r : Nat) (w wr : World) (v : Value) (ts : List B) : Prop := Own r w wr 5 1 v ts.length (ts.map b8)
theorem OwnB.push {r : Nat} {w wr w' : World} {v v' : Value} {ts : List B} {u : B} (h : OwnB r w wr v ts) (o : Obj) (hrow : Row w' v' 5 1 (ts.length + 1) (ts.map b8 ++ [b8 u])) (hg : (wr.alloc o).grownBy w' v.ownBlock)
    (hv : v'.ownBlock = v.ownBlock ∨ v'.ownBlock = some (wr.heap.size + 1) ∧ wr.heap.size + 1 < w'.heap.size) : OwnB r w w' v' (ts ++ [u]) := by
  have := Own.push h o hrow hg hv
  unfold OwnB
  rw [List.length_append, List.map_append]; exact this
theorem OwnB.app {r : Nat} {w wr w' : World} {v v' : Value} {ts us : List B} (h : OwnB r w wr v ts) (hrow : Row w' v' 5 1 (ts.length + us.length) (ts.map b8 ++ us.map b8)) (hg : wr.grownBy w' v.ownBlock)
    (hv : v'.ownBlock = v.ownBlock ∨ v'.ownBlock = some wr.heap.size ∧ wr.heap.size < w'.heap.size) : OwnB r w w' v' (ts ++ us) := by
  have := Own.app h hrow hg hv
  unfold OwnB
  rw [List.length_append, List.map_append]; exact this
/-- the result is a slice of the call's own -/
def RetOwn (w : World) (e sz n : Nat) (xs : List Value) (en : Ending) (w' : World) : Prop := ∃ v, en = .returned v ∧ Own w.heap.size w w' e sz v n xs
theorem Bts.one (w : World) (u : B) (c : Value) (T : TypeId) (hc : c = b8 u) : Bts (w.alloc (.cells #[c] T)) (some ⟨w.heap.size, 0, none⟩) [u] := by
  refine Bts.of fun j hj => ?_
  obtain rfl : j = 0 := by simpa using hj
  have := (Blk.new w #[c] T).cell 0
  rw [Nat.zero_add, this, hc]; rfl
end Go.Proofs.YtahlllbigkgobaaDoor
