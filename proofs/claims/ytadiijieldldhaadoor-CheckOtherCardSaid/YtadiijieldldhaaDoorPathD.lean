/-
  Paths and proofs of hashes, named: what the program and the reference of layer 18 answer.
-/
import Derived.Test.YtadiijieldldhaaDoorRefRoot
namespace Go.Proofs.YtadiijieldldhaaDoor
open Go Go.RowKit
attribute [local irreducible] sha
def pathH (l : List Hs) (m : Nat) : List Hs := Tree.path nodeH nilH l m
theorem deep_small (m n : Nat) : Tree.deep m n ≤ n := Tree.deep_le n m n (Nat.le_of_lt Nat.lt_two_pow_self)
theorem pathH_len (l : List Hs) (m : Nat) (h : m < l.length) : (pathH l m).length ≤ l.length := by
  unfold pathH; rw [Tree.path_len nodeH nilH _ l m (Nat.le_refl _) h]; exact deep_small _ _
theorem Own.base {r r' : Nat} {w wd wr : World} {e sz : Nat} {v : Value} {n : Nat} {xs : List Value} (h : Own r' wd wr e sz v n xs) (F : Below r w wd) (hr : r ≤ r') : Own r w wr e sz v n xs :=
  ⟨h.row, fun g e => Nat.le_trans hr (h.own g e), F.trans (h.bel.mono hr), Nat.le_trans hr h.le⟩
def prfH (l : List Hs) (m : Nat) (whole : Bool) : List Hs := Tree.prf nodeH nilH l m whole
theorem prfH_len (l : List Hs) (m : Nat) (whole : Bool) (h1 : 1 ≤ m) (h : m ≤ l.length) : (prfH l m whole).length ≤ l.length + 1 := by
  unfold prfH; rw [Tree.prf_len nodeH nilH _ l m whole (Nat.le_refl _) h1 h]; exact Tree.deep2_le l.length m l.length whole h1 h (Nat.le_of_lt Nat.lt_two_pow_self)
def pathOut (l : List Hs) (m : Int) : List Hs := if 0 ≤ m ∧ m < l.length then pathH l m.toNat else []
def pathErr (l : List Hs) (m : Int) : Int := if 0 ≤ m ∧ m < l.length then 0 else 3
def prfOut (l : List Hs) (m : Int) : List Hs := if 1 ≤ m ∧ m ≤ l.length then prfH l m.toNat true else []
def prfErr (l : List Hs) (m : Int) : Int := if 1 ≤ m ∧ m ≤ l.length then 0 else 3
end Go.Proofs.YtadiijieldldhaaDoor
