/-
  proof.Path and proof.Proof of whatever number; a list the other way round.
-/
import Derived.Test.YtbglblamoodocaaDoorPrf
namespace Go.Proofs.YtbglblamoodocaaDoor
open Go Go.RowKit
attribute [local irreducible] sha
def pathOut (l : List Hs) (m : Int) : List Hs := if 0 ≤ m ∧ m < l.length then pathH l m.toNat else []
def pathErr (l : List Hs) (m : Int) : Int := if 0 ≤ m ∧ m < l.length then 0 else 3
def prfOut (l : List Hs) (m : Int) : List Hs := if 1 ≤ m ∧ m ≤ l.length then prfH l m.toNat true else []
def prfErr (l : List Hs) (m : Int) : Int := if 1 ≤ m ∧ m ≤ l.length then 0 else 3
set_option maxRecDepth 100000 in
set_option maxHeartbeats 4000000 in
theorem paths_any (w : World) (ao : Option Addr) (cp : Nat) (l : List Hs) (m : Int) (hL : Laid w) (hB : Hts w ao l) (hc : l.length ≤ cp) (hm : cp ≤ maxLen) (hbig : l.length ≤ 1000000) :
    Calls Tryd.prog 29 #[.slice ao l.length cp, .int .i64 m] w fun e w' => ∃ v, e = .returned (.tuple #[v, .int .i64 (pathErr l m)]) ∧ OwnH w.heap.size w w' v (pathOut l m) := by
  by_cases h0 : m < 0
  · have hd : decide (m < 0) = true := decide_eq_true h0
    have e1 : pathErr l m = 3 := by unfold pathErr; rw [if_neg (by omega)]
    have e2 : pathOut l m = [] := by unfold pathOut; rw [if_neg (by omega)]
    rw [e1, e2]
    go_enter Tryd.func29, Tryd.ntmps29
    go_wp2
    go_ret2
    exact ⟨_, rfl, Own.nil _ _ _ rfl⟩
  · have hd : decide (m < 0) = false := decide_eq_false h0
    by_cases h1 : (l.length : Int) ≤ m
    · have hd1 : decide ((l.length : Int) ≤ m) = true := decide_eq_true h1
      have e1 : pathErr l m = 3 := by unfold pathErr; rw [if_neg (by omega)]
      have e2 : pathOut l m = [] := by unfold pathOut; rw [if_neg (by omega)]
      rw [e1, e2]
      go_enter Tryd.func29, Tryd.ntmps29
      go_wp2
      go_ret2
      exact ⟨_, rfl, Own.nil _ _ _ rfl⟩
    · have hd1 : decide ((l.length : Int) ≤ m) = false := decide_eq_false h1
      have e1 : pathErr l m = 0 := by unfold pathErr; rw [if_pos (by omega)]
      have e2 : pathOut l m = pathH l m.toNat := by unfold pathOut; rw [if_pos (by omega)]
      rw [e1, e2]
      have c1 := path_aux (l.length + 1) w ao cp l m.toNat (Nat.lt_succ_self _) (by omega) hL hB hc hm hbig
      rw [show ((m.toNat : Nat) : Int) = m by omega] at c1
      obtain ⟨q, hq⟩ : ∃ q, q = pathH l m.toNat := ⟨_, rfl⟩
      rw [← hq] at c1 ⊢
      clear hq e1 e2
      go_enter Tryd.func29, Tryd.ntmps29
      go_wp2_with fail
      refine c1.mono ?_
      rintro e w' ⟨v, rfl, O⟩
      go_wp2
      go_ret2
      exact ⟨_, rfl, O⟩
set_option maxRecDepth 100000 in
set_option maxHeartbeats 4000000 in
theorem prfs_any (w : World) (ao : Option Addr) (cp : Nat) (l : List Hs) (m : Int) (hL : Laid w) (hB : Hts w ao l) (hc : l.length ≤ cp) (hm : cp ≤ maxLen) (hbig : l.length ≤ 1000000) :
    Calls Tryd.prog 31 #[.slice ao l.length cp, .int .i64 m] w fun e w' => ∃ v, e = .returned (.tuple #[v, .int .i64 (prfErr l m)]) ∧ OwnH w.heap.size w w' v (prfOut l m) := by
  by_cases h0 : m < 1
  · have hd : decide (m < 1) = true := decide_eq_true h0
    have e1 : prfErr l m = 3 := by unfold prfErr; rw [if_neg (by omega)]
    have e2 : prfOut l m = [] := by unfold prfOut; rw [if_neg (by omega)]
    rw [e1, e2]
    go_enter Tryd.func31, Tryd.ntmps31
    go_wp2
    go_ret2
    exact ⟨_, rfl, Own.nil _ _ _ rfl⟩
  · have hd : decide (m < 1) = false := decide_eq_false h0
    by_cases h1 : (l.length : Int) < m
    · have hd1 : decide ((l.length : Int) < m) = true := decide_eq_true h1
      have e1 : prfErr l m = 3 := by unfold prfErr; rw [if_neg (by omega)]
      have e2 : prfOut l m = [] := by unfold prfOut; rw [if_neg (by omega)]
      rw [e1, e2]
      go_enter Tryd.func31, Tryd.ntmps31
      go_wp2
      go_ret2
      exact ⟨_, rfl, Own.nil _ _ _ rfl⟩
    · have hd1 : decide ((l.length : Int) < m) = false := decide_eq_false h1
      have e1 : prfErr l m = 0 := by unfold prfErr; rw [if_pos (by omega)]
      have e2 : prfOut l m = prfH l m.toNat true := by unfold prfOut; rw [if_pos (by omega)]
      rw [e1, e2]
      have c1 := prf_aux (l.length + 1) w ao cp l m.toNat true (Nat.lt_succ_self _) (by omega) (by omega) hL hB hc hm hbig
      rw [show ((m.toNat : Nat) : Int) = m by omega] at c1
      obtain ⟨q, hq⟩ : ∃ q, q = prfH l m.toNat true := ⟨_, rfl⟩
      rw [← hq] at c1 ⊢
      clear hq e1 e2
      go_enter Tryd.func31, Tryd.ntmps31
      go_wp2_with fail
      refine c1.mono ?_
      rintro e w' ⟨v, rfl, O⟩
      go_wp2
      go_ret2
      exact ⟨_, rfl, O⟩
end Go.Proofs.YtbglblamoodocaaDoor
