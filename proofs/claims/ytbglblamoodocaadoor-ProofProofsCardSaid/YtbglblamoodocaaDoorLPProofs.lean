/-
  The walk of the statement ProofProofs.
-/
import Derived.Test.YtbglblamoodocaaDoorAwake18
import Derived.Test.YtbglblamoodocaaDoorRefPrf
namespace Go.Proofs.YtbglblamoodocaaDoor
open Go Go.RowKit
attribute [local irreducible] sha
theorem prfOut_len (l : List Hs) (m : Int) : (prfOut l m).length ≤ l.length + 1 := by
  unfold prfOut
  split
  · exact prfH_len _ _ _ (by omega) (by omega)
  · simp
set_option maxRecDepth 100000 in
set_option maxHeartbeats 4000000 in
theorem pproofs_any (w : World) (hL : Laid w) (ao : Option Addr) (cp : Nat) (l : List Hs) (hB : Hts w ao l) (hc : l.length ≤ cp) (hm : cp ≤ maxLen) (m : Int) (_hm0 : -9223372036854775808 ≤ m) (_hm1 : m ≤ 9223372036854775807) :
    Calls Tryd.prog 10 #[.slice ao l.length cp, .int .i64 m] w fun e w' => e = .returned (.bool true) ∧ Below w.heap.size w w' := by
  have hl9 : l.length ≤ 9223372036854775807 := Nat.le_trans hc hm
  by_cases hlen : l.length ≤ 80
  · have hd : decide ((80 : Int) < (l.length : Int)) = false := by rw [decide_eq_false_iff_not]; omega
    go_enter Tryd.func10, Tryd.ntmps10
    go_wp2_with fail
    refine (awake18_any w hL).mono ?_
    rintro e w1 ⟨rfl, F1⟩
    have hql := prfOut_len l m
    go_wp2_with fail
    have c1 := prfs_any w1 ao cp l m (hL.below F1 (Nat.le_refl _)) (hB.below F1 (Nat.le_refl _)) hc hm (by omega)
    obtain ⟨q, hq⟩ : ∃ q, q = prfOut l m := ⟨_, rfl⟩
    obtain ⟨E, hE⟩ : ∃ E, E = prfErr l m := ⟨_, rfl⟩
    rw [← hq] at c1 hql
    rw [← hE] at c1
    have HQ := Lib.hid (And.intro hq hE)
    clear hq hE
    refine c1.mono ?_
    rintro e w2 ⟨v2, rfl, O2⟩
    have F2 := Below.then F1 O2.bel
    clear c1
    go_wp2_with fail
    have c2 := refprf_any w2 ao cp l m (hL.below F2 (Nat.le_refl _)) (hB.below F2 (Nat.le_refl _)) hc hm (by omega)
    rw [← HQ.out.1, ← HQ.out.2] at c2
    refine c2.mono ?_
    rintro e w3 ⟨v3, rfl, O3⟩
    have F3 := Below.then F2 O3.bel
    have R2 := O2.row.below O3.bel (fun g e => O2.row.lt g e)
    obtain ⟨a2, cc2, rfl, -, -, -, hY2⟩ := R2.hts
    obtain ⟨a3, cc3, rfl, -, -, -, hY3⟩ := O3.row.hts
    clear c2 O2 F1 F2 R2
    go_wp2_with fail
    have c3 := same_any w3 a2 a3 cc2 cc3 q q hY2 hY3 (by omega) (by omega)
    rw [show decide (q = q) = true by simp] at c3
    refine c3.mono ?_
    rintro e w4 ⟨rfl, G4⟩
    have F4 := Below.then F3 G4
    go_wp2
    go_ret
    exact ⟨rfl, F4⟩
  · have hd : decide ((80 : Int) < (l.length : Int)) = true := by rw [decide_eq_true_eq]; omega
    go_enter Tryd.func10, Tryd.ntmps10
    go_wp2_with fail
    refine (awake18_any w hL).mono ?_
    rintro e w1 ⟨rfl, F1⟩
    go_wp2_with fail
    refine (awake18_any w1 (hL.below F1 (Nat.le_refl _))).mono ?_
    rintro e w2 ⟨rfl, GF2⟩
    have F2 := Below.then F1 GF2
    go_wp2_with fail
    go_ret
    exact ⟨rfl, F2⟩
end Go.Proofs.YtbglblamoodocaaDoor
