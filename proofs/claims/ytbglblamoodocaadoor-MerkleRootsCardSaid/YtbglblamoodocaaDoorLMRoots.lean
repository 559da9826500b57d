/-
  The walk of the statement MerkleRoots.
-/
import Derived.Test.YtbglblamoodocaaDoorAwake16
import Derived.Test.YtbglblamoodocaaDoorRefRoot
namespace Go.Proofs.YtbglblamoodocaaDoor
open Go Go.RowKit
attribute [local irreducible] sha
set_option maxRecDepth 100000 in
set_option maxHeartbeats 4000000 in
theorem mroots_any (w : World) (hL : Laid w) (ao : Option Addr) (cp : Nat) (l : List Hs) (hB : Hts w ao l) (hc : l.length ≤ cp) (hm : cp ≤ maxLen) (n : Int) (hn0 : 0 ≤ n) (hn1 : n ≤ 4294967295) :
    Calls Tryd.prog 5 #[.slice ao l.length cp, .int .u32 n] w fun e w' => e = .returned (.bool true) ∧ Below w.heap.size w w' := by
  have hm1 : l.length ≤ 9223372036854775807 := Nat.le_trans hc hm
  by_cases hlen : l.length ≤ 100
  · have hd : decide ((100 : Int) < (l.length : Int)) = false := by rw [decide_eq_false_iff_not]; omega
    have q1 : IntKind.i64.wrap n = n := IntWalk.i64_in _ (by omega)
    have q2 : IntKind.i64.wrap (-n) = -n := IntWalk.i64_in _ (by omega)
    obtain ⟨z, hz⟩ : ∃ z, z = rootH l := ⟨_, rfl⟩
    have hzl := z.2
    have HZ := Lib.hid hz
    clear hz
    have hs0 : Tree.split (-n).toNat = 0 := by unfold Tree.split; rw [if_pos (by omega)]
    obtain ⟨k, hk⟩ : ∃ k, k = Tree.split n.toNat := ⟨_, rfl⟩
    have HK := Lib.hid (And.intro hk hs0)
    clear hk hs0
    go_enter Tryd.func5, Tryd.ntmps5
    go_wp2_with fail
    refine (awake16_any w hL).mono ?_
    rintro e w1 ⟨rfl, F1⟩
    go_wp2_with fail
    refine (root_any w1 ao cp l (hL.below F1 (Nat.le_refl _)) (hB.below F1 (Nat.le_refl _)) hc hm).mono ?_
    rintro e w2 ⟨rfl, G2⟩
    rw [← HZ.out]
    have F2 := Below.then F1 G2
    clear F1 G2
    go_wp2_with fail
    refine (refroot_any w2 ao cp l (hL.below F2 (Nat.le_refl _)) (hB.below F2 (Nat.le_refl _)) hc hm).mono ?_
    rintro e w3 ⟨rfl, G3⟩
    rw [← HZ.out]
    have F3 := Below.then F2 G3
    clear F2 G3
    go_wp2_with fail
    refine (split_any w3 n (by omega) (by omega)).mono ?_
    rintro e w4 ⟨rfl, rfl⟩
    rw [← HK.out.1]
    go_wp2_with fail
    refine (refsplit_any w4 n (by omega) (by omega)).mono ?_
    rintro e w5 ⟨rfl, rfl⟩
    rw [← HK.out.1]
    go_wp2_with fail
    refine (split_any w5 (-n) (by omega) (by omega)).mono ?_
    rintro e w6 ⟨rfl, rfl⟩
    rw [HK.out.2]
    go_wp2
    go_ret
    exact ⟨rfl, F3⟩
  · have hd : decide ((100 : Int) < (l.length : Int)) = true := by rw [decide_eq_true_eq]; omega
    go_enter Tryd.func5, Tryd.ntmps5
    go_wp2_with fail
    refine (awake16_any w hL).mono ?_
    rintro e w1 ⟨rfl, F1⟩
    go_wp2_with fail
    refine (awake16_any w1 (hL.below F1 (Nat.le_refl _))).mono ?_
    rintro e w2 ⟨rfl, GF2⟩
    have F2 := Below.then F1 GF2
    go_wp2_with fail
    go_ret
    exact ⟨rfl, F2⟩
end Go.Proofs.YtbglblamoodocaaDoor
