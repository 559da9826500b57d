/-
  The walk of the statement Sha256Nil.
-/
import Derived.Test.YtahlllbigkgobaaDoorLaws05
import Derived.Test.YtahlllbigkgobaaDoorSumNil
namespace Go.Proofs.YtahlllbigkgobaaDoor
open Go.RowKit
attribute [local irreducible] sha
theorem sha_nil : (sha []).take 4 = [227, 176, 196, 66] := by
  obtain ⟨T, hT⟩ : ∃ T : List B, [] ++ pad ([] : List B).length = T := ⟨_, rfl⟩
  have hl : T.length = 64 := by rw [← hT]; decide
  have h := compressN_eq st0 T hl
  have h2 : compressN st0.a.toNat st0.b.toNat st0.c.toNat st0.d.toNat st0.e.toNat st0.f.toNat st0.g.toNat st0.h.toNat (T.map BitVec.toNat) = [3820012610, 2566659092, 2600203464, 2574235940, 665731556, 1687917388, 2761267483, 2018687061] := by
    rw [← hT]; decide +kernel
  rw [sha_one _ T hT hl, st_of _ _ _ _ _ _ _ _ _ (h.symm.trans h2)]
  decide
theorem sha_nil_ne : (sha [] == List.replicate 32 0) = false := by
  rw [beq_eq_false_iff_ne]
  intro h
  have := sha_nil
  rw [h] at this
  exact absurd this (by decide)
theorem zero32_eq : zero32 = ((List.replicate 32 (0 : B)).map b8).toArray := rfl
theorem eq_nil_zero (W : World) : (Op.equalIn 10000 25 (.agg ((sha []).map b8).toArray) (.agg zero32)).run Tryd.prog W = .ok false W := by
  rw [zero32_eq, eq_hash _ _ (sha_len _) (by simp), sha_nil_ne]
set_option maxRecDepth 100000 in
set_option maxHeartbeats 4000000 in
theorem nil05_any (w : World) (hL : Laid w) (ao : Option Addr) (cp : Nat) (bs : List B) (_hB : Bts w ao bs) (hc : bs.length ≤ cp) (hm : cp ≤ maxLen) :
    Calls Tryd.prog 6 #[.slice ao bs.length cp] w fun e w' => e = .returned (.bool true) ∧ Below w.heap.size w w' := by
  replace hm : bs.length ≤ 9223372036854775807 := Nat.le_trans hc hm
  have heq := eq_nil_zero
  by_cases hlen : bs.length ≤ 2000
  · have hd : decide ((2000 : Int) < (bs.length : Int)) = false := by rw [decide_eq_false_iff_not]; omega
    go_enter Tryd.func6, Tryd.ntmps6
    go_wp2_with fail
    refine (awake05_any w hL).mono ?_
    rintro e w1 ⟨rfl, F1⟩
    go_wp2_with fail
    refine (write_nil ao bs.length cp w1).mono ?_
    rintro e w2 ⟨rfl, rfl⟩
    go_wp2_with fail
    obtain ⟨b, hb⟩ : ∃ b, b = w1.heap.size := ⟨_, rfl⟩
    obtain ⟨wA, hwA⟩ : ∃ wA, wA = w1.alloc (.cells zeroD 36) := ⟨_, rfl⟩
    have hLt := hL.lt
    have hDA : Dig wA b (.slice none 0 0) [] := by rw [hwA, hb]; exact Dig.new (Blk.new w1 zeroD 36) (by have := F1.size; omega) (by have := F1.size; omega)
    have FA : Below w.heap.size w wA := by rw [hwA]; exact F1.alloc F1.size _
    change Calls _ _ _ (w1.alloc (.cells zeroD 36)) _
    rw [← hwA, ← hb]
    clear hwA hb
    have hLA := hL.below FA (Nat.le_refl _)
    clear F1
    clear w1
    refine (sum_nil wA hLA).mono ?_
    rintro e w3 ⟨rfl, G3⟩
    have hD3 := hDA.below G3 (Nat.le_refl _)
    have F3 := Below.then FA G3
    clear hDA FA hLA G3
    clear wA
    go_wp2_with fail
    refine (sum_none_any w3 (hL.below F3 (Nat.le_refl _))).mono ?_
    rintro e w4 ⟨rfl, GF4⟩
    have F4 := Below.then F3 GF4
    go_wp2_with fail
    have hD4 := hD3.below GF4 (Nat.le_refl _)
    refine (sum_any b _ _ w4 (hL.below F4 (Nat.le_refl _)) hD4 (by simp)).mono ?_
    rintro e w5 ⟨rfl, GF5⟩
    have F5 := Below.then F4 GF5
    go_wp2_with fail
    refine (sum_none_any w5 (hL.below F5 (Nat.le_refl _))).mono ?_
    rintro e w6 ⟨rfl, GF6⟩
    have F6 := Below.then F5 GF6
    go_wp2_with fail
    refine (sum_none_any w6 (hL.below F6 (Nat.le_refl _))).mono ?_
    rintro e w7 ⟨rfl, GF7⟩
    have F7 := Below.then F6 GF7
    go_wp2_with fail
    go_ret
    exact ⟨rfl, F7⟩
  · have hd : decide ((2000 : Int) < (bs.length : Int)) = true := by rw [decide_eq_true_eq]; omega
    go_enter Tryd.func6, Tryd.ntmps6
    go_wp2_with fail
    refine (awake05_any w hL).mono ?_
    rintro e w1 ⟨rfl, F1⟩
    go_wp2_with fail
    refine (awake05_any w1 (hL.below F1 (Nat.le_refl _))).mono ?_
    rintro e w2 ⟨rfl, F2⟩
    go_wp2
    go_ret
    exact ⟨rfl, F1.trans (F2.mono F1.size)⟩
end Go.Proofs.YtahlllbigkgobaaDoor
