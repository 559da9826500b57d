/-
  The walk of the statement MerkleHashes.
-/
import Derived.Test.YtbglblamoodocaaDoorAwake16
import Derived.Test.YtbglblamoodocaaDoorRefRoot
import Derived.Test.YtbglblamoodocaaDoorReg2
namespace Go.Proofs.YtbglblamoodocaaDoor
open Go Go.RowKit
attribute [local irreducible] sha
set_option maxRecDepth 100000 in
set_option maxHeartbeats 4000000 in
theorem mhashes_any (w : World) (hL : Laid w) (ao : Option Addr) (cp : Nat) (bs : List B) (hB : Bts w ao bs) (hc : bs.length ≤ cp) (hm : cp ≤ maxLen) (x y : Hs) :
    Calls Tryd.prog 4 #[.slice ao bs.length cp, hval x, hval y] w fun e w' => e = .returned (.bool true) ∧ Below w.heap.size w w' := by
  replace hm : bs.length ≤ 9223372036854775807 := Nat.le_trans hc hm
  obtain ⟨r, hr⟩ : ∃ r, r = w.heap.size := ⟨_, rfl⟩
  obtain ⟨w0, hw0⟩ : ∃ w0, w0 = (w.alloc (.cells (x.1.map b8).toArray 28)).alloc (.cells (y.1.map b8).toArray 28) := ⟨_, rfl⟩
  have F0 : Below r w w0 := by rw [hw0, hr]; exact below_alloc2 _ _ _
  have hX0 : Blk w0 r 28 (x.1.map b8).toArray := by rw [hw0, hr]; exact (Blk.new w _ _).alloc _
  have hY0 : Blk w0 (r + 1) 28 (y.1.map b8).toArray := by rw [hw0, hr]; exact Blk.new1 w _ _ _
  have HR := Lib.hid (And.intro hw0 hr)
  have hr0 : w.heap.size ≤ r := by omega
  have HR0 := Lib.hid hr0
  clear hw0 hr hr0
  have hxl := x.2
  have hyl := y.2
  by_cases hlen : bs.length ≤ 500
  · have hd : decide ((500 : Int) < (bs.length : Int)) = false := by rw [decide_eq_false_iff_not]; omega
    go_enter Tryd.func4, Tryd.ntmps4
    go_upto_region 1 with (fail)
    change Code.wp _ _ _ _ ((w.alloc (.cells (x.1.map b8).toArray 28)).alloc (.cells (y.1.map b8).toArray 28))
    rw [← HR.out.1, ← HR.out.2]
    replace HR := Lib.hid HR.out.2
    go_wp2_with fail
    refine (awake16_any w0 (hL.below F0 HR0.out)).mono ?_
    rintro e w1 ⟨rfl, G1⟩
    have hX1 := hX0.below G1 hX0.lt
    have hY1 := hY0.below G1 hY0.lt
    have F1 := F0.trans (G1.mono (Nat.le_of_lt hX0.lt))
    clear hX0 hY0 F0 G1
    clear w0
    go_upto_region 3 with (fail)
    refine wp_region_N (fun w' => Blk w' r 28 (x.1.map b8).toArray ∧ Blk w' (r + 1) 28 (y.1.map b8).toArray) [] (by kernel_rfl) ?_
    obtain ⟨wd, hwd⟩ : ∃ wd, wd = w1.drew := ⟨_, rfl⟩
    replace hX1 : Blk wd r 28 (x.1.map b8).toArray := by rw [hwd]; exact hX1
    replace hY1 : Blk wd (r + 1) 28 (y.1.map b8).toArray := by rw [hwd]; exact hY1
    replace F1 : Below r w wd := by rw [hwd]; exact F1.drew
    rw [← hwd]
    clear hwd
    clear w1
    refine wpAnyN_pureG 0 15 (v := ?_) rfl rfl (by kernel_rfl) (by kernel_rfl) (by kernel_rfl) (fun _ _ _ h => h) rfl (fun w => ?_) ?_
    rotate_left
    · go_simp
      try with_reducible rfl
    refine wpAnyN_pureG 2 17 (v := ?_) rfl rfl (by kernel_rfl) (by kernel_rfl) (by kernel_rfl) (fun _ _ _ h => h) rfl (fun w => ?_) ?_
    rotate_left
    · go_simp
      try with_reducible rfl
    obtain ⟨u, hu⟩ : ∃ u, u = leafH bs := ⟨_, rfl⟩
    have hul := u.2
    have c1 := leaf_any wd (hL.below F1 HR0.out) ao cp bs (hB.below F1 HR0.out) (by omega)
    rw [← hu] at c1
    refine wpAnyN_call 1 20 (some 16) [.tmp 15] [.slice ao bs.length cp] (by kernel_rfl) rfl rfl rfl rfl (by go_simp) Tryd.call20 ?_
    refine c1.mono ?_
    rintro e w2 ⟨rfl, G2⟩
    have hX2 := hX1.below G2 hX1.lt
    have hY2 := hY1.below G2 hY1.lt
    have F2 := F1.trans (G2.mono (Nat.le_of_lt hX1.lt))
    refine ⟨_, rfl, fun _ h => ⟨h.1.below G2 h.1.lt, h.2.below G2 h.2.lt⟩, ?_⟩
    clear c1 hX1 hY1 F1 G2
    have c2 := refleaf_any w2 ao cp bs (hB.below F2 HR0.out) (by omega)
    rw [← hu] at c2
    clear hu
    refine wpAnyN_call 3 21 (some 18) [.tmp 17] [.slice ao bs.length cp] (by kernel_rfl) rfl rfl rfl rfl (by go_simp) Tryd.call21 ?_
    refine c2.mono ?_
    rintro e w3 ⟨rfl, G3⟩
    have hX3 := hX2.below G3 hX2.lt
    have hY3 := hY2.below G3 hY2.lt
    have F3 := F2.trans (G3.mono (Nat.le_of_lt hX2.lt))
    refine ⟨_, rfl, fun _ h => ⟨h.1.below G3 h.1.lt, h.2.below G3 h.2.lt⟩, ?_⟩
    clear c2 hX2 hY2 F2 G3
    clear wd w2
    refine wpAnyN_pureG 4 19 (v := ?_) rfl rfl (by kernel_rfl) (by kernel_rfl) (by kernel_rfl) (fun _ _ _ h => h) rfl (fun w => ?_) ?_
    rotate_left
    · go_simp
      try with_reducible rfl
    refine wpAnyN_pureG 5 20 (v := ?_) rfl rfl (by kernel_rfl) (by kernel_rfl) (by kernel_rfl) (fun _ _ _ h => h) rfl (fun w => ?_) ?_
    rotate_left
    · go_simp
      try with_reducible rfl
    simp only [Act.put, List.setIfInBounds_toArray, List.set_cons_succ, List.set_cons_zero]
    refine wpAnyN_take 6 21 (v := hval x) rfl rfl (by kernel_rfl) (by kernel_rfl) (by kernel_rfl) (by kernel_rfl) (fun _ _ _ h => h) ⟨hX3, hY3⟩ (by go_simp) (fun w hS => ?_) ?_
    · exact run_load_mid_blk 28 _ rfl hS.1 0 (by go_simp) (x.1.map b8) (fun j v h => by rw [Nat.zero_add, List.getElem?_toArray]; exact h) (.array 32 5) (by kernel_rfl) rfl 32 (by kernel_rfl) (by simp [hxl])
    refine wpAnyN_take 7 22 (v := hval y) rfl rfl (by kernel_rfl) (by kernel_rfl) (by kernel_rfl) (by kernel_rfl) (fun _ _ _ h => h) ⟨hX3, hY3⟩ (by go_simp) (fun w hS => ?_) ?_
    · exact run_load_mid_blk 28 _ rfl hS.2 0 (by go_simp) (y.1.map b8) (fun j v h => by rw [Nat.zero_add, List.getElem?_toArray]; exact h) (.array 32 5) (by kernel_rfl) rfl 32 (by kernel_rfl) (by simp [hyl])
    refine wpAnyN_take 9 24 (v := hval x) rfl rfl (by kernel_rfl) (by kernel_rfl) (by kernel_rfl) (by kernel_rfl) (fun _ _ _ h => h) ⟨hX3, hY3⟩ (by go_simp) (fun w hS => ?_) ?_
    · exact run_load_mid_blk 28 _ rfl hS.1 0 (by go_simp) (x.1.map b8) (fun j v h => by rw [Nat.zero_add, List.getElem?_toArray]; exact h) (.array 32 5) (by kernel_rfl) rfl 32 (by kernel_rfl) (by simp [hxl])
    refine wpAnyN_take 10 25 (v := hval y) rfl rfl (by kernel_rfl) (by kernel_rfl) (by kernel_rfl) (by kernel_rfl) (fun _ _ _ h => h) ⟨hX3, hY3⟩ (by go_simp) (fun w hS => ?_) ?_
    · exact run_load_mid_blk 28 _ rfl hS.2 0 (by go_simp) (y.1.map b8) (fun j v h => by rw [Nat.zero_add, List.getElem?_toArray]; exact h) (.array 32 5) (by kernel_rfl) rfl 32 (by kernel_rfl) (by simp [hyl])
    obtain ⟨p, hp⟩ : ∃ p, p = nodeH x y := ⟨_, rfl⟩
    have hpl := p.2
    have c3 := node_any w3 (hL.below F3 HR0.out) x y
    rw [← hp] at c3
    refine wpAnyN_callW 8 22 (some 23) [.tmp 21, .tmp 22] [hval x, hval y] (by kernel_rfl) rfl rfl rfl (by go_simp) (by go_simp) Tryd.call22 ?_
    refine c3.mono ?_
    rintro e w4 ⟨rfl, G4⟩
    have F4 := F3.trans (G4.mono (Nat.le_of_lt hX3.lt))
    refine ⟨_, rfl, fun _ h => ⟨h.1.below G4 h.1.lt, h.2.below G4 h.2.lt⟩, ?_⟩
    have hrs : r ≤ w4.heap.size := by have := G4.size; have := hX3.lt; omega
    clear c3 hX3 hY3 F3 G4
    clear w3
    have c4 := refnode_any w4 x y
    rw [← hp] at c4
    clear hp
    refine wpAnyN_callW 11 23 (some 26) [.tmp 24, .tmp 25] [hval x, hval y] (by kernel_rfl) rfl rfl rfl (by go_simp) (by go_simp) Tryd.call23 ?_
    refine c4.mono ?_
    rintro e w5 ⟨rfl, G5⟩
    have F5 := F4.trans (G5.mono hrs)
    refine ⟨_, rfl, fun _ h => ⟨h.1.below G5 h.1.lt, h.2.below G5 h.2.lt⟩, ?_⟩
    clear c4 F4 G5 hrs
    clear w4
    simp only [Act.put, List.setIfInBounds_toArray, List.set_cons_succ, List.set_cons_zero]
    refine wpAnyN_pure 12 27 (v := ?_) rfl rfl (by kernel_rfl) (by kernel_rfl) (by kernel_rfl) (fun _ _ _ h => h) (by go_simp) (fun w => ?_) ?_
    rotate_left
    · go_simp
      try with_reducible rfl
    refine wpAnyN_pureG 13 28 (v := ?_) rfl rfl (by kernel_rfl) (by kernel_rfl) (by kernel_rfl) (fun _ _ _ h => h) rfl (fun w => ?_) ?_
    rotate_left
    · go_simp
      try with_reducible rfl
    refine wpAnyN_pureG 14 6 (v := ?_) rfl rfl (by kernel_rfl) (by kernel_rfl) (by kernel_rfl) (fun _ _ _ h => h) rfl (fun w => ?_) ?_
    rotate_left
    · go_simp
      try with_reducible rfl
    refine wpAnyN_done (by kernel_rfl) ?_
    simp only [Act.put, List.setIfInBounds_toArray, List.set_cons_succ, List.set_cons_zero]
    rw [HR.out] at F5
    go_wp2
    go_ret
    exact ⟨rfl, F5⟩
  · have hd : decide ((500 : Int) < (bs.length : Int)) = true := by rw [decide_eq_true_eq]; omega
    go_enter Tryd.func4, Tryd.ntmps4
    go_upto_region 1 with (fail)
    change Code.wp _ _ _ _ ((w.alloc (.cells (x.1.map b8).toArray 28)).alloc (.cells (y.1.map b8).toArray 28))
    rw [← HR.out.1, ← HR.out.2]
    replace HR := Lib.hid HR.out.2
    go_wp2_with fail
    refine (awake16_any w0 (hL.below F0 HR0.out)).mono ?_
    rintro e w1 ⟨rfl, G1⟩
    have F1 := F0.trans (G1.mono (Nat.le_of_lt hX0.lt))
    have hrs : r ≤ w1.heap.size := by have := G1.size; have := hX0.lt; omega
    go_wp2_with fail
    refine (awake16_any w1 (hL.below F1 HR0.out)).mono ?_
    rintro e w2 ⟨rfl, G2⟩
    have F2 := F1.trans (G2.mono hrs)
    rw [HR.out] at F2
    clear F1 F0 G1 G2 hX0 hY0 hrs
    go_wp2
    go_ret
    exact ⟨rfl, F2⟩
end Go.Proofs.YtbglblamoodocaaDoor
