/-
  The walk of the statement MerkleParts.
-/
import Derived.Test.YtbglblamoodocaaDoorAwake16
import Derived.Test.YtbglblamoodocaaDoorRefRoot
import Derived.Test.YtbglblamoodocaaDoorReg2
namespace Go.Proofs.YtbglblamoodocaaDoor
open Go Go.RowKit
attribute [local irreducible] sha
set_option maxRecDepth 100000 in
set_option maxHeartbeats 4000000 in
theorem mparts_any (w : World) (hL : Laid w) (ao : Option Addr) (cp : Nat) (l : List Hs) (hB : Hts w ao l) (hc : l.length ≤ cp) (hm : cp ≤ maxLen) (n : Int) (hn0 : 0 ≤ n) (hn1 : n ≤ 255) :
    Calls Tryd.prog 6 #[.slice ao l.length cp, .int .u8 n] w fun e w' => e = .returned (.bool true) ∧ Below w.heap.size w w' := by
  have hm1 : l.length ≤ 9223372036854775807 := Nat.le_trans hc hm
  have hm0 : cp ≤ 9223372036854775807 := hm
  obtain ⟨j, hj, hj6⟩ : ∃ j : Nat, n % 7 = (j : Int) ∧ j ≤ 6 := ⟨(n % 7).toNat, by omega, by omega⟩
  have q1 : IntKind.u8.wrap (j : Int) = j := by rw [IntKind.wrap_u8]; omega
  have q2 : IntKind.i64.wrap (j : Int) = j := IntWalk.i64_in _ (by omega)
  have q3 := wrap_two j (by omega)
  have hp64 : 2 ^ j ≤ 2 ^ 6 := Nat.pow_le_pow_right (by omega) hj6
  have hp1 := Tree.two_pos j
  obtain ⟨p, hp⟩ : ∃ p, p = 2 ^ j := ⟨_, rfl⟩
  rw [← hp] at q3 hp64 hp1
  have HP := Lib.hid hp
  clear hp
  replace hp64 : p ≤ 64 := hp64
  have q4 : IntKind.i64.wrap (2 * (p : Int)) = 2 * p := IntWalk.i64_in _ (by omega)
  by_cases hlen : l.length ≤ 100
  · have hd : decide ((100 : Int) < (l.length : Int)) = false := by rw [decide_eq_false_iff_not]; omega
    by_cases hlp : l.length ≤ p
    · have hd1 : decide ((l.length : Int) ≤ (p : Int)) = true := by rw [decide_eq_true_eq]; omega
      go_enter Tryd.func6, Tryd.ntmps6
      go_wp2_with fail
      refine (awake16_any w hL).mono ?_
      rintro e w1 ⟨rfl, F1⟩
      go_wp2_with fail
      refine (awake16_any w1 (hL.below F1 (Nat.le_refl _))).mono ?_
      rintro e w2 ⟨rfl, GF2⟩
      have F2 := Below.then F1 GF2
      go_wp2_with fail
      go_ret
      exact ⟨rfl, F2⟩
    · have hd1 : decide ((l.length : Int) ≤ (p : Int)) = false := by rw [decide_eq_false_iff_not]; omega
      by_cases hl2 : 2 * p < l.length
      · have hd2 : decide (2 * (p : Int) < (l.length : Int)) = true := by rw [decide_eq_true_eq]; omega
        go_enter Tryd.func6, Tryd.ntmps6
        go_wp2_with fail
        refine (awake16_any w hL).mono ?_
        rintro e w1 ⟨rfl, F1⟩
        go_wp2_with fail
        refine (awake16_any w1 (hL.below F1 (Nat.le_refl _))).mono ?_
        rintro e w2 ⟨rfl, GF2⟩
        have F2 := Below.then F1 GF2
        go_wp2_with fail
        go_ret
        exact ⟨rfl, F2⟩
      · have hd2 : decide (2 * (p : Int) < (l.length : Int)) = false := by rw [decide_eq_false_iff_not]; omega
        obtain ⟨i0, hi, hz0, hz1, hz2⟩ := info_parts infoHs
        have hsp : Tree.split l.length = p := Tree.split_two ⟨j, HP.out⟩ (by omega) (by omega)
        have hroot : rootH l = nodeH (rootH (l.take p)) (rootH (l.drop p)) := by
          have := Tree.root_two nodeH nilH (l := l) (by omega)
          rw [hsp] at this; exact this
        obtain ⟨z, hz⟩ : ∃ z, z = rootH l := ⟨_, rfl⟩
        have hzl := z.2
        rw [← hz] at hroot
        have HZ := Lib.hid (And.intro hz (And.intro hroot hsp))
        clear hz hroot hsp
        obtain ⟨r, hr⟩ : ∃ r, r = w.heap.size := ⟨_, rfl⟩
        have HR := Lib.hid hr
        have hr0 : w.heap.size ≤ r := by omega
        have HR0 := Lib.hid hr0
        clear hr hr0
        go_enter Tryd.func6, Tryd.ntmps6
        go_wp2_with fail
        refine (awake16_any w hL).mono ?_
        rintro e w1 ⟨rfl, F1⟩
        rw [← HR.out] at F1
        have hs1 := F1.size
        rw [← HR.out] at hs1
        have O1 : Own r w w1 28 32 (.slice none 0 0) 0 [] := Own.start _ _ F1 hs1
        have hsrc := (hB.below F1 HR0.out).src l.length cp rfl
        have hl1 : 0 + l.length ≤ maxLen := by simp only [maxLen]; omega
        have hl2 : (0 + l.length) * 32 ≤ 140737488355328 := by omega
        go_wp2_with (at_builtin; refine wpList_append_row rfl _ _ 32 32 rfl 28 i0 (.agg zero32) 32 32 (by kernel_rfl) hi hz0 hz1 hz2 rfl (by decide) O1.row rfl hsrc rfl hl1 hl2 ?_)
        intro v2 w2 hrow2 hg2 hv2
        have O2 : OwnH r w w2 v2 l := OwnH.app (l := []) (k := l) O1 (by simpa [flat_nil] using hrow2) hg2 hv2
        clear hrow2 hg2 hv2 O1 hsrc hl1 hl2 F1 hs1
        clear w1
        obtain ⟨a2, c2, rfl⟩ := O2.row.shape
        go_wp2_with fail
        refine (root_any w2 ao cp l (hL.below O2.bel HR0.out) (hB.below O2.bel HR0.out) hc hm).mono ?_
        rintro e w3 ⟨rfl, G3⟩
        rw [← HZ.out.1]
        have O3 : OwnH r w w3 (.slice a2 l.length c2) l := Own.below O2 G3
        clear O2 G3
        clear w2
        go_wp2_with (refine wpList_store_blk rfl 28 _ _ rfl (Blk.new w3 zero32 28) (z.1.map b8).toArray rfl rfl 32 (by kernel_rfl) rfl (by simp [hzl]) (by rw [List.toList_toArray]; exact b8_one _) ?_)
        intro w4 hb4 hg4
        have hlt3 := alloc_lt w3 (.cells zero32 28)
        have O4 : OwnH r w w4 (.slice a2 l.length c2) l := Own.upd (Own.alloc O3 (.cells zero32 28)) hg4 O3.le hlt3 (fun g e => by have := O3.row.lt g e; omega)
        obtain ⟨b, hbb⟩ : ∃ b, b = w3.heap.size := ⟨_, rfl⟩
        rw [← hbb] at hb4 ⊢
        clear hbb hg4 hlt3 O3
        clear w3
        obtain ⟨a6, hs6, -, ht6⟩ := run_upto_hts (P := Tryd.prog) (t := 32) (by kernel_rfl) hi ao l.length cp p (by omega)
        obtain ⟨a7, hs7, ht7⟩ := run_from_hts (P := Tryd.prog) (t := 32) (by kernel_rfl) hi hz1 ao l.length cp p (by omega) hc
        have hk1 : (l.take p).length = p := by rw [List.length_take]; omega
        have hk2 : (l.drop p).length = l.length - p := List.length_drop
        have HL := Lib.hid (And.intro hk1 hk2)
        clear hk1 hk2 hd hd1 hd2
        go_upto_region 7 with (fail)
        refine wp_region_N (fun w' => Blk w' b 28 (z.1.map b8).toArray) [] (by kernel_rfl) ?_
        obtain ⟨wd, hwd⟩ : ∃ wd, wd = w4.drew := ⟨_, rfl⟩
        replace hb4 : Blk wd b 28 (z.1.map b8).toArray := by rw [hwd]; exact hb4
        replace O4 : OwnH r w wd (.slice a2 l.length c2) l := by rw [hwd]; exact O4.drewN 1
        rw [← hwd]
        clear hwd
        clear w4
        refine wpAnyN_pureG 1 39 (v := ?_) rfl rfl (by kernel_rfl) (by kernel_rfl) (by kernel_rfl) (fun _ _ _ h => h) rfl (fun w => ?_) ?_
        rotate_left
        · go_simp
          try with_reducible rfl
        refine wpAnyN_pureG 2 40 (v := ?_) rfl rfl (by kernel_rfl) (by kernel_rfl) (by kernel_rfl) (fun _ _ _ h => h) rfl (fun w => ?_) ?_
        rotate_left
        · go_simp
          try with_reducible rfl
        refine wpAnyN_pureG 3 41 (v := ?_) rfl rfl (by kernel_rfl) (by kernel_rfl) (by kernel_rfl) (fun _ _ _ h => h) rfl (fun w => ?_) ?_
        rotate_left
        · go_simp
          try with_reducible rfl
        refine wpAnyN_pureG 5 43 (v := ?_) rfl rfl (by kernel_rfl) (by kernel_rfl) (by kernel_rfl) (fun _ _ _ h => h) rfl (fun w => ?_) ?_
        rotate_left
        · go_simp
          try with_reducible rfl
        refine wpAnyN_pureG 6 44 (v := ?_) rfl rfl (by kernel_rfl) (by kernel_rfl) (by kernel_rfl) (fun _ _ _ h => h) rfl (fun w => ?_) ?_
        rotate_left
        · go_simp
          try with_reducible rfl
        refine wpAnyN_pureG 7 45 (v := ?_) rfl rfl (by kernel_rfl) (by kernel_rfl) (by kernel_rfl) (fun _ _ _ h => h) rfl (fun w => ?_) ?_
        rotate_left
        · go_simp
          try with_reducible rfl
        simp only [Act.put, List.setIfInBounds_toArray, List.set_cons_succ, List.set_cons_zero]
        refine wpAnyN_takeG 0 38 (v := hval z) rfl rfl (by kernel_rfl) (by kernel_rfl) (by kernel_rfl) (by kernel_rfl) (fun _ _ _ h => h) hb4 rfl (fun w hS => ?_) ?_
        · exact run_load_mid_blk 28 _ rfl hS 0 (by go_simp) (z.1.map b8) (fun j v h => by rw [Nat.zero_add, List.getElem?_toArray]; exact h) (.array 32 5) (by kernel_rfl) rfl 32 (by kernel_rfl) (by simp [hzl])
        have c1 := root_any wd a6 cp (l.take p) (hL.below O4.bel HR0.out) (ht6 wd l (hB.below O4.bel HR0.out)) (by have := HL.out.1; omega) hm
        rw [HL.out.1] at c1
        refine wpAnyN_call 4 24 (some 42) [.tmp 41] [.slice a6 p cp] (by kernel_rfl) rfl rfl rfl rfl (by go_simp) Tryd.call24 ?_
        refine c1.mono ?_
        rintro e w5 ⟨rfl, G5⟩
        have O5 : OwnH r w w5 (.slice a2 l.length c2) l := Own.below O4 G5
        refine ⟨_, rfl, fun _ h => h.below G5 h.lt, ?_⟩
        clear c1 hb4 O4 G5
        clear wd
        have k2 := root_any w5 a7 (cp - p) (l.drop p) (hL.below O5.bel HR0.out) (ht7 w5 l rfl (hB.below O5.bel HR0.out)) (by have := HL.out.2; omega) (by simp only [maxLen]; omega)
        rw [HL.out.2] at k2
        refine wpAnyN_call 8 24 (some 46) [.tmp 45] [.slice a7 (l.length - p) (cp - p)] (by kernel_rfl) rfl rfl rfl rfl (by go_simp) Tryd.call24 ?_
        refine k2.mono ?_
        rintro e w6 ⟨rfl, G6⟩
        have O6 : OwnH r w w6 (.slice a2 l.length c2) l := Own.below O5 G6
        refine ⟨_, rfl, fun _ h => h.below G6 h.lt, ?_⟩
        clear k2 O5 G6
        clear w5
        have c3 := node_any w6 (hL.below O6.bel HR0.out) (rootH (l.take p)) (rootH (l.drop p))
        rw [← HZ.out.2.1] at c3
        refine wpAnyN_call 9 22 (some 47) [.tmp 42, .tmp 46] [hval (rootH (l.take p)), hval (rootH (l.drop p))] (by kernel_rfl) rfl rfl rfl rfl (by go_simp) Tryd.call22 ?_
        refine c3.mono ?_
        rintro e w7 ⟨rfl, G7⟩
        have O7 : OwnH r w w7 (.slice a2 l.length c2) l := Own.below O6 G7
        refine ⟨_, rfl, fun _ h => h.below G7 h.lt, ?_⟩
        clear c3 O6 G7
        clear w6
        simp only [Act.put, List.setIfInBounds_toArray, List.set_cons_succ, List.set_cons_zero]
        refine wpAnyN_pureG 10 48 (v := ?_) rfl rfl (by kernel_rfl) (by kernel_rfl) (by kernel_rfl) (fun _ _ _ h => h) rfl (fun w => ?_) ?_
        rotate_left
        · go_simp
          try with_reducible rfl
        refine wpAnyN_pureG 11 49 (v := ?_) rfl rfl (by kernel_rfl) (by kernel_rfl) (by kernel_rfl) (fun _ _ _ h => h) rfl (fun w => ?_) ?_
        rotate_left
        · go_simp
          try with_reducible rfl
        refine wpAnyN_pure 12 50 (v := ?_) rfl rfl (by kernel_rfl) (by kernel_rfl) (by kernel_rfl) (fun _ _ _ h => h) (by go_simp) (fun w => ?_) ?_
        rotate_left
        · go_simp
          try with_reducible rfl
        refine wpAnyN_pure 13 51 (v := ?_) rfl rfl (by kernel_rfl) (by kernel_rfl) (by kernel_rfl) (fun _ _ _ h => h) (by go_simp) (fun w => ?_) ?_
        rotate_left
        · go_simp
          try with_reducible rfl
        obtain ⟨a8, c8, e8, -, -, -, hY7⟩ := O7.row.hts
        cases e8
        have c4 := same_any w7 a2 ao c2 cp l l hY7 (hB.below O7.bel HR0.out) (by omega) (by omega)
        rw [show decide (l = l) = true by simp] at c4
        refine wpAnyN_callW 14 27 (some 52) [.tmp 50, .tmp 51] [.slice a2 l.length c2, .slice ao l.length cp] (by kernel_rfl) rfl rfl rfl (by go_simp) (by go_simp) Tryd.call27 ?_
        refine c4.mono ?_
        rintro e w8 ⟨rfl, G8⟩
        have F8 := O7.bel.trans (G8.mono O7.le)
        refine ⟨_, rfl, fun _ h => h.below G8 h.lt, ?_⟩
        clear c4 O7 G8 hY7
        clear w7
        simp only [Act.put, List.setIfInBounds_toArray, List.set_cons_succ, List.set_cons_zero]
        refine wpAnyN_pureG 15 53 (v := ?_) rfl rfl (by kernel_rfl) (by kernel_rfl) (by kernel_rfl) (fun _ _ _ h => h) rfl (fun w => ?_) ?_
        rotate_left
        · go_simp
          try with_reducible rfl
        refine wpAnyN_pureG 16 54 (v := ?_) rfl rfl (by kernel_rfl) (by kernel_rfl) (by kernel_rfl) (fun _ _ _ h => h) rfl (fun w => ?_) ?_
        rotate_left
        · go_simp
          try with_reducible rfl
        refine wpAnyN_pure 17 55 (v := ?_) rfl rfl (by kernel_rfl) (by kernel_rfl) (by kernel_rfl) (fun _ _ _ h => h) (by go_simp) (fun w => ?_) ?_
        rotate_left
        · go_simp
          try with_reducible rfl
        refine wpAnyN_pure 18 56 (v := ?_) rfl rfl (by kernel_rfl) (by kernel_rfl) (by kernel_rfl) (fun _ _ _ h => h) (by go_simp) (fun w => ?_) ?_
        rotate_left
        · go_simp
          try with_reducible rfl
        refine wpAnyN_pure 20 58 (v := ?_) rfl rfl (by kernel_rfl) (by kernel_rfl) (by kernel_rfl) (fun _ _ _ h => h) (by go_simp) (fun w => ?_) ?_
        rotate_left
        · go_simp
          try with_reducible rfl
        have c5 := split_any w8 (l.length : Int) (by omega) (by omega)
        rw [Int.toNat_natCast, HZ.out.2.2] at c5
        refine wpAnyN_callW 19 18 (some 57) [.tmp 56] [.int .i64 l.length] (by kernel_rfl) rfl rfl rfl (by go_simp) (by go_simp) Tryd.call18 ?_
        refine c5.mono ?_
        rintro e w9 ⟨rfl, rfl⟩
        refine ⟨_, rfl, fun _ h => h, ?_⟩
        clear c5
        refine wpAnyN_pure 21 59 (v := ?_) rfl rfl (by kernel_rfl) (by kernel_rfl) (by kernel_rfl) (fun _ _ _ h => h) (by go_simp) (fun w => ?_) ?_
        rotate_left
        · go_simp
          try with_reducible rfl
        refine wpAnyN_pureG 22 60 (v := ?_) rfl rfl (by kernel_rfl) (by kernel_rfl) (by kernel_rfl) (fun _ _ _ h => h) rfl (fun w => ?_) ?_
        rotate_left
        · go_simp
          try with_reducible rfl
        refine wpAnyN_pureG 23 4 (v := ?_) rfl rfl (by kernel_rfl) (by kernel_rfl) (by kernel_rfl) (fun _ _ _ h => h) rfl (fun w => ?_) ?_
        rotate_left
        · go_simp
          try with_reducible rfl
        refine wpAnyN_done (by kernel_rfl) ?_
        simp only [Act.put, List.setIfInBounds_toArray, List.set_cons_succ, List.set_cons_zero]
        rw [HR.out] at F8
        go_wp2
        go_ret
        exact ⟨rfl, F8⟩
  · have hd : decide ((100 : Int) < (l.length : Int)) = true := by rw [decide_eq_true_eq]; omega
    go_enter Tryd.func6, Tryd.ntmps6
    go_wp2_with fail
    refine (awake16_any w hL).mono ?_
    rintro e w1 ⟨rfl, F1⟩
    go_wp2_with fail
    refine (awake16_any w1 (hL.below F1 (Nat.le_refl _))).mono ?_
    rintro e w2 ⟨rfl, GF2⟩
    have F2 := Below.then F1 GF2
    go_wp2_with fail
    go_ret
    exact ⟨rfl, F2⟩
end Go.Proofs.YtbglblamoodocaaDoor
