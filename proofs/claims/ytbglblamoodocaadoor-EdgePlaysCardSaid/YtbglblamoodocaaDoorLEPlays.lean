/-
  The walk of the statement EdgePlays.
-/
import Derived.Test.YtbglblamoodocaaDoorTreeO
import Derived.Test.YtbglblamoodocaaDoorReg2
namespace Go.Proofs.YtbglblamoodocaaDoor
open Go Go.RowKit
attribute [local irreducible] sha
set_option maxRecDepth 100000 in
set_option maxHeartbeats 4000000 in
theorem eplays_any (w : World) (hL : Laid w) (ao : Option Addr) (cp : Nat) (l : List Hs) (hB : Hts w ao l) (hc : l.length ≤ cp) (hm : cp ≤ maxLen) :
    Calls Tryd.prog 13 #[.slice ao l.length cp] w fun e w' => e = .returned (.bool true) ∧ Below w.heap.size w w' := by
  have hl9 : l.length ≤ 9223372036854775807 := Nat.le_trans hc hm
  have hm0 : cp ≤ 9223372036854775807 := hm
  by_cases hlen : l.length ≤ 60
  · have hd : decide ((60 : Int) < (l.length : Int)) = false := by rw [decide_eq_false_iff_not]; omega
    obtain ⟨i0, hi, hz0, hz1, hz2⟩ := info_parts infoHs
    obtain ⟨r, hr⟩ : ∃ r, r = w.heap.size := ⟨_, rfl⟩
    have HR := Lib.hid hr
    have hr0 : w.heap.size ≤ r := by omega
    have HR0 := Lib.hid hr0
    have hzt := fun w => run_zeroT w
    have HBB : ∀ w', Below r w w' → Hts w' ao l := fun w' h => hB.below h hr0
    have HB := Lib.hid HBB
    clear hr hr0 HBB
    go_enter Tryd.func13, Tryd.ntmps13
    go_wp2_with fail
    refine (awake17_any w hL).mono ?_
    rintro e w1 ⟨rfl, F1⟩
    rw [← HR.out] at F1
    have hs1 := F1.size
    rw [← HR.out] at hs1
    obtain ⟨t, ht⟩ : ∃ t, t = w1.heap.size := ⟨_, rfl⟩
    have hT0 : TreeO r w (w1.alloc (.cells zeroT 46)) t (.slice none 0 0) [] := by rw [ht]; exact TreeO.new F1 hs1
    have HT0 := Lib.hid (And.intro hT0 ht)
    clear hT0 ht hs1 F1
    go_wp2
    rw [← HT0.out.2]
    go_loopg [4] (l.length + 1) (fun g i wr => ∃ (m : Nat) (v : Value), i = .int .i64 m ∧ m + g = l.length + 1 ∧ TreeO r w wr t v (l.take m))
    case atStart => exact ⟨0, .slice none 0 0, rfl, by omega, by rw [List.take_zero]; exact HT0.out.1⟩
    case round =>
      clear HT0
      obtain ⟨m, v, rfl, hmk, hT⟩ := hrel
      by_cases hq : m ≤ l.length
      · have hd1 : decide ((m : Int) ≤ (l.length : Int)) = true := by rw [decide_eq_true_eq]; omega
        obtain ⟨a6, hs6, -, ht6⟩ := run_upto_hts (P := Tryd.prog) (t := 32) (by kernel_rfl) hi ao l.length cp m (by omega)
        obtain ⟨P, hP⟩ : ∃ P, P = l.take m := ⟨_, rfl⟩
        have hPl : P.length = m := by rw [hP, List.length_take]; omega
        rw [← hP] at hT
        have hHP : ∀ w', Below r w w' → Hts w' a6 P := fun w' h => by rw [hP]; exact ht6 w' l (HB.out w' h)
        obtain ⟨q, hq1⟩ : ∃ q, q = edgeH P := ⟨_, rfl⟩
        have hql : q.length ≤ 1000000 := by rw [hq1]; have := edgeH_small P; omega
        obtain ⟨z, hz⟩ : ∃ z, z = rootH P := ⟨_, rfl⟩
        have hzl := z.2
        have HP := Lib.hid (And.intro hP (And.intro hPl (And.intro hHP (And.intro hq1 (And.intro hz hmk)))))
        have HT := Lib.hid hT
        clear hP hPl hHP hq1 hz hT ht6
        go_upto_region 7 with (fail)
        refine wp_region_N (fun _ => True) [] (by kernel_rfl) ?_
        have hT := HT.out.drew
        obtain ⟨wd, hwd⟩ : ∃ wd, wd = wr.drew := ⟨_, rfl⟩
        rw [← hwd] at hT ⊢
        clear hwd HT
        clear wr
        refine wpAnyN_pureG 0 21 (v := ?_) rfl rfl (by kernel_rfl) (by kernel_rfl) (by kernel_rfl) (fun _ _ _ h => h) rfl (fun w => ?_) ?_
        rotate_left
        · go_simp
          try with_reducible rfl
        refine wpAnyN_pureG 2 23 (v := ?_) rfl rfl (by kernel_rfl) (by kernel_rfl) (by kernel_rfl) (fun _ _ _ h => h) rfl (fun w => ?_) ?_
        rotate_left
        · go_simp
          try with_reducible rfl
        have c1 := tlen_any wd t v P hT.tree
        rw [HP.out.2.1] at c1
        refine wpAnyN_call 1 34 (some 22) [.tmp 21] [.pointer (some ⟨t, 0, none⟩)] (by kernel_rfl) rfl rfl rfl rfl (by go_simp) Tryd.call34 ?_
        refine c1.mono ?_
        rintro e w' ⟨rfl, hw'⟩
        rw [hw']
        clear hw' c1
        clear w'
        refine ⟨_, rfl, fun _ _ => trivial, ?_⟩
        refine wpAnyN_pureG 3 24 (v := ?_) rfl rfl (by kernel_rfl) (by kernel_rfl) (by kernel_rfl) (fun _ _ _ h => h) rfl (fun w => ?_) ?_
        rotate_left
        · go_simp
          try with_reducible rfl
        refine wpAnyN_pureG 4 25 (v := ?_) rfl rfl (by kernel_rfl) (by kernel_rfl) (by kernel_rfl) (fun _ _ _ h => h) rfl (fun w => ?_) ?_
        rotate_left
        · go_simp
          try with_reducible rfl
        simp only [Act.put, List.setIfInBounds_toArray, List.set_cons_succ, List.set_cons_zero]
        refine wpAnyN_pure 5 26 (v := ?_) rfl rfl (by kernel_rfl) (by kernel_rfl) (by kernel_rfl) (fun _ _ _ h => h) (by go_simp) (fun w => ?_) ?_
        rotate_left
        · go_simp
          try with_reducible rfl
        refine wpAnyN_pure 7 28 (v := ?_) rfl rfl (by kernel_rfl) (by kernel_rfl) (by kernel_rfl) (fun _ _ _ h => h) (by go_simp) (fun w => ?_) ?_
        rotate_left
        · go_simp
          try with_reducible rfl
        refine wpAnyN_pure 8 29 (v := ?_) rfl rfl (by kernel_rfl) (by kernel_rfl) (by kernel_rfl) (fun _ _ _ h => h) (by go_simp) (fun w => ?_) ?_
        rotate_left
        · go_simp
          try with_reducible rfl
        refine wpAnyN_pure 9 30 (v := ?_) rfl rfl (by kernel_rfl) (by kernel_rfl) (by kernel_rfl) (fun _ _ _ h => h) (by go_simp) (fun w => ?_) ?_
        rotate_left
        · go_simp
          try with_reducible rfl
        have c2 := tedge_any wd t v P hT.tree (by have := HP.out; omega)
        rw [← HP.out.2.2.2.1] at c2
        refine wpAnyN_callW 6 35 (some 27) [.tmp 26] [.pointer (some ⟨t, 0, none⟩)] (by kernel_rfl) rfl rfl rfl (by go_simp) (by go_simp) Tryd.call35 ?_
        refine c2.mono ?_
        rintro e w2 ⟨v2, rfl, O2⟩
        have hT2 := hT.below O2.bel
        have R2 := O2.row
        obtain ⟨a2, c2', rfl⟩ := R2.shape
        refine ⟨_, rfl, fun _ _ => trivial, ?_⟩
        clear c2 hT O2
        clear wd
        have c3 := refedge_any w2 a6 cp P (hL.below hT2.bel HR0.out) (HP.out.2.2.1 w2 hT2.bel) (by have := HP.out; omega) hm (by have := HP.out; omega)
        rw [← HP.out.2.2.2.1, HP.out.2.1] at c3
        refine wpAnyN_callW 10 36 (some 31) [.tmp 30] [.slice a6 m cp] (by kernel_rfl) rfl rfl rfl (by go_simp) (by go_simp) Tryd.call36 ?_
        refine c3.mono ?_
        rintro e w3 ⟨v3, rfl, O3⟩
        have hT3 := hT2.below O3.bel
        have R23 := R2.below O3.bel (fun g e => R2.lt g e)
        obtain ⟨a3, c3', rfl⟩ := O3.row.shape
        obtain ⟨b1, b2, b3, -, -, -, hX⟩ := R23.hts
        cases b3
        obtain ⟨b1, b2, b3, -, -, -, hY⟩ := O3.row.hts
        cases b3
        refine ⟨_, rfl, fun _ _ => trivial, ?_⟩
        clear c3 hT2 R2 R23 O3
        clear w2
        have c4 := same_any w3 a2 a3 c2' c3' q q hX hY hql hql
        rw [show decide (q = q) = true by simp] at c4
        refine wpAnyN_callW 11 27 (some 32) [.tmp 27, .tmp 31] [.slice a2 q.length c2', .slice a3 q.length c3'] (by kernel_rfl) rfl rfl rfl (by go_simp) (by go_simp) Tryd.call27 ?_
        refine c4.mono ?_
        rintro e w4 ⟨rfl, G4⟩
        have hT4 := hT3.below G4
        refine ⟨_, rfl, fun _ _ => trivial, ?_⟩
        clear c4 hT3 G4 hX hY
        clear w3
        simp only [Act.put, List.setIfInBounds_toArray, List.set_cons_succ, List.set_cons_zero]
        refine wpAnyN_pure 12 33 (v := ?_) rfl rfl (by kernel_rfl) (by kernel_rfl) (by kernel_rfl) (fun _ _ _ h => h) (by go_simp) (fun w => ?_) ?_
        rotate_left
        · go_simp
          try with_reducible rfl
        refine wpAnyN_pureG 13 34 (v := ?_) rfl rfl (by kernel_rfl) (by kernel_rfl) (by kernel_rfl) (fun _ _ _ h => h) rfl (fun w => ?_) ?_
        rotate_left
        · go_simp
          try with_reducible rfl
        refine wpAnyN_pureG 14 35 (v := ?_) rfl rfl (by kernel_rfl) (by kernel_rfl) (by kernel_rfl) (fun _ _ _ h => h) rfl (fun w => ?_) ?_
        rotate_left
        · go_simp
          try with_reducible rfl
        simp only [Act.put, List.setIfInBounds_toArray, List.set_cons_succ, List.set_cons_zero]
        refine wpAnyN_pure 15 36 (v := ?_) rfl rfl (by kernel_rfl) (by kernel_rfl) (by kernel_rfl) (fun _ _ _ h => h) (by go_simp) (fun w => ?_) ?_
        rotate_left
        · go_simp
          try with_reducible rfl
        refine wpAnyN_pure 17 38 (v := ?_) rfl rfl (by kernel_rfl) (by kernel_rfl) (by kernel_rfl) (fun _ _ _ h => h) (by go_simp) (fun w => ?_) ?_
        rotate_left
        · go_simp
          try with_reducible rfl
        refine wpAnyN_pure 18 39 (v := ?_) rfl rfl (by kernel_rfl) (by kernel_rfl) (by kernel_rfl) (fun _ _ _ h => h) (by go_simp) (fun w => ?_) ?_
        rotate_left
        · go_simp
          try with_reducible rfl
        refine wpAnyN_pure 19 40 (v := ?_) rfl rfl (by kernel_rfl) (by kernel_rfl) (by kernel_rfl) (fun _ _ _ h => h) (by go_simp) (fun w => ?_) ?_
        rotate_left
        · go_simp
          try with_reducible rfl
        have c5 := hT4.root hL HR0.out (by have := HP.out; omega)
        rw [← HP.out.2.2.2.2.1] at c5
        refine wpAnyN_callW 16 37 (some 37) [.tmp 36] [.pointer (some ⟨t, 0, none⟩)] (by kernel_rfl) rfl rfl rfl (by go_simp) (by go_simp) Tryd.call37 ?_
        refine c5.mono ?_
        rintro e w5 ⟨rfl, G5⟩
        have hT5 := hT4.below G5
        refine ⟨_, rfl, fun _ _ => trivial, ?_⟩
        clear c5 hT4 G5
        clear w4
        have c6 := refroot_any w5 a6 cp P (hL.below hT5.bel HR0.out) (HP.out.2.2.1 w5 hT5.bel) (by have := HP.out; omega) hm
        rw [← HP.out.2.2.2.2.1, HP.out.2.1] at c6
        refine wpAnyN_callW 20 25 (some 41) [.tmp 40] [.slice a6 m cp] (by kernel_rfl) rfl rfl rfl (by go_simp) (by go_simp) Tryd.call25 ?_
        refine c6.mono ?_
        rintro e w6 ⟨rfl, G6⟩
        have hT6 := hT5.below G6
        refine ⟨_, rfl, fun _ _ => trivial, ?_⟩
        clear c6 hT5 G6
        clear w5
        simp only [Act.put, List.setIfInBounds_toArray, List.set_cons_succ, List.set_cons_zero]
        refine wpAnyN_pure 21 42 (v := ?_) rfl rfl (by kernel_rfl) (by kernel_rfl) (by kernel_rfl) (fun _ _ _ h => h) (by go_simp) (fun w => ?_) ?_
        rotate_left
        · go_simp
          try with_reducible rfl
        refine wpAnyN_pureG 22 43 (v := ?_) rfl rfl (by kernel_rfl) (by kernel_rfl) (by kernel_rfl) (fun _ _ _ h => h) rfl (fun w => ?_) ?_
        rotate_left
        · go_simp
          try with_reducible rfl
        refine wpAnyN_done (by kernel_rfl) ?_
        simp only [Act.put, List.setIfInBounds_toArray, List.set_cons_succ, List.set_cons_zero]
        have HT := Lib.hid hT6
        clear hT6
        by_cases hml : m < l.length
        · have hd2 : decide ((m : Int) < (l.length : Int)) = true := by rw [decide_eq_true_eq]; omega
          obtain ⟨g, off, rfl, hg, hrg⟩ := (HB.out w6 HT.out.bel).place (by omega)
          have hy0 := hrg m hml
          have hts := take_succ_eq l m hml
          obtain ⟨y, hy⟩ : ∃ y : Hs, y = l[m] := ⟨_, rfl⟩
          rw [← hy] at hy0 hts
          have hyl := y.2
          have cp2 := HT.out.push hL HR0.out y (by have := HP.out.2.1; omega)
          have HU := Lib.hid hts
          clear hrg hg hy hts
          go_wp2_with (refine wpList_load_mid rfl 28 _ rfl g (off + m * 32) rfl (y.1.map b8) (.array 32 5) hy0 (by kernel_rfl) rfl (by rw [List.length_map, hyl]; kernel_rfl) ?_)
          refine cp2.mono ?_
          rintro e w7 ⟨rfl, v7, hT7, -, -⟩
          rw [HP.out.1, ← HU.out] at hT7
          have HT7 := Lib.hid hT7
          clear cp2 hT7 hy0 HT
          clear w6
          go_wp2
          go_roundg (gk - 1)
          case measure => have := HP.out; omega
          case rel => exact ⟨m + 1, v7, by go_num, by have := HP.out; omega, HT7.out⟩
        · have hd2 : decide (m < l.length) = false := by rw [decide_eq_false_iff_not]; omega
          go_wp2
          go_roundg (gk - 1)
          case measure => have := HP.out; omega
          case rel =>
            refine ⟨m + 1, v, by go_num, by have := HP.out; omega, ?_⟩
            have e1 : l.take (m + 1) = P := by rw [HP.out.1, List.take_of_length_le (by omega), List.take_of_length_le (by omega)]
            rw [e1]; exact HT.out
      · have hd1 : decide (m ≤ l.length) = false := by rw [decide_eq_false_iff_not]; omega
        have F := hT.bel
        rw [HR.out] at F
        clear hT
        go_wp2
        go_ret
        exact ⟨rfl, F⟩
  · have hd : decide ((60 : Int) < (l.length : Int)) = true := by rw [decide_eq_true_eq]; omega
    go_enter Tryd.func13, Tryd.ntmps13
    go_wp2_with fail
    refine (awake17_any w hL).mono ?_
    rintro e w1 ⟨rfl, F1⟩
    go_wp2_with fail
    refine (awake17_any w1 (hL.below F1 (Nat.le_refl _))).mono ?_
    rintro e w2 ⟨rfl, GF2⟩
    have F2 := Below.then F1 GF2
    go_wp2_with fail
    go_ret
    exact ⟨rfl, F2⟩
end Go.Proofs.YtbglblamoodocaaDoor
