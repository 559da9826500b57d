/-
  The walk of the statement MerkleLast.
-/
import Derived.Test.YtbglblamoodocaaDoorAwake16
import Derived.Test.YtbglblamoodocaaDoorApp
import Derived.Test.YtbglblamoodocaaDoorReg2
namespace Go.Proofs.YtbglblamoodocaaDoor
open Go Go.RowKit
attribute [local irreducible] sha
set_option maxRecDepth 100000 in
set_option maxHeartbeats 4000000 in
theorem mlast_any (w : World) (hL : Laid w) (ao : Option Addr) (cp : Nat) (l : List Hs) (hB : Hts w ao l) (hc : l.length ≤ cp) (hm : cp ≤ maxLen) (ab : Option Addr) (cb : Nat) (bs : List B) (hY : Bts w ab bs) (hcb : bs.length ≤ cb) (hmb : cb ≤ maxLen) :
    Calls Tryd.prog 7 #[.slice ao l.length cp, .slice ab bs.length cb] w fun e w' => e = .returned (.bool true) ∧ Below w.heap.size w w' := by
  have hm1 : l.length ≤ 9223372036854775807 := Nat.le_trans hc hm
  have hm2 : bs.length ≤ 9223372036854775807 := Nat.le_trans hcb hmb
  have hm0 : cp ≤ 9223372036854775807 := hm
  by_cases hlen : l.length ≤ 64
  · have hd : decide ((64 : Int) < (l.length : Int)) = false := by rw [decide_eq_false_iff_not]; omega
    by_cases hl0 : l.length = 0
    · have hd1 : ((l.length : Int) == 0) = true := by rw [beq_iff_eq]; omega
      go_enter Tryd.func7, Tryd.ntmps7
      go_wp2_with fail
      refine (awake16_any w hL).mono ?_
      rintro e w1 ⟨rfl, F1⟩
      go_wp2_with fail
      refine (awake16_any w1 (hL.below F1 (Nat.le_refl _))).mono ?_
      rintro e w2 ⟨rfl, GF2⟩
      have F2 := Below.then F1 GF2
      go_wp2_with fail
      go_ret
      exact ⟨rfl, F2⟩
    · have hd1 : ((l.length : Int) == 0) = false := by rw [beq_eq_false_iff_ne]; omega
      by_cases hb3 : bs.length ≤ 300
      · have hd2 : decide ((300 : Int) < (bs.length : Int)) = false := by rw [decide_eq_false_iff_not]; omega
        obtain ⟨i0, hi, hz0, hz1, hz2⟩ := info_parts infoHs
        obtain ⟨u, hu⟩ : ∃ u, u = leafH bs := ⟨_, rfl⟩
        have hul := u.2
        have HUU := Lib.hid hu
        clear hu
        obtain ⟨all, hall⟩ : ∃ all, all = l ++ [u] := ⟨_, rfl⟩
        have hal : all.length = l.length + 1 := by rw [hall]; simp
        obtain ⟨k, hk⟩ : ∃ k, k = Tree.split all.length := ⟨_, rfl⟩
        have k1 := Tree.split_lt (n := all.length) (by omega)
        have k0 := Tree.split_pos (n := all.length) (by omega)
        have hroot : rootH all = nodeH (rootH (l.take k)) (rootH (all.drop k)) := by
          have := Tree.root_two nodeH nilH (l := all) (by omega)
          rw [← hk] at this
          rw [← hk] at k1
          have ht : all.take k = l.take k := by rw [hall, List.take_append_of_le_length (by omega)]
          rw [ht] at this
          exact this
        rw [← hk] at k0 k1
        have hlast : k = l.length → rootH all = nodeH (rootH l) u := fun e => by
          rw [hroot, e, List.take_length, hall, List.drop_left]
          rw [show rootH [u] = u from Tree.root_one _ _ _]
        obtain ⟨z, hz⟩ : ∃ z, z = rootH all := ⟨_, rfl⟩
        have hzl := z.2
        rw [← hz] at hroot hlast
        have hkl : k ≤ l.length := by omega
        have HZ := Lib.hid (And.intro hz (And.intro hroot (And.intro hlast (And.intro hall (And.intro hk hal)))))
        clear hz hroot hlast hall hk k1 hal
        obtain ⟨r, hr⟩ : ∃ r, r = w.heap.size := ⟨_, rfl⟩
        have HR := Lib.hid hr
        have hr0 : w.heap.size ≤ r := by omega
        have HR0 := Lib.hid hr0
        clear hr hr0
        go_enter Tryd.func7, Tryd.ntmps7
        go_wp2_with fail
        refine (awake16_any w hL).mono ?_
        rintro e w1 ⟨rfl, F1⟩
        rw [← HR.out] at F1
        have hs1 := F1.size
        rw [← HR.out] at hs1
        go_wp2_with fail
        refine (leaf_any w1 (hL.below F1 HR0.out) ab cb bs (hY.below F1 HR0.out) (by omega)).mono ?_
        rintro e w2 ⟨rfl, G2⟩
        rw [← HUU.out]
        have F2 := F1.trans (G2.mono hs1)
        have hs2 : r ≤ w2.heap.size := Nat.le_trans hs1 G2.size
        clear F1 G2 hs1
        clear w1
        go_wp2_with (refine wpList_store_blk rfl 28 _ _ rfl (Blk.new w2 zero32 28) (u.1.map b8).toArray rfl rfl 32 (by kernel_rfl) rfl (by simp [hul]) (by rw [List.toList_toArray]; exact b8_one _) ?_)
        intro w3 hU3 hg3
        have F3 : Below r w w3 := below_upd (F2.alloc hs2 _) hg3 hs2 (alloc_lt _ _)
        obtain ⟨b, hbb⟩ : ∃ b, b = w2.heap.size := ⟨_, rfl⟩
        rw [← hbb] at hU3 hs2 ⊢
        clear hbb hg3 F2
        clear w2
        go_upto_region 4 with (fail)
        refine wp_region_N (fun w' => Blk w' b 28 (u.1.map b8).toArray) [] (by kernel_rfl) ?_
        obtain ⟨wd, hwd⟩ : ∃ wd, wd = w3.drew := ⟨_, rfl⟩
        replace hU3 : Blk wd b 28 (u.1.map b8).toArray := by rw [hwd]; exact hU3
        replace F3 : Below r w wd := by rw [hwd]; exact F3.drew
        rw [← hwd]
        clear hwd
        clear w3
        have hrs : r ≤ wd.heap.size := by have := hU3.lt; omega
        have hBd := hB.below F3 HR0.out
        refine wpAnyN_pureG 1 29 (v := ?_) rfl rfl (by kernel_rfl) (by kernel_rfl) (by kernel_rfl) (fun _ _ _ h => h) rfl (fun w => ?_) ?_
        rotate_left
        · go_simp
          try with_reducible rfl
        refine wpAnyN_takeG 3 31 (v := hval u) rfl rfl (by kernel_rfl) (by kernel_rfl) (by kernel_rfl) (by kernel_rfl) (fun _ _ _ h => h) hU3 rfl (fun w hS => ?_) ?_
        · exact run_load_mid_blk 28 _ rfl hS 0 (by go_simp) (u.1.map b8) (fun j v h => by rw [Nat.zero_add, List.getElem?_toArray]; exact h) (.array 32 5) (by kernel_rfl) rfl 32 (by kernel_rfl) (by simp [hul])
        simp only [Act.put, List.setIfInBounds_toArray, List.set_cons_succ, List.set_cons_zero]
        refine wpAnyN_dag2 [0, 2, 4] (fun i => match i with | 0 => some 28 | 2 => some 30 | 4 => some 32 | _ => none) (fun i => match i with | 2 => [0] | _ => []) (fun i v w => match i with
          | 0 => EmptyS wd.heap.size 28 v w
          | 2 => RowS wd.heap.size 28 32 l.length ((flat l).map b8) v w
          | 4 => ∃ c, v = .slice (some ⟨c, 0, none⟩) 1 1 ∧ Blk w c 28 (u.1.map b8).toArray
          | _ => True) (fun _ => false) (g := 2) (by kernel_rfl) (by kernel_rfl) rfl
          ⟨fun _ _ _ hb h => EmptyS.below hb h, fun _ _ _ hb h => RowS.below hb h, fun _ _ _ hb ⟨c, h1, h2⟩ => ⟨c, h1, h2.below hb h2.lt⟩, trivial⟩
          (fun w w' hb h => h.below hb h.lt) ⟨?_, ?_, ?_, trivial⟩ ?_
        · intro vs w hb _ o ho
          cases ho
          simp only [putsD]
          refine vwp_run rfl (v := .slice (some ⟨w.heap.size, 0, none⟩) 0 0) (w' := w.alloc (.cells #[] 28)) ?_ ⟨below_alloc1 _ _, ⟨_, rfl, heap_alloc_new w _, hb.size⟩, fun h => by cases h⟩
          go_simp
        · intro vs w hb hd o ho
          cases ho
          obtain ⟨⟨g, hv, hg, hrg⟩, -⟩ := hd
          simp only [putsD]
          rw [hv]
          refine vwp_append_empty rfl (.tmp 28) (.tmp 29) 32 32 rfl 28 i0 (.agg zero32) 32 32 (by kernel_rfl) hi hz0 hz1 hz2 rfl hg rfl ((hBd.below hb (Nat.le_refl _)).src l.length cp rfl) rfl (by simp only [maxLen]; omega) (by omega) fun v' w' hrow hbel hown => ⟨hbel, ⟨hrow, fun g' e' => ?_⟩, fun h => by cases h⟩
          have := hb.size
          rcases hown with e1 | ⟨e1, -⟩
          · have := Option.some.inj (e1.symm.trans e'); omega
          · have := Option.some.inj (e1.symm.trans e'); omega
        · intro vs w hb _ o ho
          cases ho
          simp only [putsD]
          exact vwp_run rfl (run_build_one w u.1 hul _ _ (.tmp 31) rfl rfl) ⟨below_alloc1 _ _, ⟨_, rfl, Blk.new _ _ _⟩, fun h => by cases h⟩
        · intro vs w4 hb hR hz1' hz2'
          clear hz1' hz2'
          obtain ⟨-, ⟨hrow4, hrg4⟩, ⟨c, h32, hc4⟩, -⟩ := hR
          have F4 : Below r w w4 := F3.trans (hb.mono hrs)
          have hs4 : r ≤ w4.heap.size := Nat.le_trans hrs hb.size
          have hU4 := hU3.below hb hU3.lt
          have hO4 : OwnH r w w4 (vs 2) l := ⟨hrow4, fun g e => Nat.le_trans hrs (hrg4 g e), F4, hs4⟩
          have hne4 : ∀ g, (vs 2).ownBlock = some g → g ≠ b := fun g e => by have := hrg4 g e; have := hU3.lt; omega
          clear hrow4 hrg4
          simp only [putsD]
          obtain ⟨v30, h30⟩ : ∃ v30, v30 = vs 2 := ⟨_, rfl⟩
          rw [← h30] at hO4 hne4 ⊢
          rw [h32]
          generalize vs 0 = v28
          clear h30 h32 hb hBd F3 hU3 hrs
          clear wd
          simp only [Act.put, List.setIfInBounds_toArray, List.set_cons_succ, List.set_cons_zero]
          refine wpAnyN_append 5 (some 33) (.tmp 30) (.tmp 32) 32 32 (by kernel_rfl) rfl rfl rfl rfl 28 i0 (.agg zero32) 32 32 (by kernel_rfl) hi hz0 hz1 hz2 rfl (by decide) hO4.row rfl (xv := .slice (some ⟨c, 0, none⟩) 1 1) (m := 1) (news := u.1.map b8)
            (Src.ofSlice _ (e' := 28) (by kernel_rfl) ⟨c, 0, none⟩ 1 1 (u.1.map b8) (by simp [hul]) (fun j x hx => by rw [Addr.add_lit, Nat.zero_add, hc4.cell j]; simpa using hx) (b8_one _)) rfl (by simp only [maxLen]; omega) (by omega) ?_
          intro v5 w5 hrow5 hg5 hv5
          have hO5 : OwnH r w w5 v5 all := by
            rw [HZ.out.2.2.2.1]
            exact OwnH.app (k := [u]) hO4 (by rw [flat_one]; exact hrow5) hg5 hv5
          have hU5 := hU4.grown hg5 (fun e => hne4 _ e.symm rfl)
          refine ⟨fun _ h => h.grown hg5 (fun e => hne4 _ e.symm rfl), ?_⟩
          clear hrow5 hg5 hv5 hO4 hne4 hc4 hU4 F4 hs4
          refine wpAnyN_pureG 6 6 (v := ?_) rfl rfl (by kernel_rfl) (by kernel_rfl) (by kernel_rfl) (fun _ _ _ h => h) rfl (fun w => ?_) ?_
          rotate_left
          · go_simp
            try with_reducible rfl
          refine wpAnyN_done (by kernel_rfl) ?_
          simp only [Act.put, List.setIfInBounds_toArray, List.set_cons_succ, List.set_cons_zero]
          obtain ⟨a5, c5, e5, -, hc5, hm5, -⟩ := hO5.row.hts
          subst e5
          clear w4
          have hm6 : c5 ≤ 9223372036854775807 := hm5
          have hsp := split_any w5 (all.length : Int) (by omega) (by omega)
          rw [Int.toNat_natCast, ← HZ.out.2.2.2.2.1] at hsp
          go_wp2_with fail
          refine hsp.mono ?_
          rintro e w' ⟨rfl, rfl⟩
          clear hsp
          obtain ⟨a6, hs6, -, ht6⟩ := run_upto_hts (P := Tryd.prog) (t := 32) (by kernel_rfl) hi ao l.length cp k (by omega)
          obtain ⟨a7, hs7, ht7⟩ := run_from_hts (P := Tryd.prog) (t := 32) (by kernel_rfl) hi hz1 a5 all.length c5 k (by have := HZ.out.2.2.2.2.2; omega) hc5
          have hk1 : (l.take k).length = k := by rw [List.length_take]; omega
          have hk2 : (all.drop k).length = all.length - k := List.length_drop
          have HL := Lib.hid (And.intro hk1 (And.intro hk2 hc5))
          clear hk1 hk2 hc5 hd hd1 hd2 hm5
          go_upto_region 6 with (fail)
          refine wp_region_N (fun w' => Blk w' b 28 (u.1.map b8).toArray) [] (by kernel_rfl) ?_
          obtain ⟨we, hwe⟩ : ∃ we, we = w'.drew := ⟨_, rfl⟩
          replace hU5 : Blk we b 28 (u.1.map b8).toArray := by rw [hwe]; exact hU5
          replace hO5 : OwnH r w we (.slice a5 all.length c5) all := by rw [hwe]; exact hO5.drewN 1
          rw [← hwe]
          clear hwe
          clear w'
          refine wpAnyN_pureG 0 37 (v := ?_) rfl rfl (by kernel_rfl) (by kernel_rfl) (by kernel_rfl) (fun _ _ _ h => h) rfl (fun w => ?_) ?_
          rotate_left
          · go_simp
            try with_reducible rfl
          refine wpAnyN_pureG 2 39 (v := ?_) rfl rfl (by kernel_rfl) (by kernel_rfl) (by kernel_rfl) (fun _ _ _ h => h) rfl (fun w => ?_) ?_
          rotate_left
          · go_simp
            try with_reducible rfl
          refine wpAnyN_pureG 3 40 (v := ?_) rfl rfl (by kernel_rfl) (by kernel_rfl) (by kernel_rfl) (fun _ _ _ h => h) rfl (fun w => ?_) ?_
          rotate_left
          · go_simp
            try with_reducible rfl
          refine wpAnyN_pureG 4 41 (v := ?_) rfl rfl (by kernel_rfl) (by kernel_rfl) (by kernel_rfl) (fun _ _ _ h => h) rfl (fun w => ?_) ?_
          rotate_left
          · go_simp
            try with_reducible rfl
          refine wpAnyN_pureG 6 43 (v := ?_) rfl rfl (by kernel_rfl) (by kernel_rfl) (by kernel_rfl) (fun _ _ _ h => h) rfl (fun w => ?_) ?_
          rotate_left
          · go_simp
            try with_reducible rfl
          refine wpAnyN_pureG 7 44 (v := ?_) rfl rfl (by kernel_rfl) (by kernel_rfl) (by kernel_rfl) (fun _ _ _ h => h) rfl (fun w => ?_) ?_
          rotate_left
          · go_simp
            try with_reducible rfl
          refine wpAnyN_pureG 8 45 (v := ?_) rfl rfl (by kernel_rfl) (by kernel_rfl) (by kernel_rfl) (fun _ _ _ h => h) rfl (fun w => ?_) ?_
          rotate_left
          · go_simp
            try with_reducible rfl
          simp only [Act.put, List.setIfInBounds_toArray, List.set_cons_succ, List.set_cons_zero]
          obtain ⟨a8, c8, e8, -, -, -, hY5⟩ := hO5.row.hts
          cases e8
          have k1 := root_any we a5 c5 all (hL.below hO5.bel HR0.out) hY5 (HL.out.2.2) (by simp only [maxLen]; omega)
          rw [← HZ.out.1] at k1
          refine wpAnyN_call 1 24 (some 38) [.tmp 37] [.slice a5 all.length c5] (by kernel_rfl) rfl rfl rfl rfl (by go_simp) Tryd.call24 ?_
          refine k1.mono ?_
          rintro e w6 ⟨rfl, G6⟩
          have hO6 : OwnH r w w6 (.slice a5 all.length c5) all := Own.below hO5 G6
          have hU6 := hU5.below G6 hU5.lt
          refine ⟨_, rfl, fun _ h => h.below G6 h.lt, ?_⟩
          clear k1 hO5 hU5 G6 hY5
          clear we
          have k2 := root_any w6 a6 cp (l.take k) (hL.below hO6.bel HR0.out) (ht6 w6 l (hB.below hO6.bel HR0.out)) (by have := HL.out.1; omega) hm
          rw [HL.out.1] at k2
          refine wpAnyN_call 5 24 (some 42) [.tmp 41] [.slice a6 k cp] (by kernel_rfl) rfl rfl rfl rfl (by go_simp) Tryd.call24 ?_
          refine k2.mono ?_
          rintro e w7 ⟨rfl, G7⟩
          have hO7 : OwnH r w w7 (.slice a5 all.length c5) all := Own.below hO6 G7
          have hU7 := hU6.below G7 hU6.lt
          refine ⟨_, rfl, fun _ h => h.below G7 h.lt, ?_⟩
          clear k2 hO6 hU6 G7
          clear w6
          obtain ⟨a8, c8, e8, -, -, -, hY7⟩ := hO7.row.hts
          cases e8
          have k3 := root_any w7 a7 (c5 - k) (all.drop k) (hL.below hO7.bel HR0.out) (ht7 w7 all rfl hY7) (by have := HL.out; omega) (by simp only [maxLen]; omega)
          rw [HL.out.2.1] at k3
          refine wpAnyN_call 9 24 (some 46) [.tmp 45] [.slice a7 (all.length - k) (c5 - k)] (by kernel_rfl) rfl rfl rfl rfl (by go_simp) Tryd.call24 ?_
          refine k3.mono ?_
          rintro e w8 ⟨rfl, G8⟩
          have hO8 : OwnH r w w8 (.slice a5 all.length c5) all := Own.below hO7 G8
          have hU8 := hU7.below G8 hU7.lt
          refine ⟨_, rfl, fun _ h => h.below G8 h.lt, ?_⟩
          clear k3 hO7 hU7 G8 hY7
          clear w7
          have k4 := node_any w8 (hL.below hO8.bel HR0.out) (rootH (l.take k)) (rootH (all.drop k))
          rw [← HZ.out.2.1] at k4
          refine wpAnyN_call 10 22 (some 47) [.tmp 42, .tmp 46] [hval (rootH (l.take k)), hval (rootH (all.drop k))] (by kernel_rfl) rfl rfl rfl rfl (by go_simp) Tryd.call22 ?_
          refine k4.mono ?_
          rintro e w9 ⟨rfl, G9⟩
          have hO9 : OwnH r w w9 (.slice a5 all.length c5) all := Own.below hO8 G9
          have hU9 := hU8.below G9 hU8.lt
          refine ⟨_, rfl, fun _ h => h.below G9 h.lt, ?_⟩
          clear k4 hO8 hU8 G9
          clear w8
          simp only [Act.put, List.setIfInBounds_toArray, List.set_cons_succ, List.set_cons_zero]
          refine wpAnyN_pureG 11 48 (v := ?_) rfl rfl (by kernel_rfl) (by kernel_rfl) (by kernel_rfl) (fun _ _ _ h => h) rfl (fun w => ?_) ?_
          rotate_left
          · go_simp
            try with_reducible rfl
          refine wpAnyN_done (by kernel_rfl) ?_
          simp only [Act.put, List.setIfInBounds_toArray, List.set_cons_succ, List.set_cons_zero]
          generalize rootH (l.take k) = v42
          generalize rootH (all.drop k) = v46
          by_cases hkk : k = l.length
          · have hq : ((k : Int) != (l.length : Int)) = false := by rw [hkk]; simp
            have hzr := HZ.out.2.2.1 hkk
            have HKK := Lib.hid (And.intro hkk hzr)
            clear hkk hzr
            go_upto_region 8 with (fail)
            refine wp_region_N (fun w' => Blk w' b 28 (u.1.map b8).toArray) [] (by kernel_rfl) ?_
            obtain ⟨wf, hwf⟩ : ∃ wf, wf = w9.drew := ⟨_, rfl⟩
            replace hU9 : Blk wf b 28 (u.1.map b8).toArray := by rw [hwf]; exact hU9
            replace hO9 : OwnH r w wf (.slice a5 all.length c5) all := by rw [hwf]; exact hO9.drewN 1
            rw [← hwf]
            clear hwf
            clear w9
            refine wpAnyN_pureG 0 49 (v := ?_) rfl rfl (by kernel_rfl) (by kernel_rfl) (by kernel_rfl) (fun _ _ _ h => h) rfl (fun w => ?_) ?_
            rotate_left
            · go_simp
              try with_reducible rfl
            refine wpAnyN_pureG 1 50 (v := ?_) rfl rfl (by kernel_rfl) (by kernel_rfl) (by kernel_rfl) (fun _ _ _ h => h) rfl (fun w => ?_) ?_
            rotate_left
            · go_simp
              try with_reducible rfl
            refine wpAnyN_pureG 2 51 (v := ?_) rfl rfl (by kernel_rfl) (by kernel_rfl) (by kernel_rfl) (fun _ _ _ h => h) rfl (fun w => ?_) ?_
            rotate_left
            · go_simp
              try with_reducible rfl
            refine wpAnyN_pureG 3 52 (v := ?_) rfl rfl (by kernel_rfl) (by kernel_rfl) (by kernel_rfl) (fun _ _ _ h => h) rfl (fun w => ?_) ?_
            rotate_left
            · go_simp
              try with_reducible rfl
            refine wpAnyN_pureG 4 53 (v := ?_) rfl rfl (by kernel_rfl) (by kernel_rfl) (by kernel_rfl) (fun _ _ _ h => h) rfl (fun w => ?_) ?_
            rotate_left
            · go_simp
              try with_reducible rfl
            refine wpAnyN_pure 5 54 (v := ?_) rfl rfl (by kernel_rfl) (by kernel_rfl) (by kernel_rfl) (fun _ _ _ h => h) (by go_simp) (fun w => ?_) ?_
            rotate_left
            · go_simp
              try with_reducible rfl
            refine wpAnyN_pure 7 56 (v := ?_) rfl rfl (by kernel_rfl) (by kernel_rfl) (by kernel_rfl) (fun _ _ _ h => h) (by go_simp) (fun w => ?_) ?_
            rotate_left
            · go_simp
              try with_reducible rfl
            simp only [Act.put, List.setIfInBounds_toArray, List.set_cons_succ, List.set_cons_zero]
            refine wpAnyN_take 9 58 (v := hval u) rfl rfl (by kernel_rfl) (by kernel_rfl) (by kernel_rfl) (by kernel_rfl) (fun _ _ _ h => h) hU9 (by go_simp) (fun w hS => ?_) ?_
            · exact run_load_mid_blk 28 _ rfl hS 0 (by go_simp) (u.1.map b8) (fun j v h => by rw [Nat.zero_add, List.getElem?_toArray]; exact h) (.array 32 5) (by kernel_rfl) rfl 32 (by kernel_rfl) (by simp [hul])
            obtain ⟨a8, c8, e8, -, -, -, hY9⟩ := hO9.row.hts
            cases e8
            have k5 := root_any wf a5 c5 all (hL.below hO9.bel HR0.out) hY9 (HL.out.2.2) (by simp only [maxLen]; omega)
            rw [← HZ.out.1] at k5
            refine wpAnyN_callW 6 24 (some 55) [.tmp 54] [.slice a5 all.length c5] (by kernel_rfl) rfl rfl rfl (by go_simp) (by go_simp) Tryd.call24 ?_
            refine k5.mono ?_
            rintro e w10 ⟨rfl, G10⟩
            have F10 : Below r w w10 := hO9.bel.trans (G10.mono hO9.le)
            have hU10 := hU9.below G10 hU9.lt
            refine ⟨_, rfl, fun _ h => h.below G10 h.lt, ?_⟩
            have hs10 : r ≤ w10.heap.size := by have := hO9.le; have := G10.size; omega
            clear k5 hO9 hU9 G10 hY9
            clear wf
            have k6 := root_any w10 ao cp l (hL.below F10 HR0.out) (hB.below F10 HR0.out) hc hm
            refine wpAnyN_callW 8 24 (some 57) [.tmp 56] [.slice ao l.length cp] (by kernel_rfl) rfl rfl rfl (by go_simp) (by go_simp) Tryd.call24 ?_
            refine k6.mono ?_
            rintro e w11 ⟨rfl, G11⟩
            have F11 := F10.trans (G11.mono hs10)
            refine ⟨_, rfl, fun _ h => h.below G11 h.lt, ?_⟩
            have hs11 : r ≤ w11.heap.size := Nat.le_trans hs10 G11.size
            clear k6 F10 hU10 G11 hs10
            clear w10
            have k7 := node_any w11 (hL.below F11 HR0.out) (rootH l) u
            rw [← HKK.out.2] at k7
            refine wpAnyN_callW 10 22 (some 59) [.tmp 57, .tmp 58] [hval (rootH l), hval u] (by kernel_rfl) rfl rfl rfl (by go_simp) (by go_simp) Tryd.call22 ?_
            refine k7.mono ?_
            rintro e w12 ⟨rfl, G12⟩
            have F12 := F11.trans (G12.mono hs11)
            refine ⟨_, rfl, fun _ h => h.below G12 h.lt, ?_⟩
            clear k7 F11 G12 hs11
            clear w11
            simp only [Act.put, List.setIfInBounds_toArray, List.set_cons_succ, List.set_cons_zero]
            refine wpAnyN_pure 11 60 (v := ?_) rfl rfl (by kernel_rfl) (by kernel_rfl) (by kernel_rfl) (fun _ _ _ h => h) (by go_simp) (fun w => ?_) ?_
            rotate_left
            · go_simp
              try with_reducible rfl
            refine wpAnyN_pureG 12 61 (v := ?_) rfl rfl (by kernel_rfl) (by kernel_rfl) (by kernel_rfl) (fun _ _ _ h => h) rfl (fun w => ?_) ?_
            rotate_left
            · go_simp
              try with_reducible rfl
            refine wpAnyN_pureG 13 4 (v := ?_) rfl rfl (by kernel_rfl) (by kernel_rfl) (by kernel_rfl) (fun _ _ _ h => h) rfl (fun w => ?_) ?_
            rotate_left
            · go_simp
              try with_reducible rfl
            refine wpAnyN_done (by kernel_rfl) ?_
            simp only [Act.put, List.setIfInBounds_toArray, List.set_cons_succ, List.set_cons_zero]
            rw [HR.out] at F12
            go_wp2
            go_ret
            exact ⟨rfl, F12⟩
          · have hq : ((k : Int) != (l.length : Int)) = true := by rw [bne_iff_ne]; omega
            go_upto_region 8 with (fail)
            refine wp_region_N (fun w' => True) [] (by kernel_rfl) ?_
            have F9 : Below r w w9.drew := hO9.bel.drew
            generalize w9.drew = wf at F9 ⊢
            refine wpAnyN_pureG 0 49 (v := ?_) rfl rfl (by kernel_rfl) (by kernel_rfl) (by kernel_rfl) (fun _ _ _ h => h) rfl (fun w => ?_) ?_
            rotate_left
            · go_simp
              try with_reducible rfl
            refine wpAnyN_pureG 1 50 (v := ?_) rfl rfl (by kernel_rfl) (by kernel_rfl) (by kernel_rfl) (fun _ _ _ h => h) rfl (fun w => ?_) ?_
            rotate_left
            · go_simp
              try with_reducible rfl
            refine wpAnyN_pureG 2 51 (v := ?_) rfl rfl (by kernel_rfl) (by kernel_rfl) (by kernel_rfl) (fun _ _ _ h => h) rfl (fun w => ?_) ?_
            rotate_left
            · go_simp
              try with_reducible rfl
            refine wpAnyN_pureG 3 52 (v := ?_) rfl rfl (by kernel_rfl) (by kernel_rfl) (by kernel_rfl) (fun _ _ _ h => h) rfl (fun w => ?_) ?_
            rotate_left
            · go_simp
              try with_reducible rfl
            refine wpAnyN_pureG 4 53 (v := ?_) rfl rfl (by kernel_rfl) (by kernel_rfl) (by kernel_rfl) (fun _ _ _ h => h) rfl (fun w => ?_) ?_
            rotate_left
            · go_simp
              try with_reducible rfl
            refine wpAnyN_skipD 5 54 rfl rfl (by kernel_rfl) (by kernel_rfl) (by kernel_rfl) (fun _ _ _ h => h) (by go_simp) ?_
            refine wpAnyN_skipD 6 55 rfl rfl (by kernel_rfl) (by kernel_rfl) (by kernel_rfl) (fun _ _ _ h => h) (by go_simp) ?_
            refine wpAnyN_skipD 7 56 rfl rfl (by kernel_rfl) (by kernel_rfl) (by kernel_rfl) (fun _ _ _ h => h) (by go_simp) ?_
            refine wpAnyN_skipD 8 57 rfl rfl (by kernel_rfl) (by kernel_rfl) (by kernel_rfl) (fun _ _ _ h => h) (by go_simp) ?_
            refine wpAnyN_skipD 9 58 rfl rfl (by kernel_rfl) (by kernel_rfl) (by kernel_rfl) (fun _ _ _ h => h) (by go_simp) ?_
            refine wpAnyN_skipD 10 59 rfl rfl (by kernel_rfl) (by kernel_rfl) (by kernel_rfl) (fun _ _ _ h => h) (by go_simp) ?_
            refine wpAnyN_skipD 11 60 rfl rfl (by kernel_rfl) (by kernel_rfl) (by kernel_rfl) (fun _ _ _ h => h) (by go_simp) ?_
            refine wpAnyN_pureG 12 61 (v := ?_) rfl rfl (by kernel_rfl) (by kernel_rfl) (by kernel_rfl) (fun _ _ _ h => h) rfl (fun w => ?_) ?_
            rotate_left
            · go_simp
              try with_reducible rfl
            refine wpAnyN_pureG 13 4 (v := ?_) rfl rfl (by kernel_rfl) (by kernel_rfl) (by kernel_rfl) (fun _ _ _ h => h) rfl (fun w => ?_) ?_
            rotate_left
            · go_simp
              try with_reducible rfl
            refine wpAnyN_done (by kernel_rfl) ?_
            simp only [Act.put, List.setIfInBounds_toArray, List.set_cons_succ, List.set_cons_zero]
            rw [HR.out] at F9
            go_wp2
            go_ret
            exact ⟨rfl, F9⟩
      · have hd2 : decide ((300 : Int) < (bs.length : Int)) = true := by rw [decide_eq_true_eq]; omega
        go_enter Tryd.func7, Tryd.ntmps7
        go_wp2_with fail
        refine (awake16_any w hL).mono ?_
        rintro e w1 ⟨rfl, F1⟩
        go_wp2_with fail
        refine (awake16_any w1 (hL.below F1 (Nat.le_refl _))).mono ?_
        rintro e w2 ⟨rfl, GF2⟩
        have F2 := Below.then F1 GF2
        go_wp2_with fail
        go_ret
        exact ⟨rfl, F2⟩
  · have hd : decide ((64 : Int) < (l.length : Int)) = true := by rw [decide_eq_true_eq]; omega
    go_enter Tryd.func7, Tryd.ntmps7
    go_wp2_with fail
    refine (awake16_any w hL).mono ?_
    rintro e w1 ⟨rfl, F1⟩
    go_wp2_with fail
    refine (awake16_any w1 (hL.below F1 (Nat.le_refl _))).mono ?_
    rintro e w2 ⟨rfl, GF2⟩
    have F2 := Below.then F1 GF2
    go_wp2_with fail
    go_ret
    exact ⟨rfl, F2⟩
end Go.Proofs.YtbglblamoodocaaDoor
