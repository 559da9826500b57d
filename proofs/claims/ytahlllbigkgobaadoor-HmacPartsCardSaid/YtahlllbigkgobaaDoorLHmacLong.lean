/-
  The walk of the statement HmacLong.
-/
import Derived.Test.YtahlllbigkgobaaDoorLHmac
namespace Go.Proofs.YtahlllbigkgobaaDoor
open Go.RowKit
attribute [local irreducible] sha compress absorb
theorem mac_long (key msg : List B) (h : 64 < key.length) : mac (sha key) msg = mac key msg := by
  unfold mac mkey
  rw [if_pos h, if_neg (by rw [sha_len]; decide)]
set_option maxRecDepth 100000 in
set_option maxHeartbeats 4000000 in
theorem hlong_any (w : World) (hL : Laid w) (ao : Option Addr) (cp : Nat) (key : List B) (hK : Bts w ao key) (hc : key.length ≤ cp) (hm : cp ≤ maxLen) (am : Option Addr) (cm : Nat) (msg : List B) (hM : Bts w am msg) (hc2 : msg.length ≤ cm) (hm2 : cm ≤ maxLen) :
    Calls Tryd.prog 9 #[.slice ao key.length cp, .slice am msg.length cm] w fun e w' => e = .returned (.bool true) ∧ Below w.heap.size w w' := by
  replace hm : key.length ≤ 9223372036854775807 := Nat.le_trans hc hm
  replace hm2 : msg.length ≤ 9223372036854775807 := Nat.le_trans hc2 hm2
  by_cases hlen : key.length ≤ 500 ∧ msg.length ≤ 500
  · have hd : decide ((500 : Int) < (key.length : Int)) = false := by rw [decide_eq_false_iff_not]; omega
    have hd2 : decide ((500 : Int) < (msg.length : Int)) = false := by rw [decide_eq_false_iff_not]; omega
    go_enter Tryd.func9, Tryd.ntmps9
    go_wp2_with fail
    refine (awake07_any w hL).mono ?_
    rintro e w1 ⟨rfl, F1⟩
    go_wp2_with fail
    refine (refsum_any ao cp key w1 (hK.below F1 (Nat.le_refl _)) (by omega)).mono ?_
    rintro e w2 ⟨rfl, G2⟩
    have F2 := Below.then F1 G2
    clear F1 G2
    go_wp2_with (refine wpList_store_blk rfl 25 _ _ rfl (Blk.new w2 zero32 25) ((sha key).map b8).toArray rfl rfl 32 (by kernel_rfl) rfl (by simp [sha_len]) (by rw [List.toList_toArray]; exact b8_one _) ?_)
    intro w3 hb3 hg3
    have F3 : Below w.heap.size w w3 := below_upd (F2.alloc F2.size _) hg3 F2.size (by rw [alloc_size]; omega)
    obtain ⟨z, hz⟩ : ∃ z, z = w2.heap.size := ⟨_, rfl⟩
    rw [← hz] at hb3 ⊢
    clear hg3 F2 hz
    go_upto_region 4 with (fail)
    refine wp_region_N (fun _ => True) [] (by kernel_rfl) ?_
    obtain ⟨wd, hwd⟩ : ∃ wd, wd = w3.drew := ⟨_, rfl⟩
    replace hb3 : Blk wd z 25 ((sha key).map b8).toArray := by rw [hwd]; exact hb3
    replace F3 : Below w.heap.size w wd := by rw [hwd]; exact F3.drew
    rw [← hwd]
    have HD := Lib.hid (And.intro hb3 F3)
    clear hwd hb3 F3
    clear w3
    refine wpAnyN_pureG 0 21 (v := ?_) rfl rfl (by kernel_rfl) (by kernel_rfl) (by kernel_rfl) (fun _ _ _ h => h) rfl (fun w => ?_) ?_
    rotate_left
    · go_simp
      try with_reducible rfl
    refine wpAnyN_pureG 1 22 (v := ?_) rfl rfl (by kernel_rfl) (by kernel_rfl) (by kernel_rfl) (fun _ _ _ h => h) rfl (fun w => ?_) ?_
    rotate_left
    · go_simp
      try with_reducible rfl
    by_cases h64 : key.length ≤ 64
    · have hd3 : decide ((key.length : Int) ≤ 64) = true := by rw [decide_eq_true_eq]; omega
      refine wpAnyN_pureG 2 23 (v := ?_) rfl rfl (by kernel_rfl) (by kernel_rfl) (by kernel_rfl) (fun _ _ _ h => h) rfl (fun w => ?_) ?_
      rotate_left
      · go_simp
        try with_reducible rfl
      refine wpAnyN_pureG 3 24 (v := ?_) rfl rfl (by kernel_rfl) (by kernel_rfl) (by kernel_rfl) (fun _ _ _ h => h) rfl (fun w => ?_) ?_
      rotate_left
      · go_simp
        try with_reducible rfl
      refine wpAnyN_skipD 4 25 rfl rfl (by kernel_rfl) (by kernel_rfl) (by kernel_rfl) (fun _ _ _ h => h) (by (go_simp; try (unfold undef; simp))) ?_
      refine wpAnyN_skipD 5 26 rfl rfl (by kernel_rfl) (by kernel_rfl) (by kernel_rfl) (fun _ _ _ h => h) (by (go_simp; try (unfold undef; simp))) ?_
      refine wpAnyN_skipD 6 27 rfl rfl (by kernel_rfl) (by kernel_rfl) (by kernel_rfl) (fun _ _ _ h => h) (by (go_simp; try (unfold undef; simp))) ?_
      refine wpAnyN_skipD 7 28 rfl rfl (by kernel_rfl) (by kernel_rfl) (by kernel_rfl) (fun _ _ _ h => h) (by (go_simp; try (unfold undef; simp))) ?_
      refine wpAnyN_skipD 8 29 rfl rfl (by kernel_rfl) (by kernel_rfl) (by kernel_rfl) (fun _ _ _ h => h) (by (go_simp; try (unfold undef; simp))) ?_
      refine wpAnyN_skipD 9 30 rfl rfl (by kernel_rfl) (by kernel_rfl) (by kernel_rfl) (fun _ _ _ h => h) (by (go_simp; try (unfold undef; simp))) ?_
      refine wpAnyN_skipD 10 31 rfl rfl (by kernel_rfl) (by kernel_rfl) (by kernel_rfl) (fun _ _ _ h => h) (by (go_simp; try (unfold undef; simp))) ?_
      refine wpAnyN_skipD 11 32 rfl rfl (by kernel_rfl) (by kernel_rfl) (by kernel_rfl) (fun _ _ _ h => h) (by (go_simp; try (unfold undef; simp))) ?_
      refine wpAnyN_skipD 12 33 rfl rfl (by kernel_rfl) (by kernel_rfl) (by kernel_rfl) (fun _ _ _ h => h) (by (go_simp; try (unfold undef; simp))) ?_
      refine wpAnyN_pureG 13 34 (v := ?_) rfl rfl (by kernel_rfl) (by kernel_rfl) (by kernel_rfl) (fun _ _ _ h => h) rfl (fun w => ?_) ?_
      rotate_left
      · go_simp
        try with_reducible rfl
      refine wpAnyN_pureG 14 4 (v := ?_) rfl rfl (by kernel_rfl) (by kernel_rfl) (by kernel_rfl) (fun _ _ _ h => h) rfl (fun w => ?_) ?_
      rotate_left
      · go_simp
        try with_reducible rfl
      refine wpAnyN_done (by kernel_rfl) ?_
      simp only [Act.put, List.setIfInBounds_toArray, List.set_cons_succ, List.set_cons_zero]
      go_wp2
      go_ret
      exact ⟨rfl, HD.out.2⟩
    · have hd3 : decide ((key.length : Int) ≤ 64) = false := by rw [decide_eq_false_iff_not]; omega
      refine wpAnyN_pureG 2 23 (v := ?_) rfl rfl (by kernel_rfl) (by kernel_rfl) (by kernel_rfl) (fun _ _ _ h => h) rfl (fun w => ?_) ?_
      rotate_left
      · go_simp
        try with_reducible rfl
      refine wpAnyN_pureG 3 24 (v := ?_) rfl rfl (by kernel_rfl) (by kernel_rfl) (by kernel_rfl) (fun _ _ _ h => h) rfl (fun w => ?_) ?_
      rotate_left
      · go_simp
        try with_reducible rfl
      refine wpAnyN_pure 4 25 (v := ?_) rfl rfl (by kernel_rfl) (by kernel_rfl) (by kernel_rfl) (fun _ _ _ h => h) (by go_simp) (fun w => ?_) ?_
      rotate_left
      · go_simp
        try with_reducible rfl
      refine wpAnyN_pure 5 26 (v := ?_) rfl rfl (by kernel_rfl) (by kernel_rfl) (by kernel_rfl) (fun _ _ _ h => h) (by go_simp) (fun w => ?_) ?_
      rotate_left
      · go_simp
        try with_reducible rfl
      refine wpAnyN_pure 8 29 (v := ?_) rfl rfl (by kernel_rfl) (by kernel_rfl) (by kernel_rfl) (fun _ _ _ h => h) (by go_simp) (fun w => ?_) ?_
      rotate_left
      · go_simp
        try with_reducible rfl
      refine wpAnyN_pure 9 30 (v := ?_) rfl rfl (by kernel_rfl) (by kernel_rfl) (by kernel_rfl) (fun _ _ _ h => h) (by go_simp) (fun w => ?_) ?_
      rotate_left
      · go_simp
        try with_reducible rfl
      have HL := Lib.hid (And.intro hlen (show 64 < key.length by omega))
      clear hd hd2 hd3 hlen h64
      refine wpAnyN_dag2 [6, 7, 10, 11] (fun i => match i with | 6 => some 27 | 7 => some 28 | 10 => some 31 | 11 => some 32 | _ => none) (fun i => match i with | 7 => [6] | 11 => [7, 10] | _ => []) (fun i v w => match i with
        | 6 => NewS 22 #[.slice am msg.length cm] v w
        | 7 => v = hashv (mac key msg)
        | 10 => NewS 22 #[.slice am msg.length cm] v w
        | 11 => v = hashv (mac key msg)
        | _ => True) (fun _ => false) (g := 3) (by kernel_rfl) (by kernel_rfl) rfl
        ⟨fun _ _ _ hb h => NewS.below hb h, fun _ _ _ _ h => h, fun _ _ _ hb h => NewS.below hb h, fun _ _ _ _ h => h, trivial⟩ (fun _ _ _ _ => trivial) ⟨?_, ?_, ?_, ?_, trivial⟩ ?_
      · intro vs w hb _ o ho
        cases ho
        simp only [putsD]
        refine vwp_runW (by go_simp) (v := .slice (some ⟨w.heap.size, 0, none⟩) 1 1) (w' := w.alloc (.cells #[.slice am msg.length cm] 22)) ?_ ⟨below_alloc1 _ _, ⟨_, rfl, Blk.new _ _ _⟩, fun h => by cases h⟩
        go_simp
      · intro vs w hb hd o ho
        cases ho
        obtain ⟨⟨b5, hv5, hbk⟩, -⟩ := hd
        simp only [putsD]
        have Fw := Below.then HD.out.2 hb
        have hc2 := mac_one_at (cp := cp) w (hL.below Fw (Nat.le_refl _)) (hK.below Fw (Nat.le_refl _)) hbk (hM.below Fw (Nat.le_refl _)) (by have := HL.out; omega) (by have := HL.out; omega)
        refine vwp_callW 19 [.tmp 25, .tmp 27] [.slice ao key.length cp, .slice (some ⟨b5, 0, none⟩) 1 1] (by go_simp) rfl ?_ Tryd.call19 ?_
        · go_simp
        · refine (hc2).mono ?_
          rintro e w' ⟨rfl, G⟩
          exact ⟨_, rfl, G, rfl, fun h => by cases h⟩
      · intro vs w hb _ o ho
        cases ho
        simp only [putsD]
        refine vwp_runW (by go_simp) (v := .slice (some ⟨w.heap.size, 0, none⟩) 1 1) (w' := w.alloc (.cells #[.slice am msg.length cm] 22)) ?_ ⟨below_alloc1 _ _, ⟨_, rfl, Blk.new _ _ _⟩, fun h => by cases h⟩
        go_simp
      · intro vs w hb hd o ho
        cases ho
        obtain ⟨-, ⟨b5, hv5, hbk⟩, -⟩ := hd
        simp only [putsD]
        have Fw := Below.then HD.out.2 hb
        have hz2 := HD.out.1.below hb HD.out.1.lt
        have hZ : Bts w (some ⟨z, 0, none⟩) (sha key) := Bts.of fun j hj => by rw [Nat.zero_add, hz2.cell j]; simp [List.getD, hj]
        have hc2 := mac_one_at (cp := 32) w (hL.below Fw (Nat.le_refl _)) hZ hbk (hM.below Fw (Nat.le_refl _)) (by rw [sha_len]; decide) (by have := HL.out; omega)
        rw [sha_len, mac_long _ _ HL.out.2] at hc2
        clear hz2 hZ
        refine vwp_callW 19 [.tmp 29, .tmp 31] [.slice (some ⟨z, 0, none⟩) 32 32, .slice (some ⟨b5, 0, none⟩) 1 1] (by go_simp) rfl ?_ Tryd.call19 ?_
        · go_simp
        · refine (hc2).mono ?_
          rintro e w' ⟨rfl, G⟩
          exact ⟨_, rfl, G, rfl, fun h => by cases h⟩
      · intro vs wz hb hR hne hfr
        obtain ⟨-, h7, -, h11, -⟩ := hR
        have Fz := Below.then HD.out.2 hb
        simp only [putsD]
        rw [h7, h11]
        clear h7 h11 hne hfr hb
        refine wpAnyN_pure 12 33 (v := ?_) rfl rfl (by kernel_rfl) (by kernel_rfl) (by kernel_rfl) (fun _ _ _ h => h) (by go_simp) (fun w => ?_) ?_
        rotate_left
        · go_simp
          try with_reducible rfl
        refine wpAnyN_pureG 13 34 (v := ?_) rfl rfl (by kernel_rfl) (by kernel_rfl) (by kernel_rfl) (fun _ _ _ h => h) rfl (fun w => ?_) ?_
        rotate_left
        · go_simp
          try with_reducible rfl
        refine wpAnyN_pureG 14 4 (v := ?_) rfl rfl (by kernel_rfl) (by kernel_rfl) (by kernel_rfl) (fun _ _ _ h => h) rfl (fun w => ?_) ?_
        rotate_left
        · go_simp
          try with_reducible rfl
        refine wpAnyN_done (by kernel_rfl) ?_
        simp only [Act.put, List.setIfInBounds_toArray, List.set_cons_succ, List.set_cons_zero]
        go_wp2
        go_ret
        exact ⟨rfl, Fz⟩
  · by_cases hk : key.length ≤ 500
    · have hd : decide ((500 : Int) < (key.length : Int)) = false := by rw [decide_eq_false_iff_not]; omega
      have hd2 : decide ((500 : Int) < (msg.length : Int)) = true := by rw [decide_eq_true_eq]; omega
      go_enter Tryd.func9, Tryd.ntmps9
      go_wp2_with fail
      refine (awake07_any w hL).mono ?_
      rintro e w1 ⟨rfl, F1⟩
      go_wp2_with fail
      refine (awake07_any w1 (hL.below F1 (Nat.le_refl _))).mono ?_
      rintro e w2 ⟨rfl, GF2⟩
      have F2 := Below.then F1 GF2
      go_wp2_with fail
      go_ret
      exact ⟨rfl, F2⟩
    · have hd : decide ((500 : Int) < (key.length : Int)) = true := by rw [decide_eq_true_eq]; omega
      go_enter Tryd.func9, Tryd.ntmps9
      go_wp2_with fail
      refine (awake07_any w hL).mono ?_
      rintro e w1 ⟨rfl, F1⟩
      go_wp2_with fail
      refine (awake07_any w1 (hL.below F1 (Nat.le_refl _))).mono ?_
      rintro e w2 ⟨rfl, GF2⟩
      have F2 := Below.then F1 GF2
      go_wp2_with fail
      go_ret
      exact ⟨rfl, F2⟩
end Go.Proofs.YtahlllbigkgobaaDoor
