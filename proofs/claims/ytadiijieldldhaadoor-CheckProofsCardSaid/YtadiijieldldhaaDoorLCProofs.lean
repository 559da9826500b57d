/-
  The walk of the statement CheckProofs.
-/
import Derived.Test.YtadiijieldldhaaDoorFitsQ
namespace Go.Proofs.YtadiijieldldhaaDoor
open Go Go.RowKit
attribute [local irreducible] sha
set_option maxRecDepth 100000 in
set_option maxHeartbeats 8000000 in
theorem cproofs_any (w : World) (hL : Laid w) (M N : Int) (x : Hs) (ao : Option Addr) (cp : Nat) (p : List Hs) (y : Hs) (hM : -9223372036854775808 ≤ M ∧ M ≤ 9223372036854775807) (hN : -9223372036854775808 ≤ N ∧ N ≤ 9223372036854775807) (hB : Hts w ao p) (hc : p.length ≤ cp) (hm : cp ≤ maxLen) :
    Calls Tryd.prog 6 #[.agg (clmA M N x ao p.length cp y)] w fun e w' => e = .returned (.bool true) ∧ Below w.heap.size w w' := by
  obtain ⟨fs, hfs⟩ := claimU
  obtain ⟨hM0, hM1⟩ := hM
  obtain ⟨hN0, hN1⟩ := hN
  have hl9 : p.length ≤ 9223372036854775807 := Nat.le_trans hc hm
  obtain ⟨r, hr⟩ : ∃ r, r = w.heap.size := ⟨_, rfl⟩
  obtain ⟨w1, hw1⟩ : ∃ w1, w1 = w.alloc (.cells (clmA M N x ao p.length cp y) 26) := ⟨_, rfl⟩
  have F1 : Below r w w1 := by rw [hw1, hr]; exact below_alloc1 _ _
  have hC1 : Blk w1 r 26 (clmA M N x ao p.length cp y) := by rw [hw1, hr]; exact Blk.new w _ _
  have HR := Lib.hid (And.intro hw1 hr)
  have hr0 : w.heap.size ≤ r := by omega
  have HR0 := Lib.hid hr0
  clear hw1 hr hr0
  have k1 := awake19_any w1 (hL.below F1 HR0.out)
  go_enter Tryd.func6, Tryd.ntmps6
  go_upto_region 1 with (fail)
  change Code.wp _ _ _ _ (w.alloc (.cells (clmA M N x ao p.length cp y) 26))
  rw [← HR.out.1, ← HR.out.2]
  replace HR := Lib.hid HR.out.2
  go_wp2_with fail
  refine k1.mono ?_
  rintro e w2 ⟨rfl, G2⟩
  have hC2 := hC1.below G2 hC1.lt
  have F2 := F1.trans (G2.mono (by have := hC1.lt; omega))
  clear k1 hC1 F1 G2
  clear w1
  obtain ⟨c0, c1, c34⟩ := hC2.claim
  by_cases hlen : p.length ≤ 70
  · have hd : decide ((70 : Int) < (p.length : Int)) = false := by rw [decide_eq_false_iff_not]; omega
    have k2 := fitsQ_any w2 M N hM0 hM1 hN0 hN1 x ao cp p (hB.below F2 HR0.out) hc hm y
    obtain ⟨x2, hx2⟩ : ∃ x2, x2 = fitQ1 M N x p := ⟨_, rfl⟩
    obtain ⟨y2, hy2⟩ : ∃ y2, y2 = fitQ2 M N x p y := ⟨_, rfl⟩
    rw [← hx2, ← hy2] at k2
    clear hx2 hy2
    go_wp2_with (refine wpList_load_mid_blk rfl 26 (.tmp 1) rfl hC2 0 rfl (clm M N x (.slice ao p.length cp) y) (fun j v hv => by rw [Nat.zero_add, List.getElem?_toArray]; exact hv) (.struct fs) hfs rfl 67 (by kernel_rfl) (clm_len _ _ _ _ _) ?_)
    refine k2.mono ?_
    rintro e w3 ⟨rfl, G3⟩
    have hC3 := hC2.below G3 hC2.lt
    have F3 := F2.trans (G3.mono (by have := hC2.lt; omega))
    clear k2 hC2 F2 G3 c0 c1 c34
    clear w2
    go_wp2_with (refine wpList_store_blk rfl 26 _ _ rfl (Blk.new w3 zeroC 26) (clmA M N x2 ao p.length cp y2) rfl rfl 67 (by kernel_rfl) rfl (clmA_size _ _ _ _ _ _ _) (clm_one _ _ _ _ _ _ _) ?_)
    intro w4 hD4 hg4
    have hC4 := (hC3.alloc (.cells zeroC 26)).grown hg4 (fun e => by have := Option.some.inj e; have := hC3.lt; omega)
    have hrr : r ≤ w3.heap.size := by have := hC3.lt; omega
    have F4 : Below r w w4 := below_upd (F3.alloc hrr (.cells zeroC 26)) hg4 hrr (alloc_lt _ _)
    obtain ⟨b, hb⟩ : ∃ b, b = w3.heap.size := ⟨_, rfl⟩
    rw [← hb] at hD4 ⊢
    clear hb hg4 hC3 F3 hrr
    clear w3
    go_upto_region 4 with (fail)
    refine wp_region_N (fun w' => Blk w' r 26 (clmA M N x ao p.length cp y) ∧ Blk w' b 26 (clmA M N x2 ao p.length cp y2)) [] (by kernel_rfl) ?_
    obtain ⟨wd, hwd⟩ : ∃ wd, wd = w4.drew := ⟨_, rfl⟩
    have hSd : Blk wd r 26 (clmA M N x ao p.length cp y) ∧ Blk wd b 26 (clmA M N x2 ao p.length cp y2) := by rw [hwd]; exact ⟨hC4, hD4⟩
    replace F4 : Below r w wd := by rw [hwd]; exact F4.drew
    rw [← hwd]
    clear hwd hC4 hD4
    clear w4
    have hxl := x.2
    have hyl := y.2
    have hxl2 := x2.2
    have hyl2 := y2.2
    have hLd : Laid wd := hL.below F4 HR0.out
    have hBd : Hts wd ao p := hB.below F4 HR0.out
    have hsd : r ≤ wd.heap.size := Nat.le_of_lt hSd.1.lt
    obtain ⟨z, hz⟩ : ∃ z, z = proofP M N x p y := ⟨_, rfl⟩
    obtain ⟨z2, hz2⟩ : ∃ z2, z2 = proofP M N x2 p y2 := ⟨_, rfl⟩
    have kc : ∀ W, Below wd.heap.size wd W → Calls Tryd.prog 23 #[.int .i64 M, .int .i64 N, hval x, .slice ao p.length cp, hval y] W fun e w' => e = .returned (.bool z) ∧ Below W.heap.size W w' := fun W h => by
      rw [hz]; exact proof_any W (hLd.below h (Nat.le_refl _)) M N hM0 hM1 hN0 hN1 x ao cp p (hBd.below h (Nat.le_refl _)) hc hm (by omega) y
    have kr : ∀ W, Below wd.heap.size wd W → Calls Tryd.prog 24 #[.int .i64 M, .int .i64 N, hval x, .slice ao p.length cp, hval y] W fun e w' => e = .returned (.bool z) ∧ Below W.heap.size W w' := fun W h => by
      rw [hz]; exact refproof_any W M N hM0 hM1 hN0 hN1 x ao cp p (hBd.below h (Nat.le_refl _)) hc hm y
    have kc2 : ∀ W, Below wd.heap.size wd W → Calls Tryd.prog 23 #[.int .i64 M, .int .i64 N, hval x2, .slice ao p.length cp, hval y2] W fun e w' => e = .returned (.bool z2) ∧ Below W.heap.size W w' := fun W h => by
      rw [hz2]; exact proof_any W (hLd.below h (Nat.le_refl _)) M N hM0 hM1 hN0 hN1 x2 ao cp p (hBd.below h (Nat.le_refl _)) hc hm (by omega) y2
    have kr2 : ∀ W, Below wd.heap.size wd W → Calls Tryd.prog 24 #[.int .i64 M, .int .i64 N, hval x2, .slice ao p.length cp, hval y2] W fun e w' => e = .returned (.bool z2) ∧ Below W.heap.size W w' := fun W h => by
      rw [hz2]; exact refproof_any W M N hM0 hM1 hN0 hN1 x2 ao cp p (hBd.below h (Nat.le_refl _)) hc hm y2
    replace kc := Lib.hid kc
    replace kr := Lib.hid kr
    replace kc2 := Lib.hid kc2
    replace kr2 := Lib.hid kr2
    clear hz hz2 hLd hBd hL hB
    refine wpAnyN_pureG 0 15 (v := .pointer (some ⟨r, 0, none⟩)) rfl rfl (by kernel_rfl) (by kernel_rfl) (by kernel_rfl) (fun _ _ _ h => h) rfl (fun w => ?_) ?_
    · go_simp
    refine wpAnyN_pureG 2 17 (v := .pointer (some ⟨r, 1, none⟩)) rfl rfl (by kernel_rfl) (by kernel_rfl) (by kernel_rfl) (fun _ _ _ h => h) rfl (fun w => ?_) ?_
    · go_simp
    refine wpAnyN_pureG 4 19 (v := .pointer (some ⟨r, 2, none⟩)) rfl rfl (by kernel_rfl) (by kernel_rfl) (by kernel_rfl) (fun _ _ _ h => h) rfl (fun w => ?_) ?_
    · go_simp
    refine wpAnyN_pureG 6 21 (v := .pointer (some ⟨r, 34, none⟩)) rfl rfl (by kernel_rfl) (by kernel_rfl) (by kernel_rfl) (fun _ _ _ h => h) rfl (fun w => ?_) ?_
    · go_simp
    refine wpAnyN_pureG 8 23 (v := .pointer (some ⟨r, 35, none⟩)) rfl rfl (by kernel_rfl) (by kernel_rfl) (by kernel_rfl) (fun _ _ _ h => h) rfl (fun w => ?_) ?_
    · go_simp
    simp only [Act.put, List.setIfInBounds_toArray, List.set_cons_succ, List.set_cons_zero]
    refine wpAnyN_takeG 1 16 (v := .int .i64 M) rfl rfl (by kernel_rfl) (by kernel_rfl) (by kernel_rfl) (by kernel_rfl) (fun _ _ _ h => h) hSd rfl (fun w hS => ?_) ?_
    · have hc1 := hS.1.claim.1
      go_simp
    simp only [Act.put, List.setIfInBounds_toArray, List.set_cons_succ, List.set_cons_zero]
    refine wpAnyN_takeG 3 18 (v := .int .i64 N) rfl rfl (by kernel_rfl) (by kernel_rfl) (by kernel_rfl) (by kernel_rfl) (fun _ _ _ h => h) hSd rfl (fun w hS => ?_) ?_
    · have hc1 := hS.1.claim.2.1
      go_simp
    simp only [Act.put, List.setIfInBounds_toArray, List.set_cons_succ, List.set_cons_zero]
    refine wpAnyN_takeG 5 20 (v := hval x) rfl rfl (by kernel_rfl) (by kernel_rfl) (by kernel_rfl) (by kernel_rfl) (fun _ _ _ h => h) hSd rfl (fun w hS => ?_) ?_
    · exact run_load_mid_blk 23 (.tmp 19) rfl hS.1 2 (by go_simp) (x.1.map b8) (fun j v h => clm_hash _ _ _ _ _ j v h) (.array 32 5) (by kernel_rfl) rfl 32 (by kernel_rfl) (by simp [hxl])
    simp only [Act.put, List.setIfInBounds_toArray, List.set_cons_succ, List.set_cons_zero]
    refine wpAnyN_takeG 7 22 (v := .slice ao p.length cp) rfl rfl (by kernel_rfl) (by kernel_rfl) (by kernel_rfl) (by kernel_rfl) (fun _ _ _ h => h) hSd rfl (fun w hS => ?_) ?_
    · have hc1 := hS.1.claim.2.2
      go_simp
    simp only [Act.put, List.setIfInBounds_toArray, List.set_cons_succ, List.set_cons_zero]
    refine wpAnyN_takeG 9 24 (v := hval y) rfl rfl (by kernel_rfl) (by kernel_rfl) (by kernel_rfl) (by kernel_rfl) (fun _ _ _ h => h) hSd rfl (fun w hS => ?_) ?_
    · exact run_load_mid_blk 23 (.tmp 23) rfl hS.1 35 (by go_simp) (y.1.map b8) (fun j v h => clm_root _ _ _ _ _ j v h) (.array 32 5) (by kernel_rfl) rfl 32 (by kernel_rfl) (by simp [hyl])
    simp only [Act.put, List.setIfInBounds_toArray, List.set_cons_succ, List.set_cons_zero]
    refine wpAnyN_pureG 11 26 (v := .pointer (some ⟨r, 0, none⟩)) rfl rfl (by kernel_rfl) (by kernel_rfl) (by kernel_rfl) (fun _ _ _ h => h) rfl (fun w => ?_) ?_
    · go_simp
    refine wpAnyN_pureG 13 28 (v := .pointer (some ⟨r, 1, none⟩)) rfl rfl (by kernel_rfl) (by kernel_rfl) (by kernel_rfl) (fun _ _ _ h => h) rfl (fun w => ?_) ?_
    · go_simp
    refine wpAnyN_pureG 15 30 (v := .pointer (some ⟨r, 2, none⟩)) rfl rfl (by kernel_rfl) (by kernel_rfl) (by kernel_rfl) (fun _ _ _ h => h) rfl (fun w => ?_) ?_
    · go_simp
    refine wpAnyN_pureG 17 32 (v := .pointer (some ⟨r, 34, none⟩)) rfl rfl (by kernel_rfl) (by kernel_rfl) (by kernel_rfl) (fun _ _ _ h => h) rfl (fun w => ?_) ?_
    · go_simp
    refine wpAnyN_pureG 19 34 (v := .pointer (some ⟨r, 35, none⟩)) rfl rfl (by kernel_rfl) (by kernel_rfl) (by kernel_rfl) (fun _ _ _ h => h) rfl (fun w => ?_) ?_
    · go_simp
    simp only [Act.put, List.setIfInBounds_toArray, List.set_cons_succ, List.set_cons_zero]
    refine wpAnyN_takeG 12 27 (v := .int .i64 M) rfl rfl (by kernel_rfl) (by kernel_rfl) (by kernel_rfl) (by kernel_rfl) (fun _ _ _ h => h) hSd rfl (fun w hS => ?_) ?_
    · have hc1 := hS.1.claim.1
      go_simp
    simp only [Act.put, List.setIfInBounds_toArray, List.set_cons_succ, List.set_cons_zero]
    refine wpAnyN_takeG 14 29 (v := .int .i64 N) rfl rfl (by kernel_rfl) (by kernel_rfl) (by kernel_rfl) (by kernel_rfl) (fun _ _ _ h => h) hSd rfl (fun w hS => ?_) ?_
    · have hc1 := hS.1.claim.2.1
      go_simp
    simp only [Act.put, List.setIfInBounds_toArray, List.set_cons_succ, List.set_cons_zero]
    refine wpAnyN_takeG 16 31 (v := hval x) rfl rfl (by kernel_rfl) (by kernel_rfl) (by kernel_rfl) (by kernel_rfl) (fun _ _ _ h => h) hSd rfl (fun w hS => ?_) ?_
    · exact run_load_mid_blk 23 (.tmp 30) rfl hS.1 2 (by go_simp) (x.1.map b8) (fun j v h => clm_hash _ _ _ _ _ j v h) (.array 32 5) (by kernel_rfl) rfl 32 (by kernel_rfl) (by simp [hxl])
    simp only [Act.put, List.setIfInBounds_toArray, List.set_cons_succ, List.set_cons_zero]
    refine wpAnyN_takeG 18 33 (v := .slice ao p.length cp) rfl rfl (by kernel_rfl) (by kernel_rfl) (by kernel_rfl) (by kernel_rfl) (fun _ _ _ h => h) hSd rfl (fun w hS => ?_) ?_
    · have hc1 := hS.1.claim.2.2
      go_simp
    simp only [Act.put, List.setIfInBounds_toArray, List.set_cons_succ, List.set_cons_zero]
    refine wpAnyN_takeG 20 35 (v := hval y) rfl rfl (by kernel_rfl) (by kernel_rfl) (by kernel_rfl) (by kernel_rfl) (fun _ _ _ h => h) hSd rfl (fun w hS => ?_) ?_
    · exact run_load_mid_blk 23 (.tmp 34) rfl hS.1 35 (by go_simp) (y.1.map b8) (fun j v h => clm_root _ _ _ _ _ j v h) (.array 32 5) (by kernel_rfl) rfl 32 (by kernel_rfl) (by simp [hyl])
    simp only [Act.put, List.setIfInBounds_toArray, List.set_cons_succ, List.set_cons_zero]
    refine wpAnyN_call 10 23 (some 25) [.tmp 16, .tmp 18, .tmp 20, .tmp 22, .tmp 24] [.int .i64 M, .int .i64 N, hval x, .slice ao p.length cp, hval y] (by kernel_rfl) rfl rfl rfl rfl (by go_simp) Tryd.call23 ?_
    refine (kc.out wd (Below.refl _ _)).mono ?_
    rintro e w5 ⟨rfl, G5⟩
    refine ⟨_, rfl, fun _ h => ⟨h.1.below G5 h.1.lt, h.2.below G5 h.2.lt⟩, ?_⟩
    simp only [Act.put, List.setIfInBounds_toArray, List.set_cons_succ, List.set_cons_zero]
    refine wpAnyN_call 21 24 (some 36) [.tmp 27, .tmp 29, .tmp 31, .tmp 33, .tmp 35] [.int .i64 M, .int .i64 N, hval x, .slice ao p.length cp, hval y] (by kernel_rfl) rfl rfl rfl rfl (by go_simp) Tryd.call24 ?_
    refine (kr.out w5 G5).mono ?_
    rintro e w6 ⟨rfl, G6⟩
    refine ⟨_, rfl, fun _ h => ⟨h.1.below G6 h.1.lt, h.2.below G6 h.2.lt⟩, ?_⟩
    have hb := G5.trans (G6.mono G5.size)
    have hS5 : Blk w6 r 26 (clmA M N x ao p.length cp y) ∧ Blk w6 b 26 (clmA M N x2 ao p.length cp y2) := ⟨hSd.1.below hb hSd.1.lt, hSd.2.below hb hSd.2.lt⟩
    have F5 : Below r w w6 := F4.trans (hb.mono hsd)
    have HB := Lib.hid hb
    clear hb hSd F4 kc kr G5 G6
    clear w5
    simp only [Act.put, List.setIfInBounds_toArray, List.set_cons_succ, List.set_cons_zero]
    refine wpAnyN_pureG 22 37 (v := ?_) rfl rfl (by kernel_rfl) (by kernel_rfl) (by kernel_rfl) (fun _ _ _ h => h) rfl (fun w => ?_) ?_
    rotate_left
    · go_simp
      try with_reducible rfl
    simp only [Act.put, List.setIfInBounds_toArray, List.set_cons_succ, List.set_cons_zero]
    refine wpAnyN_pureG 23 38 (v := ?_) rfl rfl (by kernel_rfl) (by kernel_rfl) (by kernel_rfl) (fun _ _ _ h => h) rfl (fun w => ?_) ?_
    rotate_left
    · go_simp
      try with_reducible rfl
    simp only [Act.put, List.setIfInBounds_toArray, List.set_cons_succ, List.set_cons_zero]
    refine wpAnyN_pure 24 39 (v := .pointer (some ⟨b, 0, none⟩)) rfl rfl (by kernel_rfl) (by kernel_rfl) (by kernel_rfl) (fun _ _ _ h => h) (by go_simp) (fun w => ?_) ?_
    · go_simp
    refine wpAnyN_pure 26 41 (v := .pointer (some ⟨b, 1, none⟩)) rfl rfl (by kernel_rfl) (by kernel_rfl) (by kernel_rfl) (fun _ _ _ h => h) (by go_simp) (fun w => ?_) ?_
    · go_simp
    refine wpAnyN_pure 28 43 (v := .pointer (some ⟨b, 2, none⟩)) rfl rfl (by kernel_rfl) (by kernel_rfl) (by kernel_rfl) (fun _ _ _ h => h) (by go_simp) (fun w => ?_) ?_
    · go_simp
    refine wpAnyN_pure 30 45 (v := .pointer (some ⟨b, 34, none⟩)) rfl rfl (by kernel_rfl) (by kernel_rfl) (by kernel_rfl) (fun _ _ _ h => h) (by go_simp) (fun w => ?_) ?_
    · go_simp
    refine wpAnyN_pure 32 47 (v := .pointer (some ⟨b, 35, none⟩)) rfl rfl (by kernel_rfl) (by kernel_rfl) (by kernel_rfl) (fun _ _ _ h => h) (by go_simp) (fun w => ?_) ?_
    · go_simp
    simp only [Act.put, List.setIfInBounds_toArray, List.set_cons_succ, List.set_cons_zero]
    refine wpAnyN_take 25 40 (v := .int .i64 M) rfl rfl (by kernel_rfl) (by kernel_rfl) (by kernel_rfl) (by kernel_rfl) (fun _ _ _ h => h) hS5 (by go_simp) (fun w hS => ?_) ?_
    · have hc1 := hS.2.claim.1
      go_simp
    simp only [Act.put, List.setIfInBounds_toArray, List.set_cons_succ, List.set_cons_zero]
    refine wpAnyN_take 27 42 (v := .int .i64 N) rfl rfl (by kernel_rfl) (by kernel_rfl) (by kernel_rfl) (by kernel_rfl) (fun _ _ _ h => h) hS5 (by go_simp) (fun w hS => ?_) ?_
    · have hc1 := hS.2.claim.2.1
      go_simp
    simp only [Act.put, List.setIfInBounds_toArray, List.set_cons_succ, List.set_cons_zero]
    refine wpAnyN_take 29 44 (v := hval x2) rfl rfl (by kernel_rfl) (by kernel_rfl) (by kernel_rfl) (by kernel_rfl) (fun _ _ _ h => h) hS5 (by go_simp) (fun w hS => ?_) ?_
    · exact run_load_mid_blk 23 (.tmp 43) rfl hS.2 2 (by go_simp) (x2.1.map b8) (fun j v h => clm_hash _ _ _ _ _ j v h) (.array 32 5) (by kernel_rfl) rfl 32 (by kernel_rfl) (by simp [hxl2])
    simp only [Act.put, List.setIfInBounds_toArray, List.set_cons_succ, List.set_cons_zero]
    refine wpAnyN_take 31 46 (v := .slice ao p.length cp) rfl rfl (by kernel_rfl) (by kernel_rfl) (by kernel_rfl) (by kernel_rfl) (fun _ _ _ h => h) hS5 (by go_simp) (fun w hS => ?_) ?_
    · have hc1 := hS.2.claim.2.2
      go_simp
    simp only [Act.put, List.setIfInBounds_toArray, List.set_cons_succ, List.set_cons_zero]
    refine wpAnyN_take 33 48 (v := hval y2) rfl rfl (by kernel_rfl) (by kernel_rfl) (by kernel_rfl) (by kernel_rfl) (fun _ _ _ h => h) hS5 (by go_simp) (fun w hS => ?_) ?_
    · exact run_load_mid_blk 23 (.tmp 47) rfl hS.2 35 (by go_simp) (y2.1.map b8) (fun j v h => clm_root _ _ _ _ _ j v h) (.array 32 5) (by kernel_rfl) rfl 32 (by kernel_rfl) (by simp [hyl2])
    simp only [Act.put, List.setIfInBounds_toArray, List.set_cons_succ, List.set_cons_zero]
    refine wpAnyN_pure 35 50 (v := .pointer (some ⟨b, 0, none⟩)) rfl rfl (by kernel_rfl) (by kernel_rfl) (by kernel_rfl) (fun _ _ _ h => h) (by go_simp) (fun w => ?_) ?_
    · go_simp
    refine wpAnyN_pure 37 52 (v := .pointer (some ⟨b, 1, none⟩)) rfl rfl (by kernel_rfl) (by kernel_rfl) (by kernel_rfl) (fun _ _ _ h => h) (by go_simp) (fun w => ?_) ?_
    · go_simp
    refine wpAnyN_pure 39 54 (v := .pointer (some ⟨b, 2, none⟩)) rfl rfl (by kernel_rfl) (by kernel_rfl) (by kernel_rfl) (fun _ _ _ h => h) (by go_simp) (fun w => ?_) ?_
    · go_simp
    refine wpAnyN_pure 41 56 (v := .pointer (some ⟨b, 34, none⟩)) rfl rfl (by kernel_rfl) (by kernel_rfl) (by kernel_rfl) (fun _ _ _ h => h) (by go_simp) (fun w => ?_) ?_
    · go_simp
    refine wpAnyN_pure 43 58 (v := .pointer (some ⟨b, 35, none⟩)) rfl rfl (by kernel_rfl) (by kernel_rfl) (by kernel_rfl) (fun _ _ _ h => h) (by go_simp) (fun w => ?_) ?_
    · go_simp
    simp only [Act.put, List.setIfInBounds_toArray, List.set_cons_succ, List.set_cons_zero]
    refine wpAnyN_take 36 51 (v := .int .i64 M) rfl rfl (by kernel_rfl) (by kernel_rfl) (by kernel_rfl) (by kernel_rfl) (fun _ _ _ h => h) hS5 (by go_simp) (fun w hS => ?_) ?_
    · have hc1 := hS.2.claim.1
      go_simp
    simp only [Act.put, List.setIfInBounds_toArray, List.set_cons_succ, List.set_cons_zero]
    refine wpAnyN_take 38 53 (v := .int .i64 N) rfl rfl (by kernel_rfl) (by kernel_rfl) (by kernel_rfl) (by kernel_rfl) (fun _ _ _ h => h) hS5 (by go_simp) (fun w hS => ?_) ?_
    · have hc1 := hS.2.claim.2.1
      go_simp
    simp only [Act.put, List.setIfInBounds_toArray, List.set_cons_succ, List.set_cons_zero]
    refine wpAnyN_take 40 55 (v := hval x2) rfl rfl (by kernel_rfl) (by kernel_rfl) (by kernel_rfl) (by kernel_rfl) (fun _ _ _ h => h) hS5 (by go_simp) (fun w hS => ?_) ?_
    · exact run_load_mid_blk 23 (.tmp 54) rfl hS.2 2 (by go_simp) (x2.1.map b8) (fun j v h => clm_hash _ _ _ _ _ j v h) (.array 32 5) (by kernel_rfl) rfl 32 (by kernel_rfl) (by simp [hxl2])
    simp only [Act.put, List.setIfInBounds_toArray, List.set_cons_succ, List.set_cons_zero]
    refine wpAnyN_take 42 57 (v := .slice ao p.length cp) rfl rfl (by kernel_rfl) (by kernel_rfl) (by kernel_rfl) (by kernel_rfl) (fun _ _ _ h => h) hS5 (by go_simp) (fun w hS => ?_) ?_
    · have hc1 := hS.2.claim.2.2
      go_simp
    simp only [Act.put, List.setIfInBounds_toArray, List.set_cons_succ, List.set_cons_zero]
    refine wpAnyN_take 44 59 (v := hval y2) rfl rfl (by kernel_rfl) (by kernel_rfl) (by kernel_rfl) (by kernel_rfl) (fun _ _ _ h => h) hS5 (by go_simp) (fun w hS => ?_) ?_
    · exact run_load_mid_blk 23 (.tmp 58) rfl hS.2 35 (by go_simp) (y2.1.map b8) (fun j v h => clm_root _ _ _ _ _ j v h) (.array 32 5) (by kernel_rfl) rfl 32 (by kernel_rfl) (by simp [hyl2])
    simp only [Act.put, List.setIfInBounds_toArray, List.set_cons_succ, List.set_cons_zero]
    refine wpAnyN_callW 34 23 (some 49) [.tmp 40, .tmp 42, .tmp 44, .tmp 46, .tmp 48] [.int .i64 M, .int .i64 N, hval x2, .slice ao p.length cp, hval y2] (by kernel_rfl) rfl rfl rfl (by go_simp) (by go_simp) Tryd.call23 ?_
    refine (kc2.out w6 HB.out).mono ?_
    rintro e w7 ⟨rfl, G7⟩
    refine ⟨_, rfl, fun _ h => ⟨h.1.below G7 h.1.lt, h.2.below G7 h.2.lt⟩, ?_⟩
    simp only [Act.put, List.setIfInBounds_toArray, List.set_cons_succ, List.set_cons_zero]
    refine wpAnyN_callW 45 24 (some 60) [.tmp 51, .tmp 53, .tmp 55, .tmp 57, .tmp 59] [.int .i64 M, .int .i64 N, hval x2, .slice ao p.length cp, hval y2] (by kernel_rfl) rfl rfl rfl (by go_simp) (by go_simp) Tryd.call24 ?_
    refine (kr2.out w7 (HB.out.trans (G7.mono HB.out.size))).mono ?_
    rintro e w8 ⟨rfl, G8⟩
    refine ⟨_, rfl, fun _ h => ⟨h.1.below G8 h.1.lt, h.2.below G8 h.2.lt⟩, ?_⟩
    have F6 : Below r w w8 := F5.trans ((G7.trans (G8.mono G7.size)).mono (Nat.le_of_lt hS5.1.lt))
    rw [HR.out] at F6
    have HF := Lib.hid F6
    clear hS5 F5 F6 HB kc2 kr2 G7 G8
    simp only [Act.put, List.setIfInBounds_toArray, List.set_cons_succ, List.set_cons_zero]
    refine wpAnyN_pure 46 61 (v := ?_) rfl rfl (by kernel_rfl) (by kernel_rfl) (by kernel_rfl) (fun _ _ _ h => h) (by go_simp) (fun w => ?_) ?_
    rotate_left
    · go_simp
      try with_reducible rfl
    simp only [Act.put, List.setIfInBounds_toArray, List.set_cons_succ, List.set_cons_zero]
    refine wpAnyN_pureG 47 62 (v := ?_) rfl rfl (by kernel_rfl) (by kernel_rfl) (by kernel_rfl) (fun _ _ _ h => h) rfl (fun w => ?_) ?_
    rotate_left
    · go_simp
      try with_reducible rfl
    simp only [Act.put, List.setIfInBounds_toArray, List.set_cons_succ, List.set_cons_zero]
    refine wpAnyN_pureG 48 2 (v := ?_) rfl rfl (by kernel_rfl) (by kernel_rfl) (by kernel_rfl) (fun _ _ _ h => h) rfl (fun w => ?_) ?_
    rotate_left
    · go_simp
      try with_reducible rfl
    simp only [Act.put, List.setIfInBounds_toArray, List.set_cons_succ, List.set_cons_zero]
    refine wpAnyN_done (by kernel_rfl) ?_
    go_wp2
    go_ret
    exact ⟨by simp, HF.out⟩
  · have hd : decide ((70 : Int) < (p.length : Int)) = true := by rw [decide_eq_true_eq]; omega
    have k2 := awake19_any w2 (hL.below F2 HR0.out)
    go_wp2_with fail
    refine k2.mono ?_
    rintro e w3 ⟨rfl, G3⟩
    have F3 := F2.trans (G3.mono (by have := hC2.lt; omega))
    rw [HR.out] at F3
    have HF := Lib.hid F3
    clear k2 hC2 F2 G3 F3 c0 c1 c34
    go_wp2
    go_ret
    exact ⟨rfl, HF.out⟩
end Go.Proofs.YtadiijieldldhaaDoor
