/-
  The walk of the statement ClashPaths.
-/
import Derived.Test.YtadiijieldldhaaDoorSaid
namespace Go.Proofs.YtadiijieldldhaaDoor
open Go Go.RowKit
attribute [local irreducible] sha
set_option maxRecDepth 100000 in
set_option maxHeartbeats 8000000 in
theorem clpaths_any (w : World) (hL : Laid w) (ao : Option Addr) (cp : Nat) (l : List Hs) (M : Int) (x : Hs) (hM : -9223372036854775808 ≤ M ∧ M ≤ 9223372036854775807) (hA : Hts w ao l) (hc : l.length ≤ cp) (hm : cp ≤ maxLen) (bo : Option Addr) (cq : Nat) (p : List Hs) (hB : Hts w bo p) (hcq : p.length ≤ cq) (hmq : cq ≤ maxLen) :
    Calls Tryd.prog 10 #[.agg (sdA ao l.length cp M x), .slice bo p.length cq] w fun e w' => e = .returned (.bool true) ∧ Below w.heap.size w w' := by
  obtain ⟨fs, hfs⟩ := saidU
  obtain ⟨hM0, hM1⟩ := hM
  have hl9 : l.length ≤ 9223372036854775807 := Nat.le_trans hc hm
  have hp9 : p.length ≤ 9223372036854775807 := Nat.le_trans hcq hmq
  have hxl := x.2
  obtain ⟨r, hr⟩ : ∃ r, r = w.heap.size := ⟨_, rfl⟩
  obtain ⟨w1, hw1⟩ : ∃ w1, w1 = w.alloc (.cells (sdA ao l.length cp M x) 40) := ⟨_, rfl⟩
  have F1 : Below r w w1 := by rw [hw1, hr]; exact below_alloc1 _ _
  have hC1 : Blk w1 r 40 (sdA ao l.length cp M x) := by rw [hw1, hr]; exact Blk.new w _ _
  have HR := Lib.hid (And.intro hw1 hr)
  have hr0 : w.heap.size ≤ r := by omega
  have HR0 := Lib.hid hr0
  clear hw1 hr hr0
  go_enter Tryd.func10, Tryd.ntmps10
  go_upto_region 1 with (fail)
  change Code.wp _ _ _ _ (w.alloc (.cells (sdA ao l.length cp M x) 40))
  rw [← HR.out.1, ← HR.out.2]
  replace HR := Lib.hid HR.out.2
  refine wp_region_N (fun w' => Blk w' r 40 (sdA ao l.length cp M x)) [] (by kernel_rfl) ?_
  obtain ⟨wd, hwd⟩ : ∃ wd, wd = w1.drew := ⟨_, rfl⟩
  replace hC1 : Blk wd r 40 (sdA ao l.length cp M x) := by rw [hwd]; exact hC1
  replace F1 : Below r w wd := by rw [hwd]; exact F1.drew
  rw [← hwd]
  clear hwd
  clear w1
  refine wpAnyN_pureG 0 11 (v := ?_) rfl rfl (by kernel_rfl) (by kernel_rfl) (by kernel_rfl) (fun _ _ _ h => h) rfl (fun w => ?_) ?_
  rotate_left
  · go_simp
    try with_reducible rfl
  refine wpAnyN_pureG 2 13 (v := ?_) rfl rfl (by kernel_rfl) (by kernel_rfl) (by kernel_rfl) (fun _ _ _ h => h) rfl (fun w => ?_) ?_
  rotate_left
  · go_simp
    try with_reducible rfl
  refine wpAnyN_pureG 4 15 (v := ?_) rfl rfl (by kernel_rfl) (by kernel_rfl) (by kernel_rfl) (fun _ _ _ h => h) rfl (fun w => ?_) ?_
  rotate_left
  · go_simp
    try with_reducible rfl
  simp only [Act.put, List.setIfInBounds_toArray, List.set_cons_succ, List.set_cons_zero]
  refine wpAnyN_takeG 1 12 (v := .slice ao l.length cp) rfl rfl (by kernel_rfl) (by kernel_rfl) (by kernel_rfl) (by kernel_rfl) (fun _ _ _ h => h) hC1 rfl (fun w hS => ?_) ?_
  · obtain ⟨s0, s1⟩ := hS.said
    go_simp
  refine wpAnyN_takeG 3 14 (v := .int .i64 M) rfl rfl (by kernel_rfl) (by kernel_rfl) (by kernel_rfl) (by kernel_rfl) (fun _ _ _ h => h) hC1 rfl (fun w hS => ?_) ?_
  · obtain ⟨s0, s1⟩ := hS.said
    go_simp
  refine wpAnyN_takeG 5 16 (v := hval x) rfl rfl (by kernel_rfl) (by kernel_rfl) (by kernel_rfl) (by kernel_rfl) (fun _ _ _ h => h) hC1 rfl (fun w hS => ?_) ?_
  · exact run_load_mid_blk 23 (.tmp 15) rfl hS 2 (by go_simp) (x.1.map b8) (sd_hash ao l.length cp M x) (.array 32 5) (by kernel_rfl) rfl 32 (by kernel_rfl) (by simp [hxl])
  simp only [Act.put, List.setIfInBounds_toArray, List.set_cons_succ, List.set_cons_zero]
  refine wpAnyN_run 6 (some 7) (v := .pointer (some ⟨wd.heap.size, 0, none⟩)) (w' := wd.alloc (.cells zero32 23)) (by kernel_rfl) rfl rfl rfl (by go_simp) ⟨fun _ h => h.alloc _, ?_⟩
  have hsz : r + 1 ≤ wd.heap.size := hC1.lt
  have hk2 : Blk (wd.alloc (.cells zero32 23)) wd.heap.size 23 zero32 := Blk.new wd _ _
  have F2 : Below r w (wd.alloc (.cells zero32 23)) := F1.alloc (by omega) _
  obtain ⟨w2, hw2⟩ : ∃ w2, w2 = wd.alloc (.cells zero32 23) := ⟨_, rfl⟩
  obtain ⟨b, hb⟩ : ∃ b, b = wd.heap.size := ⟨_, rfl⟩
  rw [← hw2, ← hb] at hk2
  rw [← hw2] at F2
  rw [← hw2, ← hb]
  have hrb : r + 1 ≤ b := by omega
  clear hw2 hb hsz hC1 F1
  clear wd
  simp only [Act.put, List.setIfInBounds_toArray, List.set_cons_succ, List.set_cons_zero]
  refine wpAnyN_pureG 7 5 (v := ?_) rfl rfl (by kernel_rfl) (by kernel_rfl) (by kernel_rfl) (fun _ _ _ h => h) rfl (fun w => ?_) ?_
  rotate_left
  · go_simp
    try with_reducible rfl
  simp only [Act.put, List.setIfInBounds_toArray, List.set_cons_succ, List.set_cons_zero]
  refine wpAnyN_pureG 8 6 (v := ?_) rfl rfl (by kernel_rfl) (by kernel_rfl) (by kernel_rfl) (fun _ _ _ h => h) rfl (fun w => ?_) ?_
  rotate_left
  · go_simp
    try with_reducible rfl
  simp only [Act.put, List.setIfInBounds_toArray, List.set_cons_succ, List.set_cons_zero]
  refine wpAnyN_store_blk 9 23 (.tmp 7) (.tmp 16) (by kernel_rfl) rfl rfl rfl rfl hk2 0 (x.1.map b8).toArray (by go_simp) (by go_simp) 32 (by kernel_rfl) (by simp [hxl]) (by simp) (by rw [List.toList_toArray]; exact b8_one _) (x.1.map b8).toArray (by simp) ?_
  intro w3 hX3 hg3
  have F3 := below_upd F2 hg3 (by omega) hk2.lt
  refine ⟨fun _ h => h.grown hg3 (fun e => by have := Option.some.inj e; omega), wpAnyN_done (by kernel_rfl) ?_⟩
  clear hg3 hk2 F2
  clear w2
  have c1 := awake20_any w3 (hL.below F3 HR0.out)
  go_wp2_with fail
  refine c1.mono ?_
  rintro e w4 ⟨rfl, G4⟩
  have hX4 := hX3.below G4 hX3.lt
  have F4 := F3.trans (G4.mono (by have := hX3.lt; omega))
  clear c1 hX3 F3 G4
  clear w3
  by_cases hlen : l.length ≤ 60 ∧ p.length ≤ 70
  · have hd : decide ((60 : Int) < (l.length : Int)) = false := by rw [decide_eq_false_iff_not]; omega
    have hd1 : decide ((70 : Int) < (p.length : Int)) = false := by rw [decide_eq_false_iff_not]; omega
    have c2 := clPath_any w4 (hL.below F4 HR0.out) ao cp l M x bo cq p hM0 hM1 (hA.below F4 HR0.out) hc hm (by omega) (hB.below F4 HR0.out) hcq hmq (by omega)
    have c3 : ∀ W, Below r w W → Calls Tryd.prog 25 #[.slice ao l.length cp, .int .i64 M, hval x, .slice bo p.length cq] W fun e w' => e = .returned (.bool (foolsP l M x p)) ∧ Below W.heap.size W w' := fun W hW =>
      deceives_any W ao cp l M x bo cq p hM0 hM1 (hL.below hW HR0.out) (hA.below hW HR0.out) hc hm (by omega) (hB.below hW HR0.out) hcq hmq
    replace c3 := Lib.hid c3
    go_wp2_with (refine wpList_load_mid_blk rfl 23 (.tmp 7) rfl hX4 0 rfl (x.1.map b8) (fun j v hv => by rw [Nat.zero_add, List.getElem?_toArray]; exact hv) (.array 32 5) (by kernel_rfl) rfl 32 (by kernel_rfl) (by simp [hxl]) ?_)
    refine c2.mono ?_
    rintro e w5 ⟨hF, G5⟩
    have hX5 := hX4.below G5 hX4.lt
    have F5 := F4.trans (G5.mono (by have := hX4.lt; omega))
    have c4 := c3.out w5 F5
    clear c2 c3 hX4 F4 G5
    clear w4
    by_cases hfo : foolsP l M x p = true
    · obtain ⟨s, hs, hne, hno⟩ := clashP_spec hfo
      rw [hs] at hF
      rw [hfo] at c4
      obtain ⟨a1, p1, a2, p2, rfl, hT1, hT2⟩ := hF
      have t1 := textH_len s.1.1 s.1.2
      have t2 := textH_len s.2.1 s.2.2
      have hne2 : textH s.1.1 s.1.2 ≠ textH s.2.1 s.2.2 := fun e => by
        obtain ⟨e1, e2⟩ := textH_inj e
        exact hne (Prod.ext e1 e2)
      have hsh : sha (textH s.1.1 s.1.2) = sha (textH s.2.1 s.2.2) := congrArg Subtype.val hno
      have c5 : ∀ W, Below w5.heap.size w5 W → Calls Tryd.prog 26 #[.slice a1 65 p1, .slice a2 65 p2] W fun e w' => e = .returned (.bool true) ∧ Below W.heap.size W w' := fun W hW =>
        refclash_any W a1 a2 p1 p2 65 _ _ (hT1.below hW (Nat.le_refl _)) (hT2.below hW (Nat.le_refl _)) t1 t2 (by decide) hne2 hsh
      replace c5 := Lib.hid c5
      clear hs hne hno hT1 hT2 t1 t2 hne2 hsh hfo hA hB
      go_wp2_with (refine wpList_load_mid_blk rfl 23 (.tmp 7) rfl hX5 0 rfl (x.1.map b8) (fun j v hv => by rw [Nat.zero_add, List.getElem?_toArray]; exact hv) (.array 32 5) (by kernel_rfl) rfl 32 (by kernel_rfl) (by simp [hxl]) ?_)
      refine c4.mono ?_
      rintro e w6 ⟨rfl, G6⟩
      have F6 := F5.trans (G6.mono (by have := hX5.lt; omega))
      have hs6 : r ≤ w6.heap.size := by have := hX5.lt; have := G6.size; omega
      have c6 := c5.out w6 G6
      clear c4 c5 hX5 F5 G6
      go_wp2_with fail
      refine c6.mono ?_
      rintro e w7 ⟨rfl, G7⟩
      have F7 := F6.trans (G7.mono hs6)
      rw [HR.out] at F7
      clear c6 F6 G7
      go_wp2
      go_ret
      exact ⟨rfl, F7⟩
    · have hcl : clashP l M x p = none := by unfold clashP; rw [if_neg hfo]
      rw [hcl] at hF
      have hF' : e = .returned (.tuple #[.slice none 0 0, .slice none 0 0, .bool false]) := hF
      subst hF'
      rw [Bool.not_eq_true] at hfo
      rw [hfo] at c4
      clear hF hcl hfo hA hB
      go_wp2_with (refine wpList_load_mid_blk rfl 23 (.tmp 7) rfl hX5 0 rfl (x.1.map b8) (fun j v hv => by rw [Nat.zero_add, List.getElem?_toArray]; exact hv) (.array 32 5) (by kernel_rfl) rfl 32 (by kernel_rfl) (by simp [hxl]) ?_)
      refine c4.mono ?_
      rintro e w6 ⟨rfl, G6⟩
      have F6 := F5.trans (G6.mono (by have := hX5.lt; omega))
      rw [HR.out] at F6
      clear c4 hX5 F5 G6
      go_wp2
      go_ret
      exact ⟨rfl, F6⟩
  · have c2 := awake20_any w4 (hL.below F4 HR0.out)
    by_cases hl : l.length ≤ 60
    · have hd : decide ((60 : Int) < (l.length : Int)) = false := by rw [decide_eq_false_iff_not]; omega
      have hd1 : decide ((70 : Int) < (p.length : Int)) = true := by rw [decide_eq_true_eq]; omega
      go_wp2_with fail
      refine c2.mono ?_
      rintro e w5 ⟨rfl, G5⟩
      have F5 := F4.trans (G5.mono (by have := hX4.lt; omega))
      rw [HR.out] at F5
      clear c2 hX4 F4 G5
      go_wp2
      go_ret
      exact ⟨rfl, F5⟩
    · have hd : decide ((60 : Int) < (l.length : Int)) = true := by rw [decide_eq_true_eq]; omega
      go_wp2_with fail
      refine c2.mono ?_
      rintro e w5 ⟨rfl, G5⟩
      have F5 := F4.trans (G5.mono (by have := hX4.lt; omega))
      rw [HR.out] at F5
      clear c2 hX4 F4 G5
      go_wp2
      go_ret
      exact ⟨rfl, F5⟩
end Go.Proofs.YtadiijieldldhaaDoor
