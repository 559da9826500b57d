/-
  The walk of the statement ProofOwn.
-/
import Derived.Test.YtbglblamoodocaaDoorLPLast
namespace Go.Proofs.YtbglblamoodocaaDoor
open Go Go.RowKit
attribute [local irreducible] sha
theorem pathOut_small (l : List Hs) (m : Int) : (pathOut l m).length ≤ l.length + 1 := by
  unfold pathOut
  split
  · exact Nat.le_succ_of_le (pathH_len _ _ (by omega))
  · simp
theorem prfOut_small (l : List Hs) (m : Int) : (prfOut l m).length ≤ l.length + 1 := by
  unfold prfOut
  split
  · exact prfH_len _ _ _ (by omega) (by omega)
  · simp
set_option maxRecDepth 100000 in
set_option maxHeartbeats 4000000 in
theorem pown_any (w : World) (hL : Laid w) (ao : Option Addr) (cp : Nat) (l : List Hs) (hB : Hts w ao l) (hc : l.length ≤ cp) (hm : cp ≤ maxLen) (mx my : B) (x : Hs) :
    Calls Tryd.prog 12 #[.slice ao l.length cp, .agg #[b8 mx, b8 my], hval x] w fun e w' => e = .returned (.bool true) ∧ Below w.heap.size w w' := by
  have hl9 : l.length ≤ 9223372036854775807 := Nat.le_trans hc hm
  have hm0 : cp ≤ 9223372036854775807 := hm
  obtain ⟨r, hr⟩ : ∃ r, r = w.heap.size := ⟨_, rfl⟩
  obtain ⟨w0, hw0⟩ : ∃ w0, w0 = (w.alloc (.cells #[b8 mx, b8 my] 42)).alloc (.cells (x.1.map b8).toArray 28) := ⟨_, rfl⟩
  have F0 : Below r w w0 := by rw [hw0, hr]; exact below_alloc2 _ _ _
  have hT0 : Blk w0 r 42 #[b8 mx, b8 my] := by rw [hw0, hr]; exact (Blk.new w _ _).alloc _
  have hX0 : Blk w0 (r + 1) 28 (x.1.map b8).toArray := by rw [hw0, hr]; exact Blk.new1 w _ _ _
  have HR := Lib.hid (And.intro hw0 hr)
  have hr0 : w.heap.size ≤ r := by omega
  have HR0 := Lib.hid hr0
  clear hw0 hr hr0
  have hxl := x.2
  obtain ⟨i0, hi, hz0, hz1, hz2⟩ := info_parts infoHs
  go_enter Tryd.func12, Tryd.ntmps12
  go_upto_region 1 with (fail)
  change Code.wp _ _ _ _ ((w.alloc (.cells #[b8 mx, b8 my] 42)).alloc (.cells (x.1.map b8).toArray 28))
  rw [← HR.out.1, ← HR.out.2]
  replace HR := Lib.hid HR.out.2
  refine wp_region_N (fun w' => w'.cell? ⟨r, 0, none⟩ = some (b8 mx) ∧ w'.cell? ⟨r, 1, none⟩ = some (b8 my)) [] (by kernel_rfl) ?_
  obtain ⟨wd, hwd⟩ : ∃ wd, wd = w0.drew := ⟨_, rfl⟩
  replace hT0 : Blk wd r 42 #[b8 mx, b8 my] := by rw [hwd]; exact hT0
  replace hX0 : Blk wd (r + 1) 28 (x.1.map b8).toArray := by rw [hwd]; exact hX0
  replace F0 : Below r w wd := by rw [hwd]; exact F0.drew
  rw [← hwd]
  clear hwd
  clear w0
  have hS0 : wd.cell? ⟨r, 0, none⟩ = some (b8 mx) ∧ wd.cell? ⟨r, 1, none⟩ = some (b8 my) := ⟨hT0.cell 0, hT0.cell 1⟩
  refine wpAnyN_pureG 0 20 (v := .pointer (some ⟨r, 0, none⟩)) rfl rfl (by kernel_rfl) (by kernel_rfl) (by kernel_rfl) (fun _ _ _ h => h) rfl (fun w => ?_) ?_
  · go_simp
  refine wpAnyN_pureG 2 22 (v := .pointer (some ⟨r, 1, none⟩)) rfl rfl (by kernel_rfl) (by kernel_rfl) (by kernel_rfl) (fun _ _ _ h => h) rfl (fun w => ?_) ?_
  · go_simp
  refine wpAnyN_takeG 1 21 (v := b8 mx) rfl rfl (by kernel_rfl) (by kernel_rfl) (by kernel_rfl) (by kernel_rfl) (fun _ _ _ h => h) hS0 rfl (fun w hS => ?_) ?_
  · have h0 := hS.1; go_simp
  refine wpAnyN_takeG 3 23 (v := b8 my) rfl rfl (by kernel_rfl) (by kernel_rfl) (by kernel_rfl) (by kernel_rfl) (fun _ _ _ h => h) hS0 rfl (fun w hS => ?_) ?_
  · have h0 := hS.2; go_simp
  refine wpAnyN_pureG 4 7 (v := ?_) rfl rfl (by kernel_rfl) (by kernel_rfl) (by kernel_rfl) (fun _ _ _ h => h) rfl (fun w => ?_) ?_
  rotate_left
  · go_simp
    try with_reducible rfl
  refine wpAnyN_pureG 5 8 (v := ?_) rfl rfl (by kernel_rfl) (by kernel_rfl) (by kernel_rfl) (fun _ _ _ h => h) rfl (fun w => ?_) ?_
  rotate_left
  · go_simp
    try with_reducible rfl
  refine wpAnyN_done (by kernel_rfl) ?_
  simp only [Act.put, List.setIfInBounds_toArray, List.set_cons_succ, List.set_cons_zero]
  clear hS0 hT0
  obtain ⟨m, hmv, hm255⟩ : ∃ m : Nat, b8 mx = .int .u8 m ∧ m ≤ 255 := ⟨mx.toNat, rfl, by have := mx.isLt; omega⟩
  obtain ⟨n, hnv, hn255⟩ : ∃ n : Nat, b8 my = .int .u8 n ∧ n ≤ 255 := ⟨my.toNat, rfl, by have := my.isLt; omega⟩
  rw [hmv, hnv]
  clear hmv hnv
  by_cases hlen : l.length ≤ 80
  · have hd : decide ((80 : Int) < (l.length : Int)) = false := by rw [decide_eq_false_iff_not]; omega
    by_cases hl0 : l.length = 0
    · have hd1 : ((l.length : Int) == 0) = true := by rw [beq_iff_eq]; omega
      go_wp2_with fail
      refine (awake18_any wd (hL.below F0 HR0.out)).mono ?_
      rintro e w1 ⟨rfl, G1⟩
      have hs1 : r ≤ wd.heap.size := by have := hX0.lt; omega
      have F1 := F0.trans (G1.mono hs1)
      have hs2 : r ≤ w1.heap.size := Nat.le_trans hs1 G1.size
      go_wp2_with fail
      refine (awake18_any w1 (hL.below F1 HR0.out)).mono ?_
      rintro e w2 ⟨rfl, G2⟩
      have F2 := F1.trans (G2.mono hs2)
      rw [HR.out] at F2
      clear F1 F0 G1 G2 hs1 hs2 hX0
      go_wp2
      go_ret
      exact ⟨rfl, F2⟩
    · have hd1 : ((l.length : Int) == 0) = false := by rw [beq_eq_false_iff_ne]; omega
      have q1 : IntKind.i64.wrap (n : Int) = n := IntWalk.i64_in _ (by omega)
      have q2 : IntKind.i64.wrap (m : Int) = m := IntWalk.i64_in _ (by omega)
      obtain ⟨s, hsv, hs0, hsl⟩ : ∃ s : Nat, 1 + (n : Int) % (l.length : Int) = (s : Int) ∧ 1 ≤ s ∧ s ≤ l.length := by
        have h1 := Int.emod_nonneg (n : Int) (show (l.length : Int) ≠ 0 by omega)
        have h2 := Int.emod_lt_of_pos (n : Int) (show 0 < (l.length : Int) by omega)
        exact ⟨(1 + (n : Int) % (l.length : Int)).toNat, by omega, by omega, by omega⟩
      have q3 : IntKind.i64.wrap (1 + (n : Int) % (l.length : Int)) = s := by rw [hsv]; exact IntWalk.i64_in _ (by omega)
      obtain ⟨i, hiv, his⟩ : ∃ i : Nat, (m : Int) % (s : Int) = (i : Int) ∧ i < s := by
        have h1 := Int.emod_nonneg (m : Int) (show (s : Int) ≠ 0 by omega)
        have h2 := Int.emod_lt_of_pos (m : Int) (show 0 < (s : Int) by omega)
        exact ⟨((m : Int) % (s : Int)).toNat, by omega, by omega⟩
      have q4 : IntKind.i64.wrap ((i : Int) + 1) = (i : Int) + 1 := IntWalk.i64_in _ (by omega)
      have HS := Lib.hid hsv
      clear hsv
      obtain ⟨P, hP⟩ : ∃ P, P = l.take s := ⟨_, rfl⟩
      have hPl : P.length = s := by rw [hP, List.length_take]; omega
      obtain ⟨a6, hs6, -, ht6⟩ := run_upto_hts (P := Tryd.prog) (t := 32) (by kernel_rfl) hi ao l.length cp s (by omega)
      have hHP : ∀ w', Below r w w' → Hts w' a6 P := fun w' h => by rw [hP]; exact ht6 w' l (hB.below h HR0.out)
      have HP := Lib.hid (And.intro hP (And.intro hPl hHP))
      clear hP hPl hHP ht6
      go_wp2_with fail
      refine (awake18_any wd (hL.below F0 HR0.out)).mono ?_
      rintro e w1 ⟨rfl, G1⟩
      have hsd : r ≤ wd.heap.size := by have := hX0.lt; omega
      have F1 := F0.trans (G1.mono hsd)
      have hs1 : r ≤ w1.heap.size := Nat.le_trans hsd G1.size
      have hX1 := hX0.below G1 hX0.lt
      have hne1 : r + 1 < w1.heap.size := hX1.lt
      clear F0 G1 hX0 hsd
      clear wd
      have O1 : Own w1.heap.size w1 w1 28 32 (.slice none 0 0) 0 [] := Own.nil _ _ _ rfl
      have hsrc := (HP.out.2.2 w1 F1).src s cp HP.out.2.1.symm
      have hl1 : 0 + s ≤ maxLen := by simp only [maxLen]; omega
      have hl2 : (0 + s) * 32 ≤ 140737488355328 := by omega
      have HX := Lib.hid hX1
      clear hX1
      go_wp2_with (at_builtin; refine wpList_append_row rfl _ _ 32 32 rfl 28 i0 (.agg zero32) 32 32 (by kernel_rfl) hi hz0 hz1 hz2 rfl (by decide) O1.row rfl hsrc rfl hl1 hl2 ?_)
      intro v2 w2 hrow2 hg2 hv2
      have O2 : Own w1.heap.size w1 w2 28 32 v2 s ((flat P).map b8) := by
        have h1 := Own.app O1 hrow2 hg2 hv2
        first | exact h1 | (rw [Nat.zero_add, List.nil_append] at h1; exact h1) | simpa using h1
      clear hrow2 hg2 hv2 O1 hsrc hl1 hl2
      obtain ⟨a2, c2, rfl⟩ := O2.row.shape
      have hX2 := HX.out.below O2.bel hne1
      have hl1 : s + 1 ≤ maxLen := by simp only [maxLen]; omega
      have hl2 : (s + 1) * 32 ≤ 140737488355328 := by omega
      go_wp2_with (first | (refine wpList_load_mid_blk rfl 28 _ rfl hX2 0 rfl (x.1.map b8) (fun j v hv => by rw [Nat.zero_add, List.getElem?_toArray]; exact hv) (.array 32 5) (by kernel_rfl) rfl 32 (by kernel_rfl) (by simp [hxl]) ?_) | (refine wpList_build_one rfl x.1 hxl _ rfl rfl ?_) | (at_builtin; refine wpList_append_row rfl _ _ 32 32 rfl 28 i0 (.agg zero32) 32 32 (by kernel_rfl) hi hz0 hz1 hz2 rfl (by decide) (O2.row.alloc _) rfl (src_one w2 x) rfl hl1 hl2 ?_))
      intro v3 w3 hrow3 hg3 hv3
      obtain ⟨a3, c3, rfl⟩ := hrow3.shape
      have O3 : Own w1.heap.size w1 w3 28 32 (.slice a3 (s + 1) c3) (s + 1) ((flat (P ++ [x])).map b8) := by
        have h1 := Own.push O2 (.cells (x.1.map b8).toArray 28) hrow3 hg3 (by first | exact hv3 | (rw [alloc_size] at hv3; exact hv3))
        rw [flat_append, flat_one, List.map_append]; exact h1
      have hc3 := O3.row.le
      have hc39 : c3 ≤ 9223372036854775807 := hc3.2
      obtain ⟨a7, hs7, -, ht7⟩ := run_upto_hts (P := Tryd.prog) (t := 32) (by kernel_rfl) hi a3 (s + 1) c3 s (by omega)
      have R3 := O3.row
      have F3 : Below r w w3 := F1.trans (O3.bel.mono hs1)
      have hs3 : r ≤ w3.heap.size := Nat.le_trans hs1 O3.bel.size
      have hH3 : ∀ w', Below w3.heap.size w3 w' → Hts w' a7 P := fun w' h => by
        have R := R3.below h (fun g e => R3.lt g e)
        obtain ⟨a8, c8, e8, -, -, -, hY⟩ := R.hts
        cases e8
        have := ht7 w' _ hY
        rw [List.take_left' HP.out.2.1] at this; exact this
      have HH := Lib.hid hH3
      have HC := Lib.hid hc3
      clear hrow3 hg3 hv3 O2 O3 R3 hX2 hl1 hl2 hH3 ht7 hc3 HX F1 hs1 hne1
      generalize w2.heap.size = gz
      -- paths of both
      obtain ⟨q, hq⟩ : ∃ q, q = pathOut P (i : Int) := ⟨_, rfl⟩
      have hql : q.length ≤ 100 := by rw [hq]; exact Nat.le_trans (pathOut_small _ _) (by have := HP.out.2.1; omega)
      obtain ⟨p, hp⟩ : ∃ p, p = prfOut P ((i : Int) + 1) := ⟨_, rfl⟩
      have hpl : p.length ≤ 100 := by rw [hp]; exact Nat.le_trans (prfOut_small _ _) (by have := HP.out.2.1; omega)
      obtain ⟨E, hE⟩ : ∃ E, E = pathErr P (i : Int) := ⟨_, rfl⟩
      obtain ⟨D, hD⟩ : ∃ D, D = prfErr P ((i : Int) + 1) := ⟨_, rfl⟩
      have HQ := Lib.hid (And.intro hq (And.intro hp (And.intro hE hD)))
      clear hq hp hE hD
      have HL : ∀ w', Below r w w' → Laid w' := fun w' h => hL.below h HR0.out
      have HLL := Lib.hid HL
      clear HL
      go_wp2_with fail
      have k1 := paths_any w3 a6 cp P (i : Int) (HLL.out w3 F3) (HP.out.2.2 w3 F3) (by have := HP.out.2.1; omega) hm (by have := HP.out.2.1; omega)
      rw [HP.out.2.1, ← HQ.out.1, ← HQ.out.2.2.1] at k1
      refine k1.mono ?_
      rintro e w4 ⟨v4, rfl, O4⟩
      have R4 := O4.row
      have B4 := O4.bel
      have F4 := F3.trans (O4.bel.mono hs3)
      obtain ⟨a4, c4, rfl⟩ := R4.shape
      clear k1 O4
      go_wp2_with fail
      have k2 := paths_any w4 a7 c3 P (i : Int) (HLL.out w4 F4) (HH.out w4 B4) (by have := HP.out.2.1; have := HC.out.1; omega) HC.out.2 (by have := HP.out.2.1; omega)
      rw [HP.out.2.1, ← HQ.out.1, ← HQ.out.2.2.1] at k2
      refine k2.mono ?_
      rintro e w5 ⟨v5, rfl, O5⟩
      have R45 := R4.below O5.bel (fun g e => R4.lt g e)
      have R5 := O5.row
      have B5 := Below.then B4 O5.bel
      have F5 := F3.trans (B5.mono hs3)
      obtain ⟨a5, c5, rfl⟩ := R5.shape
      clear k2 O5 R4 B4 F4
      clear w4
      go_wp2_with fail
      have k3 := prfs_any w5 a6 cp P ((i : Int) + 1) (HLL.out w5 F5) (HP.out.2.2 w5 F5) (by have := HP.out.2.1; omega) hm (by have := HP.out.2.1; omega)
      rw [HP.out.2.1, ← HQ.out.2.1, ← HQ.out.2.2.2] at k3
      refine k3.mono ?_
      rintro e w6 ⟨v6, rfl, O6⟩
      have R46 := R45.below O6.bel (fun g e => R45.lt g e)
      have R56 := R5.below O6.bel (fun g e => R5.lt g e)
      have R6 := O6.row
      have B6 := Below.then B5 O6.bel
      have F6 := F3.trans (B6.mono hs3)
      obtain ⟨a8, c8, rfl⟩ := R6.shape
      clear k3 O6 R45 R5 B5 F5
      clear w5
      go_wp2_with fail
      have k4 := prfs_any w6 a7 c3 P ((i : Int) + 1) (HLL.out w6 F6) (HH.out w6 B6) (by have := HP.out.2.1; have := HC.out.1; omega) HC.out.2 (by have := HP.out.2.1; omega)
      rw [HP.out.2.1, ← HQ.out.2.1, ← HQ.out.2.2.2] at k4
      refine k4.mono ?_
      rintro e w7 ⟨v7, rfl, O7⟩
      have R47 := R46.below O7.bel (fun g e => R46.lt g e)
      have R57 := R56.below O7.bel (fun g e => R56.lt g e)
      have R67 := R6.below O7.bel (fun g e => R6.lt g e)
      have R7 := O7.row
      have B7 := Below.then B6 O7.bel
      have F7 := F3.trans (B7.mono hs3)
      have hs7' : r ≤ w7.heap.size := Nat.le_trans hs3 B7.size
      obtain ⟨a9, c9, rfl⟩ := R7.shape
      clear k4 O7 R46 R56 R6 B6 F6 B7
      clear w6
      obtain ⟨b1, d1, e1, -, -, -, hA⟩ := R47.hts
      cases e1
      obtain ⟨b1, d1, e1, -, -, -, hBb⟩ := R57.hts
      cases e1
      go_wp2_with fail
      have k5 := same_any w7 a4 a5 c4 c5 q q hA hBb (by omega) (by omega)
      rw [show decide (q = q) = true by simp] at k5
      refine k5.mono ?_
      rintro e w8 ⟨rfl, G8⟩
      have R68 := R67.below G8 (fun g e => R67.lt g e)
      have R78 := R7.below G8 (fun g e => R7.lt g e)
      have F8 := F7.trans (G8.mono hs7')
      have hs8 : r ≤ w8.heap.size := Nat.le_trans hs7' G8.size
      clear k5 R47 R57 R67 R7 F7 G8 hA hBb hs7'
      clear w7
      obtain ⟨b1, d1, e1, -, -, -, hA⟩ := R68.hts
      cases e1
      obtain ⟨b1, d1, e1, -, -, -, hBb⟩ := R78.hts
      cases e1
      go_wp2_with fail
      have k6 := same_any w8 a8 a9 c8 c9 p p hA hBb (by omega) (by omega)
      rw [show decide (p = p) = true by simp] at k6
      refine k6.mono ?_
      rintro e w9 ⟨rfl, G9⟩
      have F9 := F8.trans (G9.mono hs8)
      rw [HR.out] at F9
      clear k6 R68 R78 F8 G9 hA hBb hs8
      clear w8
      go_wp2
      go_ret
      exact ⟨rfl, F9⟩
  · have hd : decide ((80 : Int) < (l.length : Int)) = true := by rw [decide_eq_true_eq]; omega
    go_wp2_with fail
    refine (awake18_any wd (hL.below F0 HR0.out)).mono ?_
    rintro e w1 ⟨rfl, G1⟩
    have hs1 : r ≤ wd.heap.size := by have := hX0.lt; omega
    have F1 := F0.trans (G1.mono hs1)
    have hs2 : r ≤ w1.heap.size := Nat.le_trans hs1 G1.size
    go_wp2_with fail
    refine (awake18_any w1 (hL.below F1 HR0.out)).mono ?_
    rintro e w2 ⟨rfl, G2⟩
    have F2 := F1.trans (G2.mono hs2)
    rw [HR.out] at F2
    clear F1 F0 G1 G2 hs1 hs2 hX0
    go_wp2
    go_ret
    exact ⟨rfl, F2⟩
end Go.Proofs.YtbglblamoodocaaDoor
