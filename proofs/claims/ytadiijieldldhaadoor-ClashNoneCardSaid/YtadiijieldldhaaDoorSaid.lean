/-
  What the statements of layer 20 ask first, their reference (Clash, Deceives, Betrays); what is said of hashes, in memory.
-/
import Derived.Test.YtadiijieldldhaaDoorClMain
import Derived.Test.YtadiijieldldhaaDoorRefRoot
import Derived.Test.YtadiijieldldhaaDoorShaZ
namespace Go.Proofs.YtadiijieldldhaaDoor
open Go Go.RowKit
attribute [local irreducible] sha
def noughtL : List B := List.replicate 32 0
@[go_sem] theorem eq_hash_nought (xs : List B) (hx : xs.length = 32) (w : World) :
    (Op.equalIn 10000 23 (.agg (xs.map b8).toArray) (.agg #[Value.int IntKind.u8 0, Value.int IntKind.u8 0, Value.int IntKind.u8 0, Value.int IntKind.u8 0, Value.int IntKind.u8 0, Value.int IntKind.u8 0, Value.int IntKind.u8 0, Value.int IntKind.u8 0, Value.int IntKind.u8 0, Value.int IntKind.u8 0, Value.int IntKind.u8 0, Value.int IntKind.u8 0, Value.int IntKind.u8 0, Value.int IntKind.u8 0, Value.int IntKind.u8 0, Value.int IntKind.u8 0, Value.int IntKind.u8 0, Value.int IntKind.u8 0, Value.int IntKind.u8 0, Value.int IntKind.u8 0, Value.int IntKind.u8 0, Value.int IntKind.u8 0, Value.int IntKind.u8 0, Value.int IntKind.u8 0, Value.int IntKind.u8 0, Value.int IntKind.u8 0, Value.int IntKind.u8 0, Value.int IntKind.u8 0, Value.int IntKind.u8 0, Value.int IntKind.u8 0, Value.int IntKind.u8 0, Value.int IntKind.u8 0])).run Tryd.prog w = .ok (xs == noughtL) w :=
  eq_hash xs (List.replicate 32 0) hx (by simp) w
set_option maxRecDepth 100000 in
set_option maxHeartbeats 4000000 in
theorem awake20_any (w : World) (hL : Laid w) : Calls Tryd.prog 16 #[] w fun e w' => e = .returned (.bool true) ∧ Below w.heap.size w w' := by
  have hs : Tree.split (3 : Int).toNat = 2 := by decide
  obtain ⟨zs, hzs⟩ : ∃ zs, zs = leafH [] := ⟨_, rfl⟩
  have hzl := zs.2
  have hne : (zs.1 == noughtL) = false := by
    rw [beq_eq_false_iff_ne, hzs]; exact sha_z
  have h2 := leaf_any w hL none 0 [] (Bts.nil _ _) (by decide)
  rw [← hzs] at h2
  clear hzs
  go_enter Tryd.func16, Tryd.ntmps16
  go_wp2_with fail
  refine h2.mono ?_
  rintro e w2 ⟨rfl, F2⟩
  clear h2
  have h1 := split_any w2 3 (by decide) (by decide)
  rw [hs] at h1
  clear hs
  go_wp2_with fail
  refine h1.mono ?_
  rintro e w' ⟨rfl, e2⟩
  rw [e2]
  clear h1 e2
  clear w'
  go_wp2
  go_ret
  exact ⟨rfl, F2⟩
set_option maxRecDepth 100000 in
set_option maxHeartbeats 4000000 in
theorem refclash_any (w : World) (a1 a2 : Option Addr) (p1 p2 n : Nat) (xs ys : List B) (hX : Bts w a1 xs) (hY : Bts w a2 ys) (h1 : xs.length = n) (h2 : ys.length = n) (hn : n ≤ 1000000) (hne : xs ≠ ys) (hs : sha xs = sha ys) :
    Calls Tryd.prog 26 #[.slice a1 n p1, .slice a2 n p2] w fun e w' => e = .returned (.bool true) ∧ Below w.heap.size w w' := by
  have c1 := sameb_any w a1 a2 p1 p2 xs ys hX hY (by omega) (by omega)
  rw [h1, h2, decide_eq_false hne] at c1
  have c2 : ∀ W, Below w.heap.size w W → Calls Tryd.prog 42 #[.slice a1 n p1] W fun e w' => e = .returned (hashv (sha xs)) ∧ Below W.heap.size W w' := fun W hW => by
    have := refsum_any a1 p1 xs W (hX.below hW (Nat.le_refl _)) (by omega)
    rwa [h1] at this
  have c3 : ∀ W, Below w.heap.size w W → Calls Tryd.prog 42 #[.slice a2 n p2] W fun e w' => e = .returned (hashv (sha xs)) ∧ Below W.heap.size W w' := fun W hW => by
    have := refsum_any a2 p2 ys W (hY.below hW (Nat.le_refl _)) (by omega)
    rw [h2, ← hs] at this
    exact this
  obtain ⟨z, hz⟩ : ∃ z, z = sha xs := ⟨_, rfl⟩
  have hzl : z.length = 32 := by rw [hz]; exact sha_len _
  simp only [← hz] at c2 c3
  replace c2 := Lib.hid c2
  replace c3 := Lib.hid c3
  clear hz hne hs hX hY h1 h2
  go_enter Tryd.func26, Tryd.ntmps26
  go_wp2_with fail
  refine c1.mono ?_
  rintro e w2 ⟨rfl, F2⟩
  clear c1
  go_wp2_with fail
  refine (c2.out w2 F2).mono ?_
  rintro e w3 ⟨rfl, G3⟩
  have F3 := Below.then F2 G3
  clear G3 F2 c2
  clear w2
  go_wp2_with fail
  refine (c3.out w3 F3).mono ?_
  rintro e w4 ⟨rfl, G4⟩
  have F4 := Below.then F3 G4
  clear G4 F3 c3
  clear w3
  go_wp2
  go_ret
  exact ⟨rfl, F4⟩
set_option maxRecDepth 100000 in
set_option maxHeartbeats 8000000 in
theorem deceives_any (w : World) (ao : Option Addr) (cp : Nat) (l : List Hs) (m : Int) (leaf : Hs) (bo : Option Addr) (cq : Nat) (p : List Hs) (hm0 : -9223372036854775808 ≤ m) (hm1 : m ≤ 9223372036854775807) (hL : Laid w) (hA : Hts w ao l) (hc : l.length ≤ cp) (hm : cp ≤ maxLen) (hbig : l.length ≤ 100000) (hB : Hts w bo p) (hcq : p.length ≤ cq) (hmq : cq ≤ maxLen) :
    Calls Tryd.prog 25 #[.slice ao l.length cp, .int .i64 m, hval leaf, .slice bo p.length cq] w fun e w' => e = .returned (.bool (foolsP l m leaf p)) ∧ Below w.heap.size w w' := by
  obtain ⟨r, hr⟩ : ∃ r, r = w.heap.size := ⟨_, rfl⟩
  obtain ⟨w1, hw1⟩ : ∃ w1, w1 = w.alloc (.cells (leaf.1.map b8).toArray 23) := ⟨_, rfl⟩
  have F1 : Below r w w1 := by rw [hw1, hr]; exact below_alloc1 _ _
  have hL1 : Blk w1 r 23 (leaf.1.map b8).toArray := by rw [hw1, hr]; exact Blk.new w _ _
  have HR := Lib.hid (And.intro hw1 hr)
  have hr0 : w.heap.size ≤ r := by omega
  have HR0 := Lib.hid hr0
  clear hw1 hr hr0
  have hll := leaf.2
  have hm9 : cp ≤ 9223372036854775807 := hm
  have hmq0 : cq ≤ 9223372036854775807 := hmq
  obtain ⟨Z, hZ⟩ : ∃ Z, Z = foolsP l m leaf p := ⟨_, rfl⟩
  rw [← hZ]
  have HZ := Lib.hid hZ
  clear hZ
  have c1 : ∀ W, Below r w W → Calls Tryd.prog 21 #[.slice ao l.length cp] W fun e w' => e = .returned (hval (rootH l)) ∧ Below W.heap.size W w' := fun W hW => refroot_any W ao cp l (hL.below hW HR0.out) (hA.below hW HR0.out) hc hm
  have c2 : ∀ W, Below r w W → Calls Tryd.prog 15 #[.int .i64 m, .int .i64 l.length, hval leaf, .slice bo p.length cq, hval (rootH l)] W fun e w' => e = .returned (.bool (checkP m l.length leaf p (rootH l))) ∧ Below W.heap.size W w' := fun W hW => refcheck_any W m l.length hm0 hm1 (by omega) (by omega) leaf bo cq p (hB.below hW HR0.out) hcq hmq (rootH l)
  obtain ⟨rt, hrt⟩ : ∃ rt, rt = rootH l := ⟨_, rfl⟩
  obtain ⟨c, hcv⟩ : ∃ c, c = checkP m l.length leaf p (rootH l) := ⟨_, rfl⟩
  rw [← hcv] at c2
  simp only [← hrt] at c1 c2
  have HC := Lib.hid hcv
  replace c1 := Lib.hid c1
  replace c2 := Lib.hid c2
  clear hcv hrt
  by_cases h0 : m < 0
  · have hd : decide (m ≥ 0) = false := by rw [decide_eq_false_iff_not]; omega
    have hzn : Z = false := by
      rw [HZ.out]; unfold foolsP
      cases hq : checkP m l.length leaf p (rootH l) with
      | false => rfl
      | true => have := checkP_in hq; omega
    go_enter Tryd.func25, Tryd.ntmps25
    go_upto_region 1 with (fail)
    change Code.wp _ _ _ _ (w.alloc (.cells (leaf.1.map b8).toArray 23))
    rw [← HR.out.1, ← HR.out.2]
    replace HR := Lib.hid HR.out.2
    refine wp_region_N (fun w' => True) [] (by kernel_rfl) ?_
    obtain ⟨wd, hwd⟩ : ∃ wd, wd = w1.drew := ⟨_, rfl⟩
    replace hL1 : Blk wd r 23 (leaf.1.map b8).toArray := by rw [hwd]; exact hL1
    replace F1 : Below r w wd := by rw [hwd]; exact F1.drew
    rw [← hwd]
    clear hwd
    clear w1
    refine wpAnyN_pureG 0 9 (v := ?_) rfl rfl (by kernel_rfl) (by kernel_rfl) (by kernel_rfl) (fun _ _ _ h => h) rfl (fun w => ?_) ?_
    rotate_left
    · go_simp
      try with_reducible rfl
    simp only [Act.put, List.setIfInBounds_toArray, List.set_cons_succ, List.set_cons_zero]
    refine wpAnyN_pureG 1 10 (v := ?_) rfl rfl (by kernel_rfl) (by kernel_rfl) (by kernel_rfl) (fun _ _ _ h => h) rfl (fun w => ?_) ?_
    rotate_left
    · go_simp
      try with_reducible rfl
    simp only [Act.put, List.setIfInBounds_toArray, List.set_cons_succ, List.set_cons_zero]
    refine wpAnyN_pureG 2 11 (v := ?_) rfl rfl (by kernel_rfl) (by kernel_rfl) (by kernel_rfl) (fun _ _ _ h => h) rfl (fun w => ?_) ?_
    rotate_left
    · go_simp
      try with_reducible rfl
    simp only [Act.put, List.setIfInBounds_toArray, List.set_cons_succ, List.set_cons_zero]
    refine wpAnyN_skipD 3 12 rfl rfl (by kernel_rfl) (by kernel_rfl) (by kernel_rfl) (fun _ _ _ h => h) (by (go_simp; try (unfold undef; simp))) ?_
    refine wpAnyN_skipD 4 13 rfl rfl (by kernel_rfl) (by kernel_rfl) (by kernel_rfl) (fun _ _ _ h => h) (by (go_simp; try (unfold undef; simp))) ?_
    refine wpAnyN_skipD 5 14 rfl rfl (by kernel_rfl) (by kernel_rfl) (by kernel_rfl) (fun _ _ _ h => h) (by (go_simp; try (unfold undef; simp))) ?_
    refine wpAnyN_skipD 6 15 rfl rfl (by kernel_rfl) (by kernel_rfl) (by kernel_rfl) (fun _ _ _ h => h) (by (go_simp; try (unfold undef; simp))) ?_
    simp only [Act.put, List.setIfInBounds_toArray, List.set_cons_succ, List.set_cons_zero]
    refine wpAnyN_pureG 7 16 (v := ?_) rfl rfl (by kernel_rfl) (by kernel_rfl) (by kernel_rfl) (fun _ _ _ h => h) rfl (fun w => ?_) ?_
    rotate_left
    · go_simp
      try with_reducible rfl
    simp only [Act.put, List.setIfInBounds_toArray, List.set_cons_succ, List.set_cons_zero]
    refine wpAnyN_pureG 8 17 (v := ?_) rfl rfl (by kernel_rfl) (by kernel_rfl) (by kernel_rfl) (fun _ _ _ h => h) rfl (fun w => ?_) ?_
    rotate_left
    · go_simp
      try with_reducible rfl
    simp only [Act.put, List.setIfInBounds_toArray, List.set_cons_succ, List.set_cons_zero]
    refine wpAnyN_skipD 9 18 rfl rfl (by kernel_rfl) (by kernel_rfl) (by kernel_rfl) (fun _ _ _ h => h) (by (go_simp; try (unfold undef; simp))) ?_
    refine wpAnyN_skipD 10 19 rfl rfl (by kernel_rfl) (by kernel_rfl) (by kernel_rfl) (fun _ _ _ h => h) (by (go_simp; try (unfold undef; simp))) ?_
    refine wpAnyN_skipD 11 20 rfl rfl (by kernel_rfl) (by kernel_rfl) (by kernel_rfl) (fun _ _ _ h => h) (by (go_simp; try (unfold undef; simp))) ?_
    refine wpAnyN_skipD 12 21 rfl rfl (by kernel_rfl) (by kernel_rfl) (by kernel_rfl) (fun _ _ _ h => h) (by (go_simp; try (unfold undef; simp))) ?_
    refine wpAnyN_skipD 13 22 rfl rfl (by kernel_rfl) (by kernel_rfl) (by kernel_rfl) (fun _ _ _ h => h) (by (go_simp; try (unfold undef; simp))) ?_
    refine wpAnyN_skipD 14 23 rfl rfl (by kernel_rfl) (by kernel_rfl) (by kernel_rfl) (fun _ _ _ h => h) (by (go_simp; try (unfold undef; simp))) ?_
    refine wpAnyN_skipD 15 24 rfl rfl (by kernel_rfl) (by kernel_rfl) (by kernel_rfl) (fun _ _ _ h => h) (by (go_simp; try (unfold undef; simp))) ?_
    refine wpAnyN_skipD 16 25 rfl rfl (by kernel_rfl) (by kernel_rfl) (by kernel_rfl) (fun _ _ _ h => h) (by (go_simp; try (unfold undef; simp))) ?_
    simp only [Act.put, List.setIfInBounds_toArray, List.set_cons_succ, List.set_cons_zero]
    refine wpAnyN_pureG 17 26 (v := ?_) rfl rfl (by kernel_rfl) (by kernel_rfl) (by kernel_rfl) (fun _ _ _ h => h) rfl (fun w => ?_) ?_
    rotate_left
    · go_simp
      try with_reducible rfl
    simp only [Act.put, List.setIfInBounds_toArray, List.set_cons_succ, List.set_cons_zero]
    refine wpAnyN_pureG 18 27 (v := ?_) rfl rfl (by kernel_rfl) (by kernel_rfl) (by kernel_rfl) (fun _ _ _ h => h) rfl (fun w => ?_) ?_
    rotate_left
    · go_simp
      try with_reducible rfl
    simp only [Act.put, List.setIfInBounds_toArray, List.set_cons_succ, List.set_cons_zero]
    refine wpAnyN_skipD 19 28 rfl rfl (by kernel_rfl) (by kernel_rfl) (by kernel_rfl) (fun _ _ _ h => h) (by (go_simp; try (unfold undef; simp))) ?_
    refine wpAnyN_skipD 20 29 rfl rfl (by kernel_rfl) (by kernel_rfl) (by kernel_rfl) (fun _ _ _ h => h) (by (go_simp; try (unfold undef; simp))) ?_
    refine wpAnyN_skipD 21 30 rfl rfl (by kernel_rfl) (by kernel_rfl) (by kernel_rfl) (fun _ _ _ h => h) (by (go_simp; try (unfold undef; simp))) ?_
    refine wpAnyN_skipD 22 31 rfl rfl (by kernel_rfl) (by kernel_rfl) (by kernel_rfl) (fun _ _ _ h => h) (by (go_simp; try (unfold undef; simp))) ?_
    refine wpAnyN_skipD 23 32 rfl rfl (by kernel_rfl) (by kernel_rfl) (by kernel_rfl) (fun _ _ _ h => h) (by (go_simp; try (unfold undef; simp))) ?_
    refine wpAnyN_skipD 24 33 rfl rfl (by kernel_rfl) (by kernel_rfl) (by kernel_rfl) (fun _ _ _ h => h) (by (go_simp; try (unfold undef; simp))) ?_
    simp only [Act.put, List.setIfInBounds_toArray, List.set_cons_succ, List.set_cons_zero]
    refine wpAnyN_pureG 25 34 (v := ?_) rfl rfl (by kernel_rfl) (by kernel_rfl) (by kernel_rfl) (fun _ _ _ h => h) rfl (fun w => ?_) ?_
    rotate_left
    · go_simp
      try with_reducible rfl
    simp only [Act.put, List.setIfInBounds_toArray, List.set_cons_succ, List.set_cons_zero]
    refine wpAnyN_pureG 26 8 (v := ?_) rfl rfl (by kernel_rfl) (by kernel_rfl) (by kernel_rfl) (fun _ _ _ h => h) rfl (fun w => ?_) ?_
    rotate_left
    · go_simp
      try with_reducible rfl
    refine wpAnyN_done (by kernel_rfl) ?_
    simp only [Act.put, List.setIfInBounds_toArray, List.set_cons_succ, List.set_cons_zero]
    rw [HR.out] at F1
    go_wp2
    go_ret
    exact ⟨by first | rfl | (rw [hzn]; rfl), F1⟩
  · have hd : decide (m ≥ 0) = true := by rw [decide_eq_true_eq]; omega
    by_cases h1 : m < l.length
    · have hd1 : decide (m < (l.length : Int)) = true := by rw [decide_eq_true_eq]; exact h1
      cases c with
      | false =>
        have hzn : Z = false := by rw [HZ.out]; unfold foolsP; rw [← HC.out]; rfl
        go_enter Tryd.func25, Tryd.ntmps25
        go_upto_region 1 with (fail)
        change Code.wp _ _ _ _ (w.alloc (.cells (leaf.1.map b8).toArray 23))
        rw [← HR.out.1, ← HR.out.2]
        replace HR := Lib.hid HR.out.2
        refine wp_region_N (fun w' => Blk w' r 23 (leaf.1.map b8).toArray) [] (by kernel_rfl) ?_
        obtain ⟨wd, hwd⟩ : ∃ wd, wd = w1.drew := ⟨_, rfl⟩
        replace hL1 : Blk wd r 23 (leaf.1.map b8).toArray := by rw [hwd]; exact hL1
        replace F1 : Below r w wd := by rw [hwd]; exact F1.drew
        rw [← hwd]
        clear hwd
        clear w1
        refine wpAnyN_pureG 0 9 (v := ?_) rfl rfl (by kernel_rfl) (by kernel_rfl) (by kernel_rfl) (fun _ _ _ h => h) rfl (fun w => ?_) ?_
        rotate_left
        · go_simp
          try with_reducible rfl
        simp only [Act.put, List.setIfInBounds_toArray, List.set_cons_succ, List.set_cons_zero]
        refine wpAnyN_pureG 1 10 (v := ?_) rfl rfl (by kernel_rfl) (by kernel_rfl) (by kernel_rfl) (fun _ _ _ h => h) rfl (fun w => ?_) ?_
        rotate_left
        · go_simp
          try with_reducible rfl
        simp only [Act.put, List.setIfInBounds_toArray, List.set_cons_succ, List.set_cons_zero]
        refine wpAnyN_pureG 2 11 (v := ?_) rfl rfl (by kernel_rfl) (by kernel_rfl) (by kernel_rfl) (fun _ _ _ h => h) rfl (fun w => ?_) ?_
        rotate_left
        · go_simp
          try with_reducible rfl
        simp only [Act.put, List.setIfInBounds_toArray, List.set_cons_succ, List.set_cons_zero]
        refine wpAnyN_pure 3 12 (v := ?_) rfl rfl (by kernel_rfl) (by kernel_rfl) (by kernel_rfl) (fun _ _ _ h => h) (by go_simp) (fun w => ?_) ?_
        rotate_left
        · go_simp
          try with_reducible rfl
        refine wpAnyN_pure 4 13 (v := ?_) rfl rfl (by kernel_rfl) (by kernel_rfl) (by kernel_rfl) (fun _ _ _ h => h) (by go_simp) (fun w => ?_) ?_
        rotate_left
        · go_simp
          try with_reducible rfl
        simp only [Act.put, List.setIfInBounds_toArray, List.set_cons_succ, List.set_cons_zero]
        refine wpAnyN_pure 5 14 (v := ?_) rfl rfl (by kernel_rfl) (by kernel_rfl) (by kernel_rfl) (fun _ _ _ h => h) (by go_simp) (fun w => ?_) ?_
        rotate_left
        · go_simp
          try with_reducible rfl
        simp only [Act.put, List.setIfInBounds_toArray, List.set_cons_succ, List.set_cons_zero]
        refine wpAnyN_pure 6 15 (v := ?_) rfl rfl (by kernel_rfl) (by kernel_rfl) (by kernel_rfl) (fun _ _ _ h => h) (by go_simp) (fun w => ?_) ?_
        rotate_left
        · go_simp
          try with_reducible rfl
        simp only [Act.put, List.setIfInBounds_toArray, List.set_cons_succ, List.set_cons_zero]
        refine wpAnyN_pureG 7 16 (v := ?_) rfl rfl (by kernel_rfl) (by kernel_rfl) (by kernel_rfl) (fun _ _ _ h => h) rfl (fun w => ?_) ?_
        rotate_left
        · go_simp
          try with_reducible rfl
        simp only [Act.put, List.setIfInBounds_toArray, List.set_cons_succ, List.set_cons_zero]
        refine wpAnyN_pureG 8 17 (v := ?_) rfl rfl (by kernel_rfl) (by kernel_rfl) (by kernel_rfl) (fun _ _ _ h => h) rfl (fun w => ?_) ?_
        rotate_left
        · go_simp
          try with_reducible rfl
        simp only [Act.put, List.setIfInBounds_toArray, List.set_cons_succ, List.set_cons_zero]
        refine wpAnyN_pure 9 18 (v := ?_) rfl rfl (by kernel_rfl) (by kernel_rfl) (by kernel_rfl) (fun _ _ _ h => h) (by go_simp) (fun w => ?_) ?_
        rotate_left
        · go_simp
          try with_reducible rfl
        refine wpAnyN_pure 10 19 (v := ?_) rfl rfl (by kernel_rfl) (by kernel_rfl) (by kernel_rfl) (fun _ _ _ h => h) (by go_simp) (fun w => ?_) ?_
        rotate_left
        · go_simp
          try with_reducible rfl
        refine wpAnyN_pure 13 22 (v := ?_) rfl rfl (by kernel_rfl) (by kernel_rfl) (by kernel_rfl) (fun _ _ _ h => h) (by go_simp) (fun w => ?_) ?_
        rotate_left
        · go_simp
          try with_reducible rfl
        refine wpAnyN_pure 14 23 (v := ?_) rfl rfl (by kernel_rfl) (by kernel_rfl) (by kernel_rfl) (fun _ _ _ h => h) (by go_simp) (fun w => ?_) ?_
        rotate_left
        · go_simp
          try with_reducible rfl
        simp only [Act.put, List.setIfInBounds_toArray, List.set_cons_succ, List.set_cons_zero]
        refine wpAnyN_pure 11 20 (v := ?_) rfl rfl (by kernel_rfl) (by kernel_rfl) (by kernel_rfl) (fun _ _ _ h => h) (by go_simp) (fun w => ?_) ?_
        rotate_left
        · go_simp
          try with_reducible rfl
        refine wpAnyN_take 12 21 (v := hval leaf) rfl rfl (by kernel_rfl) (by kernel_rfl) (by kernel_rfl) (by kernel_rfl) (fun _ _ _ h => h) hL1 (by go_simp) (fun w hS => ?_) ?_
        · exact run_load_mid_blk 23 (.tmp 6) rfl hS 0 (by go_simp) (leaf.1.map b8) (fun j v h => by rw [Nat.zero_add, List.getElem?_toArray]; exact h) (.array 32 5) (by kernel_rfl) rfl 32 (by kernel_rfl) (by simp [hll])
        simp only [Act.put, List.setIfInBounds_toArray, List.set_cons_succ, List.set_cons_zero]
        refine wpAnyN_callW 15 21 (some 24) [.tmp 23] [.slice ao l.length cp] (by kernel_rfl) rfl rfl rfl (by go_simp) (by go_simp) Tryd.call21 ?_
        refine (c1.out wd F1).mono ?_
        rintro e w6 ⟨rfl, G6⟩
        refine ⟨_, rfl, fun _ h => h.below G6 h.lt, ?_⟩
        have hL6 := hL1.below G6 hL1.lt
        have hsz : r + 1 ≤ wd.heap.size := hL1.lt
        have F6 := F1.trans (G6.mono (by omega))
        clear hL1 F1 G6 hsz c1
        clear wd
        simp only [Act.put, List.setIfInBounds_toArray, List.set_cons_succ, List.set_cons_zero]
        refine wpAnyN_callW 16 15 (some 25) [.tmp 18, .tmp 20, .tmp 21, .tmp 22, .tmp 24] [.int .i64 m, .int .i64 l.length, hval leaf, .slice bo p.length cq, hval rt] (by kernel_rfl) rfl rfl rfl (by go_simp) (by go_simp) Tryd.call15 ?_
        refine (c2.out w6 F6).mono ?_
        rintro e w7 ⟨rfl, G7⟩
        refine ⟨_, rfl, fun _ h => h.below G7 h.lt, ?_⟩
        have hL7 := hL6.below G7 hL6.lt
        have hsz : r + 1 ≤ w6.heap.size := hL6.lt
        have F7 := F6.trans (G7.mono (by omega))
        clear hL6 F6 G7 hsz c2
        clear w6
        simp only [Act.put, List.setIfInBounds_toArray, List.set_cons_succ, List.set_cons_zero]
        refine wpAnyN_pureG 17 26 (v := ?_) rfl rfl (by kernel_rfl) (by kernel_rfl) (by kernel_rfl) (fun _ _ _ h => h) rfl (fun w => ?_) ?_
        rotate_left
        · go_simp
          try with_reducible rfl
        simp only [Act.put, List.setIfInBounds_toArray, List.set_cons_succ, List.set_cons_zero]
        refine wpAnyN_pureG 18 27 (v := ?_) rfl rfl (by kernel_rfl) (by kernel_rfl) (by kernel_rfl) (fun _ _ _ h => h) rfl (fun w => ?_) ?_
        rotate_left
        · go_simp
          try with_reducible rfl
        simp only [Act.put, List.setIfInBounds_toArray, List.set_cons_succ, List.set_cons_zero]
        refine wpAnyN_skipD 19 28 rfl rfl (by kernel_rfl) (by kernel_rfl) (by kernel_rfl) (fun _ _ _ h => h) (by (go_simp; try (unfold undef; simp))) ?_
        refine wpAnyN_skipD 20 29 rfl rfl (by kernel_rfl) (by kernel_rfl) (by kernel_rfl) (fun _ _ _ h => h) (by (go_simp; try (unfold undef; simp))) ?_
        refine wpAnyN_skipD 21 30 rfl rfl (by kernel_rfl) (by kernel_rfl) (by kernel_rfl) (fun _ _ _ h => h) (by (go_simp; try (unfold undef; simp))) ?_
        refine wpAnyN_skipD 22 31 rfl rfl (by kernel_rfl) (by kernel_rfl) (by kernel_rfl) (fun _ _ _ h => h) (by (go_simp; try (unfold undef; simp))) ?_
        refine wpAnyN_skipD 23 32 rfl rfl (by kernel_rfl) (by kernel_rfl) (by kernel_rfl) (fun _ _ _ h => h) (by (go_simp; try (unfold undef; simp))) ?_
        refine wpAnyN_skipD 24 33 rfl rfl (by kernel_rfl) (by kernel_rfl) (by kernel_rfl) (fun _ _ _ h => h) (by (go_simp; try (unfold undef; simp))) ?_
        simp only [Act.put, List.setIfInBounds_toArray, List.set_cons_succ, List.set_cons_zero]
        refine wpAnyN_pureG 25 34 (v := ?_) rfl rfl (by kernel_rfl) (by kernel_rfl) (by kernel_rfl) (fun _ _ _ h => h) rfl (fun w => ?_) ?_
        rotate_left
        · go_simp
          try with_reducible rfl
        simp only [Act.put, List.setIfInBounds_toArray, List.set_cons_succ, List.set_cons_zero]
        refine wpAnyN_pureG 26 8 (v := ?_) rfl rfl (by kernel_rfl) (by kernel_rfl) (by kernel_rfl) (fun _ _ _ h => h) rfl (fun w => ?_) ?_
        rotate_left
        · go_simp
          try with_reducible rfl
        refine wpAnyN_done (by kernel_rfl) ?_
        simp only [Act.put, List.setIfInBounds_toArray, List.set_cons_succ, List.set_cons_zero]
        rw [HR.out] at F7
        go_wp2
        go_ret
        exact ⟨by first | rfl | (rw [hzn]; rfl), F7⟩
      | true =>
        obtain ⟨M, rfl⟩ : ∃ M : Nat, m = M := ⟨m.toNat, by omega⟩
        have hMl : M < l.length := by omega
        obtain ⟨g, off, rfl, hg, hra⟩ := hA.place (by omega)
        have hy0 := hra M hMl
        have hgd : (l.getD M nilH) = l[M] := by simp [List.getD, hMl]
        have hxl := (l[M]).2
        have HY := Lib.hid (And.intro hy0 hg)
        obtain ⟨x, hx⟩ : ∃ x, x = l[M] := ⟨_, rfl⟩
        rw [← hx] at HY hgd hxl
        obtain ⟨q, hq⟩ : ∃ q, q = (leaf.1 == x.1) := ⟨_, rfl⟩
        have hzn : Z = !q := by rw [HZ.out, hq]; unfold foolsP; rw [← HC.out, Int.toNat_natCast, hgd, Bool.true_and]
        have HZN := Lib.hid hzn
        have HQ := Lib.hid hq
        clear hzn hq hx hra hy0 hg hgd hA hB h0
        go_enter Tryd.func25, Tryd.ntmps25
        go_upto_region 1 with (fail)
        change Code.wp _ _ _ _ (w.alloc (.cells (leaf.1.map b8).toArray 23))
        rw [← HR.out.1, ← HR.out.2]
        replace HR := Lib.hid HR.out.2
        refine wp_region_N (fun w' => Blk w' r 23 (leaf.1.map b8).toArray ∧ w'.rangeAt g (off + M * 32) (x.1.map b8)) [] (by kernel_rfl) ?_
        obtain ⟨wd, hwd⟩ : ∃ wd, wd = w1.drew := ⟨_, rfl⟩
        replace hL1 : Blk wd r 23 (leaf.1.map b8).toArray := by rw [hwd]; exact hL1
        replace F1 : Below r w wd := by rw [hwd]; exact F1.drew
        rw [← hwd]
        clear hwd
        clear w1
        have hX := range_below HY.out.1 F1 (Nat.lt_of_lt_of_le HY.out.2 HR0.out)
        refine wpAnyN_pureG 0 9 (v := ?_) rfl rfl (by kernel_rfl) (by kernel_rfl) (by kernel_rfl) (fun _ _ _ h => h) rfl (fun w => ?_) ?_
        rotate_left
        · go_simp
          try with_reducible rfl
        simp only [Act.put, List.setIfInBounds_toArray, List.set_cons_succ, List.set_cons_zero]
        refine wpAnyN_pureG 1 10 (v := ?_) rfl rfl (by kernel_rfl) (by kernel_rfl) (by kernel_rfl) (fun _ _ _ h => h) rfl (fun w => ?_) ?_
        rotate_left
        · go_simp
          try with_reducible rfl
        simp only [Act.put, List.setIfInBounds_toArray, List.set_cons_succ, List.set_cons_zero]
        refine wpAnyN_pureG 2 11 (v := ?_) rfl rfl (by kernel_rfl) (by kernel_rfl) (by kernel_rfl) (fun _ _ _ h => h) rfl (fun w => ?_) ?_
        rotate_left
        · go_simp
          try with_reducible rfl
        simp only [Act.put, List.setIfInBounds_toArray, List.set_cons_succ, List.set_cons_zero]
        refine wpAnyN_pure 3 12 (v := ?_) rfl rfl (by kernel_rfl) (by kernel_rfl) (by kernel_rfl) (fun _ _ _ h => h) (by go_simp) (fun w => ?_) ?_
        rotate_left
        · go_simp
          try with_reducible rfl
        refine wpAnyN_pure 4 13 (v := ?_) rfl rfl (by kernel_rfl) (by kernel_rfl) (by kernel_rfl) (fun _ _ _ h => h) (by go_simp) (fun w => ?_) ?_
        rotate_left
        · go_simp
          try with_reducible rfl
        simp only [Act.put, List.setIfInBounds_toArray, List.set_cons_succ, List.set_cons_zero]
        refine wpAnyN_pure 5 14 (v := ?_) rfl rfl (by kernel_rfl) (by kernel_rfl) (by kernel_rfl) (fun _ _ _ h => h) (by go_simp) (fun w => ?_) ?_
        rotate_left
        · go_simp
          try with_reducible rfl
        simp only [Act.put, List.setIfInBounds_toArray, List.set_cons_succ, List.set_cons_zero]
        refine wpAnyN_pure 6 15 (v := ?_) rfl rfl (by kernel_rfl) (by kernel_rfl) (by kernel_rfl) (fun _ _ _ h => h) (by go_simp) (fun w => ?_) ?_
        rotate_left
        · go_simp
          try with_reducible rfl
        simp only [Act.put, List.setIfInBounds_toArray, List.set_cons_succ, List.set_cons_zero]
        refine wpAnyN_pureG 7 16 (v := ?_) rfl rfl (by kernel_rfl) (by kernel_rfl) (by kernel_rfl) (fun _ _ _ h => h) rfl (fun w => ?_) ?_
        rotate_left
        · go_simp
          try with_reducible rfl
        simp only [Act.put, List.setIfInBounds_toArray, List.set_cons_succ, List.set_cons_zero]
        refine wpAnyN_pureG 8 17 (v := ?_) rfl rfl (by kernel_rfl) (by kernel_rfl) (by kernel_rfl) (fun _ _ _ h => h) rfl (fun w => ?_) ?_
        rotate_left
        · go_simp
          try with_reducible rfl
        simp only [Act.put, List.setIfInBounds_toArray, List.set_cons_succ, List.set_cons_zero]
        refine wpAnyN_pure 9 18 (v := ?_) rfl rfl (by kernel_rfl) (by kernel_rfl) (by kernel_rfl) (fun _ _ _ h => h) (by go_simp) (fun w => ?_) ?_
        rotate_left
        · go_simp
          try with_reducible rfl
        refine wpAnyN_pure 10 19 (v := ?_) rfl rfl (by kernel_rfl) (by kernel_rfl) (by kernel_rfl) (fun _ _ _ h => h) (by go_simp) (fun w => ?_) ?_
        rotate_left
        · go_simp
          try with_reducible rfl
        refine wpAnyN_pure 13 22 (v := ?_) rfl rfl (by kernel_rfl) (by kernel_rfl) (by kernel_rfl) (fun _ _ _ h => h) (by go_simp) (fun w => ?_) ?_
        rotate_left
        · go_simp
          try with_reducible rfl
        refine wpAnyN_pure 14 23 (v := ?_) rfl rfl (by kernel_rfl) (by kernel_rfl) (by kernel_rfl) (fun _ _ _ h => h) (by go_simp) (fun w => ?_) ?_
        rotate_left
        · go_simp
          try with_reducible rfl
        simp only [Act.put, List.setIfInBounds_toArray, List.set_cons_succ, List.set_cons_zero]
        refine wpAnyN_pure 11 20 (v := ?_) rfl rfl (by kernel_rfl) (by kernel_rfl) (by kernel_rfl) (fun _ _ _ h => h) (by go_simp) (fun w => ?_) ?_
        rotate_left
        · go_simp
          try with_reducible rfl
        refine wpAnyN_take 12 21 (v := hval leaf) rfl rfl (by kernel_rfl) (by kernel_rfl) (by kernel_rfl) (by kernel_rfl) (fun _ _ _ h => h) ⟨hL1, hX⟩ (by go_simp) (fun w hS => ?_) ?_
        · exact run_load_mid_blk 23 (.tmp 6) rfl hS.1 0 (by go_simp) (leaf.1.map b8) (fun j v h => by rw [Nat.zero_add, List.getElem?_toArray]; exact h) (.array 32 5) (by kernel_rfl) rfl 32 (by kernel_rfl) (by simp [hll])
        simp only [Act.put, List.setIfInBounds_toArray, List.set_cons_succ, List.set_cons_zero]
        refine wpAnyN_callW 15 21 (some 24) [.tmp 23] [.slice (some ⟨g, off, none⟩) l.length cp] (by kernel_rfl) rfl rfl rfl (by go_simp) (by go_simp) Tryd.call21 ?_
        refine (c1.out wd F1).mono ?_
        rintro e w6 ⟨rfl, G6⟩
        refine ⟨_, rfl, fun _ h => ⟨h.1.below G6 h.1.lt, hash_below x h.2 G6⟩, ?_⟩
        have hL6 := hL1.below G6 hL1.lt
        have hsz : r + 1 ≤ wd.heap.size := hL1.lt
        have F6 := F1.trans (G6.mono (by omega))
        clear hL1 F1 G6 hsz c1 hX
        clear wd
        simp only [Act.put, List.setIfInBounds_toArray, List.set_cons_succ, List.set_cons_zero]
        refine wpAnyN_callW 16 15 (some 25) [.tmp 18, .tmp 20, .tmp 21, .tmp 22, .tmp 24] [.int .i64 M, .int .i64 l.length, hval leaf, .slice bo p.length cq, hval rt] (by kernel_rfl) rfl rfl rfl (by go_simp) (by go_simp) Tryd.call15 ?_
        refine (c2.out w6 F6).mono ?_
        rintro e w7 ⟨rfl, G7⟩
        refine ⟨_, rfl, fun _ h => ⟨h.1.below G7 h.1.lt, hash_below x h.2 G7⟩, ?_⟩
        have hL7 := hL6.below G7 hL6.lt
        have hsz : r + 1 ≤ w6.heap.size := hL6.lt
        have F7 := F6.trans (G7.mono (by omega))
        clear hL6 F6 G7 hsz c2
        clear w6
        simp only [Act.put, List.setIfInBounds_toArray, List.set_cons_succ, List.set_cons_zero]
        refine wpAnyN_pureG 17 26 (v := ?_) rfl rfl (by kernel_rfl) (by kernel_rfl) (by kernel_rfl) (fun _ _ _ h => h) rfl (fun w => ?_) ?_
        rotate_left
        · go_simp
          try with_reducible rfl
        simp only [Act.put, List.setIfInBounds_toArray, List.set_cons_succ, List.set_cons_zero]
        refine wpAnyN_pureG 18 27 (v := ?_) rfl rfl (by kernel_rfl) (by kernel_rfl) (by kernel_rfl) (fun _ _ _ h => h) rfl (fun w => ?_) ?_
        rotate_left
        · go_simp
          try with_reducible rfl
        simp only [Act.put, List.setIfInBounds_toArray, List.set_cons_succ, List.set_cons_zero]
        have hX7 := range_below HY.out.1 F7 (Nat.lt_of_lt_of_le HY.out.2 HR0.out)
        refine wpAnyN_pure 20 29 (v := ?_) rfl rfl (by kernel_rfl) (by kernel_rfl) (by kernel_rfl) (fun _ _ _ h => h) (by go_simp) (fun w => ?_) ?_
        rotate_left
        · go_simp
          try with_reducible rfl
        refine wpAnyN_pure 21 30 (v := ?_) rfl rfl (by kernel_rfl) (by kernel_rfl) (by kernel_rfl) (fun _ _ _ h => h) (by go_simp) (fun w => ?_) ?_
        rotate_left
        · go_simp
          try with_reducible rfl
        simp only [Act.put, List.setIfInBounds_toArray, List.set_cons_succ, List.set_cons_zero]
        refine wpAnyN_pure 22 31 (v := .pointer (some ⟨g, off + M * 32, none⟩)) rfl rfl (by kernel_rfl) (by kernel_rfl) (by kernel_rfl) (fun _ _ _ h => h) (by go_simp) (fun w => ?_) ?_
        · go_simp
          try (intro h; omega)
        simp only [Act.put, List.setIfInBounds_toArray, List.set_cons_succ, List.set_cons_zero]
        refine wpAnyN_take 19 28 (v := hval leaf) rfl rfl (by kernel_rfl) (by kernel_rfl) (by kernel_rfl) (by kernel_rfl) (fun _ _ _ h => h) ⟨hL7, hX7⟩ (by go_simp) (fun w hS => ?_) ?_
        · exact run_load_mid_blk 23 (.tmp 6) rfl hS.1 0 (by go_simp) (leaf.1.map b8) (fun j v h => by rw [Nat.zero_add, List.getElem?_toArray]; exact h) (.array 32 5) (by kernel_rfl) rfl 32 (by kernel_rfl) (by simp [hll])
        refine wpAnyN_take 23 32 (v := hval x) rfl rfl (by kernel_rfl) (by kernel_rfl) (by kernel_rfl) (by kernel_rfl) (fun _ _ _ h => h) ⟨hL7, hX7⟩ (by go_simp) (fun w hS => ?_) ?_
        · exact run_load_range 23 _ rfl hS.2 (by go_simp) (.array 32 5) (by kernel_rfl) rfl 32 (by kernel_rfl) (by simp [hxl])
        simp only [Act.put, List.setIfInBounds_toArray, List.set_cons_succ, List.set_cons_zero]
        refine wpAnyN_pure 24 33 (v := .bool (!q)) rfl rfl (by kernel_rfl) (by kernel_rfl) (by kernel_rfl) (fun _ _ _ h => h) (by go_simp) (fun w => ?_) ?_
        · rw [HQ.out]; go_simp
        simp only [Act.put, List.setIfInBounds_toArray, List.set_cons_succ, List.set_cons_zero]
        refine wpAnyN_pureG 25 34 (v := ?_) rfl rfl (by kernel_rfl) (by kernel_rfl) (by kernel_rfl) (fun _ _ _ h => h) rfl (fun w => ?_) ?_
        rotate_left
        · go_simp
          try with_reducible rfl
        simp only [Act.put, List.setIfInBounds_toArray, List.set_cons_succ, List.set_cons_zero]
        refine wpAnyN_pureG 26 8 (v := ?_) rfl rfl (by kernel_rfl) (by kernel_rfl) (by kernel_rfl) (fun _ _ _ h => h) rfl (fun w => ?_) ?_
        rotate_left
        · go_simp
          try with_reducible rfl
        refine wpAnyN_done (by kernel_rfl) ?_
        simp only [Act.put, List.setIfInBounds_toArray, List.set_cons_succ, List.set_cons_zero]
        rw [HR.out] at F7
        go_wp2
        go_ret
        exact ⟨by first | rfl | (rw [HZN.out]; rfl), F7⟩
    · have hd1 : decide (m < (l.length : Int)) = false := by rw [decide_eq_false_iff_not]; exact h1
      have hzn : Z = false := by
        rw [HZ.out]; unfold foolsP
        cases hq : checkP m l.length leaf p (rootH l) with
        | false => rfl
        | true => have := checkP_in hq; omega
      go_enter Tryd.func25, Tryd.ntmps25
      go_upto_region 1 with (fail)
      change Code.wp _ _ _ _ (w.alloc (.cells (leaf.1.map b8).toArray 23))
      rw [← HR.out.1, ← HR.out.2]
      replace HR := Lib.hid HR.out.2
      refine wp_region_N (fun w' => True) [] (by kernel_rfl) ?_
      obtain ⟨wd, hwd⟩ : ∃ wd, wd = w1.drew := ⟨_, rfl⟩
      replace hL1 : Blk wd r 23 (leaf.1.map b8).toArray := by rw [hwd]; exact hL1
      replace F1 : Below r w wd := by rw [hwd]; exact F1.drew
      rw [← hwd]
      clear hwd
      clear w1
      refine wpAnyN_pureG 0 9 (v := ?_) rfl rfl (by kernel_rfl) (by kernel_rfl) (by kernel_rfl) (fun _ _ _ h => h) rfl (fun w => ?_) ?_
      rotate_left
      · go_simp
        try with_reducible rfl
      simp only [Act.put, List.setIfInBounds_toArray, List.set_cons_succ, List.set_cons_zero]
      refine wpAnyN_pureG 1 10 (v := ?_) rfl rfl (by kernel_rfl) (by kernel_rfl) (by kernel_rfl) (fun _ _ _ h => h) rfl (fun w => ?_) ?_
      rotate_left
      · go_simp
        try with_reducible rfl
      simp only [Act.put, List.setIfInBounds_toArray, List.set_cons_succ, List.set_cons_zero]
      refine wpAnyN_pureG 2 11 (v := ?_) rfl rfl (by kernel_rfl) (by kernel_rfl) (by kernel_rfl) (fun _ _ _ h => h) rfl (fun w => ?_) ?_
      rotate_left
      · go_simp
        try with_reducible rfl
      simp only [Act.put, List.setIfInBounds_toArray, List.set_cons_succ, List.set_cons_zero]
      refine wpAnyN_pure 3 12 (v := ?_) rfl rfl (by kernel_rfl) (by kernel_rfl) (by kernel_rfl) (fun _ _ _ h => h) (by go_simp) (fun w => ?_) ?_
      rotate_left
      · go_simp
        try with_reducible rfl
      refine wpAnyN_pure 4 13 (v := ?_) rfl rfl (by kernel_rfl) (by kernel_rfl) (by kernel_rfl) (fun _ _ _ h => h) (by go_simp) (fun w => ?_) ?_
      rotate_left
      · go_simp
        try with_reducible rfl
      simp only [Act.put, List.setIfInBounds_toArray, List.set_cons_succ, List.set_cons_zero]
      refine wpAnyN_pure 5 14 (v := ?_) rfl rfl (by kernel_rfl) (by kernel_rfl) (by kernel_rfl) (fun _ _ _ h => h) (by go_simp) (fun w => ?_) ?_
      rotate_left
      · go_simp
        try with_reducible rfl
      simp only [Act.put, List.setIfInBounds_toArray, List.set_cons_succ, List.set_cons_zero]
      refine wpAnyN_pure 6 15 (v := ?_) rfl rfl (by kernel_rfl) (by kernel_rfl) (by kernel_rfl) (fun _ _ _ h => h) (by go_simp) (fun w => ?_) ?_
      rotate_left
      · go_simp
        try with_reducible rfl
      simp only [Act.put, List.setIfInBounds_toArray, List.set_cons_succ, List.set_cons_zero]
      refine wpAnyN_pureG 7 16 (v := ?_) rfl rfl (by kernel_rfl) (by kernel_rfl) (by kernel_rfl) (fun _ _ _ h => h) rfl (fun w => ?_) ?_
      rotate_left
      · go_simp
        try with_reducible rfl
      simp only [Act.put, List.setIfInBounds_toArray, List.set_cons_succ, List.set_cons_zero]
      refine wpAnyN_pureG 8 17 (v := ?_) rfl rfl (by kernel_rfl) (by kernel_rfl) (by kernel_rfl) (fun _ _ _ h => h) rfl (fun w => ?_) ?_
      rotate_left
      · go_simp
        try with_reducible rfl
      simp only [Act.put, List.setIfInBounds_toArray, List.set_cons_succ, List.set_cons_zero]
      refine wpAnyN_skipD 9 18 rfl rfl (by kernel_rfl) (by kernel_rfl) (by kernel_rfl) (fun _ _ _ h => h) (by (go_simp; try (unfold undef; simp))) ?_
      refine wpAnyN_skipD 10 19 rfl rfl (by kernel_rfl) (by kernel_rfl) (by kernel_rfl) (fun _ _ _ h => h) (by (go_simp; try (unfold undef; simp))) ?_
      refine wpAnyN_skipD 11 20 rfl rfl (by kernel_rfl) (by kernel_rfl) (by kernel_rfl) (fun _ _ _ h => h) (by (go_simp; try (unfold undef; simp))) ?_
      refine wpAnyN_skipD 12 21 rfl rfl (by kernel_rfl) (by kernel_rfl) (by kernel_rfl) (fun _ _ _ h => h) (by (go_simp; try (unfold undef; simp))) ?_
      refine wpAnyN_skipD 13 22 rfl rfl (by kernel_rfl) (by kernel_rfl) (by kernel_rfl) (fun _ _ _ h => h) (by (go_simp; try (unfold undef; simp))) ?_
      refine wpAnyN_skipD 14 23 rfl rfl (by kernel_rfl) (by kernel_rfl) (by kernel_rfl) (fun _ _ _ h => h) (by (go_simp; try (unfold undef; simp))) ?_
      refine wpAnyN_skipD 15 24 rfl rfl (by kernel_rfl) (by kernel_rfl) (by kernel_rfl) (fun _ _ _ h => h) (by (go_simp; try (unfold undef; simp))) ?_
      refine wpAnyN_skipD 16 25 rfl rfl (by kernel_rfl) (by kernel_rfl) (by kernel_rfl) (fun _ _ _ h => h) (by (go_simp; try (unfold undef; simp))) ?_
      simp only [Act.put, List.setIfInBounds_toArray, List.set_cons_succ, List.set_cons_zero]
      refine wpAnyN_pureG 17 26 (v := ?_) rfl rfl (by kernel_rfl) (by kernel_rfl) (by kernel_rfl) (fun _ _ _ h => h) rfl (fun w => ?_) ?_
      rotate_left
      · go_simp
        try with_reducible rfl
      simp only [Act.put, List.setIfInBounds_toArray, List.set_cons_succ, List.set_cons_zero]
      refine wpAnyN_pureG 18 27 (v := ?_) rfl rfl (by kernel_rfl) (by kernel_rfl) (by kernel_rfl) (fun _ _ _ h => h) rfl (fun w => ?_) ?_
      rotate_left
      · go_simp
        try with_reducible rfl
      simp only [Act.put, List.setIfInBounds_toArray, List.set_cons_succ, List.set_cons_zero]
      refine wpAnyN_skipD 19 28 rfl rfl (by kernel_rfl) (by kernel_rfl) (by kernel_rfl) (fun _ _ _ h => h) (by (go_simp; try (unfold undef; simp))) ?_
      refine wpAnyN_skipD 20 29 rfl rfl (by kernel_rfl) (by kernel_rfl) (by kernel_rfl) (fun _ _ _ h => h) (by (go_simp; try (unfold undef; simp))) ?_
      refine wpAnyN_skipD 21 30 rfl rfl (by kernel_rfl) (by kernel_rfl) (by kernel_rfl) (fun _ _ _ h => h) (by (go_simp; try (unfold undef; simp))) ?_
      refine wpAnyN_skipD 22 31 rfl rfl (by kernel_rfl) (by kernel_rfl) (by kernel_rfl) (fun _ _ _ h => h) (by (go_simp; try (unfold undef; simp))) ?_
      refine wpAnyN_skipD 23 32 rfl rfl (by kernel_rfl) (by kernel_rfl) (by kernel_rfl) (fun _ _ _ h => h) (by (go_simp; try (unfold undef; simp))) ?_
      refine wpAnyN_skipD 24 33 rfl rfl (by kernel_rfl) (by kernel_rfl) (by kernel_rfl) (fun _ _ _ h => h) (by (go_simp; try (unfold undef; simp))) ?_
      simp only [Act.put, List.setIfInBounds_toArray, List.set_cons_succ, List.set_cons_zero]
      refine wpAnyN_pureG 25 34 (v := ?_) rfl rfl (by kernel_rfl) (by kernel_rfl) (by kernel_rfl) (fun _ _ _ h => h) rfl (fun w => ?_) ?_
      rotate_left
      · go_simp
        try with_reducible rfl
      simp only [Act.put, List.setIfInBounds_toArray, List.set_cons_succ, List.set_cons_zero]
      refine wpAnyN_pureG 26 8 (v := ?_) rfl rfl (by kernel_rfl) (by kernel_rfl) (by kernel_rfl) (fun _ _ _ h => h) rfl (fun w => ?_) ?_
      rotate_left
      · go_simp
        try with_reducible rfl
      refine wpAnyN_done (by kernel_rfl) ?_
      simp only [Act.put, List.setIfInBounds_toArray, List.set_cons_succ, List.set_cons_zero]
      rw [HR.out] at F1
      go_wp2
      go_ret
      exact ⟨by first | rfl | (rw [hzn]; rfl), F1⟩
set_option maxRecDepth 100000 in
set_option maxHeartbeats 8000000 in
theorem betrays_any (w : World) (ao : Option Addr) (cp : Nat) (l : List Hs) (m : Int) (leaf : Hs) (bo : Option Addr) (cq : Nat) (p : List Hs) (hm0 : -9223372036854775808 ≤ m) (hm1 : m ≤ 9223372036854775807) (hL : Laid w) (hA : Hts w ao l) (hc : l.length ≤ cp) (hm : cp ≤ maxLen) (hbig : l.length ≤ 100000) (hB : Hts w bo p) (hcq : p.length ≤ cq) (hmq : cq ≤ maxLen) :
    Calls Tryd.prog 27 #[.slice ao l.length cp, .int .i64 m, hval leaf, .slice bo p.length cq] w fun e w' => e = .returned (.bool (foolsQ l m leaf p)) ∧ Below w.heap.size w w' := by
  obtain ⟨r, hr⟩ : ∃ r, r = w.heap.size := ⟨_, rfl⟩
  obtain ⟨w1, hw1⟩ : ∃ w1, w1 = w.alloc (.cells (leaf.1.map b8).toArray 23) := ⟨_, rfl⟩
  have F1 : Below r w w1 := by rw [hw1, hr]; exact below_alloc1 _ _
  have hL1 : Blk w1 r 23 (leaf.1.map b8).toArray := by rw [hw1, hr]; exact Blk.new w _ _
  have HR := Lib.hid (And.intro hw1 hr)
  have hr0 : w.heap.size ≤ r := by omega
  have HR0 := Lib.hid hr0
  clear hw1 hr hr0
  have hll := leaf.2
  have hm9 : cp ≤ 9223372036854775807 := hm
  have hmq0 : cq ≤ 9223372036854775807 := hmq
  obtain ⟨Z, hZ⟩ : ∃ Z, Z = foolsQ l m leaf p := ⟨_, rfl⟩
  rw [← hZ]
  have HZ := Lib.hid hZ
  clear hZ
  have c1 : ∀ W, Below r w W → Calls Tryd.prog 21 #[.slice ao l.length cp] W fun e w' => e = .returned (hval (rootH l)) ∧ Below W.heap.size W w' := fun W hW => refroot_any W ao cp l (hL.below hW HR0.out) (hA.below hW HR0.out) hc hm
  have c2 : ∀ W, Below r w W → Calls Tryd.prog 24 #[.int .i64 m, .int .i64 l.length, hval leaf, .slice bo p.length cq, hval (rootH l)] W fun e w' => e = .returned (.bool (proofP m l.length leaf p (rootH l))) ∧ Below W.heap.size W w' := fun W hW => refproof_any W m l.length hm0 hm1 (by omega) (by omega) leaf bo cq p (hB.below hW HR0.out) hcq hmq (rootH l)
  obtain ⟨rt, hrt⟩ : ∃ rt, rt = rootH l := ⟨_, rfl⟩
  obtain ⟨c, hcv⟩ : ∃ c, c = proofP m l.length leaf p (rootH l) := ⟨_, rfl⟩
  rw [← hcv] at c2
  simp only [← hrt] at c1 c2
  have HC := Lib.hid hcv
  replace c1 := Lib.hid c1
  replace c2 := Lib.hid c2
  clear hcv hrt
  by_cases h0 : m < 1
  · have hd : decide (m ≥ 1) = false := by rw [decide_eq_false_iff_not]; omega
    have hzn : Z = false := by
      rw [HZ.out]; unfold foolsQ
      cases hq : proofP m l.length leaf p (rootH l) with
      | false => rfl
      | true => have := proofP_in hq; omega
    go_enter Tryd.func27, Tryd.ntmps27
    go_upto_region 1 with (fail)
    change Code.wp _ _ _ _ (w.alloc (.cells (leaf.1.map b8).toArray 23))
    rw [← HR.out.1, ← HR.out.2]
    replace HR := Lib.hid HR.out.2
    refine wp_region_N (fun w' => True) [] (by kernel_rfl) ?_
    obtain ⟨wd, hwd⟩ : ∃ wd, wd = w1.drew := ⟨_, rfl⟩
    replace hL1 : Blk wd r 23 (leaf.1.map b8).toArray := by rw [hwd]; exact hL1
    replace F1 : Below r w wd := by rw [hwd]; exact F1.drew
    rw [← hwd]
    clear hwd
    clear w1
    refine wpAnyN_pureG 0 9 (v := ?_) rfl rfl (by kernel_rfl) (by kernel_rfl) (by kernel_rfl) (fun _ _ _ h => h) rfl (fun w => ?_) ?_
    rotate_left
    · go_simp
      try with_reducible rfl
    simp only [Act.put, List.setIfInBounds_toArray, List.set_cons_succ, List.set_cons_zero]
    refine wpAnyN_pureG 1 10 (v := ?_) rfl rfl (by kernel_rfl) (by kernel_rfl) (by kernel_rfl) (fun _ _ _ h => h) rfl (fun w => ?_) ?_
    rotate_left
    · go_simp
      try with_reducible rfl
    simp only [Act.put, List.setIfInBounds_toArray, List.set_cons_succ, List.set_cons_zero]
    refine wpAnyN_pureG 2 11 (v := ?_) rfl rfl (by kernel_rfl) (by kernel_rfl) (by kernel_rfl) (fun _ _ _ h => h) rfl (fun w => ?_) ?_
    rotate_left
    · go_simp
      try with_reducible rfl
    simp only [Act.put, List.setIfInBounds_toArray, List.set_cons_succ, List.set_cons_zero]
    refine wpAnyN_skipD 3 12 rfl rfl (by kernel_rfl) (by kernel_rfl) (by kernel_rfl) (fun _ _ _ h => h) (by (go_simp; try (unfold undef; simp))) ?_
    refine wpAnyN_skipD 4 13 rfl rfl (by kernel_rfl) (by kernel_rfl) (by kernel_rfl) (fun _ _ _ h => h) (by (go_simp; try (unfold undef; simp))) ?_
    refine wpAnyN_skipD 5 14 rfl rfl (by kernel_rfl) (by kernel_rfl) (by kernel_rfl) (fun _ _ _ h => h) (by (go_simp; try (unfold undef; simp))) ?_
    refine wpAnyN_skipD 6 15 rfl rfl (by kernel_rfl) (by kernel_rfl) (by kernel_rfl) (fun _ _ _ h => h) (by (go_simp; try (unfold undef; simp))) ?_
    simp only [Act.put, List.setIfInBounds_toArray, List.set_cons_succ, List.set_cons_zero]
    refine wpAnyN_pureG 7 16 (v := ?_) rfl rfl (by kernel_rfl) (by kernel_rfl) (by kernel_rfl) (fun _ _ _ h => h) rfl (fun w => ?_) ?_
    rotate_left
    · go_simp
      try with_reducible rfl
    simp only [Act.put, List.setIfInBounds_toArray, List.set_cons_succ, List.set_cons_zero]
    refine wpAnyN_pureG 8 17 (v := ?_) rfl rfl (by kernel_rfl) (by kernel_rfl) (by kernel_rfl) (fun _ _ _ h => h) rfl (fun w => ?_) ?_
    rotate_left
    · go_simp
      try with_reducible rfl
    simp only [Act.put, List.setIfInBounds_toArray, List.set_cons_succ, List.set_cons_zero]
    refine wpAnyN_skipD 9 18 rfl rfl (by kernel_rfl) (by kernel_rfl) (by kernel_rfl) (fun _ _ _ h => h) (by (go_simp; try (unfold undef; simp))) ?_
    refine wpAnyN_skipD 10 19 rfl rfl (by kernel_rfl) (by kernel_rfl) (by kernel_rfl) (fun _ _ _ h => h) (by (go_simp; try (unfold undef; simp))) ?_
    refine wpAnyN_skipD 11 20 rfl rfl (by kernel_rfl) (by kernel_rfl) (by kernel_rfl) (fun _ _ _ h => h) (by (go_simp; try (unfold undef; simp))) ?_
    refine wpAnyN_skipD 12 21 rfl rfl (by kernel_rfl) (by kernel_rfl) (by kernel_rfl) (fun _ _ _ h => h) (by (go_simp; try (unfold undef; simp))) ?_
    refine wpAnyN_skipD 13 22 rfl rfl (by kernel_rfl) (by kernel_rfl) (by kernel_rfl) (fun _ _ _ h => h) (by (go_simp; try (unfold undef; simp))) ?_
    refine wpAnyN_skipD 14 23 rfl rfl (by kernel_rfl) (by kernel_rfl) (by kernel_rfl) (fun _ _ _ h => h) (by (go_simp; try (unfold undef; simp))) ?_
    refine wpAnyN_skipD 15 24 rfl rfl (by kernel_rfl) (by kernel_rfl) (by kernel_rfl) (fun _ _ _ h => h) (by (go_simp; try (unfold undef; simp))) ?_
    refine wpAnyN_skipD 16 25 rfl rfl (by kernel_rfl) (by kernel_rfl) (by kernel_rfl) (fun _ _ _ h => h) (by (go_simp; try (unfold undef; simp))) ?_
    simp only [Act.put, List.setIfInBounds_toArray, List.set_cons_succ, List.set_cons_zero]
    refine wpAnyN_pureG 17 26 (v := ?_) rfl rfl (by kernel_rfl) (by kernel_rfl) (by kernel_rfl) (fun _ _ _ h => h) rfl (fun w => ?_) ?_
    rotate_left
    · go_simp
      try with_reducible rfl
    simp only [Act.put, List.setIfInBounds_toArray, List.set_cons_succ, List.set_cons_zero]
    refine wpAnyN_pureG 18 27 (v := ?_) rfl rfl (by kernel_rfl) (by kernel_rfl) (by kernel_rfl) (fun _ _ _ h => h) rfl (fun w => ?_) ?_
    rotate_left
    · go_simp
      try with_reducible rfl
    simp only [Act.put, List.setIfInBounds_toArray, List.set_cons_succ, List.set_cons_zero]
    refine wpAnyN_skipD 19 28 rfl rfl (by kernel_rfl) (by kernel_rfl) (by kernel_rfl) (fun _ _ _ h => h) (by (go_simp; try (unfold undef; simp))) ?_
    refine wpAnyN_skipD 20 29 rfl rfl (by kernel_rfl) (by kernel_rfl) (by kernel_rfl) (fun _ _ _ h => h) (by (go_simp; try (unfold undef; simp))) ?_
    refine wpAnyN_skipD 21 30 rfl rfl (by kernel_rfl) (by kernel_rfl) (by kernel_rfl) (fun _ _ _ h => h) (by (go_simp; try (unfold undef; simp))) ?_
    refine wpAnyN_skipD 22 31 rfl rfl (by kernel_rfl) (by kernel_rfl) (by kernel_rfl) (fun _ _ _ h => h) (by (go_simp; try (unfold undef; simp))) ?_
    refine wpAnyN_skipD 23 32 rfl rfl (by kernel_rfl) (by kernel_rfl) (by kernel_rfl) (fun _ _ _ h => h) (by (go_simp; try (unfold undef; simp))) ?_
    refine wpAnyN_skipD 24 33 rfl rfl (by kernel_rfl) (by kernel_rfl) (by kernel_rfl) (fun _ _ _ h => h) (by (go_simp; try (unfold undef; simp))) ?_
    simp only [Act.put, List.setIfInBounds_toArray, List.set_cons_succ, List.set_cons_zero]
    refine wpAnyN_pureG 25 34 (v := ?_) rfl rfl (by kernel_rfl) (by kernel_rfl) (by kernel_rfl) (fun _ _ _ h => h) rfl (fun w => ?_) ?_
    rotate_left
    · go_simp
      try with_reducible rfl
    simp only [Act.put, List.setIfInBounds_toArray, List.set_cons_succ, List.set_cons_zero]
    refine wpAnyN_pureG 26 8 (v := ?_) rfl rfl (by kernel_rfl) (by kernel_rfl) (by kernel_rfl) (fun _ _ _ h => h) rfl (fun w => ?_) ?_
    rotate_left
    · go_simp
      try with_reducible rfl
    refine wpAnyN_done (by kernel_rfl) ?_
    simp only [Act.put, List.setIfInBounds_toArray, List.set_cons_succ, List.set_cons_zero]
    rw [HR.out] at F1
    go_wp2
    go_ret
    exact ⟨by first | rfl | (rw [hzn]; rfl), F1⟩
  · have hd : decide (m ≥ 1) = true := by rw [decide_eq_true_eq]; omega
    by_cases h1 : m ≤ l.length
    · have hd1 : decide (m ≤ (l.length : Int)) = true := by rw [decide_eq_true_eq]; exact h1
      cases c with
      | false =>
        have hzn : Z = false := by rw [HZ.out]; unfold foolsQ; rw [← HC.out]; rfl
        go_enter Tryd.func27, Tryd.ntmps27
        go_upto_region 1 with (fail)
        change Code.wp _ _ _ _ (w.alloc (.cells (leaf.1.map b8).toArray 23))
        rw [← HR.out.1, ← HR.out.2]
        replace HR := Lib.hid HR.out.2
        refine wp_region_N (fun w' => Blk w' r 23 (leaf.1.map b8).toArray) [] (by kernel_rfl) ?_
        obtain ⟨wd, hwd⟩ : ∃ wd, wd = w1.drew := ⟨_, rfl⟩
        replace hL1 : Blk wd r 23 (leaf.1.map b8).toArray := by rw [hwd]; exact hL1
        replace F1 : Below r w wd := by rw [hwd]; exact F1.drew
        rw [← hwd]
        clear hwd
        clear w1
        refine wpAnyN_pureG 0 9 (v := ?_) rfl rfl (by kernel_rfl) (by kernel_rfl) (by kernel_rfl) (fun _ _ _ h => h) rfl (fun w => ?_) ?_
        rotate_left
        · go_simp
          try with_reducible rfl
        simp only [Act.put, List.setIfInBounds_toArray, List.set_cons_succ, List.set_cons_zero]
        refine wpAnyN_pureG 1 10 (v := ?_) rfl rfl (by kernel_rfl) (by kernel_rfl) (by kernel_rfl) (fun _ _ _ h => h) rfl (fun w => ?_) ?_
        rotate_left
        · go_simp
          try with_reducible rfl
        simp only [Act.put, List.setIfInBounds_toArray, List.set_cons_succ, List.set_cons_zero]
        refine wpAnyN_pureG 2 11 (v := ?_) rfl rfl (by kernel_rfl) (by kernel_rfl) (by kernel_rfl) (fun _ _ _ h => h) rfl (fun w => ?_) ?_
        rotate_left
        · go_simp
          try with_reducible rfl
        simp only [Act.put, List.setIfInBounds_toArray, List.set_cons_succ, List.set_cons_zero]
        refine wpAnyN_pure 3 12 (v := ?_) rfl rfl (by kernel_rfl) (by kernel_rfl) (by kernel_rfl) (fun _ _ _ h => h) (by go_simp) (fun w => ?_) ?_
        rotate_left
        · go_simp
          try with_reducible rfl
        refine wpAnyN_pure 4 13 (v := ?_) rfl rfl (by kernel_rfl) (by kernel_rfl) (by kernel_rfl) (fun _ _ _ h => h) (by go_simp) (fun w => ?_) ?_
        rotate_left
        · go_simp
          try with_reducible rfl
        simp only [Act.put, List.setIfInBounds_toArray, List.set_cons_succ, List.set_cons_zero]
        refine wpAnyN_pure 5 14 (v := ?_) rfl rfl (by kernel_rfl) (by kernel_rfl) (by kernel_rfl) (fun _ _ _ h => h) (by go_simp) (fun w => ?_) ?_
        rotate_left
        · go_simp
          try with_reducible rfl
        simp only [Act.put, List.setIfInBounds_toArray, List.set_cons_succ, List.set_cons_zero]
        refine wpAnyN_pure 6 15 (v := ?_) rfl rfl (by kernel_rfl) (by kernel_rfl) (by kernel_rfl) (fun _ _ _ h => h) (by go_simp) (fun w => ?_) ?_
        rotate_left
        · go_simp
          try with_reducible rfl
        simp only [Act.put, List.setIfInBounds_toArray, List.set_cons_succ, List.set_cons_zero]
        refine wpAnyN_pureG 7 16 (v := ?_) rfl rfl (by kernel_rfl) (by kernel_rfl) (by kernel_rfl) (fun _ _ _ h => h) rfl (fun w => ?_) ?_
        rotate_left
        · go_simp
          try with_reducible rfl
        simp only [Act.put, List.setIfInBounds_toArray, List.set_cons_succ, List.set_cons_zero]
        refine wpAnyN_pureG 8 17 (v := ?_) rfl rfl (by kernel_rfl) (by kernel_rfl) (by kernel_rfl) (fun _ _ _ h => h) rfl (fun w => ?_) ?_
        rotate_left
        · go_simp
          try with_reducible rfl
        simp only [Act.put, List.setIfInBounds_toArray, List.set_cons_succ, List.set_cons_zero]
        refine wpAnyN_pure 9 18 (v := ?_) rfl rfl (by kernel_rfl) (by kernel_rfl) (by kernel_rfl) (fun _ _ _ h => h) (by go_simp) (fun w => ?_) ?_
        rotate_left
        · go_simp
          try with_reducible rfl
        refine wpAnyN_pure 10 19 (v := ?_) rfl rfl (by kernel_rfl) (by kernel_rfl) (by kernel_rfl) (fun _ _ _ h => h) (by go_simp) (fun w => ?_) ?_
        rotate_left
        · go_simp
          try with_reducible rfl
        refine wpAnyN_pure 13 22 (v := ?_) rfl rfl (by kernel_rfl) (by kernel_rfl) (by kernel_rfl) (fun _ _ _ h => h) (by go_simp) (fun w => ?_) ?_
        rotate_left
        · go_simp
          try with_reducible rfl
        refine wpAnyN_pure 14 23 (v := ?_) rfl rfl (by kernel_rfl) (by kernel_rfl) (by kernel_rfl) (fun _ _ _ h => h) (by go_simp) (fun w => ?_) ?_
        rotate_left
        · go_simp
          try with_reducible rfl
        simp only [Act.put, List.setIfInBounds_toArray, List.set_cons_succ, List.set_cons_zero]
        refine wpAnyN_pure 11 20 (v := ?_) rfl rfl (by kernel_rfl) (by kernel_rfl) (by kernel_rfl) (fun _ _ _ h => h) (by go_simp) (fun w => ?_) ?_
        rotate_left
        · go_simp
          try with_reducible rfl
        refine wpAnyN_take 12 21 (v := hval leaf) rfl rfl (by kernel_rfl) (by kernel_rfl) (by kernel_rfl) (by kernel_rfl) (fun _ _ _ h => h) hL1 (by go_simp) (fun w hS => ?_) ?_
        · exact run_load_mid_blk 23 (.tmp 6) rfl hS 0 (by go_simp) (leaf.1.map b8) (fun j v h => by rw [Nat.zero_add, List.getElem?_toArray]; exact h) (.array 32 5) (by kernel_rfl) rfl 32 (by kernel_rfl) (by simp [hll])
        simp only [Act.put, List.setIfInBounds_toArray, List.set_cons_succ, List.set_cons_zero]
        refine wpAnyN_callW 15 21 (some 24) [.tmp 23] [.slice ao l.length cp] (by kernel_rfl) rfl rfl rfl (by go_simp) (by go_simp) Tryd.call21 ?_
        refine (c1.out wd F1).mono ?_
        rintro e w6 ⟨rfl, G6⟩
        refine ⟨_, rfl, fun _ h => h.below G6 h.lt, ?_⟩
        have hL6 := hL1.below G6 hL1.lt
        have hsz : r + 1 ≤ wd.heap.size := hL1.lt
        have F6 := F1.trans (G6.mono (by omega))
        clear hL1 F1 G6 hsz c1
        clear wd
        simp only [Act.put, List.setIfInBounds_toArray, List.set_cons_succ, List.set_cons_zero]
        refine wpAnyN_callW 16 24 (some 25) [.tmp 18, .tmp 20, .tmp 21, .tmp 22, .tmp 24] [.int .i64 m, .int .i64 l.length, hval leaf, .slice bo p.length cq, hval rt] (by kernel_rfl) rfl rfl rfl (by go_simp) (by go_simp) Tryd.call24 ?_
        refine (c2.out w6 F6).mono ?_
        rintro e w7 ⟨rfl, G7⟩
        refine ⟨_, rfl, fun _ h => h.below G7 h.lt, ?_⟩
        have hL7 := hL6.below G7 hL6.lt
        have hsz : r + 1 ≤ w6.heap.size := hL6.lt
        have F7 := F6.trans (G7.mono (by omega))
        clear hL6 F6 G7 hsz c2
        clear w6
        simp only [Act.put, List.setIfInBounds_toArray, List.set_cons_succ, List.set_cons_zero]
        refine wpAnyN_pureG 17 26 (v := ?_) rfl rfl (by kernel_rfl) (by kernel_rfl) (by kernel_rfl) (fun _ _ _ h => h) rfl (fun w => ?_) ?_
        rotate_left
        · go_simp
          try with_reducible rfl
        simp only [Act.put, List.setIfInBounds_toArray, List.set_cons_succ, List.set_cons_zero]
        refine wpAnyN_pureG 18 27 (v := ?_) rfl rfl (by kernel_rfl) (by kernel_rfl) (by kernel_rfl) (fun _ _ _ h => h) rfl (fun w => ?_) ?_
        rotate_left
        · go_simp
          try with_reducible rfl
        simp only [Act.put, List.setIfInBounds_toArray, List.set_cons_succ, List.set_cons_zero]
        refine wpAnyN_skipD 19 28 rfl rfl (by kernel_rfl) (by kernel_rfl) (by kernel_rfl) (fun _ _ _ h => h) (by (go_simp; try (unfold undef; simp))) ?_
        refine wpAnyN_skipD 20 29 rfl rfl (by kernel_rfl) (by kernel_rfl) (by kernel_rfl) (fun _ _ _ h => h) (by (go_simp; try (unfold undef; simp))) ?_
        refine wpAnyN_skipD 21 30 rfl rfl (by kernel_rfl) (by kernel_rfl) (by kernel_rfl) (fun _ _ _ h => h) (by (go_simp; try (unfold undef; simp))) ?_
        refine wpAnyN_skipD 22 31 rfl rfl (by kernel_rfl) (by kernel_rfl) (by kernel_rfl) (fun _ _ _ h => h) (by (go_simp; try (unfold undef; simp))) ?_
        refine wpAnyN_skipD 23 32 rfl rfl (by kernel_rfl) (by kernel_rfl) (by kernel_rfl) (fun _ _ _ h => h) (by (go_simp; try (unfold undef; simp))) ?_
        refine wpAnyN_skipD 24 33 rfl rfl (by kernel_rfl) (by kernel_rfl) (by kernel_rfl) (fun _ _ _ h => h) (by (go_simp; try (unfold undef; simp))) ?_
        simp only [Act.put, List.setIfInBounds_toArray, List.set_cons_succ, List.set_cons_zero]
        refine wpAnyN_pureG 25 34 (v := ?_) rfl rfl (by kernel_rfl) (by kernel_rfl) (by kernel_rfl) (fun _ _ _ h => h) rfl (fun w => ?_) ?_
        rotate_left
        · go_simp
          try with_reducible rfl
        simp only [Act.put, List.setIfInBounds_toArray, List.set_cons_succ, List.set_cons_zero]
        refine wpAnyN_pureG 26 8 (v := ?_) rfl rfl (by kernel_rfl) (by kernel_rfl) (by kernel_rfl) (fun _ _ _ h => h) rfl (fun w => ?_) ?_
        rotate_left
        · go_simp
          try with_reducible rfl
        refine wpAnyN_done (by kernel_rfl) ?_
        simp only [Act.put, List.setIfInBounds_toArray, List.set_cons_succ, List.set_cons_zero]
        rw [HR.out] at F7
        go_wp2
        go_ret
        exact ⟨by first | rfl | (rw [hzn]; rfl), F7⟩
      | true =>
        obtain ⟨M, rfl⟩ : ∃ M : Nat, m = M := ⟨m.toNat, by omega⟩
        have hMl : M ≤ l.length := by omega
        obtain ⟨i0, hi, hz0, hz1, hz2⟩ := info_parts infoHs
        obtain ⟨a6, hs6, -, ht6⟩ := run_upto_hts (P := Tryd.prog) (t := 24) (by kernel_rfl) hi ao l.length cp M (by omega)
        have hl1 : (l.take M).length = M := by rw [List.length_take]; omega
        have c3 : ∀ W, Below r w W → Calls Tryd.prog 21 #[.slice a6 M cp] W fun e w' => e = .returned (hval (rootH (l.take M))) ∧ Below W.heap.size W w' := fun W hW => by
          have := refroot_any W a6 cp (l.take M) (hL.below hW HR0.out) (ht6 W l (hA.below hW HR0.out)) (by omega) hm
          rwa [hl1] at this
        obtain ⟨x, hx⟩ : ∃ x, x = rootH (l.take M) := ⟨_, rfl⟩
        rw [← hx] at c3
        have hxl := x.2
        obtain ⟨q, hq⟩ : ∃ q, q = (leaf.1 == x.1) := ⟨_, rfl⟩
        have hzn : Z = !q := by rw [HZ.out, hq]; unfold foolsQ; rw [← HC.out, Int.toNat_natCast, ← hx, Bool.true_and]
        have HZN := Lib.hid hzn
        have HQ := Lib.hid hq
        replace c3 := Lib.hid c3
        clear hzn hq hx hA hB h0 ht6 hl1
        go_enter Tryd.func27, Tryd.ntmps27
        go_upto_region 1 with (fail)
        change Code.wp _ _ _ _ (w.alloc (.cells (leaf.1.map b8).toArray 23))
        rw [← HR.out.1, ← HR.out.2]
        replace HR := Lib.hid HR.out.2
        refine wp_region_N (fun w' => Blk w' r 23 (leaf.1.map b8).toArray) [] (by kernel_rfl) ?_
        obtain ⟨wd, hwd⟩ : ∃ wd, wd = w1.drew := ⟨_, rfl⟩
        replace hL1 : Blk wd r 23 (leaf.1.map b8).toArray := by rw [hwd]; exact hL1
        replace F1 : Below r w wd := by rw [hwd]; exact F1.drew
        rw [← hwd]
        clear hwd
        clear w1
        refine wpAnyN_pureG 0 9 (v := ?_) rfl rfl (by kernel_rfl) (by kernel_rfl) (by kernel_rfl) (fun _ _ _ h => h) rfl (fun w => ?_) ?_
        rotate_left
        · go_simp
          try with_reducible rfl
        simp only [Act.put, List.setIfInBounds_toArray, List.set_cons_succ, List.set_cons_zero]
        refine wpAnyN_pureG 1 10 (v := ?_) rfl rfl (by kernel_rfl) (by kernel_rfl) (by kernel_rfl) (fun _ _ _ h => h) rfl (fun w => ?_) ?_
        rotate_left
        · go_simp
          try with_reducible rfl
        simp only [Act.put, List.setIfInBounds_toArray, List.set_cons_succ, List.set_cons_zero]
        refine wpAnyN_pureG 2 11 (v := ?_) rfl rfl (by kernel_rfl) (by kernel_rfl) (by kernel_rfl) (fun _ _ _ h => h) rfl (fun w => ?_) ?_
        rotate_left
        · go_simp
          try with_reducible rfl
        simp only [Act.put, List.setIfInBounds_toArray, List.set_cons_succ, List.set_cons_zero]
        refine wpAnyN_pure 3 12 (v := ?_) rfl rfl (by kernel_rfl) (by kernel_rfl) (by kernel_rfl) (fun _ _ _ h => h) (by go_simp) (fun w => ?_) ?_
        rotate_left
        · go_simp
          try with_reducible rfl
        refine wpAnyN_pure 4 13 (v := ?_) rfl rfl (by kernel_rfl) (by kernel_rfl) (by kernel_rfl) (fun _ _ _ h => h) (by go_simp) (fun w => ?_) ?_
        rotate_left
        · go_simp
          try with_reducible rfl
        simp only [Act.put, List.setIfInBounds_toArray, List.set_cons_succ, List.set_cons_zero]
        refine wpAnyN_pure 5 14 (v := ?_) rfl rfl (by kernel_rfl) (by kernel_rfl) (by kernel_rfl) (fun _ _ _ h => h) (by go_simp) (fun w => ?_) ?_
        rotate_left
        · go_simp
          try with_reducible rfl
        simp only [Act.put, List.setIfInBounds_toArray, List.set_cons_succ, List.set_cons_zero]
        refine wpAnyN_pure 6 15 (v := ?_) rfl rfl (by kernel_rfl) (by kernel_rfl) (by kernel_rfl) (fun _ _ _ h => h) (by go_simp) (fun w => ?_) ?_
        rotate_left
        · go_simp
          try with_reducible rfl
        simp only [Act.put, List.setIfInBounds_toArray, List.set_cons_succ, List.set_cons_zero]
        refine wpAnyN_pureG 7 16 (v := ?_) rfl rfl (by kernel_rfl) (by kernel_rfl) (by kernel_rfl) (fun _ _ _ h => h) rfl (fun w => ?_) ?_
        rotate_left
        · go_simp
          try with_reducible rfl
        simp only [Act.put, List.setIfInBounds_toArray, List.set_cons_succ, List.set_cons_zero]
        refine wpAnyN_pureG 8 17 (v := ?_) rfl rfl (by kernel_rfl) (by kernel_rfl) (by kernel_rfl) (fun _ _ _ h => h) rfl (fun w => ?_) ?_
        rotate_left
        · go_simp
          try with_reducible rfl
        simp only [Act.put, List.setIfInBounds_toArray, List.set_cons_succ, List.set_cons_zero]
        refine wpAnyN_pure 9 18 (v := ?_) rfl rfl (by kernel_rfl) (by kernel_rfl) (by kernel_rfl) (fun _ _ _ h => h) (by go_simp) (fun w => ?_) ?_
        rotate_left
        · go_simp
          try with_reducible rfl
        refine wpAnyN_pure 10 19 (v := ?_) rfl rfl (by kernel_rfl) (by kernel_rfl) (by kernel_rfl) (fun _ _ _ h => h) (by go_simp) (fun w => ?_) ?_
        rotate_left
        · go_simp
          try with_reducible rfl
        refine wpAnyN_pure 13 22 (v := ?_) rfl rfl (by kernel_rfl) (by kernel_rfl) (by kernel_rfl) (fun _ _ _ h => h) (by go_simp) (fun w => ?_) ?_
        rotate_left
        · go_simp
          try with_reducible rfl
        refine wpAnyN_pure 14 23 (v := ?_) rfl rfl (by kernel_rfl) (by kernel_rfl) (by kernel_rfl) (fun _ _ _ h => h) (by go_simp) (fun w => ?_) ?_
        rotate_left
        · go_simp
          try with_reducible rfl
        simp only [Act.put, List.setIfInBounds_toArray, List.set_cons_succ, List.set_cons_zero]
        refine wpAnyN_pure 11 20 (v := ?_) rfl rfl (by kernel_rfl) (by kernel_rfl) (by kernel_rfl) (fun _ _ _ h => h) (by go_simp) (fun w => ?_) ?_
        rotate_left
        · go_simp
          try with_reducible rfl
        refine wpAnyN_take 12 21 (v := hval leaf) rfl rfl (by kernel_rfl) (by kernel_rfl) (by kernel_rfl) (by kernel_rfl) (fun _ _ _ h => h) hL1 (by go_simp) (fun w hS => ?_) ?_
        · exact run_load_mid_blk 23 (.tmp 6) rfl hS 0 (by go_simp) (leaf.1.map b8) (fun j v h => by rw [Nat.zero_add, List.getElem?_toArray]; exact h) (.array 32 5) (by kernel_rfl) rfl 32 (by kernel_rfl) (by simp [hll])
        simp only [Act.put, List.setIfInBounds_toArray, List.set_cons_succ, List.set_cons_zero]
        refine wpAnyN_callW 15 21 (some 24) [.tmp 23] [.slice ao l.length cp] (by kernel_rfl) rfl rfl rfl (by go_simp) (by go_simp) Tryd.call21 ?_
        refine (c1.out wd F1).mono ?_
        rintro e w6 ⟨rfl, G6⟩
        refine ⟨_, rfl, fun _ h => h.below G6 h.lt, ?_⟩
        have hL6 := hL1.below G6 hL1.lt
        have hsz : r + 1 ≤ wd.heap.size := hL1.lt
        have F6 := F1.trans (G6.mono (by omega))
        clear hL1 F1 G6 hsz c1
        clear wd
        simp only [Act.put, List.setIfInBounds_toArray, List.set_cons_succ, List.set_cons_zero]
        refine wpAnyN_callW 16 24 (some 25) [.tmp 18, .tmp 20, .tmp 21, .tmp 22, .tmp 24] [.int .i64 M, .int .i64 l.length, hval leaf, .slice bo p.length cq, hval rt] (by kernel_rfl) rfl rfl rfl (by go_simp) (by go_simp) Tryd.call24 ?_
        refine (c2.out w6 F6).mono ?_
        rintro e w7 ⟨rfl, G7⟩
        refine ⟨_, rfl, fun _ h => h.below G7 h.lt, ?_⟩
        have hL7 := hL6.below G7 hL6.lt
        have hsz : r + 1 ≤ w6.heap.size := hL6.lt
        have F7 := F6.trans (G7.mono (by omega))
        clear hL6 F6 G7 hsz c2
        clear w6
        simp only [Act.put, List.setIfInBounds_toArray, List.set_cons_succ, List.set_cons_zero]
        refine wpAnyN_pureG 17 26 (v := ?_) rfl rfl (by kernel_rfl) (by kernel_rfl) (by kernel_rfl) (fun _ _ _ h => h) rfl (fun w => ?_) ?_
        rotate_left
        · go_simp
          try with_reducible rfl
        simp only [Act.put, List.setIfInBounds_toArray, List.set_cons_succ, List.set_cons_zero]
        refine wpAnyN_pureG 18 27 (v := ?_) rfl rfl (by kernel_rfl) (by kernel_rfl) (by kernel_rfl) (fun _ _ _ h => h) rfl (fun w => ?_) ?_
        rotate_left
        · go_simp
          try with_reducible rfl
        simp only [Act.put, List.setIfInBounds_toArray, List.set_cons_succ, List.set_cons_zero]
        refine wpAnyN_pure 20 29 (v := ?_) rfl rfl (by kernel_rfl) (by kernel_rfl) (by kernel_rfl) (fun _ _ _ h => h) (by go_simp) (fun w => ?_) ?_
        rotate_left
        · go_simp
          try with_reducible rfl
        refine wpAnyN_pure 21 30 (v := ?_) rfl rfl (by kernel_rfl) (by kernel_rfl) (by kernel_rfl) (fun _ _ _ h => h) (by go_simp) (fun w => ?_) ?_
        rotate_left
        · go_simp
          try with_reducible rfl
        simp only [Act.put, List.setIfInBounds_toArray, List.set_cons_succ, List.set_cons_zero]
        refine wpAnyN_pure 22 31 (v := ?_) rfl rfl (by kernel_rfl) (by kernel_rfl) (by kernel_rfl) (fun _ _ _ h => h) (by go_simp) (fun w => ?_) ?_
        rotate_left
        · go_simp
          try with_reducible rfl
        refine wpAnyN_take 19 28 (v := hval leaf) rfl rfl (by kernel_rfl) (by kernel_rfl) (by kernel_rfl) (by kernel_rfl) (fun _ _ _ h => h) hL7 (by go_simp) (fun w hS => ?_) ?_
        · exact run_load_mid_blk 23 (.tmp 6) rfl hS 0 (by go_simp) (leaf.1.map b8) (fun j v h => by rw [Nat.zero_add, List.getElem?_toArray]; exact h) (.array 32 5) (by kernel_rfl) rfl 32 (by kernel_rfl) (by simp [hll])
        simp only [Act.put, List.setIfInBounds_toArray, List.set_cons_succ, List.set_cons_zero]
        refine wpAnyN_callW 23 21 (some 32) [.tmp 31] [.slice a6 M cp] (by kernel_rfl) rfl rfl rfl (by go_simp) (by go_simp) Tryd.call21 ?_
        refine (c3.out w7 F7).mono ?_
        rintro e w8 ⟨rfl, G8⟩
        refine ⟨_, rfl, fun _ h => h.below G8 h.lt, ?_⟩
        have hsz : r + 1 ≤ w7.heap.size := hL7.lt
        have F8 := F7.trans (G8.mono (by omega))
        clear hL7 F7 G8 hsz c3
        clear w7
        obtain ⟨w7, rfl⟩ : ∃ w7, w7 = w8 := ⟨_, rfl⟩
        have F7 := F8
        clear F8
        simp only [Act.put, List.setIfInBounds_toArray, List.set_cons_succ, List.set_cons_zero]
        refine wpAnyN_pure 24 33 (v := .bool (!q)) rfl rfl (by kernel_rfl) (by kernel_rfl) (by kernel_rfl) (fun _ _ _ h => h) (by go_simp) (fun w => ?_) ?_
        · rw [HQ.out]; go_simp
        simp only [Act.put, List.setIfInBounds_toArray, List.set_cons_succ, List.set_cons_zero]
        refine wpAnyN_pureG 25 34 (v := ?_) rfl rfl (by kernel_rfl) (by kernel_rfl) (by kernel_rfl) (fun _ _ _ h => h) rfl (fun w => ?_) ?_
        rotate_left
        · go_simp
          try with_reducible rfl
        simp only [Act.put, List.setIfInBounds_toArray, List.set_cons_succ, List.set_cons_zero]
        refine wpAnyN_pureG 26 8 (v := ?_) rfl rfl (by kernel_rfl) (by kernel_rfl) (by kernel_rfl) (fun _ _ _ h => h) rfl (fun w => ?_) ?_
        rotate_left
        · go_simp
          try with_reducible rfl
        refine wpAnyN_done (by kernel_rfl) ?_
        simp only [Act.put, List.setIfInBounds_toArray, List.set_cons_succ, List.set_cons_zero]
        rw [HR.out] at F7
        go_wp2
        go_ret
        exact ⟨by first | rfl | (rw [HZN.out]; rfl), F7⟩
    · have hd1 : decide (m ≤ (l.length : Int)) = false := by rw [decide_eq_false_iff_not]; exact h1
      have hzn : Z = false := by
        rw [HZ.out]; unfold foolsQ
        cases hq : proofP m l.length leaf p (rootH l) with
        | false => rfl
        | true => have := proofP_in hq; omega
      go_enter Tryd.func27, Tryd.ntmps27
      go_upto_region 1 with (fail)
      change Code.wp _ _ _ _ (w.alloc (.cells (leaf.1.map b8).toArray 23))
      rw [← HR.out.1, ← HR.out.2]
      replace HR := Lib.hid HR.out.2
      refine wp_region_N (fun w' => True) [] (by kernel_rfl) ?_
      obtain ⟨wd, hwd⟩ : ∃ wd, wd = w1.drew := ⟨_, rfl⟩
      replace hL1 : Blk wd r 23 (leaf.1.map b8).toArray := by rw [hwd]; exact hL1
      replace F1 : Below r w wd := by rw [hwd]; exact F1.drew
      rw [← hwd]
      clear hwd
      clear w1
      refine wpAnyN_pureG 0 9 (v := ?_) rfl rfl (by kernel_rfl) (by kernel_rfl) (by kernel_rfl) (fun _ _ _ h => h) rfl (fun w => ?_) ?_
      rotate_left
      · go_simp
        try with_reducible rfl
      simp only [Act.put, List.setIfInBounds_toArray, List.set_cons_succ, List.set_cons_zero]
      refine wpAnyN_pureG 1 10 (v := ?_) rfl rfl (by kernel_rfl) (by kernel_rfl) (by kernel_rfl) (fun _ _ _ h => h) rfl (fun w => ?_) ?_
      rotate_left
      · go_simp
        try with_reducible rfl
      simp only [Act.put, List.setIfInBounds_toArray, List.set_cons_succ, List.set_cons_zero]
      refine wpAnyN_pureG 2 11 (v := ?_) rfl rfl (by kernel_rfl) (by kernel_rfl) (by kernel_rfl) (fun _ _ _ h => h) rfl (fun w => ?_) ?_
      rotate_left
      · go_simp
        try with_reducible rfl
      simp only [Act.put, List.setIfInBounds_toArray, List.set_cons_succ, List.set_cons_zero]
      refine wpAnyN_pure 3 12 (v := ?_) rfl rfl (by kernel_rfl) (by kernel_rfl) (by kernel_rfl) (fun _ _ _ h => h) (by go_simp) (fun w => ?_) ?_
      rotate_left
      · go_simp
        try with_reducible rfl
      refine wpAnyN_pure 4 13 (v := ?_) rfl rfl (by kernel_rfl) (by kernel_rfl) (by kernel_rfl) (fun _ _ _ h => h) (by go_simp) (fun w => ?_) ?_
      rotate_left
      · go_simp
        try with_reducible rfl
      simp only [Act.put, List.setIfInBounds_toArray, List.set_cons_succ, List.set_cons_zero]
      refine wpAnyN_pure 5 14 (v := ?_) rfl rfl (by kernel_rfl) (by kernel_rfl) (by kernel_rfl) (fun _ _ _ h => h) (by go_simp) (fun w => ?_) ?_
      rotate_left
      · go_simp
        try with_reducible rfl
      simp only [Act.put, List.setIfInBounds_toArray, List.set_cons_succ, List.set_cons_zero]
      refine wpAnyN_pure 6 15 (v := ?_) rfl rfl (by kernel_rfl) (by kernel_rfl) (by kernel_rfl) (fun _ _ _ h => h) (by go_simp) (fun w => ?_) ?_
      rotate_left
      · go_simp
        try with_reducible rfl
      simp only [Act.put, List.setIfInBounds_toArray, List.set_cons_succ, List.set_cons_zero]
      refine wpAnyN_pureG 7 16 (v := ?_) rfl rfl (by kernel_rfl) (by kernel_rfl) (by kernel_rfl) (fun _ _ _ h => h) rfl (fun w => ?_) ?_
      rotate_left
      · go_simp
        try with_reducible rfl
      simp only [Act.put, List.setIfInBounds_toArray, List.set_cons_succ, List.set_cons_zero]
      refine wpAnyN_pureG 8 17 (v := ?_) rfl rfl (by kernel_rfl) (by kernel_rfl) (by kernel_rfl) (fun _ _ _ h => h) rfl (fun w => ?_) ?_
      rotate_left
      · go_simp
        try with_reducible rfl
      simp only [Act.put, List.setIfInBounds_toArray, List.set_cons_succ, List.set_cons_zero]
      refine wpAnyN_skipD 9 18 rfl rfl (by kernel_rfl) (by kernel_rfl) (by kernel_rfl) (fun _ _ _ h => h) (by (go_simp; try (unfold undef; simp))) ?_
      refine wpAnyN_skipD 10 19 rfl rfl (by kernel_rfl) (by kernel_rfl) (by kernel_rfl) (fun _ _ _ h => h) (by (go_simp; try (unfold undef; simp))) ?_
      refine wpAnyN_skipD 11 20 rfl rfl (by kernel_rfl) (by kernel_rfl) (by kernel_rfl) (fun _ _ _ h => h) (by (go_simp; try (unfold undef; simp))) ?_
      refine wpAnyN_skipD 12 21 rfl rfl (by kernel_rfl) (by kernel_rfl) (by kernel_rfl) (fun _ _ _ h => h) (by (go_simp; try (unfold undef; simp))) ?_
      refine wpAnyN_skipD 13 22 rfl rfl (by kernel_rfl) (by kernel_rfl) (by kernel_rfl) (fun _ _ _ h => h) (by (go_simp; try (unfold undef; simp))) ?_
      refine wpAnyN_skipD 14 23 rfl rfl (by kernel_rfl) (by kernel_rfl) (by kernel_rfl) (fun _ _ _ h => h) (by (go_simp; try (unfold undef; simp))) ?_
      refine wpAnyN_skipD 15 24 rfl rfl (by kernel_rfl) (by kernel_rfl) (by kernel_rfl) (fun _ _ _ h => h) (by (go_simp; try (unfold undef; simp))) ?_
      refine wpAnyN_skipD 16 25 rfl rfl (by kernel_rfl) (by kernel_rfl) (by kernel_rfl) (fun _ _ _ h => h) (by (go_simp; try (unfold undef; simp))) ?_
      simp only [Act.put, List.setIfInBounds_toArray, List.set_cons_succ, List.set_cons_zero]
      refine wpAnyN_pureG 17 26 (v := ?_) rfl rfl (by kernel_rfl) (by kernel_rfl) (by kernel_rfl) (fun _ _ _ h => h) rfl (fun w => ?_) ?_
      rotate_left
      · go_simp
        try with_reducible rfl
      simp only [Act.put, List.setIfInBounds_toArray, List.set_cons_succ, List.set_cons_zero]
      refine wpAnyN_pureG 18 27 (v := ?_) rfl rfl (by kernel_rfl) (by kernel_rfl) (by kernel_rfl) (fun _ _ _ h => h) rfl (fun w => ?_) ?_
      rotate_left
      · go_simp
        try with_reducible rfl
      simp only [Act.put, List.setIfInBounds_toArray, List.set_cons_succ, List.set_cons_zero]
      refine wpAnyN_skipD 19 28 rfl rfl (by kernel_rfl) (by kernel_rfl) (by kernel_rfl) (fun _ _ _ h => h) (by (go_simp; try (unfold undef; simp))) ?_
      refine wpAnyN_skipD 20 29 rfl rfl (by kernel_rfl) (by kernel_rfl) (by kernel_rfl) (fun _ _ _ h => h) (by (go_simp; try (unfold undef; simp))) ?_
      refine wpAnyN_skipD 21 30 rfl rfl (by kernel_rfl) (by kernel_rfl) (by kernel_rfl) (fun _ _ _ h => h) (by (go_simp; try (unfold undef; simp))) ?_
      refine wpAnyN_skipD 22 31 rfl rfl (by kernel_rfl) (by kernel_rfl) (by kernel_rfl) (fun _ _ _ h => h) (by (go_simp; try (unfold undef; simp))) ?_
      refine wpAnyN_skipD 23 32 rfl rfl (by kernel_rfl) (by kernel_rfl) (by kernel_rfl) (fun _ _ _ h => h) (by (go_simp; try (unfold undef; simp))) ?_
      refine wpAnyN_skipD 24 33 rfl rfl (by kernel_rfl) (by kernel_rfl) (by kernel_rfl) (fun _ _ _ h => h) (by (go_simp; try (unfold undef; simp))) ?_
      simp only [Act.put, List.setIfInBounds_toArray, List.set_cons_succ, List.set_cons_zero]
      refine wpAnyN_pureG 25 34 (v := ?_) rfl rfl (by kernel_rfl) (by kernel_rfl) (by kernel_rfl) (fun _ _ _ h => h) rfl (fun w => ?_) ?_
      rotate_left
      · go_simp
        try with_reducible rfl
      simp only [Act.put, List.setIfInBounds_toArray, List.set_cons_succ, List.set_cons_zero]
      refine wpAnyN_pureG 26 8 (v := ?_) rfl rfl (by kernel_rfl) (by kernel_rfl) (by kernel_rfl) (fun _ _ _ h => h) rfl (fun w => ?_) ?_
      rotate_left
      · go_simp
        try with_reducible rfl
      refine wpAnyN_done (by kernel_rfl) ?_
      simp only [Act.put, List.setIfInBounds_toArray, List.set_cons_succ, List.set_cons_zero]
      rw [HR.out] at F1
      go_wp2
      go_ret
      exact ⟨by first | rfl | (rw [hzn]; rfl), F1⟩
/-- the cells of what is said -/
def sdc (s : Value) (M : Int) (x : Hs) : List Value := s :: .int .i64 M :: x.1.map b8
theorem sdc_len (s : Value) (M : Int) (x : Hs) : (sdc s M x).length = 34 := by simp [sdc, x.2]
abbrev sdA (ao : Option Addr) (n cp : Nat) (M : Int) (x : Hs) : Array Value := (sdc (.slice ao n cp) M x).toArray
theorem sd_hash (ao : Option Addr) (n cp : Nat) (M : Int) (x : Hs) (j : Nat) (v : Value) (h : (x.1.map b8)[j]? = some v) : (sdA ao n cp M x)[2 + j]? = some v := by
  rw [List.getElem?_toArray, sdc, Nat.add_comm, List.getElem?_cons_succ, List.getElem?_cons_succ, h]
theorem saidU : ∃ fs, Tryd.prog.underlying 40 = some (.struct fs) := isStruct_spec (by kernel_rfl)
theorem Blk.said {w : World} {b T : Nat} {M : Int} {x : Hs} {ao : Option Addr} {n cp : Nat} (h : Blk w b T (sdA ao n cp M x)) :
    w.cell? ⟨b, 0, none⟩ = some (.slice ao n cp) ∧ w.cell? ⟨b, 1, none⟩ = some (.int .i64 M) := ⟨h.cell 0, h.cell 1⟩
end Go.Proofs.YtadiijieldldhaaDoor
