/-
  Two texts with one hash: clash.Path, clash.Proof; and that what fools is found.
-/
import Derived.Test.YtadiijieldldhaaDoorClBoth
import Derived.Test.YtadiijieldldhaaDoorRefProof
import Derived.Test.YtadiijieldldhaaDoorProof
namespace Go.Proofs.YtadiijieldldhaaDoor
open Go Go.RowKit
attribute [local irreducible] sha
/-- a path that is right, though the hash isn't there -/
def foolsP (l : List Hs) (m : Int) (leaf : Hs) (p : List Hs) : Bool := checkP m l.length leaf p (rootH l) && !(leaf.1 == (l.getD m.toNat nilH).1)
def clashP (l : List Hs) (m : Int) (leaf : Hs) (p : List Hs) : Option Stp := if foolsP l m leaf p = true then Tree.found (clH l m.toNat leaf p).1 else none
/-- a proof that is right, though the old root isn't -/
def foolsQ (l : List Hs) (m : Int) (old : Hs) (p : List Hs) : Bool := proofP m l.length old p (rootH l) && !(old.1 == (rootH (l.take m.toNat)).1)
def clashQ (l : List Hs) (m : Int) (old : Hs) (p : List Hs) : Option Stp := if foolsQ l m old p = true then Tree.found (cl2H l m.toNat true old p).1 else none
theorem checkP_in {m n : Int} {leaf root : Hs} {p : List Hs} (h : checkP m n leaf p root = true) : 0 ≤ m ∧ m < n := by
  unfold checkP at h
  split at h
  · assumption
  · cases h
theorem proofP_in {m n : Int} {old root : Hs} {p : List Hs} (h : proofP m n old p root = true) : 1 ≤ m ∧ m ≤ n := by
  unfold proofP at h
  split at h
  · assumption
  · cases h
theorem clashP_spec {l : List Hs} {m : Int} {leaf : Hs} {p : List Hs} (h : foolsP l m leaf p = true) : ∃ s, clashP l m leaf p = some s ∧ s.1 ≠ s.2 ∧ nodeH s.1.1 s.1.2 = nodeH s.2.1 s.2.2 := by
  unfold clashP
  rw [if_pos h]
  unfold foolsP at h
  rw [Bool.and_eq_true, Bool.not_eq_true', beq_eq_false_iff_ne] at h
  obtain ⟨h1, h2⟩ := h
  obtain ⟨h3, h4⟩ := checkP_in h1
  obtain ⟨M, rfl⟩ : ∃ M : Nat, m = M := ⟨m.toNat, by omega⟩
  rw [checkP_leads leaf p _ (show M < l.length by omega), Bool.and_eq_true, beq_iff_eq] at h1
  rw [Int.toNat_natCast] at h2 ⊢
  refine (Tree.clash_path nodeH nilH zeroH leaf p.reverse l M (by omega) h1.1).2 (Subtype.ext h1.2) fun e => h2 ?_
  rw [List.getD_eq_getElem?_getD, e]; rfl
theorem clashQ_spec {l : List Hs} {m : Int} {old : Hs} {p : List Hs} (h : foolsQ l m old p = true) : ∃ s, clashQ l m old p = some s ∧ s.1 ≠ s.2 ∧ nodeH s.1.1 s.1.2 = nodeH s.2.1 s.2.2 := by
  unfold clashQ
  rw [if_pos h]
  unfold foolsQ at h
  rw [Bool.and_eq_true, Bool.not_eq_true', beq_eq_false_iff_ne] at h
  obtain ⟨h1, h2⟩ := h
  obtain ⟨h3, h4⟩ := proofP_in h1
  obtain ⟨M, rfl⟩ : ∃ M : Nat, m = M := ⟨m.toNat, by omega⟩
  rw [proofP_two old _ p (show 1 ≤ M by omega) (show M ≤ l.length by omega), Bool.and_eq_true, Bool.and_eq_true, beq_iff_eq, beq_iff_eq] at h1
  rw [Int.toNat_natCast] at h2 ⊢
  exact (Tree.clash_prf nodeH nilH old p.reverse l M true (by omega) (by omega) h1.1).2 (Subtype.ext h1.2.2) fun e => h2 (by rw [← h1.2.1, show (twoH M l.length true old p).1.1 = _ from e]; rfl)
set_option maxRecDepth 100000 in
set_option maxHeartbeats 8000000 in
theorem clPath_any (w : World) (hL : Laid w) (ao : Option Addr) (cp : Nat) (l : List Hs) (m : Int) (leaf : Hs) (bo : Option Addr) (cq : Nat) (p : List Hs) (hm0 : -9223372036854775808 ≤ m) (hm1 : m ≤ 9223372036854775807) (hA : Hts w ao l) (hc : l.length ≤ cp) (hm : cp ≤ maxLen) (hbig : l.length ≤ 100000) (hB : Hts w bo p) (hcq : p.length ≤ cq) (hmq : cq ≤ maxLen) (hpb : p.length ≤ 100000) :
    Calls Tryd.prog 19 #[.slice ao l.length cp, .int .i64 m, hval leaf, .slice bo p.length cq] w fun e w' => FoundR (clashP l m leaf p) e w' ∧ Below w.heap.size w w' := by
  obtain ⟨r, hr⟩ : ∃ r, r = w.heap.size := ⟨_, rfl⟩
  obtain ⟨w1, hw1⟩ : ∃ w1, w1 = w.alloc (.cells (leaf.1.map b8).toArray 23) := ⟨_, rfl⟩
  have F1 : Below r w w1 := by rw [hw1, hr]; exact below_alloc1 _ _
  have hL1 : Blk w1 r 23 (leaf.1.map b8).toArray := by rw [hw1, hr]; exact Blk.new w _ _
  have HR := Lib.hid (And.intro hw1 hr)
  have hr0 : w.heap.size ≤ r := by omega
  have HR0 := Lib.hid hr0
  clear hw1 hr hr0
  have hll := leaf.2
  have hm9 : cp ≤ 9223372036854775807 := hm
  have hmq0 : cq ≤ 9223372036854775807 := hmq
  obtain ⟨Z, hZ⟩ : ∃ Z, Z = clashP l m leaf p := ⟨_, rfl⟩
  rw [← hZ]
  have HZ := Lib.hid hZ
  clear hZ
  have c1 : ∀ W, Below r w W → Calls Tryd.prog 38 #[.slice ao l.length cp] W fun e w' => e = .returned (hval (rootH l)) ∧ Below W.heap.size W w' := fun W hW => root_any W ao cp l (hL.below hW HR0.out) (hA.below hW HR0.out) hc hm
  have c2 : ∀ W, Below r w W → Calls Tryd.prog 14 #[.int .i64 m, .int .i64 l.length, hval leaf, .slice bo p.length cq, hval (rootH l)] W fun e w' => e = .returned (.bool (checkP m l.length leaf p (rootH l))) ∧ Below W.heap.size W w' := fun W hW => check_any W (hL.below hW HR0.out) m l.length hm0 hm1 (by omega) (by omega) leaf bo cq p (hB.below hW HR0.out) (by omega) (rootH l)
  obtain ⟨rt, hrt⟩ : ∃ rt, rt = rootH l := ⟨_, rfl⟩
  obtain ⟨c, hcv⟩ : ∃ c, c = checkP m l.length leaf p (rootH l) := ⟨_, rfl⟩
  rw [← hcv] at c2
  simp only [← hrt] at c1 c2
  have HC := Lib.hid hcv
  replace c1 := Lib.hid c1
  replace c2 := Lib.hid c2
  clear hcv hrt
  cases c with
  | false =>
    have hzn : Z = none := by rw [HZ.out]; unfold clashP foolsP; rw [← HC.out]; rfl
    go_enter Tryd.func19, Tryd.ntmps19
    go_upto_region 1 with (fail)
    change Code.wp _ _ _ _ (w.alloc (.cells (leaf.1.map b8).toArray 23))
    rw [← HR.out.1, ← HR.out.2]
    replace HR := Lib.hid HR.out.2
    refine wp_region_N (fun w' => Blk w' r 23 (leaf.1.map b8).toArray) [] (by kernel_rfl) ?_
    obtain ⟨wd, hwd⟩ : ∃ wd, wd = w1.drew := ⟨_, rfl⟩
    replace hL1 : Blk wd r 23 (leaf.1.map b8).toArray := by rw [hwd]; exact hL1
    replace F1 : Below r w wd := by rw [hwd]; exact F1.drew
    rw [← hwd]
    clear hwd
    clear w1
    refine wpAnyN_pureG 0 13 (v := ?_) rfl rfl (by kernel_rfl) (by kernel_rfl) (by kernel_rfl) (fun _ _ _ h => h) rfl (fun w => ?_) ?_
    rotate_left
    · go_simp
      try with_reducible rfl
    refine wpAnyN_pureG 1 14 (v := ?_) rfl rfl (by kernel_rfl) (by kernel_rfl) (by kernel_rfl) (fun _ _ _ h => h) rfl (fun w => ?_) ?_
    rotate_left
    · go_simp
      try with_reducible rfl
    refine wpAnyN_pureG 4 17 (v := ?_) rfl rfl (by kernel_rfl) (by kernel_rfl) (by kernel_rfl) (fun _ _ _ h => h) rfl (fun w => ?_) ?_
    rotate_left
    · go_simp
      try with_reducible rfl
    refine wpAnyN_pureG 5 18 (v := ?_) rfl rfl (by kernel_rfl) (by kernel_rfl) (by kernel_rfl) (fun _ _ _ h => h) rfl (fun w => ?_) ?_
    rotate_left
    · go_simp
      try with_reducible rfl
    simp only [Act.put, List.setIfInBounds_toArray, List.set_cons_succ, List.set_cons_zero]
    refine wpAnyN_pureG 2 15 (v := ?_) rfl rfl (by kernel_rfl) (by kernel_rfl) (by kernel_rfl) (fun _ _ _ h => h) rfl (fun w => ?_) ?_
    rotate_left
    · go_simp
      try with_reducible rfl
    refine wpAnyN_takeG 3 16 (v := hval leaf) rfl rfl (by kernel_rfl) (by kernel_rfl) (by kernel_rfl) (by kernel_rfl) (fun _ _ _ h => h) hL1 rfl (fun w hS => ?_) ?_
    · exact run_load_mid_blk 23 (.tmp 6) rfl hS 0 (by go_simp) (leaf.1.map b8) (fun j v h => by rw [Nat.zero_add, List.getElem?_toArray]; exact h) (.array 32 5) (by kernel_rfl) rfl 32 (by kernel_rfl) (by simp [hll])
    simp only [Act.put, List.setIfInBounds_toArray, List.set_cons_succ, List.set_cons_zero]
    refine wpAnyN_call 6 38 (some 19) [.tmp 18] [.slice ao l.length cp] (by kernel_rfl) rfl rfl rfl rfl (by go_simp) Tryd.call38 ?_
    refine (c1.out wd F1).mono ?_
    rintro e w6 ⟨rfl, G6⟩
    refine ⟨_, rfl, fun _ h => h.below G6 h.lt, ?_⟩
    have hL6 := hL1.below G6 hL1.lt
    have hsz : r + 1 ≤ wd.heap.size := hL1.lt
    have F6 := F1.trans (G6.mono (by omega))
    clear hL1 F1 G6 hsz c1
    clear wd
    simp only [Act.put, List.setIfInBounds_toArray, List.set_cons_succ, List.set_cons_zero]
    refine wpAnyN_call 7 14 (some 20) [.tmp 13, .tmp 15, .tmp 16, .tmp 17, .tmp 19] [.int .i64 m, .int .i64 l.length, hval leaf, .slice bo p.length cq, hval rt] (by kernel_rfl) rfl rfl rfl rfl (by go_simp) Tryd.call14 ?_
    refine (c2.out w6 F6).mono ?_
    rintro e w7 ⟨rfl, G7⟩
    refine ⟨_, rfl, fun _ h => h.below G7 h.lt, ?_⟩
    have hL7 := hL6.below G7 hL6.lt
    have hsz : r + 1 ≤ w6.heap.size := hL6.lt
    have F7 := F6.trans (G7.mono (by omega))
    clear hL6 F6 G7 hsz c2
    clear w6
    refine wpAnyN_pureG 8 21 (v := ?_) rfl rfl (by kernel_rfl) (by kernel_rfl) (by kernel_rfl) (fun _ _ _ h => h) rfl (fun w => ?_) ?_
    rotate_left
    · go_simp
      try with_reducible rfl
    simp only [Act.put, List.setIfInBounds_toArray, List.set_cons_succ, List.set_cons_zero]
    refine wpAnyN_pureG 9 22 (v := ?_) rfl rfl (by kernel_rfl) (by kernel_rfl) (by kernel_rfl) (fun _ _ _ h => h) rfl (fun w => ?_) ?_
    rotate_left
    · go_simp
      try with_reducible rfl
    simp only [Act.put, List.setIfInBounds_toArray, List.set_cons_succ, List.set_cons_zero]
    refine wpAnyN_skipD 10 23 rfl rfl (by kernel_rfl) (by kernel_rfl) (by kernel_rfl) (fun _ _ _ h => h) (by (go_simp; try (unfold undef; simp))) ?_
    refine wpAnyN_skipD 11 24 rfl rfl (by kernel_rfl) (by kernel_rfl) (by kernel_rfl) (fun _ _ _ h => h) (by (go_simp; try (unfold undef; simp))) ?_
    refine wpAnyN_skipD 12 25 rfl rfl (by kernel_rfl) (by kernel_rfl) (by kernel_rfl) (fun _ _ _ h => h) (by (go_simp; try (unfold undef; simp))) ?_
    refine wpAnyN_skipD 13 26 rfl rfl (by kernel_rfl) (by kernel_rfl) (by kernel_rfl) (fun _ _ _ h => h) (by (go_simp; try (unfold undef; simp))) ?_
    refine wpAnyN_skipD 14 27 rfl rfl (by kernel_rfl) (by kernel_rfl) (by kernel_rfl) (fun _ _ _ h => h) (by (go_simp; try (unfold undef; simp))) ?_
    refine wpAnyN_skipD 15 28 rfl rfl (by kernel_rfl) (by kernel_rfl) (by kernel_rfl) (fun _ _ _ h => h) (by (go_simp; try (unfold undef; simp))) ?_
    simp only [Act.put, List.setIfInBounds_toArray, List.set_cons_succ, List.set_cons_zero]
    refine wpAnyN_pureG 16 29 (v := ?_) rfl rfl (by kernel_rfl) (by kernel_rfl) (by kernel_rfl) (fun _ _ _ h => h) rfl (fun w => ?_) ?_
    rotate_left
    · go_simp
      try with_reducible rfl
    refine wpAnyN_done (by kernel_rfl) ?_
    simp only [Act.put, List.setIfInBounds_toArray, List.set_cons_succ, List.set_cons_zero]
    rw [HR.out] at F7
    go_wp2
    go_ret3
    exact ⟨by rw [hzn]; rfl, F7⟩
  | true =>
    obtain ⟨hM0, hM1⟩ := checkP_in HC.out.symm
    obtain ⟨M, rfl⟩ : ∃ M : Nat, m = M := ⟨m.toNat, by omega⟩
    have hMl : M < l.length := by omega
    obtain ⟨g, off, rfl, hg, hra⟩ := hA.place (by omega)
    have hy0 := hra M hMl
    have hgd : (l.getD M nilH) = l[M] := by simp [List.getD, hMl]
    have hxl := (l[M]).2
    have HY := Lib.hid (And.intro hy0 hg)
    obtain ⟨x, hx⟩ : ∃ x, x = l[M] := ⟨_, rfl⟩
    rw [← hx] at HY hgd hxl
    have hzz : Z = if (leaf.1 == x.1) = true then none else Tree.found (clH l M leaf p).1 := by
      rw [HZ.out]; unfold clashP foolsP; rw [← HC.out, Int.toNat_natCast, hgd, Bool.true_and]
      cases (leaf.1 == x.1) <;> rfl
    have cN : ∀ W, Below r w W → Calls Tryd.prog 39 #[.slice (some ⟨g, off, none⟩) l.length cp, .int .i64 M, hval leaf, .slice bo p.length cq] W fun e w' => ∃ v, e = .returned (.tuple #[v, hval (clH l M leaf p).2]) ∧ OwnS W.heap.size W w' v (clH l M leaf p).1.reverse := fun W hW =>
      clpath_aux (p.length + 1) W (some ⟨g, off, none⟩) cp l M leaf bo cq p (Nat.lt_succ_self _) (hL.below hW HR0.out) (hA.below hW HR0.out) hc hm (by omega) (hB.below hW HR0.out) hcq hmq (by omega) hMl
    obtain ⟨y, hy⟩ : ∃ y, y = (clH l M leaf p).2 := ⟨_, rfl⟩
    obtain ⟨ss, hss⟩ : ∃ ss, ss = (clH l M leaf p).1 := ⟨_, rfl⟩
    have hsl : ss.length ≤ 1000000 := by rw [hss]; exact Nat.le_trans (clH_len _ _ _) (by rw [List.length_reverse]; omega)
    rw [← hy, ← hss] at cN
    rw [← hss] at hzz
    obtain ⟨sr, hsr⟩ : ∃ sr, sr = ss.reverse := ⟨_, rfl⟩
    rw [← hsr] at cN
    have hsl2 : sr.length ≤ 1000000 := by rw [hsr, List.length_reverse]; exact hsl
    have HSR := Lib.hid (show sr.reverse = ss by rw [hsr, List.reverse_reverse])
    have HZZ := Lib.hid hzz
    replace cN := Lib.hid cN
    clear hsr hsl hzz hy hss hx hra hy0 hg hgd hA hB hM0 hM1
    obtain ⟨q, hq⟩ : ∃ q, q = (leaf.1 == x.1) := ⟨_, rfl⟩
    have HQ := Lib.hid hq
    clear hq
    go_enter Tryd.func19, Tryd.ntmps19
    go_upto_region 1 with (fail)
    change Code.wp _ _ _ _ (w.alloc (.cells (leaf.1.map b8).toArray 23))
    rw [← HR.out.1, ← HR.out.2]
    replace HR := Lib.hid HR.out.2
    refine wp_region_N (fun w' => Blk w' r 23 (leaf.1.map b8).toArray ∧ w'.rangeAt g (off + M * 32) (x.1.map b8)) [] (by kernel_rfl) ?_
    obtain ⟨wd, hwd⟩ : ∃ wd, wd = w1.drew := ⟨_, rfl⟩
    replace hL1 : Blk wd r 23 (leaf.1.map b8).toArray := by rw [hwd]; exact hL1
    replace F1 : Below r w wd := by rw [hwd]; exact F1.drew
    rw [← hwd]
    clear hwd
    clear w1
    have hX := range_below HY.out.1 F1 (Nat.lt_of_lt_of_le HY.out.2 HR0.out)
    refine wpAnyN_pureG 0 13 (v := ?_) rfl rfl (by kernel_rfl) (by kernel_rfl) (by kernel_rfl) (fun _ _ _ h => h) rfl (fun w => ?_) ?_
    rotate_left
    · go_simp
      try with_reducible rfl
    refine wpAnyN_pureG 1 14 (v := ?_) rfl rfl (by kernel_rfl) (by kernel_rfl) (by kernel_rfl) (fun _ _ _ h => h) rfl (fun w => ?_) ?_
    rotate_left
    · go_simp
      try with_reducible rfl
    refine wpAnyN_pureG 4 17 (v := ?_) rfl rfl (by kernel_rfl) (by kernel_rfl) (by kernel_rfl) (fun _ _ _ h => h) rfl (fun w => ?_) ?_
    rotate_left
    · go_simp
      try with_reducible rfl
    refine wpAnyN_pureG 5 18 (v := ?_) rfl rfl (by kernel_rfl) (by kernel_rfl) (by kernel_rfl) (fun _ _ _ h => h) rfl (fun w => ?_) ?_
    rotate_left
    · go_simp
      try with_reducible rfl
    simp only [Act.put, List.setIfInBounds_toArray, List.set_cons_succ, List.set_cons_zero]
    refine wpAnyN_pureG 2 15 (v := ?_) rfl rfl (by kernel_rfl) (by kernel_rfl) (by kernel_rfl) (fun _ _ _ h => h) rfl (fun w => ?_) ?_
    rotate_left
    · go_simp
      try with_reducible rfl
    refine wpAnyN_takeG 3 16 (v := hval leaf) rfl rfl (by kernel_rfl) (by kernel_rfl) (by kernel_rfl) (by kernel_rfl) (fun _ _ _ h => h) ⟨hL1, hX⟩ rfl (fun w hS => ?_) ?_
    · exact run_load_mid_blk 23 (.tmp 6) rfl hS.1 0 (by go_simp) (leaf.1.map b8) (fun j v h => by rw [Nat.zero_add, List.getElem?_toArray]; exact h) (.array 32 5) (by kernel_rfl) rfl 32 (by kernel_rfl) (by simp [hll])
    simp only [Act.put, List.setIfInBounds_toArray, List.set_cons_succ, List.set_cons_zero]
    refine wpAnyN_call 6 38 (some 19) [.tmp 18] [.slice (some ⟨g, off, none⟩) l.length cp] (by kernel_rfl) rfl rfl rfl rfl (by go_simp) Tryd.call38 ?_
    refine (c1.out wd F1).mono ?_
    rintro e w6 ⟨rfl, G6⟩
    refine ⟨_, rfl, fun _ h => ⟨h.1.below G6 h.1.lt, hash_below x h.2 G6⟩, ?_⟩
    have hL6 := hL1.below G6 hL1.lt
    have hsz : r + 1 ≤ wd.heap.size := hL1.lt
    have F6 := F1.trans (G6.mono (by omega))
    clear hL1 F1 G6 hsz c1 hX
    clear wd
    simp only [Act.put, List.setIfInBounds_toArray, List.set_cons_succ, List.set_cons_zero]
    refine wpAnyN_call 7 14 (some 20) [.tmp 13, .tmp 15, .tmp 16, .tmp 17, .tmp 19] [.int .i64 M, .int .i64 l.length, hval leaf, .slice bo p.length cq, hval rt] (by kernel_rfl) rfl rfl rfl rfl (by go_simp) Tryd.call14 ?_
    refine (c2.out w6 F6).mono ?_
    rintro e w7 ⟨rfl, G7⟩
    refine ⟨_, rfl, fun _ h => ⟨h.1.below G7 h.1.lt, hash_below x h.2 G7⟩, ?_⟩
    have hL7 := hL6.below G7 hL6.lt
    have hsz : r + 1 ≤ w6.heap.size := hL6.lt
    have F7 := F6.trans (G7.mono (by omega))
    clear hL6 F6 G7 hsz c2
    clear w6
    refine wpAnyN_pureG 8 21 (v := ?_) rfl rfl (by kernel_rfl) (by kernel_rfl) (by kernel_rfl) (fun _ _ _ h => h) rfl (fun w => ?_) ?_
    rotate_left
    · go_simp
      try with_reducible rfl
    simp only [Act.put, List.setIfInBounds_toArray, List.set_cons_succ, List.set_cons_zero]
    refine wpAnyN_pureG 9 22 (v := ?_) rfl rfl (by kernel_rfl) (by kernel_rfl) (by kernel_rfl) (fun _ _ _ h => h) rfl (fun w => ?_) ?_
    rotate_left
    · go_simp
      try with_reducible rfl
    simp only [Act.put, List.setIfInBounds_toArray, List.set_cons_succ, List.set_cons_zero]
    have hX7 := range_below HY.out.1 F7 (Nat.lt_of_lt_of_le HY.out.2 HR0.out)
    refine wpAnyN_pure 11 24 (v := ?_) rfl rfl (by kernel_rfl) (by kernel_rfl) (by kernel_rfl) (fun _ _ _ h => h) (by go_simp) (fun w => ?_) ?_
    rotate_left
    · go_simp
      try with_reducible rfl
    refine wpAnyN_pure 12 25 (v := ?_) rfl rfl (by kernel_rfl) (by kernel_rfl) (by kernel_rfl) (fun _ _ _ h => h) (by go_simp) (fun w => ?_) ?_
    rotate_left
    · go_simp
      try with_reducible rfl
    simp only [Act.put, List.setIfInBounds_toArray, List.set_cons_succ, List.set_cons_zero]
    refine wpAnyN_pure 13 26 (v := .pointer (some ⟨g, off + M * 32, none⟩)) rfl rfl (by kernel_rfl) (by kernel_rfl) (by kernel_rfl) (fun _ _ _ h => h) (by go_simp) (fun w => ?_) ?_
    · go_simp
      try (intro h; omega)
    simp only [Act.put, List.setIfInBounds_toArray, List.set_cons_succ, List.set_cons_zero]
    refine wpAnyN_take 10 23 (v := hval leaf) rfl rfl (by kernel_rfl) (by kernel_rfl) (by kernel_rfl) (by kernel_rfl) (fun _ _ _ h => h) ⟨hL7, hX7⟩ (by go_simp) (fun w hS => ?_) ?_
    · exact run_load_mid_blk 23 (.tmp 6) rfl hS.1 0 (by go_simp) (leaf.1.map b8) (fun j v h => by rw [Nat.zero_add, List.getElem?_toArray]; exact h) (.array 32 5) (by kernel_rfl) rfl 32 (by kernel_rfl) (by simp [hll])
    refine wpAnyN_take 14 27 (v := hval x) rfl rfl (by kernel_rfl) (by kernel_rfl) (by kernel_rfl) (by kernel_rfl) (fun _ _ _ h => h) ⟨hL7, hX7⟩ (by go_simp) (fun w hS => ?_) ?_
    · exact run_load_range 23 _ rfl hS.2 (by go_simp) (.array 32 5) (by kernel_rfl) rfl 32 (by kernel_rfl) (by simp [hxl])
    simp only [Act.put, List.setIfInBounds_toArray, List.set_cons_succ, List.set_cons_zero]
    refine wpAnyN_pure 15 28 (v := .bool q) rfl rfl (by kernel_rfl) (by kernel_rfl) (by kernel_rfl) (fun _ _ _ h => h) (by go_simp) (fun w => ?_) ?_
    · rw [HQ.out]; go_simp
    simp only [Act.put, List.setIfInBounds_toArray, List.set_cons_succ, List.set_cons_zero]
    clear hX7
    cases q with
    | true =>
      have hzn : Z = none := by rw [HZZ.out, ← HQ.out]; rfl
      refine wpAnyN_pureG 16 29 (v := ?_) rfl rfl (by kernel_rfl) (by kernel_rfl) (by kernel_rfl) (fun _ _ _ h => h) rfl (fun w => ?_) ?_
      rotate_left
      · go_simp
        try with_reducible rfl
      refine wpAnyN_done (by kernel_rfl) ?_
      simp only [Act.put, List.setIfInBounds_toArray, List.set_cons_succ, List.set_cons_zero]
      rw [HR.out] at F7
      go_wp2
      go_ret3
      exact ⟨by rw [hzn]; rfl, F7⟩
    | false =>
      have hzn : Z = Tree.found ss := by rw [HZZ.out, ← HQ.out]; rfl
      have HZN := Lib.hid hzn
      clear hzn HQ HZZ
      refine wpAnyN_pureG 16 29 (v := ?_) rfl rfl (by kernel_rfl) (by kernel_rfl) (by kernel_rfl) (fun _ _ _ h => h) rfl (fun w => ?_) ?_
      rotate_left
      · go_simp
        try with_reducible rfl
      refine wpAnyN_done (by kernel_rfl) ?_
      simp only [Act.put, List.setIfInBounds_toArray, List.set_cons_succ, List.set_cons_zero]
      have c4 := cN.out w7 F7
      go_wp2_with (refine wpList_load_mid_blk rfl 23 (.tmp 6) rfl hL7 0 rfl (leaf.1.map b8) (fun j v hv => by rw [Nat.zero_add, List.getElem?_toArray]; exact hv) (.array 32 5) (by kernel_rfl) rfl 32 (by kernel_rfl) (by simp [hll]) ?_)
      refine c4.mono ?_
      rintro e w8 ⟨v8, rfl, O8⟩
      have hs7 : r + 1 ≤ w7.heap.size := hL7.lt
      have F8 := F7.trans (O8.bel.mono (by omega))
      have hs8 : r ≤ w8.heap.size := Nat.le_trans (by omega) O8.le
      obtain ⟨a8, n8, rfl, hn8, -, -, hS8⟩ := O8.row.sts
      clear c4 cN hL7 F7 O8 hs7 hn8
      clear w7
      have hyl := y.2
      have hK := Blk.new w8 zero32 23
      go_wp2_with (refine wpList_store_blk rfl 23 _ _ rfl hK (y.1.map b8).toArray rfl rfl 32 (by kernel_rfl) rfl (by simp [hyl]) (by rw [List.toList_toArray]; exact b8_one _) ?_)
      intro w9 hY9 hg9
      have F9 : Below r w w9 := below_upd (F8.alloc hs8 _) hg9 hs8 (alloc_lt _ _)
      have hS9 : Sts w9 a8 sr := Bts.fr hS8 (((Fr.refl (fun _ => False) w8).alloc (.cells zero32 23)).grown hg9 (fun x hx e => by have := Option.some.inj e; omega)) (fun _ _ _ h => h)
      have hs9 : r ≤ w9.heap.size := Nat.le_trans hs8 (Nat.le_trans (Nat.le_of_lt (alloc_lt _ _)) hg9.size)
      clear hK hY9 hg9 hS8 F8 hs8
      generalize w8.heap.size = gz
      clear w8
      have c5 := found_any w9 a8 n8 sr hS9 hsl2
      rw [HSR.out, ← HZN.out] at c5
      go_wp2_with fail
      refine c5.mono ?_
      rintro e w10 ⟨hF, G10⟩
      have F10 := F9.trans (G10.mono hs9)
      rw [HR.out] at F10
      clear c5 F9 G10 hS9 hs9
      cases Z with
      | none =>
        have hF' : e = .returned (.tuple #[.slice none 0 0, .slice none 0 0, .bool false]) := hF
        subst hF'
        clear hF
        go_wp2
        go_ret3
        exact ⟨rfl, F10⟩
      | some s =>
        obtain ⟨a1, p1, a2, p2, rfl, hT1, hT2⟩ := hF
        have HT := Lib.hid (And.intro hT1 hT2)
        clear hT1 hT2
        go_wp2
        go_ret3
        exact ⟨⟨a1, p1, a2, p2, rfl, HT.out.1, HT.out.2⟩, F10⟩
set_option maxRecDepth 100000 in
set_option maxHeartbeats 8000000 in
theorem clProof_any (w : World) (hL : Laid w) (ao : Option Addr) (cp : Nat) (l : List Hs) (m : Int) (leaf : Hs) (bo : Option Addr) (cq : Nat) (p : List Hs) (hm0 : -9223372036854775808 ≤ m) (hm1 : m ≤ 9223372036854775807) (hA : Hts w ao l) (hc : l.length ≤ cp) (hm : cp ≤ maxLen) (hbig : l.length ≤ 100000) (hB : Hts w bo p) (hcq : p.length ≤ cq) (hmq : cq ≤ maxLen) (hpb : p.length ≤ 100000) :
    Calls Tryd.prog 20 #[.slice ao l.length cp, .int .i64 m, hval leaf, .slice bo p.length cq] w fun e w' => FoundR (clashQ l m leaf p) e w' ∧ Below w.heap.size w w' := by
  obtain ⟨r, hr⟩ : ∃ r, r = w.heap.size := ⟨_, rfl⟩
  obtain ⟨w1, hw1⟩ : ∃ w1, w1 = w.alloc (.cells (leaf.1.map b8).toArray 23) := ⟨_, rfl⟩
  have F1 : Below r w w1 := by rw [hw1, hr]; exact below_alloc1 _ _
  have hL1 : Blk w1 r 23 (leaf.1.map b8).toArray := by rw [hw1, hr]; exact Blk.new w _ _
  have HR := Lib.hid (And.intro hw1 hr)
  have hr0 : w.heap.size ≤ r := by omega
  have HR0 := Lib.hid hr0
  clear hw1 hr hr0
  have hll := leaf.2
  have hm9 : cp ≤ 9223372036854775807 := hm
  have hmq0 : cq ≤ 9223372036854775807 := hmq
  obtain ⟨Z, hZ⟩ : ∃ Z, Z = clashQ l m leaf p := ⟨_, rfl⟩
  rw [← hZ]
  have HZ := Lib.hid hZ
  clear hZ
  have c1 : ∀ W, Below r w W → Calls Tryd.prog 38 #[.slice ao l.length cp] W fun e w' => e = .returned (hval (rootH l)) ∧ Below W.heap.size W w' := fun W hW => root_any W ao cp l (hL.below hW HR0.out) (hA.below hW HR0.out) hc hm
  have c2 : ∀ W, Below r w W → Calls Tryd.prog 23 #[.int .i64 m, .int .i64 l.length, hval leaf, .slice bo p.length cq, hval (rootH l)] W fun e w' => e = .returned (.bool (proofP m l.length leaf p (rootH l))) ∧ Below W.heap.size W w' := fun W hW => proof_any W (hL.below hW HR0.out) m l.length hm0 hm1 (by omega) (by omega) leaf bo cq p (hB.below hW HR0.out) hcq hmq (by omega) (rootH l)
  obtain ⟨rt, hrt⟩ : ∃ rt, rt = rootH l := ⟨_, rfl⟩
  obtain ⟨c, hcv⟩ : ∃ c, c = proofP m l.length leaf p (rootH l) := ⟨_, rfl⟩
  rw [← hcv] at c2
  simp only [← hrt] at c1 c2
  have HC := Lib.hid hcv
  replace c1 := Lib.hid c1
  replace c2 := Lib.hid c2
  clear hcv hrt
  cases c with
  | false =>
    have hzn : Z = none := by rw [HZ.out]; unfold clashQ foolsQ; rw [← HC.out]; rfl
    go_enter Tryd.func20, Tryd.ntmps20
    go_upto_region 1 with (fail)
    change Code.wp _ _ _ _ (w.alloc (.cells (leaf.1.map b8).toArray 23))
    rw [← HR.out.1, ← HR.out.2]
    replace HR := Lib.hid HR.out.2
    refine wp_region_N (fun w' => Blk w' r 23 (leaf.1.map b8).toArray) [] (by kernel_rfl) ?_
    obtain ⟨wd, hwd⟩ : ∃ wd, wd = w1.drew := ⟨_, rfl⟩
    replace hL1 : Blk wd r 23 (leaf.1.map b8).toArray := by rw [hwd]; exact hL1
    replace F1 : Below r w wd := by rw [hwd]; exact F1.drew
    rw [← hwd]
    clear hwd
    clear w1
    refine wpAnyN_pureG 0 13 (v := ?_) rfl rfl (by kernel_rfl) (by kernel_rfl) (by kernel_rfl) (fun _ _ _ h => h) rfl (fun w => ?_) ?_
    rotate_left
    · go_simp
      try with_reducible rfl
    refine wpAnyN_pureG 1 14 (v := ?_) rfl rfl (by kernel_rfl) (by kernel_rfl) (by kernel_rfl) (fun _ _ _ h => h) rfl (fun w => ?_) ?_
    rotate_left
    · go_simp
      try with_reducible rfl
    refine wpAnyN_pureG 4 17 (v := ?_) rfl rfl (by kernel_rfl) (by kernel_rfl) (by kernel_rfl) (fun _ _ _ h => h) rfl (fun w => ?_) ?_
    rotate_left
    · go_simp
      try with_reducible rfl
    refine wpAnyN_pureG 5 18 (v := ?_) rfl rfl (by kernel_rfl) (by kernel_rfl) (by kernel_rfl) (fun _ _ _ h => h) rfl (fun w => ?_) ?_
    rotate_left
    · go_simp
      try with_reducible rfl
    simp only [Act.put, List.setIfInBounds_toArray, List.set_cons_succ, List.set_cons_zero]
    refine wpAnyN_pureG 2 15 (v := ?_) rfl rfl (by kernel_rfl) (by kernel_rfl) (by kernel_rfl) (fun _ _ _ h => h) rfl (fun w => ?_) ?_
    rotate_left
    · go_simp
      try with_reducible rfl
    refine wpAnyN_takeG 3 16 (v := hval leaf) rfl rfl (by kernel_rfl) (by kernel_rfl) (by kernel_rfl) (by kernel_rfl) (fun _ _ _ h => h) hL1 rfl (fun w hS => ?_) ?_
    · exact run_load_mid_blk 23 (.tmp 6) rfl hS 0 (by go_simp) (leaf.1.map b8) (fun j v h => by rw [Nat.zero_add, List.getElem?_toArray]; exact h) (.array 32 5) (by kernel_rfl) rfl 32 (by kernel_rfl) (by simp [hll])
    simp only [Act.put, List.setIfInBounds_toArray, List.set_cons_succ, List.set_cons_zero]
    refine wpAnyN_call 6 38 (some 19) [.tmp 18] [.slice ao l.length cp] (by kernel_rfl) rfl rfl rfl rfl (by go_simp) Tryd.call38 ?_
    refine (c1.out wd F1).mono ?_
    rintro e w6 ⟨rfl, G6⟩
    refine ⟨_, rfl, fun _ h => h.below G6 h.lt, ?_⟩
    have hL6 := hL1.below G6 hL1.lt
    have hsz : r + 1 ≤ wd.heap.size := hL1.lt
    have F6 := F1.trans (G6.mono (by omega))
    clear hL1 F1 G6 hsz c1
    clear wd
    simp only [Act.put, List.setIfInBounds_toArray, List.set_cons_succ, List.set_cons_zero]
    refine wpAnyN_call 7 23 (some 20) [.tmp 13, .tmp 15, .tmp 16, .tmp 17, .tmp 19] [.int .i64 m, .int .i64 l.length, hval leaf, .slice bo p.length cq, hval rt] (by kernel_rfl) rfl rfl rfl rfl (by go_simp) Tryd.call23 ?_
    refine (c2.out w6 F6).mono ?_
    rintro e w7 ⟨rfl, G7⟩
    refine ⟨_, rfl, fun _ h => h.below G7 h.lt, ?_⟩
    have hL7 := hL6.below G7 hL6.lt
    have hsz : r + 1 ≤ w6.heap.size := hL6.lt
    have F7 := F6.trans (G7.mono (by omega))
    clear hL6 F6 G7 hsz c2
    clear w6
    refine wpAnyN_pureG 8 21 (v := ?_) rfl rfl (by kernel_rfl) (by kernel_rfl) (by kernel_rfl) (fun _ _ _ h => h) rfl (fun w => ?_) ?_
    rotate_left
    · go_simp
      try with_reducible rfl
    simp only [Act.put, List.setIfInBounds_toArray, List.set_cons_succ, List.set_cons_zero]
    refine wpAnyN_pureG 9 22 (v := ?_) rfl rfl (by kernel_rfl) (by kernel_rfl) (by kernel_rfl) (fun _ _ _ h => h) rfl (fun w => ?_) ?_
    rotate_left
    · go_simp
      try with_reducible rfl
    simp only [Act.put, List.setIfInBounds_toArray, List.set_cons_succ, List.set_cons_zero]
    refine wpAnyN_skipD 10 23 rfl rfl (by kernel_rfl) (by kernel_rfl) (by kernel_rfl) (fun _ _ _ h => h) (by (go_simp; try (unfold undef; simp))) ?_
    refine wpAnyN_skipD 11 24 rfl rfl (by kernel_rfl) (by kernel_rfl) (by kernel_rfl) (fun _ _ _ h => h) (by (go_simp; try (unfold undef; simp))) ?_
    refine wpAnyN_skipD 12 25 rfl rfl (by kernel_rfl) (by kernel_rfl) (by kernel_rfl) (fun _ _ _ h => h) (by (go_simp; try (unfold undef; simp))) ?_
    refine wpAnyN_skipD 13 26 rfl rfl (by kernel_rfl) (by kernel_rfl) (by kernel_rfl) (fun _ _ _ h => h) (by (go_simp; try (unfold undef; simp))) ?_
    refine wpAnyN_skipD 14 27 rfl rfl (by kernel_rfl) (by kernel_rfl) (by kernel_rfl) (fun _ _ _ h => h) (by (go_simp; try (unfold undef; simp))) ?_
    refine wpAnyN_skipD 15 28 rfl rfl (by kernel_rfl) (by kernel_rfl) (by kernel_rfl) (fun _ _ _ h => h) (by (go_simp; try (unfold undef; simp))) ?_
    simp only [Act.put, List.setIfInBounds_toArray, List.set_cons_succ, List.set_cons_zero]
    refine wpAnyN_pureG 16 29 (v := ?_) rfl rfl (by kernel_rfl) (by kernel_rfl) (by kernel_rfl) (fun _ _ _ h => h) rfl (fun w => ?_) ?_
    rotate_left
    · go_simp
      try with_reducible rfl
    refine wpAnyN_done (by kernel_rfl) ?_
    simp only [Act.put, List.setIfInBounds_toArray, List.set_cons_succ, List.set_cons_zero]
    rw [HR.out] at F7
    go_wp2
    go_ret3
    exact ⟨by rw [hzn]; rfl, F7⟩
  | true =>
    obtain ⟨hM0, hM1⟩ := proofP_in HC.out.symm
    obtain ⟨M, rfl⟩ : ∃ M : Nat, m = M := ⟨m.toNat, by omega⟩
    have hMl : M ≤ l.length := by omega
    have hM2 : 1 ≤ M := by omega
    obtain ⟨i0, hi, hz0, hz1, hz2⟩ := info_parts infoHs
    obtain ⟨a6, hs6, -, ht6⟩ := run_upto_hts (P := Tryd.prog) (t := 24) (by kernel_rfl) hi ao l.length cp M (by omega)
    have hl1 : (l.take M).length = M := by rw [List.length_take]; omega
    have c3 : ∀ W, Below r w W → Calls Tryd.prog 38 #[.slice a6 M cp] W fun e w' => e = .returned (hval (rootH (l.take M))) ∧ Below W.heap.size W w' := fun W hW => by
      have := root_any W a6 cp (l.take M) (hL.below hW HR0.out) (ht6 W l (hA.below hW HR0.out)) (by omega) hm
      rwa [hl1] at this
    obtain ⟨x, hx⟩ : ∃ x, x = rootH (l.take M) := ⟨_, rfl⟩
    rw [← hx] at c3
    have hxl := x.2
    have hzz : Z = if (leaf.1 == x.1) = true then none else Tree.found (cl2H l M true leaf p).1 := by
      rw [HZ.out]; unfold clashQ foolsQ; rw [← HC.out, Int.toNat_natCast, ← hx, Bool.true_and]
      cases (leaf.1 == x.1) <;> rfl
    have cN : ∀ W, Below r w W → Calls Tryd.prog 41 #[.slice ao l.length cp, .int .i64 M, .bool true, hval leaf, .slice bo p.length cq] W fun e w' => ∃ v, e = .returned (.tuple #[v, hval (cl2H l M true leaf p).2]) ∧ OwnS W.heap.size W w' v (cl2H l M true leaf p).1.reverse := fun W hW =>
      clproof_aux (p.length + 1) W ao cp l M true leaf bo cq p (Nat.lt_succ_self _) (hL.below hW HR0.out) (hA.below hW HR0.out) hc hm (by omega) (hB.below hW HR0.out) hcq hmq (by omega) hM2 hMl
    obtain ⟨y, hy⟩ : ∃ y, y = (cl2H l M true leaf p).2 := ⟨_, rfl⟩
    obtain ⟨ss, hss⟩ : ∃ ss, ss = (cl2H l M true leaf p).1 := ⟨_, rfl⟩
    have hsl : ss.length ≤ 1000000 := by rw [hss]; exact Nat.le_trans (cl2H_len _ _ _ _ _) (by rw [List.length_reverse]; omega)
    rw [← hy, ← hss] at cN
    rw [← hss] at hzz
    obtain ⟨sr, hsr⟩ : ∃ sr, sr = ss.reverse := ⟨_, rfl⟩
    rw [← hsr] at cN
    have hsl2 : sr.length ≤ 1000000 := by rw [hsr, List.length_reverse]; exact hsl
    have HSR := Lib.hid (show sr.reverse = ss by rw [hsr, List.reverse_reverse])
    have HZZ := Lib.hid hzz
    replace cN := Lib.hid cN
    replace c3 := Lib.hid c3
    clear hsr hsl hzz hy hss hx hA hB hM0 hM1 ht6 hl1
    obtain ⟨q, hq⟩ : ∃ q, q = (leaf.1 == x.1) := ⟨_, rfl⟩
    have HQ := Lib.hid hq
    clear hq
    go_enter Tryd.func20, Tryd.ntmps20
    go_upto_region 1 with (fail)
    change Code.wp _ _ _ _ (w.alloc (.cells (leaf.1.map b8).toArray 23))
    rw [← HR.out.1, ← HR.out.2]
    replace HR := Lib.hid HR.out.2
    refine wp_region_N (fun w' => Blk w' r 23 (leaf.1.map b8).toArray) [] (by kernel_rfl) ?_
    obtain ⟨wd, hwd⟩ : ∃ wd, wd = w1.drew := ⟨_, rfl⟩
    replace hL1 : Blk wd r 23 (leaf.1.map b8).toArray := by rw [hwd]; exact hL1
    replace F1 : Below r w wd := by rw [hwd]; exact F1.drew
    rw [← hwd]
    clear hwd
    clear w1
    refine wpAnyN_pureG 0 13 (v := ?_) rfl rfl (by kernel_rfl) (by kernel_rfl) (by kernel_rfl) (fun _ _ _ h => h) rfl (fun w => ?_) ?_
    rotate_left
    · go_simp
      try with_reducible rfl
    refine wpAnyN_pureG 1 14 (v := ?_) rfl rfl (by kernel_rfl) (by kernel_rfl) (by kernel_rfl) (fun _ _ _ h => h) rfl (fun w => ?_) ?_
    rotate_left
    · go_simp
      try with_reducible rfl
    refine wpAnyN_pureG 4 17 (v := ?_) rfl rfl (by kernel_rfl) (by kernel_rfl) (by kernel_rfl) (fun _ _ _ h => h) rfl (fun w => ?_) ?_
    rotate_left
    · go_simp
      try with_reducible rfl
    refine wpAnyN_pureG 5 18 (v := ?_) rfl rfl (by kernel_rfl) (by kernel_rfl) (by kernel_rfl) (fun _ _ _ h => h) rfl (fun w => ?_) ?_
    rotate_left
    · go_simp
      try with_reducible rfl
    simp only [Act.put, List.setIfInBounds_toArray, List.set_cons_succ, List.set_cons_zero]
    refine wpAnyN_pureG 2 15 (v := ?_) rfl rfl (by kernel_rfl) (by kernel_rfl) (by kernel_rfl) (fun _ _ _ h => h) rfl (fun w => ?_) ?_
    rotate_left
    · go_simp
      try with_reducible rfl
    refine wpAnyN_takeG 3 16 (v := hval leaf) rfl rfl (by kernel_rfl) (by kernel_rfl) (by kernel_rfl) (by kernel_rfl) (fun _ _ _ h => h) hL1 rfl (fun w hS => ?_) ?_
    · exact run_load_mid_blk 23 (.tmp 6) rfl hS 0 (by go_simp) (leaf.1.map b8) (fun j v h => by rw [Nat.zero_add, List.getElem?_toArray]; exact h) (.array 32 5) (by kernel_rfl) rfl 32 (by kernel_rfl) (by simp [hll])
    simp only [Act.put, List.setIfInBounds_toArray, List.set_cons_succ, List.set_cons_zero]
    refine wpAnyN_call 6 38 (some 19) [.tmp 18] [.slice ao l.length cp] (by kernel_rfl) rfl rfl rfl rfl (by go_simp) Tryd.call38 ?_
    refine (c1.out wd F1).mono ?_
    rintro e w6 ⟨rfl, G6⟩
    refine ⟨_, rfl, fun _ h => h.below G6 h.lt, ?_⟩
    have hL6 := hL1.below G6 hL1.lt
    have hsz : r + 1 ≤ wd.heap.size := hL1.lt
    have F6 := F1.trans (G6.mono (by omega))
    clear hL1 F1 G6 hsz c1
    clear wd
    simp only [Act.put, List.setIfInBounds_toArray, List.set_cons_succ, List.set_cons_zero]
    refine wpAnyN_call 7 23 (some 20) [.tmp 13, .tmp 15, .tmp 16, .tmp 17, .tmp 19] [.int .i64 M, .int .i64 l.length, hval leaf, .slice bo p.length cq, hval rt] (by kernel_rfl) rfl rfl rfl rfl (by go_simp) Tryd.call23 ?_
    refine (c2.out w6 F6).mono ?_
    rintro e w7 ⟨rfl, G7⟩
    refine ⟨_, rfl, fun _ h => h.below G7 h.lt, ?_⟩
    have hL7 := hL6.below G7 hL6.lt
    have hsz : r + 1 ≤ w6.heap.size := hL6.lt
    have F7 := F6.trans (G7.mono (by omega))
    clear hL6 F6 G7 hsz c2
    clear w6
    refine wpAnyN_pureG 8 21 (v := ?_) rfl rfl (by kernel_rfl) (by kernel_rfl) (by kernel_rfl) (fun _ _ _ h => h) rfl (fun w => ?_) ?_
    rotate_left
    · go_simp
      try with_reducible rfl
    simp only [Act.put, List.setIfInBounds_toArray, List.set_cons_succ, List.set_cons_zero]
    refine wpAnyN_pureG 9 22 (v := ?_) rfl rfl (by kernel_rfl) (by kernel_rfl) (by kernel_rfl) (fun _ _ _ h => h) rfl (fun w => ?_) ?_
    rotate_left
    · go_simp
      try with_reducible rfl
    simp only [Act.put, List.setIfInBounds_toArray, List.set_cons_succ, List.set_cons_zero]
    refine wpAnyN_pure 11 24 (v := ?_) rfl rfl (by kernel_rfl) (by kernel_rfl) (by kernel_rfl) (fun _ _ _ h => h) (by go_simp) (fun w => ?_) ?_
    rotate_left
    · go_simp
      try with_reducible rfl
    refine wpAnyN_pure 12 25 (v := ?_) rfl rfl (by kernel_rfl) (by kernel_rfl) (by kernel_rfl) (fun _ _ _ h => h) (by go_simp) (fun w => ?_) ?_
    rotate_left
    · go_simp
      try with_reducible rfl
    simp only [Act.put, List.setIfInBounds_toArray, List.set_cons_succ, List.set_cons_zero]
    refine wpAnyN_pure 13 26 (v := ?_) rfl rfl (by kernel_rfl) (by kernel_rfl) (by kernel_rfl) (fun _ _ _ h => h) (by go_simp) (fun w => ?_) ?_
    rotate_left
    · go_simp
      try with_reducible rfl
    refine wpAnyN_take 10 23 (v := hval leaf) rfl rfl (by kernel_rfl) (by kernel_rfl) (by kernel_rfl) (by kernel_rfl) (fun _ _ _ h => h) hL7 (by go_simp) (fun w hS => ?_) ?_
    · exact run_load_mid_blk 23 (.tmp 6) rfl hS 0 (by go_simp) (leaf.1.map b8) (fun j v h => by rw [Nat.zero_add, List.getElem?_toArray]; exact h) (.array 32 5) (by kernel_rfl) rfl 32 (by kernel_rfl) (by simp [hll])
    simp only [Act.put, List.setIfInBounds_toArray, List.set_cons_succ, List.set_cons_zero]
    refine wpAnyN_callW 14 38 (some 27) [.tmp 26] [.slice a6 M cp] (by kernel_rfl) rfl rfl rfl (by go_simp) (by go_simp) Tryd.call38 ?_
    refine (c3.out w7 F7).mono ?_
    rintro e w8 ⟨rfl, G8⟩
    refine ⟨_, rfl, fun _ h => h.below G8 h.lt, ?_⟩
    have hL8 := hL7.below G8 hL7.lt
    have hsz : r + 1 ≤ w7.heap.size := hL7.lt
    have F8 := F7.trans (G8.mono (by omega))
    clear hL7 F7 G8 hsz c3
    clear w7
    obtain ⟨w7, rfl⟩ : ∃ w7, w7 = w8 := ⟨_, rfl⟩
    have hL7 := hL8
    have F7 := F8
    clear hL8 F8
    simp only [Act.put, List.setIfInBounds_toArray, List.set_cons_succ, List.set_cons_zero]
    refine wpAnyN_pure 15 28 (v := .bool q) rfl rfl (by kernel_rfl) (by kernel_rfl) (by kernel_rfl) (fun _ _ _ h => h) (by go_simp) (fun w => ?_) ?_
    · rw [HQ.out]; go_simp
    simp only [Act.put, List.setIfInBounds_toArray, List.set_cons_succ, List.set_cons_zero]
    cases q with
    | true =>
      have hzn : Z = none := by rw [HZZ.out, ← HQ.out]; rfl
      refine wpAnyN_pureG 16 29 (v := ?_) rfl rfl (by kernel_rfl) (by kernel_rfl) (by kernel_rfl) (fun _ _ _ h => h) rfl (fun w => ?_) ?_
      rotate_left
      · go_simp
        try with_reducible rfl
      refine wpAnyN_done (by kernel_rfl) ?_
      simp only [Act.put, List.setIfInBounds_toArray, List.set_cons_succ, List.set_cons_zero]
      rw [HR.out] at F7
      go_wp2
      go_ret3
      exact ⟨by rw [hzn]; rfl, F7⟩
    | false =>
      have hzn : Z = Tree.found ss := by rw [HZZ.out, ← HQ.out]; rfl
      have HZN := Lib.hid hzn
      clear hzn HQ HZZ
      refine wpAnyN_pureG 16 29 (v := ?_) rfl rfl (by kernel_rfl) (by kernel_rfl) (by kernel_rfl) (fun _ _ _ h => h) rfl (fun w => ?_) ?_
      rotate_left
      · go_simp
        try with_reducible rfl
      refine wpAnyN_done (by kernel_rfl) ?_
      simp only [Act.put, List.setIfInBounds_toArray, List.set_cons_succ, List.set_cons_zero]
      have c4 := cN.out w7 F7
      go_wp2_with (refine wpList_load_mid_blk rfl 23 (.tmp 6) rfl hL7 0 rfl (leaf.1.map b8) (fun j v hv => by rw [Nat.zero_add, List.getElem?_toArray]; exact hv) (.array 32 5) (by kernel_rfl) rfl 32 (by kernel_rfl) (by simp [hll]) ?_)
      refine c4.mono ?_
      rintro e w8 ⟨v8, rfl, O8⟩
      have hs7 : r + 1 ≤ w7.heap.size := hL7.lt
      have F8 := F7.trans (O8.bel.mono (by omega))
      have hs8 : r ≤ w8.heap.size := Nat.le_trans (by omega) O8.le
      obtain ⟨a8, n8, rfl, hn8, -, -, hS8⟩ := O8.row.sts
      clear c4 cN hL7 F7 O8 hs7 hn8
      clear w7
      have hyl := y.2
      have hK := Blk.new w8 zero32 23
      go_wp2_with (refine wpList_store_blk rfl 23 _ _ rfl hK (y.1.map b8).toArray rfl rfl 32 (by kernel_rfl) rfl (by simp [hyl]) (by rw [List.toList_toArray]; exact b8_one _) ?_)
      intro w9 hY9 hg9
      have F9 : Below r w w9 := below_upd (F8.alloc hs8 _) hg9 hs8 (alloc_lt _ _)
      have hS9 : Sts w9 a8 sr := Bts.fr hS8 (((Fr.refl (fun _ => False) w8).alloc (.cells zero32 23)).grown hg9 (fun x hx e => by have := Option.some.inj e; omega)) (fun _ _ _ h => h)
      have hs9 : r ≤ w9.heap.size := Nat.le_trans hs8 (Nat.le_trans (Nat.le_of_lt (alloc_lt _ _)) hg9.size)
      clear hK hY9 hg9 hS8 F8 hs8
      generalize w8.heap.size = gz
      clear w8
      have c5 := found_any w9 a8 n8 sr hS9 hsl2
      rw [HSR.out, ← HZN.out] at c5
      go_wp2_with fail
      refine c5.mono ?_
      rintro e w10 ⟨hF, G10⟩
      have F10 := F9.trans (G10.mono hs9)
      rw [HR.out] at F10
      clear c5 F9 G10 hS9 hs9
      cases Z with
      | none =>
        have hF' : e = .returned (.tuple #[.slice none 0 0, .slice none 0 0, .bool false]) := hF
        subst hF'
        clear hF
        go_wp2
        go_ret3
        exact ⟨rfl, F10⟩
      | some s =>
        obtain ⟨a1, p1, a2, p2, rfl, hT1, hT2⟩ := hF
        have HT := Lib.hid (And.intro hT1 hT2)
        clear hT1 hT2
        go_wp2
        go_ret3
        exact ⟨⟨a1, p1, a2, p2, rfl, HT.out.1, HT.out.2⟩, F10⟩
end Go.Proofs.YtadiijieldldhaaDoor
