/-
  The hashes of entries and of two hashes: merkle.Leaf, merkle.Node, and the reference's.
-/
import Derived.Test.YtadiijieldldhaaDoorHs
import Derived.Test.YtadiijieldldhaaDoorDag
namespace Go.Proofs.YtadiijieldldhaaDoor
open Go Go.RowKit
attribute [local irreducible] sha
theorem hs_len (h : Hs) : h.1.length = 32 := h.2
theorem Blk.bts {w : World} {b T : Nat} {xs : List B} (h : Blk w b T (xs.map b8).toArray) : Bts w (some ⟨b, 0, none⟩) xs := Bts.of fun j hj => by
  rw [Nat.zero_add, h.cell j]; simp [List.getD, hj]
theorem Parts.three' {w : World} {ao ao1 ao2 ao3 : Option Addr} {cp1 cp2 cp3 : Nat} {bs cs ds : List B} {b : Nat} (hb : ao = some ⟨b, 0, none⟩) (h1 : w.cell? ⟨b, 0, none⟩ = some (.slice ao1 bs.length cp1)) (h2 : w.cell? ⟨b, 1, none⟩ = some (.slice ao2 cs.length cp2)) (h3 : w.cell? ⟨b, 2, none⟩ = some (.slice ao3 ds.length cp3))
    (hB : Bts w ao1 bs) (hC : Bts w ao2 cs) (hD : Bts w ao3 ds) : Parts w ao [(ao1, cp1, bs), (ao2, cp2, cs), (ao3, cp3, ds)] := by
  refine ⟨.inr ⟨b, 0, hb, fun i h => ?_⟩, fun p hp => ?_⟩
  · have : i = 0 ∨ i = 1 ∨ i = 2 := by simp at h; omega
    rcases this with rfl | rfl | rfl
    · exact h1
    · exact h2
    · exact h3
  · rcases (show p = (ao1, cp1, bs) ∨ p = (ao2, cp2, cs) ∨ p = (ao3, cp3, ds) by simpa using hp) with rfl | rfl | rfl
    · exact hB
    · exact hC
    · exact hD
set_option maxRecDepth 100000 in
set_option maxHeartbeats 4000000 in
theorem leaf_any (w : World) (hL : Laid w) (ao : Option Addr) (cp : Nat) (bs : List B) (hB : Bts w ao bs) (hl : bs.length ≤ 1000000) :
    Calls Tryd.prog 34 #[.slice ao bs.length cp] w fun e w' => e = .returned (hval (leafH bs)) ∧ Below w.heap.size w w' := by
  obtain ⟨r, hr⟩ : ∃ r, r = w.heap.size := ⟨_, rfl⟩
  obtain ⟨w1, hw1⟩ : ∃ w1, w1 = (w.alloc (.cells zero32 23)).alloc (.cells #[b8 0] 5) := ⟨_, rfl⟩
  have F1 : Below r w w1 := by rw [hw1, hr]; exact below_alloc2 _ _ _
  have hR1 : Blk w1 r 23 zero32 := by rw [hw1, hr]; exact (Blk.new w _ _).alloc _
  have hY1 : Bts w1 (some ⟨r + 1, 0, none⟩) [0] := by
    have := Bts.one (w.alloc (.cells zero32 23)) 0 (b8 0) 5 rfl
    rw [alloc_size] at this
    rw [hw1, hr]; exact this
  have hs1 : w1.heap.size = r + 2 := by rw [hw1, alloc_size, alloc_size, hr]
  have HR := Lib.hid (And.intro hw1 hr)
  have hc := sum_two_any (cp := 1) (cp2 := cp) w1 (hL.below F1 (by omega)) hY1 (hB.below F1 (by omega)) (by simp; omega)
  clear hw1 hr
  obtain ⟨zs, hzs⟩ : ∃ zs, zs = leafH bs := ⟨_, rfl⟩
  have hc2 : sha ([0] ++ bs) = zs.1 := by rw [hzs]; rfl
  rw [hc2] at hc
  rw [← hzs]
  have hzl := zs.2
  clear hzs hc2
  go_enter Tryd.func34, Tryd.ntmps34
  go_wp2_with fail
  change Calls _ _ _ (((w.alloc (.cells zero32 23)).alloc (.cells #[b8 0] 5)).alloc (.cells #[.slice (some ⟨w.heap.size + 1, 0, none⟩) 1 1, .slice ao bs.length cp] 34)) _
  rw [← HR.out.1, ← HR.out.2, show r + 1 + 1 = w1.heap.size by omega]
  refine hc.mono ?_
  rintro e w2 ⟨rfl, G2⟩
  have hR2 := hR1.below G2 hR1.lt
  have F2 := F1.trans (G2.mono (by omega))
  have HF := Lib.hid F2
  clear hc hR1 G2 F1 F2 hY1 hs1
  go_wp2_with (refine wpList_store_blk rfl 23 _ _ rfl hR2 (zs.1.map b8).toArray rfl rfl 32 (by kernel_rfl) (by simp) (by simp [hzl]) (by rw [List.toList_toArray]; exact b8_one _) ?_)
  intro w3 hR3 hg3
  have F3 : Below r w w3 := below_upd HF.out hg3 (Nat.le_refl _) hR2.lt
  rw [HR.out.2] at F3
  clear hg3 hR2
  go_wp2
  exact (ret_blk rfl hR3 rfl (.array 32 5) (by kernel_rfl) rfl 32 (by kernel_rfl) (by simp [hzl]) ⟨rfl, F3⟩).2
set_option maxRecDepth 100000 in
set_option maxHeartbeats 4000000 in
theorem node_any (w : World) (hL : Laid w) (a b : Hs) :
    Calls Tryd.prog 31 #[hval a, hval b] w fun e w' => e = .returned (hval (nodeH a b)) ∧ Below w.heap.size w w' := by
  obtain ⟨r, hr⟩ : ∃ r, r = w.heap.size := ⟨_, rfl⟩
  obtain ⟨w1, hw1⟩ : ∃ w1, w1 = ((w.alloc (.cells (a.1.map b8).toArray 23)).alloc (.cells (b.1.map b8).toArray 23)).alloc (.cells zero32 23) := ⟨_, rfl⟩
  have F1 : Below r w w1 := by rw [hw1, hr]; exact (below_alloc2 _ _ _).alloc (by rw [alloc_size, alloc_size]; omega) _
  have hA1 : Blk w1 r 23 (a.1.map b8).toArray := by rw [hw1, hr]; exact ((Blk.new w _ _).alloc _).alloc _
  have hB1 : Blk w1 (r + 1) 23 (b.1.map b8).toArray := by rw [hw1, hr]; exact (Blk.new1 w _ _ _).alloc _
  have hR1 : Blk w1 (r + 2) 23 zero32 := by
    have := Blk.new1 (w.alloc (.cells (a.1.map b8).toArray 23)) (.cells (b.1.map b8).toArray 23) zero32 23
    rw [alloc_size] at this
    rw [hw1, hr]; exact this
  have hs1 : w1.heap.size = r + 3 := by rw [hw1, alloc_size, alloc_size, alloc_size, hr]
  have HR := Lib.hid (And.intro hw1 hr)
  clear hw1 hr
  obtain ⟨zs, hzs⟩ : ∃ zs, zs = nodeH a b := ⟨_, rfl⟩
  have hc2 : sha (1 :: (a.1 ++ b.1)) = zs.1 := by rw [hzs]; rfl
  have HC := Lib.hid hc2
  rw [← hzs]
  have hzl := zs.2
  have hal := a.2
  have hbl := b.2
  clear hzs hc2
  go_enter Tryd.func31, Tryd.ntmps31
  go_upto_region 1 with (fail)
  change Code.wp _ _ _ _ (((w.alloc (.cells (a.1.map b8).toArray 23)).alloc (.cells (b.1.map b8).toArray 23)).alloc (.cells zero32 23))
  rw [← HR.out.1, ← HR.out.2]
  refine wp_region_N (fun _ => True) [] (by kernel_rfl) ?_
  obtain ⟨wd, hwd⟩ : ∃ wd, wd = w1.drew := ⟨_, rfl⟩
  replace hA1 : Blk wd r 23 (a.1.map b8).toArray := by rw [hwd]; exact hA1
  replace hB1 : Blk wd (r + 1) 23 (b.1.map b8).toArray := by rw [hwd]; exact hB1
  replace hR1 : Blk wd (r + 2) 23 zero32 := by rw [hwd]; exact hR1
  replace F1 : Below r w wd := by rw [hwd]; exact F1.drew
  replace hs1 : wd.heap.size = r + 3 := by rw [hwd]; exact hs1
  rw [← hwd]
  clear hwd
  replace HR := Lib.hid (And.intro trivial HR.out.2)
  clear w1
  refine wpAnyN_pureG 1 6 (v := ?_) rfl rfl (by kernel_rfl) (by kernel_rfl) (by kernel_rfl) (fun _ _ _ h => h) rfl (fun w => ?_) ?_
  rotate_left
  · go_simp
    try with_reducible rfl
  refine wpAnyN_pureG 2 7 (v := ?_) rfl rfl (by kernel_rfl) (by kernel_rfl) (by kernel_rfl) (fun _ _ _ h => h) rfl (fun w => ?_) ?_
  rotate_left
  · go_simp
    try with_reducible rfl
  refine wpAnyN_run 0 (some 5) (v := .slice (some ⟨wd.heap.size, 0, none⟩) 1 1) (w' := wd.alloc (.cells #[b8 1] 5)) (by kernel_rfl) rfl rfl rfl ?_ ⟨fun _ _ => trivial, ?_⟩
  · go_simp; rfl
  have W1 := below_alloc1 wd (.cells #[b8 1] 5)
  have hY1 := Bts.one wd 1 _ 5 rfl
  obtain ⟨we, hwe⟩ : ∃ we, we = wd.alloc (.cells #[b8 1] 5) := ⟨_, rfl⟩
  rw [← hwe] at hY1 W1 ⊢
  have hze : we.heap.size = r + 4 := by rw [hwe, alloc_size, hs1]
  have hA2 := hA1.below W1 hA1.lt
  have hB2 := hB1.below W1 hB1.lt
  have hR2 := hR1.below W1 hR1.lt
  have F2 := F1.trans (W1.mono (by omega))
  rw [hs1] at hY1 ⊢
  clear hwe hA1 hB1 hR1 F1 W1 hs1
  clear wd
  refine wpAnyN_run 3 (some 8) (v := .slice (some ⟨we.heap.size, 0, none⟩) 3 3) (w' := we.alloc (.cells #[.slice (some ⟨r + 3, 0, none⟩) 1 1, .slice (some ⟨r, 0, none⟩) 32 32, .slice (some ⟨r + 1, 0, none⟩) 32 32] 34)) (by kernel_rfl) rfl rfl rfl ?_ ⟨fun _ _ => trivial, ?_⟩
  · go_simp
  have W2 := below_alloc1 we (.cells #[.slice (some ⟨r + 3, 0, none⟩) 1 1, .slice (some ⟨r, 0, none⟩) 32 32, .slice (some ⟨r + 1, 0, none⟩) 32 32] 34)
  have hC := Blk.new we #[.slice (some ⟨r + 3, 0, none⟩) 1 1, .slice (some ⟨r, 0, none⟩) 32 32, .slice (some ⟨r + 1, 0, none⟩) 32 32] 34
  obtain ⟨wf, hwf⟩ : ∃ wf, wf = we.alloc (.cells #[.slice (some ⟨r + 3, 0, none⟩) 1 1, .slice (some ⟨r, 0, none⟩) 32 32, .slice (some ⟨r + 1, 0, none⟩) 32 32] 34) := ⟨_, rfl⟩
  rw [← hwf] at hC W2 ⊢
  have hA3 := hA2.below W2 hA2.lt
  have hB3 := hB2.below W2 hB2.lt
  have hR3 := hR2.below W2 hR2.lt
  have hY3 := hY1.below W2 (Nat.le_refl _)
  have F3 := F2.trans (W2.mono (by omega))
  have hP : Parts wf (some ⟨we.heap.size, 0, none⟩) [(some ⟨r + 3, 0, none⟩, 1, [1]), (some ⟨r, 0, none⟩, 32, a.1), (some ⟨r + 1, 0, none⟩, 32, b.1)] :=
    Parts.three' rfl (hC.cell 0) (by rw [hal]; exact hC.cell 1) (by rw [hbl]; exact hC.cell 2) hY3 hA3.bts hB3.bts
  have hcat : cat [(some (⟨r + 3, 0, none⟩ : Addr), 1, ([1] : List B)), (some ⟨r, 0, none⟩, 32, a.1), (some ⟨r + 1, 0, none⟩, 32, b.1)] = 1 :: (a.1 ++ b.1) := by simp [cat]
  have h1 := sums_any (some ⟨we.heap.size, 0, none⟩) 3 _ wf (hL.below F3 (by rw [HR.out.2]; exact Nat.le_refl _)) hP (by rw [hcat]; simp [hal, hbl]) (by simp)
  rw [hcat, HC.out] at h1
  refine wpAnyN_call 4 46 (some 9) [.tmp 8] [.slice (some ⟨we.heap.size, 0, none⟩) 3 3] (by kernel_rfl) rfl rfl rfl rfl (by go_simp) Tryd.call46 ?_
  refine h1.mono ?_
  rintro e wg ⟨rfl, G4⟩
  refine ⟨_, rfl, fun _ _ => trivial, ?_⟩
  have hR4 := hR3.below G4 hR3.lt
  have F4 := F3.trans (G4.mono (by have := W2.size; omega))
  clear h1 hcat hP hY3 hA3 hB3 hR3 F3 G4 hC W2 hwf hY1 hA2 hB2 hR2 F2 hze
  refine wpAnyN_store_blk 5 23 (.tmp 4) (.tmp 9) (by kernel_rfl) rfl rfl rfl rfl hR4 0 (zs.1.map b8).toArray (by go_simp) (by go_simp) 32 (by kernel_rfl) (by simp [hzl]) (by simp) (by rw [List.toList_toArray]; exact b8_one _) (zs.1.map b8).toArray (by simp) ?_
  intro wh hR5 hg5
  have F5 := below_upd F4 hg5 (by omega) hR4.lt
  refine ⟨fun _ _ => trivial, wpAnyN_done (by kernel_rfl) ?_⟩
  rw [HR.out.2] at F5
  clear hg5 F4 hR4
  clear wg
  simp only [Act.put, List.setIfInBounds_toArray, List.set_cons_succ, List.set_cons_zero]
  go_wp2
  exact (ret_blk rfl hR5 rfl (.array 32 5) (by kernel_rfl) rfl 32 (by kernel_rfl) (by simp [hzl]) ⟨rfl, F5⟩).2
end Go.Proofs.YtadiijieldldhaaDoor
