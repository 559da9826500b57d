/-
  The reference's hashes of entries and of two hashes (layer 16).
-/
import Derived.Test.YtadiijieldldhaaDoorMerkle
import Derived.Test.YtadiijieldldhaaDoorBuild
namespace Go.Proofs.YtadiijieldldhaaDoor
open Go Go.RowKit
attribute [local irreducible] sha
theorem Row.made (w : World) (e sz n : Nat) (cs : List Value) (h : cs.length = n * sz) (hn : n ≤ maxLen) : Row (w.alloc (.cells cs.toArray e)) (.slice (some ⟨w.heap.size, 0, none⟩) n n) e sz n cs :=
  ⟨h, .inr ⟨w.heap.size, 0, n, cs.toArray, rfl, heap_alloc_new w _, Nat.le_refl _, hn, by simp [h], fun j _ => by rw [Nat.zero_add, List.getElem?_toArray]⟩⟩
theorem Own.made {r : Nat} {w wr : World} (hb : Below r w wr) (hr : r ≤ wr.heap.size) (e sz n : Nat) (cs : List Value) (h : cs.length = n * sz) (hn : n ≤ maxLen) : Own r w (wr.alloc (.cells cs.toArray e)) e sz (.slice (some ⟨wr.heap.size, 0, none⟩) n n) n cs :=
  ⟨Row.made wr e sz n cs h hn, fun g hg => by have h1 : wr.heap.size = g := Option.some.inj hg; omega, hb.alloc hr _, by rw [alloc_size]; omega⟩
def textH (a b : Hs) : List B := 1 :: (a.1 ++ b.1)
theorem textH_len (a b : Hs) : (textH a b).length = 65 := by simp [textH, a.2, b.2]
set_option maxRecDepth 100000 in
set_option maxHeartbeats 4000000 in
theorem text_any (w : World) (a b : Hs) : Calls Tryd.prog 54 #[hval a, hval b] w fun e w' => ∃ v, e = .returned v ∧ Own w.heap.size w w' 5 1 v 65 ((textH a b).map b8) := by
  obtain ⟨i0, hi, hz0, hz1, hz2⟩ := info_parts infoU8
  obtain ⟨r, hr⟩ : ∃ r, r = w.heap.size := ⟨_, rfl⟩
  obtain ⟨wa, hwa⟩ : ∃ wa, wa = (w.alloc (.cells (a.1.map b8).toArray 23)).alloc (.cells (b.1.map b8).toArray 23) := ⟨_, rfl⟩
  obtain ⟨w1, hw1⟩ : ∃ w1, w1 = wa.alloc (.cells #[b8 1] 5) := ⟨_, rfl⟩
  have Fa : Below r w wa := by rw [hwa, hr]; exact below_alloc2 _ _ _
  have hsa : wa.heap.size = r + 2 := by rw [hwa, alloc_size, alloc_size, hr]
  have hAa : Blk wa r 23 (a.1.map b8).toArray := by rw [hwa, hr]; exact (Blk.new w _ _).alloc _
  have hBa : Blk wa (r + 1) 23 (b.1.map b8).toArray := by rw [hwa, hr]; exact Blk.new1 w _ _ _
  have O1 : Own r w w1 5 1 (.slice (some ⟨wa.heap.size, 0, none⟩) 1 1) 1 [b8 1] := by rw [hw1]; exact Own.made Fa (by omega) 5 1 1 [b8 1] rfl (by decide)
  rw [hsa] at O1
  have hA1 : Blk w1 r 23 (a.1.map b8).toArray := by rw [hw1]; exact hAa.alloc _
  have hB1 : Blk w1 (r + 1) 23 (b.1.map b8).toArray := by rw [hw1]; exact hBa.alloc _
  have HR := Lib.hid (And.intro (show w1 = ((w.alloc (.cells (a.1.map b8).toArray 23)).alloc (.cells (b.1.map b8).toArray 23)).alloc (.cells #[b8 1] 5) by rw [hw1, hwa]) hr)
  clear hw1 hwa hr hAa hBa hsa Fa
  clear wa
  have hal := a.2
  have hbl := b.2
  go_enter Tryd.func54, Tryd.ntmps54
  go_upto_region 2 with (fail)
  change Code.wp _ _ _ _ (((w.alloc (.cells (a.1.map b8).toArray 23)).alloc (.cells (b.1.map b8).toArray 23)).alloc (.cells #[b8 1] 5))
  rw [← HR.out.1, ← HR.out.2]
  replace HR := Lib.hid HR.out.2
  have hsrc := hA1.bts.src (P := Tryd.prog) (tx := 34) (e' := 5) (by kernel_rfl) 32 32 hal.symm
  go_wp2_with (at_builtin; refine wpList_append_row rfl _ _ 34 34 rfl 5 i0 (.int .u8 0) 1 1 (by kernel_rfl) hi hz0 hz1 hz2 rfl (by decide) O1.row rfl hsrc rfl (by decide) (by decide) ?_)
  intro v2 w2 hrow2 hg2 hv2
  have O2 : Own r w w2 5 1 v2 33 ([b8 1] ++ a.1.map b8) := Own.app O1 hrow2 hg2 hv2
  have hB2 := hB1.grown hg2 (fun e => by have h1 : r + 1 = r + 2 := Option.some.inj e; omega)
  have hne : ∀ g, v2.ownBlock = some g → g ≠ r + 1 := fun g e => by
    rcases hv2 with e1 | ⟨e1, -⟩
    · have h1 : r + 2 = g := Option.some.inj (e1.symm.trans e); omega
    · have h1 : w1.heap.size = g := Option.some.inj (e1.symm.trans e); have := hB1.lt; omega
  clear hrow2 hg2 hv2 O1 hsrc hA1 hB1
  clear w1
  obtain ⟨a2, c2, rfl⟩ := O2.row.shape
  have hsrc := hB2.bts.src (P := Tryd.prog) (tx := 34) (e' := 5) (by kernel_rfl) 32 32 hbl.symm
  go_wp2_with (at_builtin; refine wpList_append_row rfl _ _ 34 34 rfl 5 i0 (.int .u8 0) 1 1 (by kernel_rfl) hi hz0 hz1 hz2 rfl (by decide) O2.row rfl hsrc rfl (by decide) (by decide) ?_)
  intro v3 w3 hrow3 hg3 hv3
  have O3 : Own r w w3 5 1 v3 65 ([b8 1] ++ a.1.map b8 ++ b.1.map b8) := Own.app O2 hrow3 hg3 hv3
  clear hrow3 hg3 hv3 O2 hsrc hB2 hne
  clear w2
  have ht : [b8 1] ++ a.1.map b8 ++ b.1.map b8 = (textH a b).map b8 := by simp [textH]
  rw [ht, HR.out] at O3
  clear ht
  go_wp2
  go_ret
  exact ⟨_, rfl, O3⟩
set_option maxRecDepth 100000 in
set_option maxHeartbeats 4000000 in
theorem refnode_any (w : World) (a b : Hs) :
    Calls Tryd.prog 43 #[hval a, hval b] w fun e w' => e = .returned (hval (nodeH a b)) ∧ Below w.heap.size w w' := by
  obtain ⟨r, hr⟩ : ∃ r, r = w.heap.size := ⟨_, rfl⟩
  obtain ⟨w1, hw1⟩ : ∃ w1, w1 = ((w.alloc (.cells (a.1.map b8).toArray 23)).alloc (.cells (b.1.map b8).toArray 23)).alloc (.cells zero32 23) := ⟨_, rfl⟩
  have F1 : Below r w w1 := by rw [hw1, hr]; exact (below_alloc2 _ _ _).alloc (by rw [alloc_size, alloc_size]; omega) _
  have hA1 : Blk w1 r 23 (a.1.map b8).toArray := by rw [hw1, hr]; exact ((Blk.new w _ _).alloc _).alloc _
  have hB1 : Blk w1 (r + 1) 23 (b.1.map b8).toArray := by rw [hw1, hr]; exact (Blk.new1 w _ _ _).alloc _
  have hR1 : Blk w1 (r + 2) 23 zero32 := by
    have := Blk.new1 (w.alloc (.cells (a.1.map b8).toArray 23)) (.cells (b.1.map b8).toArray 23) zero32 23
    rw [alloc_size] at this
    rw [hw1, hr]; exact this
  have HR := Lib.hid (And.intro hw1 hr)
  clear hw1 hr
  obtain ⟨zs, hzs⟩ : ∃ zs, zs = nodeH a b := ⟨_, rfl⟩
  have hc2 : sha (textH a b) = zs.1 := by rw [hzs]; rfl
  have HC := Lib.hid hc2
  rw [← hzs]
  have hzl := zs.2
  have hal := a.2
  have hbl := b.2
  clear hzs hc2
  go_enter Tryd.func43, Tryd.ntmps43
  go_upto_region 1 with (fail)
  change Code.wp _ _ _ _ (((w.alloc (.cells (a.1.map b8).toArray 23)).alloc (.cells (b.1.map b8).toArray 23)).alloc (.cells zero32 23))
  rw [← HR.out.1, ← HR.out.2]
  replace HR := Lib.hid HR.out.2
  go_wp2_with (first | (refine wpList_load_mid_blk rfl 23 (.tmp 2) rfl hA1 0 rfl (a.1.map b8) (fun j x hx => by rw [Nat.zero_add, List.getElem?_toArray]; exact hx) (.array 32 5) (by kernel_rfl) rfl 32 (by kernel_rfl) (by simp [hal]) ?_) | (refine wpList_load_mid_blk rfl 23 (.tmp 3) rfl hB1 0 rfl (b.1.map b8) (fun j x hx => by rw [Nat.zero_add, List.getElem?_toArray]; exact hx) (.array 32 5) (by kernel_rfl) rfl 32 (by kernel_rfl) (by simp [hbl]) ?_))
  refine (text_any w1 a b).mono ?_
  rintro e w2 ⟨v2, rfl, O2⟩
  have hR2 := hR1.below O2.bel hR1.lt
  have F2 := F1.trans (O2.bel.mono (by have := hR1.lt; omega))
  obtain ⟨a2, c2, rfl, -, -, -, hY2⟩ := O2.row.bts
  obtain ⟨ts, hts⟩ : ∃ ts, ts = textH a b := ⟨_, rfl⟩
  have htl : ts.length = 65 := by rw [hts]; exact textH_len a b
  have hc3 := refsum_any a2 c2 ts w2 (by rw [hts]; exact hY2) (by omega)
  rw [htl, hts, HC.out] at hc3
  clear O2 hY2 F1 hR1 hA1 hB1 hts htl
  go_wp2_with fail
  refine hc3.mono ?_
  rintro e w3 ⟨rfl, G3⟩
  have hR3 := hR2.below G3 hR2.lt
  have F3 := F2.trans (G3.mono (by have := hR2.lt; omega))
  have HF := Lib.hid F3
  clear hc3 hR2 G3 F2 F3
  clear w2 w1
  go_wp2_with (refine wpList_store_blk rfl 23 _ _ rfl hR3 (zs.1.map b8).toArray rfl rfl 32 (by kernel_rfl) (by simp) (by simp [hzl]) (by rw [List.toList_toArray]; exact b8_one _) ?_)
  intro w4 hR4 hg4
  have F4 : Below r w w4 := below_upd HF.out hg4 (by omega) hR3.lt
  rw [HR.out] at F4
  clear hg4 hR3
  go_wp2
  exact (ret_blk rfl hR4 rfl (.array 32 5) (by kernel_rfl) rfl 32 (by kernel_rfl) (by simp [hzl]) ⟨rfl, F4⟩).2
end Go.Proofs.YtadiijieldldhaaDoor
