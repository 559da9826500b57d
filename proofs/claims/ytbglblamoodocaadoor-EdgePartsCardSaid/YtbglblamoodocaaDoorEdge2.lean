/-
  A growing tree: Len, Edge and Root.
-/
import Derived.Test.YtbglblamoodocaaDoorEdge
import Derived.Test.YtbglblamoodocaaDoorRef16
import Derived.Lib.SliceRun
namespace Go.Proofs.YtbglblamoodocaaDoor
open Go Go.RowKit
attribute [local irreducible] sha
set_option maxRecDepth 100000 in
theorem tlen_any (w : World) (t : Nat) (v : Value) (l : List Hs) (hT : TreeAt w t v l) :
    Calls Tryd.prog 34 #[.pointer (some ⟨t, 0, none⟩)] w fun e w' => e = .returned (.int .i64 l.length) ∧ w' = w := by
  have c0 : w.cell? ⟨t, 0, none⟩ = some (.int .i64 l.length) := hT.blk.cell 0
  go_enter Tryd.func34, Tryd.ntmps34
  go_wp2
  go_ret
  exact ⟨rfl, rfl⟩
set_option maxRecDepth 100000 in
theorem tlen_nil (w : World) : Calls Tryd.prog 34 #[.pointer none] w fun e w' => e = .returned (.int .i64 0) ∧ w' = w := by
  go_enter Tryd.func34, Tryd.ntmps34
  go_wp2
  go_ret
  exact ⟨rfl, rfl⟩
set_option maxRecDepth 100000 in
set_option maxHeartbeats 4000000 in
theorem clone_any (w : World) (v : Value) (l : List Hs) (hR : Row w v 28 32 l.length ((flat l).map b8)) (hbig : l.length ≤ 1000000) :
    Calls Tryd.prog 47 #[v] w fun e w' => ∃ v', e = .returned v' ∧ OwnH w.heap.size w w' v' l := by
  obtain ⟨i0, hi, hz0, hz1, hz2⟩ := info_parts infoHs
  obtain ⟨r, hr⟩ : ∃ r, r = w.heap.size := ⟨_, rfl⟩
  have q22 : ∀ (w : World) (a : Option Addr) (n c n' c' : Nat), (binOp .eql 32 (.slice a n c) (.slice none n' c')).run Tryd.prog w = .ok (.bool a.isNone) w := fun w a n c n' c' => Lib.run_eql_slice_nil w _ 28 a n c n' c' (by kernel_rfl)
  rcases hR.2 with ⟨rfl, h0⟩ | ⟨g, off, cap, cur, rfl, hg, hr2⟩
  · obtain rfl := List.eq_nil_of_length_eq_zero h0
    go_enter Tryd.func47, Tryd.ntmps47
    go_wp2
    go_ret
    exact ⟨_, rfl, Own.nil _ _ _ rfl⟩
  · obtain ⟨a', c', e', -, -, -, hY⟩ := hR.hts
    cases e'
    have O1 : Own r w (w.alloc (.cells ([] : List Value).toArray 28)) 28 32 (.slice (some ⟨w.heap.size, 0, none⟩) 0 0) 0 [] := Own.made (Below.refl _ _) (by omega) 28 32 0 [] rfl (by decide)
    have hsrc := (hY.below (below_alloc1 w (.cells ([] : List Value).toArray 28)) (Nat.le_refl _)).src l.length cap rfl
    have hl1 : 0 + l.length ≤ maxLen := by simp only [maxLen]; omega
    have hl2 : (0 + l.length) * 32 ≤ 140737488355328 := by omega
    have HR := Lib.hid hr
    clear hr hR hr2 hg hY
    go_enter Tryd.func47, Tryd.ntmps47
    go_wp2_with (at_builtin; refine wpList_append_row rfl _ _ 32 32 rfl 28 i0 (.agg zero32) 32 32 (by kernel_rfl) hi hz0 hz1 hz2 rfl (by decide) O1.row rfl hsrc rfl hl1 hl2 ?_)
    intro v2 w2 hrow2 hg2 hv2
    have O2 : OwnH r w w2 v2 l := OwnH.app (l := []) (k := l) O1 (by simpa [flat_nil] using hrow2) hg2 (by rw [alloc_size]; exact hv2)
    rw [HR.out] at O2
    clear hrow2 hg2 hv2 O1 hsrc hl1 hl2
    go_wp2
    go_ret
    exact ⟨_, rfl, O2⟩
set_option maxRecDepth 100000 in
set_option maxHeartbeats 4000000 in
theorem tedge_any (w : World) (t : Nat) (v : Value) (l : List Hs) (hT : TreeAt w t v l) (hbig : l.length ≤ 1000000) :
    Calls Tryd.prog 35 #[.pointer (some ⟨t, 0, none⟩)] w fun e w' => ∃ v', e = .returned v' ∧ OwnH w.heap.size w w' v' (edgeH l) := by
  have c1 : w.cell? ⟨t, 1, none⟩ = some v := hT.blk.cell 1
  have c := clone_any w v (edgeH l) hT.row (Nat.le_trans (edgeH_small l) hbig)
  obtain ⟨a, cc, rfl⟩ := hT.row.shape
  obtain ⟨q, hq⟩ : ∃ q, q = edgeH l := ⟨_, rfl⟩
  rw [← hq] at c c1 ⊢
  clear hq hT
  go_enter Tryd.func35, Tryd.ntmps35
  go_wp2_with fail
  refine c.mono ?_
  rintro e w' ⟨v', rfl, O⟩
  go_wp2
  go_ret
  exact ⟨_, rfl, O⟩
set_option maxRecDepth 100000 in
theorem tedge_nil (w : World) : Calls Tryd.prog 35 #[.pointer none] w fun e w' => e = .returned (.slice none 0 0) ∧ w' = w := by
  go_enter Tryd.func35, Tryd.ntmps35
  go_wp2
  go_ret
  exact ⟨rfl, rfl⟩
set_option maxRecDepth 100000 in
theorem push_nil (w : World) (h : Hs) : Calls Tryd.prog 38 #[.pointer none, hval h] w fun e w' => e = .returned (.tuple #[]) ∧ Below w.heap.size w w' := by
  have F := below_alloc1 w (.cells (h.1.map b8).toArray 28)
  have HF := Lib.hid F
  clear F
  go_enter Tryd.func38, Tryd.ntmps38
  go_wp2
  exact ⟨rfl, .tuple #[], results_nil Tryd.results38 _ _, rfl, HF.out⟩
def rootEH (E : List Hs) : Hs := Tree.rootE nodeH nilH E
theorem rootEH_edge (l : List Hs) : rootEH (edgeH l) = rootH l := Tree.rootE_edge nodeH nilH _ l (Nat.le_refl _)
theorem rootEH_drop (E : List Hs) (k : Nat) (h : k + 1 < E.length) : rootEH (E.drop k) = nodeH E[k] (rootEH (E.drop (k + 1))) := by
  rw [List.drop_eq_getElem_cons (by omega)]
  exact Tree.rootE_cons nodeH nilH (by intro e; have := congrArg List.length e; simp at this; omega)
set_option maxRecDepth 100000 in
set_option maxHeartbeats 4000000 in
theorem troot_zero (w : World) (hL : Laid w) (p : Option Addr) (hlen : Calls Tryd.prog 34 #[.pointer p] (w.alloc (.cells zero32 28)) fun e w' => e = .returned (.int .i64 0) ∧ w' = w.alloc (.cells zero32 28)) :
    Calls Tryd.prog 37 #[.pointer p] w fun e w' => e = .returned (hval (rootH [])) ∧ Below w.heap.size w w' := by
  obtain ⟨r, hr⟩ : ∃ r, r = w.heap.size := ⟨_, rfl⟩
  obtain ⟨w1, hw1⟩ : ∃ w1, w1 = w.alloc (.cells zero32 28) := ⟨_, rfl⟩
  have F1 : Below r w w1 := by rw [hw1, hr]; exact below_alloc1 _ _
  have hR1 : Blk w1 r 28 zero32 := by rw [hw1, hr]; exact Blk.new w _ _
  rw [← hw1] at hlen
  have HR := Lib.hid (And.intro hw1 hr)
  have c2 := root_any w1 none 0 [] (hL.below F1 (by omega)) (Hts.nil _ _) (Nat.le_refl _) (by decide)
  obtain ⟨zs, hzs⟩ : ∃ zs, zs = rootH [] := ⟨_, rfl⟩
  rw [← hzs] at c2 ⊢
  have hzl := zs.2
  clear hzs hw1 hr
  go_enter Tryd.func37, Tryd.ntmps37
  go_upto_region 1 with (fail)
  change Code.wp _ _ _ _ (w.alloc (.cells zero32 28))
  rw [← HR.out.1, ← HR.out.2]
  replace HR := Lib.hid HR.out.2
  go_wp2_with fail
  refine hlen.mono ?_
  rintro e w' ⟨rfl, hw'⟩
  rw [hw']
  clear hw' hlen
  clear w'
  go_wp2_with fail
  refine c2.mono ?_
  rintro e w2 ⟨rfl, G2⟩
  have hR2 := hR1.below G2 hR1.lt
  have F2 := F1.trans (G2.mono (Nat.le_of_lt hR1.lt))
  have HF := Lib.hid F2
  clear c2 hR1 G2 F1 F2
  go_wp2_with (refine wpList_store_blk rfl 28 _ _ rfl hR2 (zs.1.map b8).toArray rfl rfl 32 (by kernel_rfl) (by simp) (by simp [hzl]) (by rw [List.toList_toArray]; exact b8_one _) ?_)
  intro w3 hR3 hg3
  have F3 : Below r w w3 := below_upd HF.out hg3 (Nat.le_refl _) hR2.lt
  rw [HR.out] at F3
  clear hg3 hR2
  go_wp2
  exact (ret_blk rfl hR3 rfl (.array 32 5) (by kernel_rfl) rfl 32 (by kernel_rfl) (by simp [hzl]) ⟨rfl, F3⟩).2
set_option maxRecDepth 100000 in
set_option maxHeartbeats 4000000 in
theorem troot_any (w : World) (hL : Laid w) (t : Nat) (v : Value) (l : List Hs) (hT : TreeAt w t v l) (hbig : l.length ≤ 1000000) :
    Calls Tryd.prog 37 #[.pointer (some ⟨t, 0, none⟩)] w fun e w' => e = .returned (hval (rootH l)) ∧ Below w.heap.size w w' := by
  have FT := below_alloc1 w (.cells zero32 28)
  have hT0 := hT.below FT
  by_cases h0 : l.length = 0
  · obtain rfl := List.eq_nil_of_length_eq_zero h0
    exact troot_zero w hL _ (tlen_any _ t v [] hT0)
  · obtain ⟨r, hr⟩ : ∃ r, r = w.heap.size := ⟨_, rfl⟩
    obtain ⟨w1, hw1⟩ : ∃ w1, w1 = w.alloc (.cells zero32 28) := ⟨_, rfl⟩
    have F1 : Below r w w1 := by rw [hw1, hr]; exact FT
    have hR1 : Blk w1 r 28 zero32 := by rw [hw1, hr]; exact Blk.new w _ _
    have hs1 : w1.heap.size = r + 1 := by rw [hw1, alloc_size, hr]
    rw [← hw1] at hT0
    have hlen := tlen_any w1 t v l hT0
    obtain ⟨E, hE⟩ : ∃ E, E = edgeH l := ⟨_, rfl⟩
    have hEl : E.length = Tree.bits1 l.length := by rw [hE]; exact edgeH_len l
    have hEr : rootEH E = rootH l := by rw [hE]; exact rootEH_edge l
    have hE0 : E.length ≠ 0 := by
      rw [hE]; unfold edgeH
      rw [Tree.edge_cons nodeH nilH h0]; simp
    have hEb : E.length ≤ 1000000 := by have := bits1_le l.length; omega
    obtain ⟨Z, hZ⟩ : ∃ Z, Z = rootH l := ⟨_, rfl⟩
    rw [← hZ] at hEr ⊢
    have hzl := Z.2
    have hTb := hT0.blk
    have hTr := hT0.row
    rw [← hE] at hTr
    obtain ⟨a, c, rfl, -, hc1, hc2, hY⟩ := hTr.hts
    obtain ⟨g, off, rfl, hg, hrg⟩ := hY.place (by omega)
    have hTlt : t < r := by rw [hr]; exact hT.blk.lt
    have hglt : g < r := by rw [hr]; exact hT.row.lt g rfl
    obtain ⟨n, hn⟩ : ∃ n, E.length = n + 1 := ⟨E.length - 1, by omega⟩
    rw [hn] at hTb
    have c1 : w1.cell? ⟨t, 1, none⟩ = some (.slice (some ⟨g, off, none⟩) (n + 1) c) := hTb.cell 1
    have c1' : ∀ w', Below r w1 w' → w'.cell? ⟨t, 1, none⟩ = some (.slice (some ⟨g, off, none⟩) (n + 1) c) := fun w' h => (h.cell (p := ⟨t, 1, none⟩) hTlt).trans c1
    have hry : ∀ w', Below r w1 w' → ∀ i (hi : i < E.length), w'.rangeAt g (off + i * 32) ((E[i]).1.map b8) := fun w' h i hi j v hv => (h.cell (p := ⟨g, off + i * 32 + j, none⟩) hglt).trans (hrg i hi j v hv)
    have HR := Lib.hid (And.intro hw1 hr)
    have HE := Lib.hid (And.intro hn (And.intro hEr (And.intro c1' hry)))
    have hn1 : n ≤ 1000000 := by omega
    have hnE : n < E.length := by omega
    have hyn := hrg n hnE
    obtain ⟨y, hy⟩ : ∃ y : Hs, y = E[n] := ⟨_, rfl⟩
    rw [← hy] at hyn
    have hyl := y.2
    have hyr : rootEH (E.drop n) = y := by
      rw [List.drop_eq_getElem_cons hnE, List.drop_of_length_le (by omega), hy]; rfl
    have HY := Lib.hid hyr
    have q1 : IntKind.i64.wrap (n : Int) = n := IntWalk.i64_in _ (by omega)
    have q2 : IntKind.i64.wrap ((n : Int) - 1) = (n : Int) - 1 := IntWalk.i64_in _ (by omega)
    have hl0 : ((l.length : Int) == 0) = false := by rw [beq_eq_false_iff_ne]; omega
    clear hw1 hr hT hT0 FT hE hEl hEr hE0 hEb hZ hTb hTr hY hg hrg c1' hry hy hyr h0 hnE
    go_enter Tryd.func37, Tryd.ntmps37
    go_upto_region 1 with (fail)
    change Code.wp _ _ _ _ (w.alloc (.cells zero32 28))
    rw [← HR.out.1, ← HR.out.2]
    replace HR := Lib.hid HR.out.2
    go_wp2_with fail
    refine hlen.mono ?_
    rintro e w' ⟨rfl, hw'⟩
    rw [hw']
    clear hw' hlen hn
    clear w'
    have hB4 : Blk (w1.alloc (.cells zero32 28)) (r + 1) 28 zero32 := by
      have := Blk.new w1 zero32 28
      rw [hs1] at this; exact this
    have hcz := (show c ≤ 9223372036854775807 from hc2)
    go_wp2_with (first | (refine wpList_load_mid rfl 28 _ rfl g (off + n * 32) rfl (y.1.map b8) (.array 32 5) hyn (by kernel_rfl) rfl (by rw [List.length_map, hyl]; kernel_rfl) ?_) | (refine wpList_store_blk rfl 28 _ _ rfl hB4 (y.1.map b8).toArray rfl rfl 32 (by kernel_rfl) rfl (by simp [hyl]) (by rw [List.toList_toArray]; exact b8_one _) ?_))
    intro w3 hB3 hg3
    have hR3 := (hR1.alloc (.cells zero32 28)).grown hg3 (fun e => by have := Option.some.inj e; omega)
    have hss : (w1.alloc (.cells zero32 28)).heap.size = r + 2 := by rw [alloc_size]; omega
    have F3 : Below r w w3 := below_upd (F1.alloc (by omega) (.cells zero32 28)) hg3 (by omega) (by rw [hss]; omega)
    have K3 : Below r w1 w3 := below_upd ((Below.refl r w1).alloc (by omega) (.cells zero32 28)) hg3 (by omega) (by rw [hss]; omega)
    rw [← HY.out] at hB3
    clear hg3 hR1 F1 hB4 hss hyn c1 hs1
    go_wp2
    go_loopg [5] n (fun k x wr => k ≤ n ∧ x = .int .i64 ((k : Int) - 1) ∧ Blk wr r 28 zero32 ∧ Blk wr (r + 1) 28 ((rootEH (E.drop k)).1.map b8).toArray ∧ Below r w wr ∧ Below r w1 wr)
    case atStart => exact ⟨Nat.le_refl _, rfl, hR3, hB3, F3, K3⟩
    case round =>
      clear hB3 hR3 F3 K3
      obtain ⟨hkn, rfl, hR, hB, F, K⟩ := hrel
      by_cases hk0 : gk = 0
      · subst hk0
        have hd : decide ((0 : Int) ≤ ((0 : Nat) : Int) - 1) = false := rfl
        rw [List.drop_zero, HE.out.2.1] at hB
        clear K hkn
        go_wp2_with (first | (refine wpList_load_mid_blk rfl 28 _ rfl hB 0 rfl (Z.1.map b8) (fun j x hx => by rw [Nat.zero_add, List.getElem?_toArray]; exact hx) (.array 32 5) (by kernel_rfl) rfl 32 (by kernel_rfl) (by simp [hzl]) ?_) | (refine wpList_store_blk rfl 28 _ _ rfl hR (Z.1.map b8).toArray rfl rfl 32 (by kernel_rfl) (by simp) (by simp [hzl]) (by rw [List.toList_toArray]; exact b8_one _) ?_))
        intro w4 hR4 hg4
        have F4 : Below r w w4 := below_upd F hg4 (Nat.le_refl _) hR.lt
        rw [HR.out] at F4
        clear hg4 hR
        go_wp2
        exact (ret_blk rfl hR4 rfl (.array 32 5) (by kernel_rfl) rfl 32 (by kernel_rfl) (by simp [hzl]) ⟨rfl, F4⟩).2
      · obtain ⟨j, rfl⟩ : ∃ j, gk = j + 1 := ⟨gk - 1, by omega⟩
        have hcast : ((j + 1 : Nat) : Int) - 1 = (j : Int) := by omega
        rw [hcast]
        have hd : decide ((0 : Int) ≤ (j : Int)) = true := by rw [decide_eq_true_eq]; omega
        have hjE : j + 1 < E.length := by have := HE.out.1; omega
        have hst := rootEH_drop E j hjE
        have c1 := HE.out.2.2.1 wr K
        have hy0 := HE.out.2.2.2 wr K j (by omega)
        obtain ⟨x, hx⟩ : ∃ x : Hs, x = E[j]'(by omega) := ⟨E[j]'(by omega), rfl⟩
        rw [← hx] at hst hy0
        have hxl := x.2
        obtain ⟨hh, hhe⟩ : ∃ hh, hh = rootEH (E.drop (j + 1)) := ⟨_, rfl⟩
        rw [← hhe] at hst hB
        have hhl := hh.2
        have q4 : IntKind.i64.wrap ((j : Int) - 1) = (j : Int) - 1 := IntWalk.i64_in _ (by omega)
        have HU := Lib.hid (And.intro hst (show j ≤ n by omega))
        have hjn : j + 1 ≤ n := hkn
        clear hst hhe hx hcast hjE hkn hk0
        go_upto_region 8 with (fail)
        refine wp_region_N (fun w' => w'.cell? ⟨t, 1, none⟩ = some (.slice (some ⟨g, off, none⟩) (n + 1) c) ∧ w'.rangeAt g (off + j * 32) (x.1.map b8) ∧ Blk w' (r + 1) 28 (hh.1.map b8).toArray) [9] (by kernel_rfl) ?_
        obtain ⟨wd, hwd⟩ : ∃ wd, wd = wr.drew := ⟨_, rfl⟩
        replace hR : Blk wd r 28 zero32 := by rw [hwd]; exact hR
        replace hB : Blk wd (r + 1) 28 (hh.1.map b8).toArray := by rw [hwd]; exact hB
        replace F : Below r w wd := by rw [hwd]; exact F.drew
        replace K : Below r w1 wd := by rw [hwd]; exact K.drew
        replace c1 : wd.cell? ⟨t, 1, none⟩ = some (.slice (some ⟨g, off, none⟩) (n + 1) c) := by rw [hwd]; exact c1
        replace hy0 : wd.rangeAt g (off + j * 32) (x.1.map b8) := by rw [hwd]; exact hy0
        rw [← hwd]
        clear hwd
        clear wr
        refine wpAnyN_pureG 0 29 (v := ?_) rfl rfl (by kernel_rfl) (by kernel_rfl) (by kernel_rfl) (fun _ _ _ h => h) rfl (fun w => ?_) ?_
        rotate_left
        · go_simp
          try with_reducible rfl
        refine wpAnyN_pureG 1 30 (v := .pointer (some ⟨t, 0, none⟩)) rfl rfl (by kernel_rfl) (by kernel_rfl) (by kernel_rfl) (fun _ _ _ h => h) rfl (fun w => ?_) ?_
        · go_simp
        refine wpAnyN_pureG 2 31 (v := .pointer (some ⟨t, 1, none⟩)) rfl rfl (by kernel_rfl) (by kernel_rfl) (by kernel_rfl) (fun _ _ _ h => h) rfl (fun w => ?_) ?_
        · go_simp
        refine wpAnyN_takeG 3 32 (v := .slice (some ⟨g, off, none⟩) (n + 1) c) rfl rfl (by kernel_rfl) (by kernel_rfl) (by kernel_rfl) (by kernel_rfl) (fun _ _ _ h => h) ⟨c1, hy0, hB⟩ rfl (fun w hS => ?_) ?_
        · have h0 := hS.1; go_simp
        refine wpAnyN_pureG 4 33 (v := ?_) rfl rfl (by kernel_rfl) (by kernel_rfl) (by kernel_rfl) (fun _ _ _ h => h) rfl (fun w => ?_) ?_
        rotate_left
        · go_simp
          try with_reducible rfl
        refine wpAnyN_pureG 5 34 (v := .pointer (some ⟨g, off + j * 32, none⟩)) rfl rfl (by kernel_rfl) (by kernel_rfl) (by kernel_rfl) (fun _ _ _ h => h) rfl (fun w => ?_) ?_
        · go_simp
          intro h
          omega
        simp only [Act.put, List.setIfInBounds_toArray, List.set_cons_succ, List.set_cons_zero]
        refine wpAnyN_takeG 6 35 (v := hval x) rfl rfl (by kernel_rfl) (by kernel_rfl) (by kernel_rfl) (by kernel_rfl) (fun _ _ _ h => h) ⟨c1, hy0, hB⟩ rfl (fun w hS => ?_) ?_
        · exact run_load_range 28 _ rfl hS.2.1 (by go_simp) (.array 32 5) (by kernel_rfl) rfl 32 (by kernel_rfl) (by simp [hxl])
        refine wpAnyN_takeG 7 36 (v := hval hh) rfl rfl (by kernel_rfl) (by kernel_rfl) (by kernel_rfl) (by kernel_rfl) (fun _ _ _ h => h) ⟨c1, hy0, hB⟩ rfl (fun w hS => ?_) ?_
        · exact run_load_mid_blk 28 _ rfl hS.2.2 0 (by go_simp) (hh.1.map b8) (fun j v h => by rw [Nat.zero_add, List.getElem?_toArray]; exact h) (.array 32 5) (by kernel_rfl) rfl 32 (by kernel_rfl) (by simp [hhl])
        have c2 := node_any wd (hL.below F (by rw [HR.out]; exact Nat.le_refl _)) x hh
        rw [← HU.out.1] at c2
        obtain ⟨u, hu⟩ : ∃ u, u = rootEH (E.drop j) := ⟨_, rfl⟩
        rw [← hu] at c2
        have hul := u.2
        have HUU := Lib.hid hu
        clear hu
        refine wpAnyN_call 8 22 (some 37) [.tmp 35, .tmp 36] [hval x, hval hh] (by kernel_rfl) rfl rfl rfl rfl (by go_simp) Tryd.call22 ?_
        refine c2.mono ?_
        rintro e w2 ⟨rfl, G2⟩
        have hR2 := hR.below G2 hR.lt
        have hB2 := hB.below G2 hB.lt
        have hsz : r ≤ wd.heap.size := Nat.le_of_lt hR.lt
        have F2 := F.trans (G2.mono hsz)
        have K2 := K.trans (G2.mono hsz)
        refine ⟨_, rfl, fun _ h => ⟨(G2.cell (p := ⟨t, 1, none⟩) (show t < wd.heap.size by omega)).trans c1, fun i v hv => (G2.cell (p := ⟨g, off + j * 32 + i, none⟩) (show g < wd.heap.size by omega)).trans (hy0 i v hv), hB.below G2 hB.lt⟩, ?_⟩
        clear c2 hR hB F K G2 c1 hy0 hsz
        clear wd
        refine wpAnyN_store_blk 9 28 (.tmp 4) (.tmp 37) (by kernel_rfl) rfl rfl rfl rfl hB2 0 (u.1.map b8).toArray (by go_simp) (by go_simp) 32 (by kernel_rfl) (by simp [hul]) (by simp [hhl]) (by rw [List.toList_toArray]; exact b8_one _) (u.1.map b8).toArray (by simp [hhl]) ?_
        intro w3 hB3 hg3
        have hR3 := hR2.grown hg3 (fun e => by have := Option.some.inj e; omega)
        have F3 := below_upd F2 hg3 (by omega) hB2.lt
        have K3 := below_upd K2 hg3 (by omega) hB2.lt
        refine ⟨fun h _ => absurd (by simp) h, wpAnyN_done (by kernel_rfl) ?_⟩
        clear hg3 hR2 hB2 F2 K2
        clear w2
        simp only [Act.put, List.setIfInBounds_toArray, List.set_cons_succ, List.set_cons_zero]
        go_wp2
        go_roundg j
        case measure => omega
        case rel => exact ⟨HU.out.2, rfl, hR3, by rw [← HUU.out]; exact hB3, F3, K3⟩
end Go.Proofs.YtbglblamoodocaaDoor
