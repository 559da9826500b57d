/-
  Where a proof leads: the reference's Two (layer 19).
-/
import Derived.Test.YtadiijieldldhaaDoorLeads
import Derived.Test.YtadiijieldldhaaDoorRegT
namespace Go.Proofs.YtadiijieldldhaaDoor
open Go Go.RowKit
attribute [local irreducible] sha
abbrev twoH (m n : Nat) (whole : Bool) (old : Hs) (p : List Hs) : (Hs × Hs) × Bool := Tree.twoR nodeH m n whole old p.reverse
theorem twoH_whole (m : Nat) (old : Hs) (p : List Hs) : twoH m m true old p = ((old, old), decide (p.length = 0)) := by
  unfold twoH
  rw [← List.length_reverse]
  cases p.reverse with
  | nil => rw [Tree.twoR, if_pos rfl]; rfl
  | cons x r => rw [Tree.twoR, if_pos rfl]; simp
theorem twoH_one (m : Nat) (old x : Hs) : twoH m m false old [x] = ((x, x), true) := by
  unfold twoH
  rw [List.reverse_singleton, Tree.twoR, if_pos rfl]; simp
theorem twoH_not (m : Nat) (old : Hs) (p : List Hs) (h : p.length ≠ 1) : twoH m m false old p = ((old, old), false) := by
  unfold twoH
  rw [← List.length_reverse] at h
  cases hp : p.reverse with
  | nil => rw [Tree.twoR, if_pos rfl]; rfl
  | cons x r =>
    rw [hp, List.length_cons] at h
    rw [Tree.twoR, if_pos rfl, if_neg (by simp), if_neg (by omega)]
theorem twoH_nil {m n : Nat} {whole : Bool} {old : Hs} (h : m ≠ n) : twoH m n whole old [] = ((old, old), false) := by
  unfold twoH; rw [List.reverse_nil, Tree.twoR, if_neg h]
theorem twoH_lo {m n : Nat} {whole : Bool} {old x : Hs} {q : List Hs} (h : m ≠ n) (hm : m ≤ Tree.split n) : twoH m n whole old (q ++ [x]) = (((twoH m (Tree.split n) whole old q).1.1, nodeH (twoH m (Tree.split n) whole old q).1.2 x), (twoH m (Tree.split n) whole old q).2) := by
  unfold twoH; rw [List.reverse_append, List.reverse_singleton, List.singleton_append, Tree.twoR, if_neg h, if_pos hm]
theorem twoH_hi {m n : Nat} {whole : Bool} {old x : Hs} {q : List Hs} (h : m ≠ n) (hm : ¬ m ≤ Tree.split n) : twoH m n whole old (q ++ [x]) = ((nodeH x (twoH (m - Tree.split n) (n - Tree.split n) false old q).1.1, nodeH x (twoH (m - Tree.split n) (n - Tree.split n) false old q).1.2), (twoH (m - Tree.split n) (n - Tree.split n) false old q).2) := by
  unfold twoH; rw [List.reverse_append, List.reverse_singleton, List.singleton_append, Tree.twoR, if_neg h, if_neg hm]
theorem results_two_tmp {P : Program} {fn : Func} {p q s : Tmp} {ty : TypeId} (h : fn.results = #[.cell p ty, .cell q ty, .tmp s]) (tmps : Array Value) (w : World) (g g2 : Nat) (t : TypeId) (cs cs2 : Array Value) (fr : Nat × Nat) (d : TypeDesc)
    (hp : tmps.getD p undef = .pointer (some ⟨g, 0, none⟩)) (hg : w.heap[g]? = some (.cells cs t fr)) (hq : tmps.getD q undef = .pointer (some ⟨g2, 0, none⟩)) (hg2 : w.heap[g2]? = some (.cells cs2 t fr))
    (hu : P.underlying ty = some d) (hd : (match d with | .struct _ | .array _ _ => true | _ => false) = true) (hi : (P.info? ty).map (·.size) = some cs.size) (hi2 : (P.info? ty).map (·.size) = some cs2.size) :
    (results fn tmps).run P w = .ok (.tuple #[.agg cs, .agg cs2, tmps.getD s undef]) w := by
  have hp' : tmps[p]?.getD undef = .pointer (some ⟨g, 0, none⟩) := by simpa using hp
  have hq' : tmps[q]?.getD undef = .pointer (some ⟨g2, 0, none⟩) := by simpa using hq
  simp [results, h, hp', hq', asAddr, run_loadVar_row w g t ty cs fr d hg hu hd hi, run_loadVar_row w g2 t ty cs2 fr d hg2 hu hd hi2]
theorem ret_two_tmp {P : Program} {fn : Func} {R : Ending → World → Prop} {tmps : Array Value} {w : World} {p q s : Tmp} {ty b b2 T : Nat} {cs cs2 : Array Value} {v : Value} (h : fn.results = #[.cell p ty, .cell q ty, .tmp s]) (hb : Blk w b T cs) (hp : tmps.getD p undef = .pointer (some ⟨b, 0, none⟩)) (hb2 : Blk w b2 T cs2) (hq : tmps.getD q undef = .pointer (some ⟨b2, 0, none⟩)) (hs : tmps.getD s undef = v)
    (d : TypeDesc) (hu : P.underlying ty = some d) (hd : (match d with | .struct _ | .array _ _ => true | _ => false) = true) (n : Nat) (hn : (P.info? ty).map (·.size) = some n) (hc : cs.size = n) (hc2 : cs2.size = n) (hR : R (.returned (.tuple #[.agg cs, .agg cs2, v])) w) :
    bodyPost P fn R .normal ⟨tmps, []⟩ w ∧ bodyPost P fn R .ret ⟨tmps, []⟩ w := by
  subst hs
  exact ⟨bodyPost_end (results_two_tmp h tmps w b b2 T cs cs2 _ d hp hb hq hb2 hu hd (by rw [hc]; exact hn) (by rw [hc2]; exact hn)) rfl hR, bodyPost_ret (results_two_tmp h tmps w b b2 T cs cs2 _ d hp hb hq hb2 hu hd (by rw [hc]; exact hn) (by rw [hc2]; exact hn)) rfl hR⟩
set_option maxRecDepth 100000 in
set_option maxHeartbeats 16000000 in
theorem reftwo_aux (N : Nat) : ∀ (w : World) (m n : Nat) (whole : Bool) (old : Hs) (ao : Option Addr) (cp : Nat) (p : List Hs), p.length < N → Hts w ao p → p.length ≤ cp → cp ≤ maxLen → 1 ≤ m → m ≤ n → n ≤ 9223372036854775807 →
    Calls Tryd.prog 28 #[.int .i64 m, .int .i64 n, .bool whole, hval old, .slice ao p.length cp] w fun e w' => e = .returned (.tuple #[hval (twoH m n whole old p).1.1, hval (twoH m n whole old p).1.2, .bool (twoH m n whole old p).2]) ∧ Below w.heap.size w w' := by
  induction N with
  | zero => intro w m n whole old ao cp p h; omega
  | succ N ih =>
    intro w m n whole old ao cp p hN hB hc hm hm1 hmn hn
    obtain ⟨r, hr⟩ : ∃ r, r = w.heap.size := ⟨_, rfl⟩
    obtain ⟨w1, hw1⟩ : ∃ w1, w1 = ((w.alloc (.cells (old.1.map b8).toArray 23)).alloc (.cells zero32 23)).alloc (.cells zero32 23) := ⟨_, rfl⟩
    have F1 : Below r w w1 := by rw [hw1, hr]; exact (below_alloc2 _ _ _).alloc (by rw [alloc_size, alloc_size]; omega) _
    have hL1 : Blk w1 r 23 (old.1.map b8).toArray := by rw [hw1, hr]; exact ((Blk.new w _ _).alloc _).alloc _
    have hR1 : Blk w1 (r + 1) 23 zero32 := by rw [hw1, hr]; exact (Blk.new1 w _ _ _).alloc _
    have hS1 : Blk w1 (r + 2) 23 zero32 := by
      rw [hw1, hr]
      have h := Blk.new1 (w.alloc (.cells (old.1.map b8).toArray 23)) (.cells zero32 23) zero32 23
      rw [alloc_size] at h
      exact h
    have hll := old.2
    have HR := Lib.hid (And.intro hw1 hr)
    have hr0 : w.heap.size ≤ r := by omega
    have HR0 := Lib.hid hr0
    clear hw1 hr hr0
    obtain ⟨i0, hi, hz0, hz1, hz2⟩ := info_parts infoHs
    have hm0 : cp ≤ 9223372036854775807 := hm
    by_cases h1 : m = n
    · subst h1
      have hd : ((m : Int) == (m : Int)) = true := by simp
      cases whole with
      | true =>
        obtain ⟨q, hq⟩ : ∃ q, q = decide (p.length = 0) := ⟨_, rfl⟩
        have hq0 : ((p.length : Int) == 0) = q := by rw [hq, Bool.eq_iff_iff, beq_iff_eq, decide_eq_true_eq]; omega
        rw [twoH_whole, ← hq]
        clear hq
        go_enter Tryd.func28, Tryd.ntmps28
        go_upto_region 1 with (fail)
        change Code.wp _ _ _ _ (((w.alloc (.cells (old.1.map b8).toArray 23)).alloc (.cells zero32 23)).alloc (.cells zero32 23))
        rw [← HR.out.1, ← HR.out.2]
        replace HR := Lib.hid HR.out.2
        go_upto_region 3 with (fail)
        refine wp_region_N (fun w' => Blk w' r 23 (old.1.map b8).toArray) [] (by kernel_rfl) ?_
        obtain ⟨wd, hwd⟩ : ∃ wd, wd = w1.drew := ⟨_, rfl⟩
        replace hL1 : Blk wd r 23 (old.1.map b8).toArray := by rw [hwd]; exact hL1
        replace hR1 : Blk wd (r + 1) 23 zero32 := by rw [hwd]; exact hR1
        replace hS1 : Blk wd (r + 2) 23 zero32 := by rw [hwd]; exact hS1
        replace F1 : Below r w wd := by rw [hwd]; exact F1.drew
        rw [← hwd]
        clear hwd
        clear w1
        refine wpAnyN_takeG 0 26 (v := hval old) rfl rfl (by kernel_rfl) (by kernel_rfl) (by kernel_rfl) (by kernel_rfl) (fun _ _ _ h => h) hL1 rfl (fun w hS => ?_) ?_
        · exact run_load_mid_blk 23 (.tmp 8) rfl hS 0 (by go_simp) (old.1.map b8) (fun j v h => by rw [Nat.zero_add, List.getElem?_toArray]; exact h) (.array 32 5) (by kernel_rfl) rfl 32 (by kernel_rfl) (by simp [hll])
        refine wpAnyN_takeG 1 27 (v := hval old) rfl rfl (by kernel_rfl) (by kernel_rfl) (by kernel_rfl) (by kernel_rfl) (fun _ _ _ h => h) hL1 rfl (fun w hS => ?_) ?_
        · exact run_load_mid_blk 23 (.tmp 8) rfl hS 0 (by go_simp) (old.1.map b8) (fun j v h => by rw [Nat.zero_add, List.getElem?_toArray]; exact h) (.array 32 5) (by kernel_rfl) rfl 32 (by kernel_rfl) (by simp [hll])
        refine wpAnyN_pureG 2 28 (v := ?_) rfl rfl (by kernel_rfl) (by kernel_rfl) (by kernel_rfl) (fun _ _ _ h => h) rfl (fun w => ?_) ?_
        rotate_left
        · go_simp
          try with_reducible rfl
        simp only [Act.put, List.setIfInBounds_toArray, List.set_cons_succ, List.set_cons_zero]
        refine wpAnyN_pureG 3 29 (v := ?_) rfl rfl (by kernel_rfl) (by kernel_rfl) (by kernel_rfl) (fun _ _ _ h => h) rfl (fun w => ?_) ?_
        rotate_left
        · go_simp
          try with_reducible rfl
        simp only [Act.put, List.setIfInBounds_toArray, List.set_cons_succ, List.set_cons_zero]
        refine wpAnyN_pureG 4 30 (v := ?_) rfl rfl (by kernel_rfl) (by kernel_rfl) (by kernel_rfl) (fun _ _ _ h => h) rfl (fun w => ?_) ?_
        rotate_left
        · go_simp
          try with_reducible rfl
        simp only [Act.put, List.setIfInBounds_toArray, List.set_cons_succ, List.set_cons_zero]
        refine wpAnyN_store_blk 5 23 (.tmp 10) (.tmp 26) (by kernel_rfl) rfl rfl rfl rfl hR1 0 (old.1.map b8).toArray (by go_simp) (by go_simp) 32 (by kernel_rfl) (by simp [hll]) (by simp) (by rw [List.toList_toArray]; exact b8_one _) (old.1.map b8).toArray (by simp) ?_
        intro w3 hR3 hg3
        have hS3 := hS1.grown hg3 (fun e => by have := Option.some.inj e; omega)
        have F3 := below_upd F1 hg3 (by omega) hR1.lt
        refine ⟨fun _ h => h.grown hg3 (fun e => by have := Option.some.inj e; omega), ?_⟩
        clear hg3 hR1 hS1 F1 hL1
        clear wd
        refine wpAnyN_store_blk 6 23 (.tmp 11) (.tmp 27) (by kernel_rfl) rfl rfl rfl rfl hS3 0 (old.1.map b8).toArray (by go_simp) (by go_simp) 32 (by kernel_rfl) (by simp [hll]) (by simp) (by rw [List.toList_toArray]; exact b8_one _) (old.1.map b8).toArray (by simp) ?_
        intro w4 hS4 hg4
        have hR4 := hR3.grown hg4 (fun e => by have := Option.some.inj e; omega)
        have F4 := below_upd F3 hg4 (by omega) hS3.lt
        refine ⟨fun _ h => h.grown hg4 (fun e => by have := Option.some.inj e; omega), ?_⟩
        clear hg4 hS3 hR3 F3
        clear w3
        refine wpAnyN_pureG 7 12 (v := ?_) rfl rfl (by kernel_rfl) (by kernel_rfl) (by kernel_rfl) (fun _ _ _ h => h) rfl (fun w => ?_) ?_
        rotate_left
        · go_simp
          try with_reducible rfl
        simp only [Act.put, List.setIfInBounds_toArray, List.set_cons_succ, List.set_cons_zero]
        refine wpAnyN_done (by kernel_rfl) ?_
        rw [HR.out] at F4
        go_wp2
        exact (ret_two_tmp rfl hR4 rfl hS4 rfl rfl (.array 32 5) (by kernel_rfl) rfl 32 (by kernel_rfl) (by simp [hll]) (by simp [hll]) ⟨rfl, F4⟩).2
      | false =>
        by_cases h2 : p.length = 1
        · obtain ⟨x, rfl⟩ := List.length_eq_one_iff.1 h2
          have hd3 : (((([x] : List Hs).length : Nat) : Int) != 1) = false := rfl
          obtain ⟨g, off, rfl, hg, hrg⟩ := hB.place (by simp)
          have hy0 := hrg 0 (by simp)
          rw [Nat.zero_mul, Nat.add_zero, List.getElem_cons_zero] at hy0
          have HY := Lib.hid (And.intro hy0 hg)
          have hxl := x.2
          rw [twoH_one]
          clear hrg hy0 hg hB ih hc hN
          go_enter Tryd.func28, Tryd.ntmps28
          go_upto_region 1 with (fail)
          change Code.wp _ _ _ _ (((w.alloc (.cells (old.1.map b8).toArray 23)).alloc (.cells zero32 23)).alloc (.cells zero32 23))
          rw [← HR.out.1, ← HR.out.2]
          replace HR := Lib.hid HR.out.2
          go_upto_region 6 with (fail)
          refine wp_region_N (fun w' => w'.rangeAt g off (x.1.map b8)) [] (by kernel_rfl) ?_
          obtain ⟨wd, hwd⟩ : ∃ wd, wd = w1.drew := ⟨_, rfl⟩
          replace hL1 : Blk wd r 23 (old.1.map b8).toArray := by rw [hwd]; exact hL1
          replace hR1 : Blk wd (r + 1) 23 zero32 := by rw [hwd]; exact hR1
          replace hS1 : Blk wd (r + 2) 23 zero32 := by rw [hwd]; exact hS1
          replace F1 : Below r w wd := by rw [hwd]; exact F1.drew
          rw [← hwd]
          clear hwd
          clear w1
          have hy := range_below HY.out.1 F1 (Nat.lt_of_lt_of_le HY.out.2 HR0.out)
          refine wpAnyN_pureG 0 36 (v := ?_) rfl rfl (by kernel_rfl) (by kernel_rfl) (by kernel_rfl) (fun _ _ _ h => h) rfl (fun w => ?_) ?_
          rotate_left
          · go_simp
            try with_reducible rfl
          refine wpAnyN_pureG 3 39 (v := ?_) rfl rfl (by kernel_rfl) (by kernel_rfl) (by kernel_rfl) (fun _ _ _ h => h) rfl (fun w => ?_) ?_
          rotate_left
          · go_simp
            try with_reducible rfl
          refine wpAnyN_pureG 1 37 (v := .pointer (some ⟨g, off, none⟩)) rfl rfl (by kernel_rfl) (by kernel_rfl) (by kernel_rfl) (fun _ _ _ h => h) rfl (fun w => ?_) ?_
          · go_simp
          refine wpAnyN_pureG 4 40 (v := .pointer (some ⟨g, off, none⟩)) rfl rfl (by kernel_rfl) (by kernel_rfl) (by kernel_rfl) (fun _ _ _ h => h) rfl (fun w => ?_) ?_
          · go_simp
          simp only [Act.put, List.setIfInBounds_toArray, List.set_cons_succ, List.set_cons_zero]
          refine wpAnyN_takeG 2 38 (v := hval x) rfl rfl (by kernel_rfl) (by kernel_rfl) (by kernel_rfl) (by kernel_rfl) (fun _ _ _ h => h) hy rfl (fun w hS => ?_) ?_
          · exact run_load_range 23 _ rfl hS (by go_simp) (.array 32 5) (by kernel_rfl) rfl 32 (by kernel_rfl) (by simp [hxl])
          refine wpAnyN_takeG 5 41 (v := hval x) rfl rfl (by kernel_rfl) (by kernel_rfl) (by kernel_rfl) (by kernel_rfl) (fun _ _ _ h => h) hy rfl (fun w hS => ?_) ?_
          · exact run_load_range 23 _ rfl hS (by go_simp) (.array 32 5) (by kernel_rfl) rfl 32 (by kernel_rfl) (by simp [hxl])
          simp only [Act.put, List.setIfInBounds_toArray, List.set_cons_succ, List.set_cons_zero]
          refine wpAnyN_store_blk 6 23 (.tmp 10) (.tmp 38) (by kernel_rfl) rfl rfl rfl rfl hR1 0 (x.1.map b8).toArray (by go_simp) (by go_simp) 32 (by kernel_rfl) (by simp [hxl]) (by simp) (by rw [List.toList_toArray]; exact b8_one _) (x.1.map b8).toArray (by simp) ?_
          intro w3 hR3 hg3
          have hS3 := hS1.grown hg3 (fun e => by have := Option.some.inj e; omega)
          have F3 := below_upd F1 hg3 (by omega) hR1.lt
          refine ⟨fun _ h => range_grown h hg3 (Nat.lt_of_lt_of_le HY.out.2 (Nat.le_trans HR0.out (by have := hR1.lt; omega))) (by have := HY.out.2; have := HR0.out; omega), ?_⟩
          clear hg3 hR1 hS1 F1 hL1 hy
          clear wd
          refine wpAnyN_store_blk 7 23 (.tmp 11) (.tmp 41) (by kernel_rfl) rfl rfl rfl rfl hS3 0 (x.1.map b8).toArray (by go_simp) (by go_simp) 32 (by kernel_rfl) (by simp [hxl]) (by simp) (by rw [List.toList_toArray]; exact b8_one _) (x.1.map b8).toArray (by simp) ?_
          intro w4 hS4 hg4
          have hR4 := hR3.grown hg4 (fun e => by have := Option.some.inj e; omega)
          have F4 := below_upd F3 hg4 (by omega) hS3.lt
          refine ⟨fun _ h => range_grown h hg4 (Nat.lt_of_lt_of_le HY.out.2 (Nat.le_trans HR0.out (by have := hS3.lt; omega))) (by have := HY.out.2; have := HR0.out; omega), ?_⟩
          clear hg4 hS3 hR3 F3
          clear w3
          refine wpAnyN_pureG 8 12 (v := ?_) rfl rfl (by kernel_rfl) (by kernel_rfl) (by kernel_rfl) (fun _ _ _ h => h) rfl (fun w => ?_) ?_
          rotate_left
          · go_simp
            try with_reducible rfl
          simp only [Act.put, List.setIfInBounds_toArray, List.set_cons_succ, List.set_cons_zero]
          refine wpAnyN_done (by kernel_rfl) ?_
          rw [HR.out] at F4
          go_wp2
          exact (ret_two_tmp rfl hR4 rfl hS4 rfl rfl (.array 32 5) (by kernel_rfl) rfl 32 (by kernel_rfl) (by simp [hxl]) (by simp [hxl]) ⟨rfl, F4⟩).2
        · have hd3 : ((p.length : Int) != 1) = true := by rw [bne_iff_ne]; omega
          rw [twoH_not m old p h2]
          go_enter Tryd.func28, Tryd.ntmps28
          go_upto_region 1 with (fail)
          change Code.wp _ _ _ _ (((w.alloc (.cells (old.1.map b8).toArray 23)).alloc (.cells zero32 23)).alloc (.cells zero32 23))
          rw [← HR.out.1, ← HR.out.2]
          replace HR := Lib.hid HR.out.2
          go_upto_region 5 with (fail)
          refine wp_region_N (fun w' => Blk w' r 23 (old.1.map b8).toArray) [] (by kernel_rfl) ?_
          obtain ⟨wd, hwd⟩ : ∃ wd, wd = w1.drew := ⟨_, rfl⟩
          replace hL1 : Blk wd r 23 (old.1.map b8).toArray := by rw [hwd]; exact hL1
          replace hR1 : Blk wd (r + 1) 23 zero32 := by rw [hwd]; exact hR1
          replace hS1 : Blk wd (r + 2) 23 zero32 := by rw [hwd]; exact hS1
          replace F1 : Below r w wd := by rw [hwd]; exact F1.drew
          rw [← hwd]
          clear hwd
          clear w1
          refine wpAnyN_takeG 0 34 (v := hval old) rfl rfl (by kernel_rfl) (by kernel_rfl) (by kernel_rfl) (by kernel_rfl) (fun _ _ _ h => h) hL1 rfl (fun w hS => ?_) ?_
          · exact run_load_mid_blk 23 (.tmp 8) rfl hS 0 (by go_simp) (old.1.map b8) (fun j v h => by rw [Nat.zero_add, List.getElem?_toArray]; exact h) (.array 32 5) (by kernel_rfl) rfl 32 (by kernel_rfl) (by simp [hll])
          refine wpAnyN_takeG 1 35 (v := hval old) rfl rfl (by kernel_rfl) (by kernel_rfl) (by kernel_rfl) (by kernel_rfl) (fun _ _ _ h => h) hL1 rfl (fun w hS => ?_) ?_
          · exact run_load_mid_blk 23 (.tmp 8) rfl hS 0 (by go_simp) (old.1.map b8) (fun j v h => by rw [Nat.zero_add, List.getElem?_toArray]; exact h) (.array 32 5) (by kernel_rfl) rfl 32 (by kernel_rfl) (by simp [hll])
          simp only [Act.put, List.setIfInBounds_toArray, List.set_cons_succ, List.set_cons_zero]
          refine wpAnyN_store_blk 2 23 (.tmp 10) (.tmp 34) (by kernel_rfl) rfl rfl rfl rfl hR1 0 (old.1.map b8).toArray (by go_simp) (by go_simp) 32 (by kernel_rfl) (by simp [hll]) (by simp) (by rw [List.toList_toArray]; exact b8_one _) (old.1.map b8).toArray (by simp) ?_
          intro w3 hR3 hg3
          have hS3 := hS1.grown hg3 (fun e => by have := Option.some.inj e; omega)
          have F3 := below_upd F1 hg3 (by omega) hR1.lt
          refine ⟨fun _ h => h.grown hg3 (fun e => by have := Option.some.inj e; omega), ?_⟩
          clear hg3 hR1 hS1 F1 hL1
          clear wd
          refine wpAnyN_store_blk 3 23 (.tmp 11) (.tmp 35) (by kernel_rfl) rfl rfl rfl rfl hS3 0 (old.1.map b8).toArray (by go_simp) (by go_simp) 32 (by kernel_rfl) (by simp [hll]) (by simp) (by rw [List.toList_toArray]; exact b8_one _) (old.1.map b8).toArray (by simp) ?_
          intro w4 hS4 hg4
          have hR4 := hR3.grown hg4 (fun e => by have := Option.some.inj e; omega)
          have F4 := below_upd F3 hg4 (by omega) hS3.lt
          refine ⟨fun _ h => h.grown hg4 (fun e => by have := Option.some.inj e; omega), ?_⟩
          clear hg4 hS3 hR3 F3
          clear w3
          refine wpAnyN_pureG 4 12 (v := ?_) rfl rfl (by kernel_rfl) (by kernel_rfl) (by kernel_rfl) (fun _ _ _ h => h) rfl (fun w => ?_) ?_
          rotate_left
          · go_simp
            try with_reducible rfl
          simp only [Act.put, List.setIfInBounds_toArray, List.set_cons_succ, List.set_cons_zero]
          refine wpAnyN_done (by kernel_rfl) ?_
          rw [HR.out] at F4
          go_wp2
          exact (ret_two_tmp rfl hR4 rfl hS4 rfl rfl (.array 32 5) (by kernel_rfl) rfl 32 (by kernel_rfl) (by simp [hll]) (by simp [hll]) ⟨rfl, F4⟩).2
    · have hd : ((m : Int) == (n : Int)) = false := by rw [beq_eq_false_iff_ne]; omega
      rcases List.eq_nil_or_concat p with rfl | ⟨q, x, rfl⟩
      · have hd1 : (((([] : List Hs).length : Nat) : Int) == 0) = true := rfl
        rw [twoH_nil h1]
        go_enter Tryd.func28, Tryd.ntmps28
        go_upto_region 1 with (fail)
        change Code.wp _ _ _ _ (((w.alloc (.cells (old.1.map b8).toArray 23)).alloc (.cells zero32 23)).alloc (.cells zero32 23))
        rw [← HR.out.1, ← HR.out.2]
        replace HR := Lib.hid HR.out.2
        go_upto_region 8 with (fail)
        refine wp_region_N (fun w' => Blk w' r 23 (old.1.map b8).toArray) [] (by kernel_rfl) ?_
        obtain ⟨wd, hwd⟩ : ∃ wd, wd = w1.drew := ⟨_, rfl⟩
        replace hL1 : Blk wd r 23 (old.1.map b8).toArray := by rw [hwd]; exact hL1
        replace hR1 : Blk wd (r + 1) 23 zero32 := by rw [hwd]; exact hR1
        replace hS1 : Blk wd (r + 2) 23 zero32 := by rw [hwd]; exact hS1
        replace F1 : Below r w wd := by rw [hwd]; exact F1.drew
        rw [← hwd]
        clear hwd
        clear w1
        refine wpAnyN_takeG 0 45 (v := hval old) rfl rfl (by kernel_rfl) (by kernel_rfl) (by kernel_rfl) (by kernel_rfl) (fun _ _ _ h => h) hL1 rfl (fun w hS => ?_) ?_
        · exact run_load_mid_blk 23 (.tmp 8) rfl hS 0 (by go_simp) (old.1.map b8) (fun j v h => by rw [Nat.zero_add, List.getElem?_toArray]; exact h) (.array 32 5) (by kernel_rfl) rfl 32 (by kernel_rfl) (by simp [hll])
        refine wpAnyN_takeG 1 46 (v := hval old) rfl rfl (by kernel_rfl) (by kernel_rfl) (by kernel_rfl) (by kernel_rfl) (fun _ _ _ h => h) hL1 rfl (fun w hS => ?_) ?_
        · exact run_load_mid_blk 23 (.tmp 8) rfl hS 0 (by go_simp) (old.1.map b8) (fun j v h => by rw [Nat.zero_add, List.getElem?_toArray]; exact h) (.array 32 5) (by kernel_rfl) rfl 32 (by kernel_rfl) (by simp [hll])
        simp only [Act.put, List.setIfInBounds_toArray, List.set_cons_succ, List.set_cons_zero]
        refine wpAnyN_store_blk 2 23 (.tmp 10) (.tmp 45) (by kernel_rfl) rfl rfl rfl rfl hR1 0 (old.1.map b8).toArray (by go_simp) (by go_simp) 32 (by kernel_rfl) (by simp [hll]) (by simp) (by rw [List.toList_toArray]; exact b8_one _) (old.1.map b8).toArray (by simp) ?_
        intro w3 hR3 hg3
        have hS3 := hS1.grown hg3 (fun e => by have := Option.some.inj e; omega)
        have F3 := below_upd F1 hg3 (by omega) hR1.lt
        refine ⟨fun _ h => h.grown hg3 (fun e => by have := Option.some.inj e; omega), ?_⟩
        clear hg3 hR1 hS1 F1 hL1
        clear wd
        refine wpAnyN_store_blk 3 23 (.tmp 11) (.tmp 46) (by kernel_rfl) rfl rfl rfl rfl hS3 0 (old.1.map b8).toArray (by go_simp) (by go_simp) 32 (by kernel_rfl) (by simp [hll]) (by simp) (by rw [List.toList_toArray]; exact b8_one _) (old.1.map b8).toArray (by simp) ?_
        intro w4 hS4 hg4
        have hR4 := hR3.grown hg4 (fun e => by have := Option.some.inj e; omega)
        have F4 := below_upd F3 hg4 (by omega) hS3.lt
        refine ⟨fun _ h => h.grown hg4 (fun e => by have := Option.some.inj e; omega), ?_⟩
        clear hg4 hS3 hR3 F3
        clear w3
        refine wpAnyN_pureG 4 12 (v := ?_) rfl rfl (by kernel_rfl) (by kernel_rfl) (by kernel_rfl) (fun _ _ _ h => h) rfl (fun w => ?_) ?_
        rotate_left
        · go_simp
          try with_reducible rfl
        simp only [Act.put, List.setIfInBounds_toArray, List.set_cons_succ, List.set_cons_zero]
        refine wpAnyN_done (by kernel_rfl) ?_
        rw [HR.out] at F4
        go_wp2
        exact (ret_two_tmp rfl hR4 rfl hS4 rfl rfl (.array 32 5) (by kernel_rfl) rfl 32 (by kernel_rfl) (by simp [hll]) (by simp [hll]) ⟨rfl, F4⟩).2
      · rw [List.concat_eq_append] at hN hB hc ⊢
        have hxl := x.2
        have hlen : (q ++ [x]).length = q.length + 1 := by simp
        have hat : (q ++ [x])[q.length]'(by rw [hlen]; omega) = x := by simp
        obtain ⟨g, off, rfl, hg, hrg⟩ := hB.place (by rw [hlen]; omega)
        have hy0 := hrg q.length (by rw [hlen]; omega)
        rw [hat] at hy0
        obtain ⟨a6, hs6, -, ht6⟩ := run_upto_hts (P := Tryd.prog) (t := 24) (by kernel_rfl) hi (some ⟨g, off, none⟩) (q.length + 1) cp q.length (by omega)
        have hQ := ht6 w _ hB
        rw [List.take_left] at hQ
        have hk1 := Tree.split_lt (n := n) (by omega)
        have hk0 := Tree.split_pos (n := n) (by omega)
        have hsp := refsplit_any w1 (n : Int) (by omega) (by omega)
        rw [Int.toNat_natCast] at hsp
        have hd1 : ((q.length : Int) + 1 == 0) = false := by rw [beq_eq_false_iff_ne]; omega
        have hd1' : (((q.length + 1 : Nat) : Int) == 0) = false := by rw [beq_eq_false_iff_ne]; omega
        have qw : IntKind.i64.wrap (q.length : Int) = q.length := IntWalk.i64_in _ (by rw [hlen] at hc; omega)
        rw [hlen] at hc hN ⊢
        have HY := Lib.hid (And.intro hy0 hg)
        have HQ := Lib.hid hQ
        clear hrg hat hlen hB hQ hy0 hg ht6
        by_cases hmk : m ≤ Tree.split n
        · have hlo := twoH_lo (m := m) (n := n) (whole := whole) (old := old) (x := x) (q := q) h1 hmk
          rw [hlo]
          clear hlo
          obtain ⟨k, hk⟩ : ∃ k, k = Tree.split n := ⟨_, rfl⟩
          rw [← hk] at hk1 hk0 hsp hmk ⊢
          have hd2 : decide ((m : Int) ≤ (k : Int)) = true := by rw [decide_eq_true_eq]; omega
          have ihc : ∀ W, Below r w W → Calls Tryd.prog 28 #[.int .i64 m, .int .i64 k, .bool whole, hval old, .slice a6 q.length cp] W fun e w' => e = .returned (.tuple #[hval (twoH m k whole old q).1.1, hval (twoH m k whole old q).1.2, .bool (twoH m k whole old q).2]) ∧ Below W.heap.size W w' := fun W hW => ih W m k whole old a6 cp q (by omega) (HQ.out.below hW HR0.out) (by omega) hm hm1 hmk (by omega)
          obtain ⟨y, hy⟩ : ∃ y, y = (twoH m k whole old q).1.1 := ⟨_, rfl⟩
          obtain ⟨z, hz⟩ : ∃ z, z = (twoH m k whole old q).1.2 := ⟨_, rfl⟩
          obtain ⟨o, ho⟩ : ∃ o, o = (twoH m k whole old q).2 := ⟨_, rfl⟩
          rw [← hy, ← hz, ← ho] at ihc ⊢
          clear hk hy hz ho
          obtain ⟨v, hv⟩ : ∃ v, v = nodeH z x := ⟨_, rfl⟩
          rw [← hv]
          have HV := Lib.hid hv
          have hvl := v.2
          clear hv
          have hyl := y.2
          have hzl := z.2
          replace ihc := Lib.hid ihc
          clear ih HQ
          go_enter Tryd.func28, Tryd.ntmps28
          go_upto_region 1 with (fail)
          change Code.wp _ _ _ _ (((w.alloc (.cells (old.1.map b8).toArray 23)).alloc (.cells zero32 23)).alloc (.cells zero32 23))
          rw [← HR.out.1, ← HR.out.2]
          replace HR := Lib.hid HR.out.2
          go_wp2_with fail
          refine hsp.mono ?_
          rintro e w2 ⟨rfl, hw2⟩
          rw [hw2]
          clear hsp hw2
          clear w2
          have hx1 : w1.rangeAt g (off + q.length * 32) (x.1.map b8) := range_below HY.out.1 F1 (Nat.lt_of_lt_of_le HY.out.2 HR0.out)
          go_wp2_with (first | (refine wpList_load_mid rfl 23 _ rfl g (off + q.length * 32) rfl (x.1.map b8) (.array 32 5) hx1 (by kernel_rfl) rfl (by rw [List.length_map, hxl]; kernel_rfl) ?_) | (refine wpList_store_blk rfl 23 _ _ rfl (Blk.new w1 zero32 23) (x.1.map b8).toArray rfl rfl 32 (by kernel_rfl) rfl (by simp [hxl]) (by rw [List.toList_toArray]; exact b8_one _) ?_))
          intro w2 hX2 hg2
          obtain ⟨bx, hbx⟩ : ∃ bx, bx = w1.heap.size := ⟨_, rfl⟩
          have hbr : r + 3 ≤ bx := by have := hS1.lt; omega
          have hL2 := (hL1.alloc (.cells zero32 23)).grown hg2 (fun e => by have := Option.some.inj e; omega)
          have hR2 := (hR1.alloc (.cells zero32 23)).grown hg2 (fun e => by have := Option.some.inj e; omega)
          have hS2 := (hS1.alloc (.cells zero32 23)).grown hg2 (fun e => by have := Option.some.inj e; omega)
          have F2 : Below r w w2 := below_upd (F1.alloc (by omega) (.cells zero32 23)) hg2 (by omega) (alloc_lt _ _)
          rw [← hbx] at hX2 ⊢
          clear hbx hg2 hL1 hR1 hS1 F1 hx1
          clear w1
          go_upto_region 13 with (fail)
          refine wp_region_N (fun w' => Blk w' r 23 (old.1.map b8).toArray) [] (by kernel_rfl) ?_
          obtain ⟨wd, hwd⟩ : ∃ wd, wd = w2.drew := ⟨_, rfl⟩
          have hL1 : Blk wd r 23 (old.1.map b8).toArray := by rw [hwd]; exact hL2
          have hR1 : Blk wd (r + 1) 23 zero32 := by rw [hwd]; exact hR2
          have hS1 : Blk wd (r + 2) 23 zero32 := by rw [hwd]; exact hS2
          have hX1 : Blk wd bx 23 (x.1.map b8).toArray := by rw [hwd]; exact hX2
          have F1 : Below r w wd := by rw [hwd]; exact F2.drew
          rw [← hwd]
          clear hwd hL2 hR2 hS2 hX2 F2
          clear w2
          refine wpAnyN_pureG 0 60 (v := ?_) rfl rfl (by kernel_rfl) (by kernel_rfl) (by kernel_rfl) (fun _ _ _ h => h) rfl (fun w => ?_) ?_
          rotate_left
          · go_simp
            try with_reducible rfl
          refine wpAnyN_pureG 1 61 (v := ?_) rfl rfl (by kernel_rfl) (by kernel_rfl) (by kernel_rfl) (fun _ _ _ h => h) rfl (fun w => ?_) ?_
          rotate_left
          · go_simp
            try with_reducible rfl
          refine wpAnyN_pureG 2 62 (v := ?_) rfl rfl (by kernel_rfl) (by kernel_rfl) (by kernel_rfl) (fun _ _ _ h => h) rfl (fun w => ?_) ?_
          rotate_left
          · go_simp
            try with_reducible rfl
          refine wpAnyN_pureG 4 64 (v := ?_) rfl rfl (by kernel_rfl) (by kernel_rfl) (by kernel_rfl) (fun _ _ _ h => h) rfl (fun w => ?_) ?_
          rotate_left
          · go_simp
            try with_reducible rfl
          refine wpAnyN_pureG 5 65 (v := ?_) rfl rfl (by kernel_rfl) (by kernel_rfl) (by kernel_rfl) (fun _ _ _ h => h) rfl (fun w => ?_) ?_
          rotate_left
          · go_simp
            try with_reducible rfl
          simp only [Act.put, List.setIfInBounds_toArray, List.set_cons_succ, List.set_cons_zero]
          refine wpAnyN_pureG 6 66 (v := ?_) rfl rfl (by kernel_rfl) (by kernel_rfl) (by kernel_rfl) (fun _ _ _ h => h) rfl (fun w => ?_) ?_
          rotate_left
          · go_simp
            try with_reducible rfl
          simp only [Act.put, List.setIfInBounds_toArray, List.set_cons_succ, List.set_cons_zero]
          refine wpAnyN_takeG 3 63 (v := hval old) rfl rfl (by kernel_rfl) (by kernel_rfl) (by kernel_rfl) (by kernel_rfl) (fun _ _ _ h => h) hL1 rfl (fun w hS => ?_) ?_
          · exact run_load_mid_blk 23 (.tmp 8) rfl hS 0 (by go_simp) (old.1.map b8) (fun j v h => by rw [Nat.zero_add, List.getElem?_toArray]; exact h) (.array 32 5) (by kernel_rfl) rfl 32 (by kernel_rfl) (by simp [hll])
          simp only [Act.put, List.setIfInBounds_toArray, List.set_cons_succ, List.set_cons_zero]
          have hsz : bx + 1 ≤ wd.heap.size := hX1.lt
          refine wpAnyN_callOr 7 28 (some 67) [.tmp 60, .tmp 61, .tmp 62, .tmp 63, .tmp 66] [.int .i64 m, .int .i64 k, .bool whole, hval old, .slice a6 q.length cp] [12, 13] (by kernel_rfl) rfl rfl rfl rfl (by go_simp) Tryd.call28 ?_ ⟨⟨_, .pointer (some ⟨wd.heap.size, 0, none⟩), wd.alloc (.cells zero32 23), rfl, rfl, by go_simp, fun _ h => h.alloc _, ?_⟩, ⟨_, .pointer (some ⟨wd.heap.size, 0, none⟩), wd.alloc (.cells zero32 23), rfl, rfl, by go_simp, fun _ h => h.alloc _, ?_⟩, trivial⟩
          · have hRwd := hR1
            have hSwd := hS1
            have hXwd := hX1
            have Fwd := F1
            clear hR1 hS1 hX1 F1 hL1 hsz
            refine (ihc.out wd Fwd).mono ?_
            rintro e wc ⟨rfl, Gwc⟩
            refine ⟨_, rfl, fun _ h => h.below Gwc h.lt, ?_⟩
            have hRwc := hRwd.below Gwc hRwd.lt
            have hSwc := hSwd.below Gwc hSwd.lt
            have hXwc := hXwd.below Gwc hXwd.lt
            have Fwc : Below r w wc := Fwd.trans (Gwc.mono (Nat.le_trans (by omega) (Nat.le_of_lt hXwd.lt)))
            clear hRwd hSwd hXwd Fwd Gwc
            clear wd
            refine wpAnyN_pureG 8 59 (v := ?_) rfl rfl (by kernel_rfl) (by kernel_rfl) (by kernel_rfl) (fun _ _ _ h => h) rfl (fun w => ?_) ?_
            rotate_left
            · go_simp
              try with_reducible rfl
            simp only [Act.put, List.setIfInBounds_toArray, List.set_cons_succ, List.set_cons_zero]
            refine wpAnyN_pureG 9 68 (v := ?_) rfl rfl (by kernel_rfl) (by kernel_rfl) (by kernel_rfl) (fun _ _ _ h => h) rfl (fun w => ?_) ?_
            rotate_left
            · go_simp
              try with_reducible rfl
            refine wpAnyN_pureG 10 69 (v := ?_) rfl rfl (by kernel_rfl) (by kernel_rfl) (by kernel_rfl) (fun _ _ _ h => h) rfl (fun w => ?_) ?_
            rotate_left
            · go_simp
              try with_reducible rfl
            refine wpAnyN_pureG 11 70 (v := ?_) rfl rfl (by kernel_rfl) (by kernel_rfl) (by kernel_rfl) (fun _ _ _ h => h) rfl (fun w => ?_) ?_
            rotate_left
            · go_simp
              try with_reducible rfl
            simp only [Act.put, List.setIfInBounds_toArray, List.set_cons_succ, List.set_cons_zero]
            have hszc : bx + 1 ≤ wc.heap.size := hXwc.lt
            refine wpAnyN_dag2 [12, 13] (fun i => match i with | 12 => some 16 | 13 => some 17 | _ => none) (fun _ => []) (fun i v w => match i with
              | 12 => PtrC 23 zero32 v w
              | 13 => PtrC 23 zero32 v w
              | _ => True) (fun i => i == 12 || i == 13) (g := 3) (by kernel_rfl) (by kernel_rfl) rfl
              ⟨fun _ _ _ hb h => PtrC.below hb h, fun _ _ _ hb h => PtrC.below hb h, trivial⟩
              (fun w w' hb h => h.below hb h.lt) ⟨?_, ?_, trivial⟩ ?_
            · intro vs w hb _ o ho
              cases ho
              simp only [putsD]
              refine vwp_run rfl (v := .pointer (some ⟨w.heap.size, 0, none⟩)) (w' := w.alloc (.cells zero32 23)) ?_ ⟨below_alloc1 _ _, ⟨_, rfl, Blk.new _ _ _⟩, fun _ => ⟨_, rfl, Nat.le_refl _, alloc_lt _ _⟩⟩
              go_simp
            · intro vs w hb _ o ho
              cases ho
              simp only [putsD]
              refine vwp_run rfl (v := .pointer (some ⟨w.heap.size, 0, none⟩)) (w' := w.alloc (.cells zero32 23)) ?_ ⟨below_alloc1 _ _, ⟨_, rfl, Blk.new _ _ _⟩, fun _ => ⟨_, rfl, Nat.le_refl _, alloc_lt _ _⟩⟩
              go_simp
            · intro vs wz hb hR hne hfr
              obtain ⟨⟨ba, h12, hAz⟩, ⟨bb, h13, hBz⟩, -⟩ := hR
              have hne2 := hne 12 (by simp) 13 (by simp) (by decide) rfl rfl
              rw [h12, h13] at hne2
              have hab : ba ≠ bb := fun e => hne2 (by rw [e])
              obtain ⟨x1, hx1, hx1', -⟩ := hfr 12 (by simp) rfl
              rw [h12] at hx1
              obtain rfl : ba = x1 := Option.some.inj hx1
              obtain ⟨x2, hx2, hx2', -⟩ := hfr 13 (by simp) rfl
              rw [h13] at hx2
              obtain rfl : bb = x2 := Option.some.inj hx2
              have hbax : bx + 1 ≤ ba := by omega
              have hbbx : bx + 1 ≤ bb := by omega
              have hRz := hRwc.below hb hRwc.lt
              have hSz := hSwc.below hb hSwc.lt
              have hXz := hXwc.below hb hXwc.lt
              have Fz : Below r w wz := Fwc.trans (hb.mono (by omega))
              simp only [putsD]
              rw [h12, h13]
              clear hne hfr hne2 hx1 hx1' hx2 hx2' h12 h13 hb hRwc hSwc hXwc Fwc hszc
              clear wc
              simp only [Act.put, List.setIfInBounds_toArray, List.set_cons_succ, List.set_cons_zero]
              refine wpAnyN_store_blk 14 23 (.tmp 16) (.tmp 68) (by kernel_rfl) rfl rfl rfl rfl hAz 0 (y.1.map b8).toArray (by go_simp) (by go_simp) 32 (by kernel_rfl) (by simp [hyl]) (by simp) (by rw [List.toList_toArray]; exact b8_one _) (y.1.map b8).toArray (by simp) ?_
              intro w3 hA3 hg3
              have hB3 := hBz.grown hg3 (fun e => hab (Option.some.inj e).symm)
              have hR3 := hRz.grown hg3 (fun e => by have := Option.some.inj e; omega)
              have hS3 := hSz.grown hg3 (fun e => by have := Option.some.inj e; omega)
              have hX3 := hXz.grown hg3 (fun e => by have := Option.some.inj e; omega)
              have F3 := below_upd Fz hg3 (by omega) hAz.lt
              refine ⟨fun _ h => h.grown hg3 (fun e => by have := Option.some.inj e; omega), ?_⟩
              clear hg3 hAz hBz hRz hSz hXz Fz
              clear wz
              refine wpAnyN_store_blk 15 23 (.tmp 17) (.tmp 69) (by kernel_rfl) rfl rfl rfl rfl hB3 0 (z.1.map b8).toArray (by go_simp) (by go_simp) 32 (by kernel_rfl) (by simp [hzl]) (by simp) (by rw [List.toList_toArray]; exact b8_one _) (z.1.map b8).toArray (by simp) ?_
              intro w4 hB4 hg4
              have hA4 := hA3.grown hg4 (fun e => hab (Option.some.inj e))
              have hR4 := hR3.grown hg4 (fun e => by have := Option.some.inj e; omega)
              have hS4 := hS3.grown hg4 (fun e => by have := Option.some.inj e; omega)
              have hX4 := hX3.grown hg4 (fun e => by have := Option.some.inj e; omega)
              have F4 := below_upd F3 hg4 (by omega) hB3.lt
              refine ⟨fun _ h => h.grown hg4 (fun e => by have := Option.some.inj e; omega), ?_⟩
              clear hg4 hA3 hB3 hR3 hS3 hX3 F3
              clear w3
              refine wpAnyN_pureG 16 18 (v := ?_) rfl rfl (by kernel_rfl) (by kernel_rfl) (by kernel_rfl) (fun _ _ _ h => h) rfl (fun w => ?_) ?_
              rotate_left
              · go_simp
                try with_reducible rfl
              simp only [Act.put, List.setIfInBounds_toArray, List.set_cons_succ, List.set_cons_zero]
              refine wpAnyN_done (by kernel_rfl) ?_
              go_upto_region 14 with (fail)
              refine wp_region_N (fun w' => Blk w' ba 23 (y.1.map b8).toArray ∧ Blk w' bb 23 (z.1.map b8).toArray ∧ Blk w' bx 23 (x.1.map b8).toArray) [] (by kernel_rfl) ?_
              obtain ⟨wd, hwd⟩ : ∃ wd, wd = w4.drew := ⟨_, rfl⟩
              have hT : Blk wd ba 23 (y.1.map b8).toArray ∧ Blk wd bb 23 (z.1.map b8).toArray ∧ Blk wd bx 23 (x.1.map b8).toArray := by rw [hwd]; exact ⟨hA4, hB4, hX4⟩
              have hR1 : Blk wd (r + 1) 23 zero32 := by rw [hwd]; exact hR4
              have hS1 : Blk wd (r + 2) 23 zero32 := by rw [hwd]; exact hS4
              have F1 : Below r w wd := by rw [hwd]; exact F4.drew
              rw [← hwd]
              clear hwd hA4 hB4 hX4 hR4 hS4 F4
              clear w4
              refine wpAnyN_takeG 0 71 (v := hval y) rfl rfl (by kernel_rfl) (by kernel_rfl) (by kernel_rfl) (by kernel_rfl) (fun _ _ _ h => h) hT rfl (fun w hS => ?_) ?_
              · exact run_load_mid_blk 23 (.tmp 16) rfl hS.1 0 (by go_simp) (y.1.map b8) (fun j v h => by rw [Nat.zero_add, List.getElem?_toArray]; exact h) (.array 32 5) (by kernel_rfl) rfl 32 (by kernel_rfl) (by simp [hyl])
              refine wpAnyN_takeG 1 72 (v := hval z) rfl rfl (by kernel_rfl) (by kernel_rfl) (by kernel_rfl) (by kernel_rfl) (fun _ _ _ h => h) hT rfl (fun w hS => ?_) ?_
              · exact run_load_mid_blk 23 (.tmp 17) rfl hS.2.1 0 (by go_simp) (z.1.map b8) (fun j v h => by rw [Nat.zero_add, List.getElem?_toArray]; exact h) (.array 32 5) (by kernel_rfl) rfl 32 (by kernel_rfl) (by simp [hzl])
              refine wpAnyN_takeG 2 73 (v := hval x) rfl rfl (by kernel_rfl) (by kernel_rfl) (by kernel_rfl) (by kernel_rfl) (fun _ _ _ h => h) hT rfl (fun w hS => ?_) ?_
              · exact run_load_mid_blk 23 (.tmp 15) rfl hS.2.2 0 (by go_simp) (x.1.map b8) (fun j v h => by rw [Nat.zero_add, List.getElem?_toArray]; exact h) (.array 32 5) (by kernel_rfl) rfl 32 (by kernel_rfl) (by simp [hxl])
              simp only [Act.put, List.setIfInBounds_toArray, List.set_cons_succ, List.set_cons_zero]
              refine wpAnyN_pureG 4 75 (v := ?_) rfl rfl (by kernel_rfl) (by kernel_rfl) (by kernel_rfl) (fun _ _ _ h => h) rfl (fun w => ?_) ?_
              rotate_left
              · go_simp
                try with_reducible rfl
              simp only [Act.put, List.setIfInBounds_toArray, List.set_cons_succ, List.set_cons_zero]
              have c2 := refnode_any wd z x
              rw [← HV.out] at c2
              refine wpAnyN_call 3 43 (some 74) [.tmp 72, .tmp 73] [hval z, hval x] (by kernel_rfl) rfl rfl rfl rfl (by go_simp) Tryd.call43 ?_
              refine c2.mono ?_
              rintro e w5 ⟨rfl, G5⟩
              have hsz : r ≤ wd.heap.size := by have := hR1.lt; omega
              replace hR1 := hR1.below G5 hR1.lt
              replace hS1 := hS1.below G5 hS1.lt
              replace F1 := F1.trans (G5.mono hsz)
              have hT' : _ ∧ _ ∧ _ := ⟨hT.1.below G5 hT.1.lt, hT.2.1.below G5 hT.2.1.lt, hT.2.2.below G5 hT.2.2.lt⟩
              replace hT := hT'
              refine ⟨_, rfl, fun _ h => ⟨h.1.below G5 h.1.lt, h.2.1.below G5 h.2.1.lt, h.2.2.below G5 h.2.2.lt⟩, ?_⟩
              clear c2 G5 hsz hT'
              clear wd
              simp only [Act.put, List.setIfInBounds_toArray, List.set_cons_succ, List.set_cons_zero]
              refine wpAnyN_store_blk 5 23 (.tmp 10) (.tmp 71) (by kernel_rfl) rfl rfl rfl rfl hR1 0 (y.1.map b8).toArray (by go_simp) (by go_simp) 32 (by kernel_rfl) (by simp [hyl]) (by simp) (by rw [List.toList_toArray]; exact b8_one _) (y.1.map b8).toArray (by simp) ?_
              intro w6 hR6 hg6
              have hS6 := hS1.grown hg6 (fun e => by have := Option.some.inj e; omega)
              have F6 := below_upd F1 hg6 (by omega) hR1.lt
              refine ⟨fun _ h => ⟨h.1.grown hg6 (fun e => by have := Option.some.inj e; omega), h.2.1.grown hg6 (fun e => by have := Option.some.inj e; omega), h.2.2.grown hg6 (fun e => by have := Option.some.inj e; omega)⟩, ?_⟩
              clear hg6 hR1 hS1 F1
              refine wpAnyN_store_blk 6 23 (.tmp 11) (.tmp 74) (by kernel_rfl) rfl rfl rfl rfl hS6 0 (v.1.map b8).toArray (by go_simp) (by go_simp) 32 (by kernel_rfl) (by simp [hvl]) (by simp) (by rw [List.toList_toArray]; exact b8_one _) (v.1.map b8).toArray (by simp) ?_
              intro w7 hS7 hg7
              have hR7 := hR6.grown hg7 (fun e => by have := Option.some.inj e; omega)
              have F7 := below_upd F6 hg7 (by omega) hS6.lt
              refine ⟨fun _ h => ⟨h.1.grown hg7 (fun e => by have := Option.some.inj e; omega), h.2.1.grown hg7 (fun e => by have := Option.some.inj e; omega), h.2.2.grown hg7 (fun e => by have := Option.some.inj e; omega)⟩, ?_⟩
              clear hg7 hR6 hS6 F6
              refine wpAnyN_pureG 7 12 (v := ?_) rfl rfl (by kernel_rfl) (by kernel_rfl) (by kernel_rfl) (fun _ _ _ h => h) rfl (fun w => ?_) ?_
              rotate_left
              · go_simp
                try with_reducible rfl
              simp only [Act.put, List.setIfInBounds_toArray, List.set_cons_succ, List.set_cons_zero]
              refine wpAnyN_done (by kernel_rfl) ?_
              rw [HR.out] at F7
              go_wp2
              exact (ret_two_tmp rfl hR7 rfl hS7 rfl rfl (.array 32 5) (by kernel_rfl) rfl 32 (by kernel_rfl) (by simp [hyl]) (by simp [hvl]) ⟨rfl, F7⟩).2
          · have hRwd := hR1
            have hSwd := hS1
            have hXwd := hX1
            have Fwd := F1
            clear hR1 hS1 hX1 F1 hL1 hsz
            obtain ⟨ba, hba⟩ : ∃ ba, ba = wd.heap.size := ⟨_, rfl⟩
            obtain ⟨wa, hwa⟩ : ∃ wa, wa = wd.alloc (.cells zero32 23) := ⟨_, rfl⟩
            have hbax : bx + 1 ≤ ba := by have := hXwd.lt; omega
            have hAwa : Blk wa ba 23 zero32 := by rw [hwa, hba]; exact Blk.new wd _ _
            have Fwa : Below r w wa := by rw [hwa]; exact Fwd.alloc (by omega) _
            have hRwa := hRwd.alloc (.cells zero32 23)
            rw [← hwa] at hRwa
            have hSwa := hSwd.alloc (.cells zero32 23)
            rw [← hwa] at hSwa
            have hXwa := hXwd.alloc (.cells zero32 23)
            rw [← hwa] at hXwa
            rw [← hba, ← hwa]
            clear hba hwa hRwd hSwd hXwd Fwd
            clear wd
            show wpAnyN _ _ _ _ _ _ _ _ (Act.put _ (some 16) _) _
            simp only [Act.put, List.setIfInBounds_toArray, List.set_cons_succ, List.set_cons_zero]
            refine wpAnyN_callOr 7 28 (some 67) [.tmp 60, .tmp 61, .tmp 62, .tmp 63, .tmp 66] [.int .i64 m, .int .i64 k, .bool whole, hval old, .slice a6 q.length cp] [13] (by kernel_rfl) rfl rfl rfl rfl (by go_simp) Tryd.call28 ?_ ⟨⟨_, .pointer (some ⟨wa.heap.size, 0, none⟩), wa.alloc (.cells zero32 23), rfl, rfl, by go_simp, fun _ h => h.alloc _, ?_⟩, trivial⟩
            · refine (ihc.out wa Fwa).mono ?_
              rintro e wc ⟨rfl, Gwc⟩
              refine ⟨_, rfl, fun _ h => h.below Gwc h.lt, ?_⟩
              have hRwc := hRwa.below Gwc hRwa.lt
              have hSwc := hSwa.below Gwc hSwa.lt
              have hXwc := hXwa.below Gwc hXwa.lt
              have hAwc := hAwa.below Gwc hAwa.lt
              have Fwc : Below r w wc := Fwa.trans (Gwc.mono (Nat.le_trans (by omega) (Nat.le_of_lt hXwa.lt)))
              clear hRwa hSwa hXwa hAwa Fwa Gwc
              clear wa
              refine wpAnyN_pureG 8 59 (v := ?_) rfl rfl (by kernel_rfl) (by kernel_rfl) (by kernel_rfl) (fun _ _ _ h => h) rfl (fun w => ?_) ?_
              rotate_left
              · go_simp
                try with_reducible rfl
              simp only [Act.put, List.setIfInBounds_toArray, List.set_cons_succ, List.set_cons_zero]
              refine wpAnyN_pureG 9 68 (v := ?_) rfl rfl (by kernel_rfl) (by kernel_rfl) (by kernel_rfl) (fun _ _ _ h => h) rfl (fun w => ?_) ?_
              rotate_left
              · go_simp
                try with_reducible rfl
              refine wpAnyN_pureG 10 69 (v := ?_) rfl rfl (by kernel_rfl) (by kernel_rfl) (by kernel_rfl) (fun _ _ _ h => h) rfl (fun w => ?_) ?_
              rotate_left
              · go_simp
                try with_reducible rfl
              refine wpAnyN_pureG 11 70 (v := ?_) rfl rfl (by kernel_rfl) (by kernel_rfl) (by kernel_rfl) (fun _ _ _ h => h) rfl (fun w => ?_) ?_
              rotate_left
              · go_simp
                try with_reducible rfl
              simp only [Act.put, List.setIfInBounds_toArray, List.set_cons_succ, List.set_cons_zero]
              refine wpAnyN_run 13 (some 17) (v := .pointer (some ⟨wc.heap.size, 0, none⟩)) (w' := wc.alloc (.cells zero32 23)) (by kernel_rfl) rfl rfl rfl (by go_simp) ⟨fun _ h => h.alloc _, ?_⟩
              obtain ⟨bb, hbb⟩ : ∃ bb, bb = wc.heap.size := ⟨_, rfl⟩
              obtain ⟨wy, hwy⟩ : ∃ wy, wy = wc.alloc (.cells zero32 23) := ⟨_, rfl⟩
              have hbbx : bx + 1 ≤ bb := by have := hXwc.lt; omega
              have hBwy : Blk wy bb 23 zero32 := by rw [hwy, hbb]; exact Blk.new wc _ _
              have Fwy : Below r w wy := by rw [hwy]; exact Fwc.alloc (by omega) _
              have hRwy := hRwc.alloc (.cells zero32 23)
              rw [← hwy] at hRwy
              have hSwy := hSwc.alloc (.cells zero32 23)
              rw [← hwy] at hSwy
              have hXwy := hXwc.alloc (.cells zero32 23)
              rw [← hwy] at hXwy
              have hAwy := hAwc.alloc (.cells zero32 23)
              rw [← hwy] at hAwy
              rw [← hbb, ← hwy]
              have h12 : ba < bb := by have := hAwc.lt; omega
              clear hbb hwy hRwc hSwc hXwc Fwc hAwc
              clear wc
              simp only [Act.put, List.setIfInBounds_toArray, List.set_cons_succ, List.set_cons_zero]
              have hAz := hAwy
              have hBz := hBwy
              have hRz := hRwy
              have hSz := hSwy
              have hXz := hXwy
              have Fz := Fwy
              have hab : ba ≠ bb := by omega
              clear hAwy hBwy hRwy hSwy hXwy Fwy h12
              obtain ⟨wz, rfl⟩ : ∃ wz, wz = wy := ⟨_, rfl⟩
              refine wpAnyN_store_blk 14 23 (.tmp 16) (.tmp 68) (by kernel_rfl) rfl rfl rfl rfl hAz 0 (y.1.map b8).toArray (by go_simp) (by go_simp) 32 (by kernel_rfl) (by simp [hyl]) (by simp) (by rw [List.toList_toArray]; exact b8_one _) (y.1.map b8).toArray (by simp) ?_
              intro w3 hA3 hg3
              have hB3 := hBz.grown hg3 (fun e => hab (Option.some.inj e).symm)
              have hR3 := hRz.grown hg3 (fun e => by have := Option.some.inj e; omega)
              have hS3 := hSz.grown hg3 (fun e => by have := Option.some.inj e; omega)
              have hX3 := hXz.grown hg3 (fun e => by have := Option.some.inj e; omega)
              have F3 := below_upd Fz hg3 (by omega) hAz.lt
              refine ⟨fun _ h => h.grown hg3 (fun e => by have := Option.some.inj e; omega), ?_⟩
              clear hg3 hAz hBz hRz hSz hXz Fz
              clear wz
              refine wpAnyN_store_blk 15 23 (.tmp 17) (.tmp 69) (by kernel_rfl) rfl rfl rfl rfl hB3 0 (z.1.map b8).toArray (by go_simp) (by go_simp) 32 (by kernel_rfl) (by simp [hzl]) (by simp) (by rw [List.toList_toArray]; exact b8_one _) (z.1.map b8).toArray (by simp) ?_
              intro w4 hB4 hg4
              have hA4 := hA3.grown hg4 (fun e => hab (Option.some.inj e))
              have hR4 := hR3.grown hg4 (fun e => by have := Option.some.inj e; omega)
              have hS4 := hS3.grown hg4 (fun e => by have := Option.some.inj e; omega)
              have hX4 := hX3.grown hg4 (fun e => by have := Option.some.inj e; omega)
              have F4 := below_upd F3 hg4 (by omega) hB3.lt
              refine ⟨fun _ h => h.grown hg4 (fun e => by have := Option.some.inj e; omega), ?_⟩
              clear hg4 hA3 hB3 hR3 hS3 hX3 F3
              clear w3
              refine wpAnyN_pureG 16 18 (v := ?_) rfl rfl (by kernel_rfl) (by kernel_rfl) (by kernel_rfl) (fun _ _ _ h => h) rfl (fun w => ?_) ?_
              rotate_left
              · go_simp
                try with_reducible rfl
              simp only [Act.put, List.setIfInBounds_toArray, List.set_cons_succ, List.set_cons_zero]
              refine wpAnyN_done (by kernel_rfl) ?_
              go_upto_region 14 with (fail)
              refine wp_region_N (fun w' => Blk w' ba 23 (y.1.map b8).toArray ∧ Blk w' bb 23 (z.1.map b8).toArray ∧ Blk w' bx 23 (x.1.map b8).toArray) [] (by kernel_rfl) ?_
              obtain ⟨wd, hwd⟩ : ∃ wd, wd = w4.drew := ⟨_, rfl⟩
              have hT : Blk wd ba 23 (y.1.map b8).toArray ∧ Blk wd bb 23 (z.1.map b8).toArray ∧ Blk wd bx 23 (x.1.map b8).toArray := by rw [hwd]; exact ⟨hA4, hB4, hX4⟩
              have hR1 : Blk wd (r + 1) 23 zero32 := by rw [hwd]; exact hR4
              have hS1 : Blk wd (r + 2) 23 zero32 := by rw [hwd]; exact hS4
              have F1 : Below r w wd := by rw [hwd]; exact F4.drew
              rw [← hwd]
              clear hwd hA4 hB4 hX4 hR4 hS4 F4
              clear w4
              refine wpAnyN_takeG 0 71 (v := hval y) rfl rfl (by kernel_rfl) (by kernel_rfl) (by kernel_rfl) (by kernel_rfl) (fun _ _ _ h => h) hT rfl (fun w hS => ?_) ?_
              · exact run_load_mid_blk 23 (.tmp 16) rfl hS.1 0 (by go_simp) (y.1.map b8) (fun j v h => by rw [Nat.zero_add, List.getElem?_toArray]; exact h) (.array 32 5) (by kernel_rfl) rfl 32 (by kernel_rfl) (by simp [hyl])
              refine wpAnyN_takeG 1 72 (v := hval z) rfl rfl (by kernel_rfl) (by kernel_rfl) (by kernel_rfl) (by kernel_rfl) (fun _ _ _ h => h) hT rfl (fun w hS => ?_) ?_
              · exact run_load_mid_blk 23 (.tmp 17) rfl hS.2.1 0 (by go_simp) (z.1.map b8) (fun j v h => by rw [Nat.zero_add, List.getElem?_toArray]; exact h) (.array 32 5) (by kernel_rfl) rfl 32 (by kernel_rfl) (by simp [hzl])
              refine wpAnyN_takeG 2 73 (v := hval x) rfl rfl (by kernel_rfl) (by kernel_rfl) (by kernel_rfl) (by kernel_rfl) (fun _ _ _ h => h) hT rfl (fun w hS => ?_) ?_
              · exact run_load_mid_blk 23 (.tmp 15) rfl hS.2.2 0 (by go_simp) (x.1.map b8) (fun j v h => by rw [Nat.zero_add, List.getElem?_toArray]; exact h) (.array 32 5) (by kernel_rfl) rfl 32 (by kernel_rfl) (by simp [hxl])
              simp only [Act.put, List.setIfInBounds_toArray, List.set_cons_succ, List.set_cons_zero]
              refine wpAnyN_pureG 4 75 (v := ?_) rfl rfl (by kernel_rfl) (by kernel_rfl) (by kernel_rfl) (fun _ _ _ h => h) rfl (fun w => ?_) ?_
              rotate_left
              · go_simp
                try with_reducible rfl
              simp only [Act.put, List.setIfInBounds_toArray, List.set_cons_succ, List.set_cons_zero]
              have c2 := refnode_any wd z x
              rw [← HV.out] at c2
              refine wpAnyN_call 3 43 (some 74) [.tmp 72, .tmp 73] [hval z, hval x] (by kernel_rfl) rfl rfl rfl rfl (by go_simp) Tryd.call43 ?_
              refine c2.mono ?_
              rintro e w5 ⟨rfl, G5⟩
              have hsz : r ≤ wd.heap.size := by have := hR1.lt; omega
              replace hR1 := hR1.below G5 hR1.lt
              replace hS1 := hS1.below G5 hS1.lt
              replace F1 := F1.trans (G5.mono hsz)
              have hT' : _ ∧ _ ∧ _ := ⟨hT.1.below G5 hT.1.lt, hT.2.1.below G5 hT.2.1.lt, hT.2.2.below G5 hT.2.2.lt⟩
              replace hT := hT'
              refine ⟨_, rfl, fun _ h => ⟨h.1.below G5 h.1.lt, h.2.1.below G5 h.2.1.lt, h.2.2.below G5 h.2.2.lt⟩, ?_⟩
              clear c2 G5 hsz hT'
              clear wd
              simp only [Act.put, List.setIfInBounds_toArray, List.set_cons_succ, List.set_cons_zero]
              refine wpAnyN_store_blk 5 23 (.tmp 10) (.tmp 71) (by kernel_rfl) rfl rfl rfl rfl hR1 0 (y.1.map b8).toArray (by go_simp) (by go_simp) 32 (by kernel_rfl) (by simp [hyl]) (by simp) (by rw [List.toList_toArray]; exact b8_one _) (y.1.map b8).toArray (by simp) ?_
              intro w6 hR6 hg6
              have hS6 := hS1.grown hg6 (fun e => by have := Option.some.inj e; omega)
              have F6 := below_upd F1 hg6 (by omega) hR1.lt
              refine ⟨fun _ h => ⟨h.1.grown hg6 (fun e => by have := Option.some.inj e; omega), h.2.1.grown hg6 (fun e => by have := Option.some.inj e; omega), h.2.2.grown hg6 (fun e => by have := Option.some.inj e; omega)⟩, ?_⟩
              clear hg6 hR1 hS1 F1
              refine wpAnyN_store_blk 6 23 (.tmp 11) (.tmp 74) (by kernel_rfl) rfl rfl rfl rfl hS6 0 (v.1.map b8).toArray (by go_simp) (by go_simp) 32 (by kernel_rfl) (by simp [hvl]) (by simp) (by rw [List.toList_toArray]; exact b8_one _) (v.1.map b8).toArray (by simp) ?_
              intro w7 hS7 hg7
              have hR7 := hR6.grown hg7 (fun e => by have := Option.some.inj e; omega)
              have F7 := below_upd F6 hg7 (by omega) hS6.lt
              refine ⟨fun _ h => ⟨h.1.grown hg7 (fun e => by have := Option.some.inj e; omega), h.2.1.grown hg7 (fun e => by have := Option.some.inj e; omega), h.2.2.grown hg7 (fun e => by have := Option.some.inj e; omega)⟩, ?_⟩
              clear hg7 hR6 hS6 F6
              refine wpAnyN_pureG 7 12 (v := ?_) rfl rfl (by kernel_rfl) (by kernel_rfl) (by kernel_rfl) (fun _ _ _ h => h) rfl (fun w => ?_) ?_
              rotate_left
              · go_simp
                try with_reducible rfl
              simp only [Act.put, List.setIfInBounds_toArray, List.set_cons_succ, List.set_cons_zero]
              refine wpAnyN_done (by kernel_rfl) ?_
              rw [HR.out] at F7
              go_wp2
              exact (ret_two_tmp rfl hR7 rfl hS7 rfl rfl (.array 32 5) (by kernel_rfl) rfl 32 (by kernel_rfl) (by simp [hyl]) (by simp [hvl]) ⟨rfl, F7⟩).2
            · obtain ⟨bb, hbb⟩ : ∃ bb, bb = wa.heap.size := ⟨_, rfl⟩
              obtain ⟨wy, hwy⟩ : ∃ wy, wy = wa.alloc (.cells zero32 23) := ⟨_, rfl⟩
              have hbbx : bx + 1 ≤ bb := by have := hXwa.lt; omega
              have hBwy : Blk wy bb 23 zero32 := by rw [hwy, hbb]; exact Blk.new wa _ _
              have Fwy : Below r w wy := by rw [hwy]; exact Fwa.alloc (by omega) _
              have hRwy := hRwa.alloc (.cells zero32 23)
              rw [← hwy] at hRwy
              have hSwy := hSwa.alloc (.cells zero32 23)
              rw [← hwy] at hSwy
              have hXwy := hXwa.alloc (.cells zero32 23)
              rw [← hwy] at hXwy
              have hAwy := hAwa.alloc (.cells zero32 23)
              rw [← hwy] at hAwy
              rw [← hbb, ← hwy]
              have h12 : ba < bb := by have := hAwa.lt; omega
              clear hbb hwy hRwa hSwa hXwa Fwa hAwa
              clear wa
              show wpAnyN _ _ _ _ _ _ _ _ (Act.put _ (some 17) _) _
              simp only [Act.put, List.setIfInBounds_toArray, List.set_cons_succ, List.set_cons_zero]
              refine wpAnyN_call 7 28 (some 67) [.tmp 60, .tmp 61, .tmp 62, .tmp 63, .tmp 66] [.int .i64 m, .int .i64 k, .bool whole, hval old, .slice a6 q.length cp] (by kernel_rfl) rfl rfl rfl rfl (by go_simp) Tryd.call28 ?_
              refine (ihc.out wy Fwy).mono ?_
              rintro e wc ⟨rfl, Gwc⟩
              refine ⟨_, rfl, fun _ h => h.below Gwc h.lt, ?_⟩
              have hRwc := hRwy.below Gwc hRwy.lt
              have hSwc := hSwy.below Gwc hSwy.lt
              have hXwc := hXwy.below Gwc hXwy.lt
              have hAwc := hAwy.below Gwc hAwy.lt
              have hBwc := hBwy.below Gwc hBwy.lt
              have Fwc : Below r w wc := Fwy.trans (Gwc.mono (Nat.le_trans (by omega) (Nat.le_of_lt hXwy.lt)))
              clear hRwy hSwy hXwy hAwy hBwy Fwy Gwc
              clear wy
              refine wpAnyN_pureG 8 59 (v := ?_) rfl rfl (by kernel_rfl) (by kernel_rfl) (by kernel_rfl) (fun _ _ _ h => h) rfl (fun w => ?_) ?_
              rotate_left
              · go_simp
                try with_reducible rfl
              simp only [Act.put, List.setIfInBounds_toArray, List.set_cons_succ, List.set_cons_zero]
              refine wpAnyN_pureG 9 68 (v := ?_) rfl rfl (by kernel_rfl) (by kernel_rfl) (by kernel_rfl) (fun _ _ _ h => h) rfl (fun w => ?_) ?_
              rotate_left
              · go_simp
                try with_reducible rfl
              refine wpAnyN_pureG 10 69 (v := ?_) rfl rfl (by kernel_rfl) (by kernel_rfl) (by kernel_rfl) (fun _ _ _ h => h) rfl (fun w => ?_) ?_
              rotate_left
              · go_simp
                try with_reducible rfl
              refine wpAnyN_pureG 11 70 (v := ?_) rfl rfl (by kernel_rfl) (by kernel_rfl) (by kernel_rfl) (fun _ _ _ h => h) rfl (fun w => ?_) ?_
              rotate_left
              · go_simp
                try with_reducible rfl
              simp only [Act.put, List.setIfInBounds_toArray, List.set_cons_succ, List.set_cons_zero]
              have hAz := hAwc
              have hBz := hBwc
              have hRz := hRwc
              have hSz := hSwc
              have hXz := hXwc
              have Fz := Fwc
              have hab : ba ≠ bb := by omega
              clear hAwc hBwc hRwc hSwc hXwc Fwc h12
              obtain ⟨wz, rfl⟩ : ∃ wz, wz = wc := ⟨_, rfl⟩
              refine wpAnyN_store_blk 14 23 (.tmp 16) (.tmp 68) (by kernel_rfl) rfl rfl rfl rfl hAz 0 (y.1.map b8).toArray (by go_simp) (by go_simp) 32 (by kernel_rfl) (by simp [hyl]) (by simp) (by rw [List.toList_toArray]; exact b8_one _) (y.1.map b8).toArray (by simp) ?_
              intro w3 hA3 hg3
              have hB3 := hBz.grown hg3 (fun e => hab (Option.some.inj e).symm)
              have hR3 := hRz.grown hg3 (fun e => by have := Option.some.inj e; omega)
              have hS3 := hSz.grown hg3 (fun e => by have := Option.some.inj e; omega)
              have hX3 := hXz.grown hg3 (fun e => by have := Option.some.inj e; omega)
              have F3 := below_upd Fz hg3 (by omega) hAz.lt
              refine ⟨fun _ h => h.grown hg3 (fun e => by have := Option.some.inj e; omega), ?_⟩
              clear hg3 hAz hBz hRz hSz hXz Fz
              clear wz
              refine wpAnyN_store_blk 15 23 (.tmp 17) (.tmp 69) (by kernel_rfl) rfl rfl rfl rfl hB3 0 (z.1.map b8).toArray (by go_simp) (by go_simp) 32 (by kernel_rfl) (by simp [hzl]) (by simp) (by rw [List.toList_toArray]; exact b8_one _) (z.1.map b8).toArray (by simp) ?_
              intro w4 hB4 hg4
              have hA4 := hA3.grown hg4 (fun e => hab (Option.some.inj e))
              have hR4 := hR3.grown hg4 (fun e => by have := Option.some.inj e; omega)
              have hS4 := hS3.grown hg4 (fun e => by have := Option.some.inj e; omega)
              have hX4 := hX3.grown hg4 (fun e => by have := Option.some.inj e; omega)
              have F4 := below_upd F3 hg4 (by omega) hB3.lt
              refine ⟨fun _ h => h.grown hg4 (fun e => by have := Option.some.inj e; omega), ?_⟩
              clear hg4 hA3 hB3 hR3 hS3 hX3 F3
              clear w3
              refine wpAnyN_pureG 16 18 (v := ?_) rfl rfl (by kernel_rfl) (by kernel_rfl) (by kernel_rfl) (fun _ _ _ h => h) rfl (fun w => ?_) ?_
              rotate_left
              · go_simp
                try with_reducible rfl
              simp only [Act.put, List.setIfInBounds_toArray, List.set_cons_succ, List.set_cons_zero]
              refine wpAnyN_done (by kernel_rfl) ?_
              go_upto_region 14 with (fail)
              refine wp_region_N (fun w' => Blk w' ba 23 (y.1.map b8).toArray ∧ Blk w' bb 23 (z.1.map b8).toArray ∧ Blk w' bx 23 (x.1.map b8).toArray) [] (by kernel_rfl) ?_
              obtain ⟨wd, hwd⟩ : ∃ wd, wd = w4.drew := ⟨_, rfl⟩
              have hT : Blk wd ba 23 (y.1.map b8).toArray ∧ Blk wd bb 23 (z.1.map b8).toArray ∧ Blk wd bx 23 (x.1.map b8).toArray := by rw [hwd]; exact ⟨hA4, hB4, hX4⟩
              have hR1 : Blk wd (r + 1) 23 zero32 := by rw [hwd]; exact hR4
              have hS1 : Blk wd (r + 2) 23 zero32 := by rw [hwd]; exact hS4
              have F1 : Below r w wd := by rw [hwd]; exact F4.drew
              rw [← hwd]
              clear hwd hA4 hB4 hX4 hR4 hS4 F4
              clear w4
              refine wpAnyN_takeG 0 71 (v := hval y) rfl rfl (by kernel_rfl) (by kernel_rfl) (by kernel_rfl) (by kernel_rfl) (fun _ _ _ h => h) hT rfl (fun w hS => ?_) ?_
              · exact run_load_mid_blk 23 (.tmp 16) rfl hS.1 0 (by go_simp) (y.1.map b8) (fun j v h => by rw [Nat.zero_add, List.getElem?_toArray]; exact h) (.array 32 5) (by kernel_rfl) rfl 32 (by kernel_rfl) (by simp [hyl])
              refine wpAnyN_takeG 1 72 (v := hval z) rfl rfl (by kernel_rfl) (by kernel_rfl) (by kernel_rfl) (by kernel_rfl) (fun _ _ _ h => h) hT rfl (fun w hS => ?_) ?_
              · exact run_load_mid_blk 23 (.tmp 17) rfl hS.2.1 0 (by go_simp) (z.1.map b8) (fun j v h => by rw [Nat.zero_add, List.getElem?_toArray]; exact h) (.array 32 5) (by kernel_rfl) rfl 32 (by kernel_rfl) (by simp [hzl])
              refine wpAnyN_takeG 2 73 (v := hval x) rfl rfl (by kernel_rfl) (by kernel_rfl) (by kernel_rfl) (by kernel_rfl) (fun _ _ _ h => h) hT rfl (fun w hS => ?_) ?_
              · exact run_load_mid_blk 23 (.tmp 15) rfl hS.2.2 0 (by go_simp) (x.1.map b8) (fun j v h => by rw [Nat.zero_add, List.getElem?_toArray]; exact h) (.array 32 5) (by kernel_rfl) rfl 32 (by kernel_rfl) (by simp [hxl])
              simp only [Act.put, List.setIfInBounds_toArray, List.set_cons_succ, List.set_cons_zero]
              refine wpAnyN_pureG 4 75 (v := ?_) rfl rfl (by kernel_rfl) (by kernel_rfl) (by kernel_rfl) (fun _ _ _ h => h) rfl (fun w => ?_) ?_
              rotate_left
              · go_simp
                try with_reducible rfl
              simp only [Act.put, List.setIfInBounds_toArray, List.set_cons_succ, List.set_cons_zero]
              have c2 := refnode_any wd z x
              rw [← HV.out] at c2
              refine wpAnyN_call 3 43 (some 74) [.tmp 72, .tmp 73] [hval z, hval x] (by kernel_rfl) rfl rfl rfl rfl (by go_simp) Tryd.call43 ?_
              refine c2.mono ?_
              rintro e w5 ⟨rfl, G5⟩
              have hsz : r ≤ wd.heap.size := by have := hR1.lt; omega
              replace hR1 := hR1.below G5 hR1.lt
              replace hS1 := hS1.below G5 hS1.lt
              replace F1 := F1.trans (G5.mono hsz)
              have hT' : _ ∧ _ ∧ _ := ⟨hT.1.below G5 hT.1.lt, hT.2.1.below G5 hT.2.1.lt, hT.2.2.below G5 hT.2.2.lt⟩
              replace hT := hT'
              refine ⟨_, rfl, fun _ h => ⟨h.1.below G5 h.1.lt, h.2.1.below G5 h.2.1.lt, h.2.2.below G5 h.2.2.lt⟩, ?_⟩
              clear c2 G5 hsz hT'
              clear wd
              simp only [Act.put, List.setIfInBounds_toArray, List.set_cons_succ, List.set_cons_zero]
              refine wpAnyN_store_blk 5 23 (.tmp 10) (.tmp 71) (by kernel_rfl) rfl rfl rfl rfl hR1 0 (y.1.map b8).toArray (by go_simp) (by go_simp) 32 (by kernel_rfl) (by simp [hyl]) (by simp) (by rw [List.toList_toArray]; exact b8_one _) (y.1.map b8).toArray (by simp) ?_
              intro w6 hR6 hg6
              have hS6 := hS1.grown hg6 (fun e => by have := Option.some.inj e; omega)
              have F6 := below_upd F1 hg6 (by omega) hR1.lt
              refine ⟨fun _ h => ⟨h.1.grown hg6 (fun e => by have := Option.some.inj e; omega), h.2.1.grown hg6 (fun e => by have := Option.some.inj e; omega), h.2.2.grown hg6 (fun e => by have := Option.some.inj e; omega)⟩, ?_⟩
              clear hg6 hR1 hS1 F1
              refine wpAnyN_store_blk 6 23 (.tmp 11) (.tmp 74) (by kernel_rfl) rfl rfl rfl rfl hS6 0 (v.1.map b8).toArray (by go_simp) (by go_simp) 32 (by kernel_rfl) (by simp [hvl]) (by simp) (by rw [List.toList_toArray]; exact b8_one _) (v.1.map b8).toArray (by simp) ?_
              intro w7 hS7 hg7
              have hR7 := hR6.grown hg7 (fun e => by have := Option.some.inj e; omega)
              have F7 := below_upd F6 hg7 (by omega) hS6.lt
              refine ⟨fun _ h => ⟨h.1.grown hg7 (fun e => by have := Option.some.inj e; omega), h.2.1.grown hg7 (fun e => by have := Option.some.inj e; omega), h.2.2.grown hg7 (fun e => by have := Option.some.inj e; omega)⟩, ?_⟩
              clear hg7 hR6 hS6 F6
              refine wpAnyN_pureG 7 12 (v := ?_) rfl rfl (by kernel_rfl) (by kernel_rfl) (by kernel_rfl) (fun _ _ _ h => h) rfl (fun w => ?_) ?_
              rotate_left
              · go_simp
                try with_reducible rfl
              simp only [Act.put, List.setIfInBounds_toArray, List.set_cons_succ, List.set_cons_zero]
              refine wpAnyN_done (by kernel_rfl) ?_
              rw [HR.out] at F7
              go_wp2
              exact (ret_two_tmp rfl hR7 rfl hS7 rfl rfl (.array 32 5) (by kernel_rfl) rfl 32 (by kernel_rfl) (by simp [hyl]) (by simp [hvl]) ⟨rfl, F7⟩).2
          · have hRwd := hR1
            have hSwd := hS1
            have hXwd := hX1
            have Fwd := F1
            clear hR1 hS1 hX1 F1 hL1 hsz
            obtain ⟨bb, hbb⟩ : ∃ bb, bb = wd.heap.size := ⟨_, rfl⟩
            obtain ⟨wa, hwa⟩ : ∃ wa, wa = wd.alloc (.cells zero32 23) := ⟨_, rfl⟩
            have hbbx : bx + 1 ≤ bb := by have := hXwd.lt; omega
            have hBwa : Blk wa bb 23 zero32 := by rw [hwa, hbb]; exact Blk.new wd _ _
            have Fwa : Below r w wa := by rw [hwa]; exact Fwd.alloc (by omega) _
            have hRwa := hRwd.alloc (.cells zero32 23)
            rw [← hwa] at hRwa
            have hSwa := hSwd.alloc (.cells zero32 23)
            rw [← hwa] at hSwa
            have hXwa := hXwd.alloc (.cells zero32 23)
            rw [← hwa] at hXwa
            rw [← hbb, ← hwa]
            clear hbb hwa hRwd hSwd hXwd Fwd
            clear wd
            show wpAnyN _ _ _ _ _ _ _ _ (Act.put _ (some 17) _) _
            simp only [Act.put, List.setIfInBounds_toArray, List.set_cons_succ, List.set_cons_zero]
            refine wpAnyN_callOr 7 28 (some 67) [.tmp 60, .tmp 61, .tmp 62, .tmp 63, .tmp 66] [.int .i64 m, .int .i64 k, .bool whole, hval old, .slice a6 q.length cp] [12] (by kernel_rfl) rfl rfl rfl rfl (by go_simp) Tryd.call28 ?_ ⟨⟨_, .pointer (some ⟨wa.heap.size, 0, none⟩), wa.alloc (.cells zero32 23), rfl, rfl, by go_simp, fun _ h => h.alloc _, ?_⟩, trivial⟩
            · refine (ihc.out wa Fwa).mono ?_
              rintro e wc ⟨rfl, Gwc⟩
              refine ⟨_, rfl, fun _ h => h.below Gwc h.lt, ?_⟩
              have hRwc := hRwa.below Gwc hRwa.lt
              have hSwc := hSwa.below Gwc hSwa.lt
              have hXwc := hXwa.below Gwc hXwa.lt
              have hBwc := hBwa.below Gwc hBwa.lt
              have Fwc : Below r w wc := Fwa.trans (Gwc.mono (Nat.le_trans (by omega) (Nat.le_of_lt hXwa.lt)))
              clear hRwa hSwa hXwa hBwa Fwa Gwc
              clear wa
              refine wpAnyN_pureG 8 59 (v := ?_) rfl rfl (by kernel_rfl) (by kernel_rfl) (by kernel_rfl) (fun _ _ _ h => h) rfl (fun w => ?_) ?_
              rotate_left
              · go_simp
                try with_reducible rfl
              simp only [Act.put, List.setIfInBounds_toArray, List.set_cons_succ, List.set_cons_zero]
              refine wpAnyN_pureG 9 68 (v := ?_) rfl rfl (by kernel_rfl) (by kernel_rfl) (by kernel_rfl) (fun _ _ _ h => h) rfl (fun w => ?_) ?_
              rotate_left
              · go_simp
                try with_reducible rfl
              refine wpAnyN_pureG 10 69 (v := ?_) rfl rfl (by kernel_rfl) (by kernel_rfl) (by kernel_rfl) (fun _ _ _ h => h) rfl (fun w => ?_) ?_
              rotate_left
              · go_simp
                try with_reducible rfl
              refine wpAnyN_pureG 11 70 (v := ?_) rfl rfl (by kernel_rfl) (by kernel_rfl) (by kernel_rfl) (fun _ _ _ h => h) rfl (fun w => ?_) ?_
              rotate_left
              · go_simp
                try with_reducible rfl
              simp only [Act.put, List.setIfInBounds_toArray, List.set_cons_succ, List.set_cons_zero]
              refine wpAnyN_run 12 (some 16) (v := .pointer (some ⟨wc.heap.size, 0, none⟩)) (w' := wc.alloc (.cells zero32 23)) (by kernel_rfl) rfl rfl rfl (by go_simp) ⟨fun _ h => h.alloc _, ?_⟩
              obtain ⟨ba, hba⟩ : ∃ ba, ba = wc.heap.size := ⟨_, rfl⟩
              obtain ⟨wy, hwy⟩ : ∃ wy, wy = wc.alloc (.cells zero32 23) := ⟨_, rfl⟩
              have hbax : bx + 1 ≤ ba := by have := hXwc.lt; omega
              have hAwy : Blk wy ba 23 zero32 := by rw [hwy, hba]; exact Blk.new wc _ _
              have Fwy : Below r w wy := by rw [hwy]; exact Fwc.alloc (by omega) _
              have hRwy := hRwc.alloc (.cells zero32 23)
              rw [← hwy] at hRwy
              have hSwy := hSwc.alloc (.cells zero32 23)
              rw [← hwy] at hSwy
              have hXwy := hXwc.alloc (.cells zero32 23)
              rw [← hwy] at hXwy
              have hBwy := hBwc.alloc (.cells zero32 23)
              rw [← hwy] at hBwy
              rw [← hba, ← hwy]
              have h12 : bb < ba := by have := hBwc.lt; omega
              clear hba hwy hRwc hSwc hXwc Fwc hBwc
              clear wc
              simp only [Act.put, List.setIfInBounds_toArray, List.set_cons_succ, List.set_cons_zero]
              have hAz := hAwy
              have hBz := hBwy
              have hRz := hRwy
              have hSz := hSwy
              have hXz := hXwy
              have Fz := Fwy
              have hab : ba ≠ bb := by omega
              clear hAwy hBwy hRwy hSwy hXwy Fwy h12
              obtain ⟨wz, rfl⟩ : ∃ wz, wz = wy := ⟨_, rfl⟩
              refine wpAnyN_store_blk 14 23 (.tmp 16) (.tmp 68) (by kernel_rfl) rfl rfl rfl rfl hAz 0 (y.1.map b8).toArray (by go_simp) (by go_simp) 32 (by kernel_rfl) (by simp [hyl]) (by simp) (by rw [List.toList_toArray]; exact b8_one _) (y.1.map b8).toArray (by simp) ?_
              intro w3 hA3 hg3
              have hB3 := hBz.grown hg3 (fun e => hab (Option.some.inj e).symm)
              have hR3 := hRz.grown hg3 (fun e => by have := Option.some.inj e; omega)
              have hS3 := hSz.grown hg3 (fun e => by have := Option.some.inj e; omega)
              have hX3 := hXz.grown hg3 (fun e => by have := Option.some.inj e; omega)
              have F3 := below_upd Fz hg3 (by omega) hAz.lt
              refine ⟨fun _ h => h.grown hg3 (fun e => by have := Option.some.inj e; omega), ?_⟩
              clear hg3 hAz hBz hRz hSz hXz Fz
              clear wz
              refine wpAnyN_store_blk 15 23 (.tmp 17) (.tmp 69) (by kernel_rfl) rfl rfl rfl rfl hB3 0 (z.1.map b8).toArray (by go_simp) (by go_simp) 32 (by kernel_rfl) (by simp [hzl]) (by simp) (by rw [List.toList_toArray]; exact b8_one _) (z.1.map b8).toArray (by simp) ?_
              intro w4 hB4 hg4
              have hA4 := hA3.grown hg4 (fun e => hab (Option.some.inj e))
              have hR4 := hR3.grown hg4 (fun e => by have := Option.some.inj e; omega)
              have hS4 := hS3.grown hg4 (fun e => by have := Option.some.inj e; omega)
              have hX4 := hX3.grown hg4 (fun e => by have := Option.some.inj e; omega)
              have F4 := below_upd F3 hg4 (by omega) hB3.lt
              refine ⟨fun _ h => h.grown hg4 (fun e => by have := Option.some.inj e; omega), ?_⟩
              clear hg4 hA3 hB3 hR3 hS3 hX3 F3
              clear w3
              refine wpAnyN_pureG 16 18 (v := ?_) rfl rfl (by kernel_rfl) (by kernel_rfl) (by kernel_rfl) (fun _ _ _ h => h) rfl (fun w => ?_) ?_
              rotate_left
              · go_simp
                try with_reducible rfl
              simp only [Act.put, List.setIfInBounds_toArray, List.set_cons_succ, List.set_cons_zero]
              refine wpAnyN_done (by kernel_rfl) ?_
              go_upto_region 14 with (fail)
              refine wp_region_N (fun w' => Blk w' ba 23 (y.1.map b8).toArray ∧ Blk w' bb 23 (z.1.map b8).toArray ∧ Blk w' bx 23 (x.1.map b8).toArray) [] (by kernel_rfl) ?_
              obtain ⟨wd, hwd⟩ : ∃ wd, wd = w4.drew := ⟨_, rfl⟩
              have hT : Blk wd ba 23 (y.1.map b8).toArray ∧ Blk wd bb 23 (z.1.map b8).toArray ∧ Blk wd bx 23 (x.1.map b8).toArray := by rw [hwd]; exact ⟨hA4, hB4, hX4⟩
              have hR1 : Blk wd (r + 1) 23 zero32 := by rw [hwd]; exact hR4
              have hS1 : Blk wd (r + 2) 23 zero32 := by rw [hwd]; exact hS4
              have F1 : Below r w wd := by rw [hwd]; exact F4.drew
              rw [← hwd]
              clear hwd hA4 hB4 hX4 hR4 hS4 F4
              clear w4
              refine wpAnyN_takeG 0 71 (v := hval y) rfl rfl (by kernel_rfl) (by kernel_rfl) (by kernel_rfl) (by kernel_rfl) (fun _ _ _ h => h) hT rfl (fun w hS => ?_) ?_
              · exact run_load_mid_blk 23 (.tmp 16) rfl hS.1 0 (by go_simp) (y.1.map b8) (fun j v h => by rw [Nat.zero_add, List.getElem?_toArray]; exact h) (.array 32 5) (by kernel_rfl) rfl 32 (by kernel_rfl) (by simp [hyl])
              refine wpAnyN_takeG 1 72 (v := hval z) rfl rfl (by kernel_rfl) (by kernel_rfl) (by kernel_rfl) (by kernel_rfl) (fun _ _ _ h => h) hT rfl (fun w hS => ?_) ?_
              · exact run_load_mid_blk 23 (.tmp 17) rfl hS.2.1 0 (by go_simp) (z.1.map b8) (fun j v h => by rw [Nat.zero_add, List.getElem?_toArray]; exact h) (.array 32 5) (by kernel_rfl) rfl 32 (by kernel_rfl) (by simp [hzl])
              refine wpAnyN_takeG 2 73 (v := hval x) rfl rfl (by kernel_rfl) (by kernel_rfl) (by kernel_rfl) (by kernel_rfl) (fun _ _ _ h => h) hT rfl (fun w hS => ?_) ?_
              · exact run_load_mid_blk 23 (.tmp 15) rfl hS.2.2 0 (by go_simp) (x.1.map b8) (fun j v h => by rw [Nat.zero_add, List.getElem?_toArray]; exact h) (.array 32 5) (by kernel_rfl) rfl 32 (by kernel_rfl) (by simp [hxl])
              simp only [Act.put, List.setIfInBounds_toArray, List.set_cons_succ, List.set_cons_zero]
              refine wpAnyN_pureG 4 75 (v := ?_) rfl rfl (by kernel_rfl) (by kernel_rfl) (by kernel_rfl) (fun _ _ _ h => h) rfl (fun w => ?_) ?_
              rotate_left
              · go_simp
                try with_reducible rfl
              simp only [Act.put, List.setIfInBounds_toArray, List.set_cons_succ, List.set_cons_zero]
              have c2 := refnode_any wd z x
              rw [← HV.out] at c2
              refine wpAnyN_call 3 43 (some 74) [.tmp 72, .tmp 73] [hval z, hval x] (by kernel_rfl) rfl rfl rfl rfl (by go_simp) Tryd.call43 ?_
              refine c2.mono ?_
              rintro e w5 ⟨rfl, G5⟩
              have hsz : r ≤ wd.heap.size := by have := hR1.lt; omega
              replace hR1 := hR1.below G5 hR1.lt
              replace hS1 := hS1.below G5 hS1.lt
              replace F1 := F1.trans (G5.mono hsz)
              have hT' : _ ∧ _ ∧ _ := ⟨hT.1.below G5 hT.1.lt, hT.2.1.below G5 hT.2.1.lt, hT.2.2.below G5 hT.2.2.lt⟩
              replace hT := hT'
              refine ⟨_, rfl, fun _ h => ⟨h.1.below G5 h.1.lt, h.2.1.below G5 h.2.1.lt, h.2.2.below G5 h.2.2.lt⟩, ?_⟩
              clear c2 G5 hsz hT'
              clear wd
              simp only [Act.put, List.setIfInBounds_toArray, List.set_cons_succ, List.set_cons_zero]
              refine wpAnyN_store_blk 5 23 (.tmp 10) (.tmp 71) (by kernel_rfl) rfl rfl rfl rfl hR1 0 (y.1.map b8).toArray (by go_simp) (by go_simp) 32 (by kernel_rfl) (by simp [hyl]) (by simp) (by rw [List.toList_toArray]; exact b8_one _) (y.1.map b8).toArray (by simp) ?_
              intro w6 hR6 hg6
              have hS6 := hS1.grown hg6 (fun e => by have := Option.some.inj e; omega)
              have F6 := below_upd F1 hg6 (by omega) hR1.lt
              refine ⟨fun _ h => ⟨h.1.grown hg6 (fun e => by have := Option.some.inj e; omega), h.2.1.grown hg6 (fun e => by have := Option.some.inj e; omega), h.2.2.grown hg6 (fun e => by have := Option.some.inj e; omega)⟩, ?_⟩
              clear hg6 hR1 hS1 F1
              refine wpAnyN_store_blk 6 23 (.tmp 11) (.tmp 74) (by kernel_rfl) rfl rfl rfl rfl hS6 0 (v.1.map b8).toArray (by go_simp) (by go_simp) 32 (by kernel_rfl) (by simp [hvl]) (by simp) (by rw [List.toList_toArray]; exact b8_one _) (v.1.map b8).toArray (by simp) ?_
              intro w7 hS7 hg7
              have hR7 := hR6.grown hg7 (fun e => by have := Option.some.inj e; omega)
              have F7 := below_upd F6 hg7 (by omega) hS6.lt
              refine ⟨fun _ h => ⟨h.1.grown hg7 (fun e => by have := Option.some.inj e; omega), h.2.1.grown hg7 (fun e => by have := Option.some.inj e; omega), h.2.2.grown hg7 (fun e => by have := Option.some.inj e; omega)⟩, ?_⟩
              clear hg7 hR6 hS6 F6
              refine wpAnyN_pureG 7 12 (v := ?_) rfl rfl (by kernel_rfl) (by kernel_rfl) (by kernel_rfl) (fun _ _ _ h => h) rfl (fun w => ?_) ?_
              rotate_left
              · go_simp
                try with_reducible rfl
              simp only [Act.put, List.setIfInBounds_toArray, List.set_cons_succ, List.set_cons_zero]
              refine wpAnyN_done (by kernel_rfl) ?_
              rw [HR.out] at F7
              go_wp2
              exact (ret_two_tmp rfl hR7 rfl hS7 rfl rfl (.array 32 5) (by kernel_rfl) rfl 32 (by kernel_rfl) (by simp [hyl]) (by simp [hvl]) ⟨rfl, F7⟩).2
            · obtain ⟨ba, hba⟩ : ∃ ba, ba = wa.heap.size := ⟨_, rfl⟩
              obtain ⟨wy, hwy⟩ : ∃ wy, wy = wa.alloc (.cells zero32 23) := ⟨_, rfl⟩
              have hbax : bx + 1 ≤ ba := by have := hXwa.lt; omega
              have hAwy : Blk wy ba 23 zero32 := by rw [hwy, hba]; exact Blk.new wa _ _
              have Fwy : Below r w wy := by rw [hwy]; exact Fwa.alloc (by omega) _
              have hRwy := hRwa.alloc (.cells zero32 23)
              rw [← hwy] at hRwy
              have hSwy := hSwa.alloc (.cells zero32 23)
              rw [← hwy] at hSwy
              have hXwy := hXwa.alloc (.cells zero32 23)
              rw [← hwy] at hXwy
              have hBwy := hBwa.alloc (.cells zero32 23)
              rw [← hwy] at hBwy
              rw [← hba, ← hwy]
              have h12 : bb < ba := by have := hBwa.lt; omega
              clear hba hwy hRwa hSwa hXwa Fwa hBwa
              clear wa
              show wpAnyN _ _ _ _ _ _ _ _ (Act.put _ (some 16) _) _
              simp only [Act.put, List.setIfInBounds_toArray, List.set_cons_succ, List.set_cons_zero]
              refine wpAnyN_call 7 28 (some 67) [.tmp 60, .tmp 61, .tmp 62, .tmp 63, .tmp 66] [.int .i64 m, .int .i64 k, .bool whole, hval old, .slice a6 q.length cp] (by kernel_rfl) rfl rfl rfl rfl (by go_simp) Tryd.call28 ?_
              refine (ihc.out wy Fwy).mono ?_
              rintro e wc ⟨rfl, Gwc⟩
              refine ⟨_, rfl, fun _ h => h.below Gwc h.lt, ?_⟩
              have hRwc := hRwy.below Gwc hRwy.lt
              have hSwc := hSwy.below Gwc hSwy.lt
              have hXwc := hXwy.below Gwc hXwy.lt
              have hAwc := hAwy.below Gwc hAwy.lt
              have hBwc := hBwy.below Gwc hBwy.lt
              have Fwc : Below r w wc := Fwy.trans (Gwc.mono (Nat.le_trans (by omega) (Nat.le_of_lt hXwy.lt)))
              clear hRwy hSwy hXwy hAwy hBwy Fwy Gwc
              clear wy
              refine wpAnyN_pureG 8 59 (v := ?_) rfl rfl (by kernel_rfl) (by kernel_rfl) (by kernel_rfl) (fun _ _ _ h => h) rfl (fun w => ?_) ?_
              rotate_left
              · go_simp
                try with_reducible rfl
              simp only [Act.put, List.setIfInBounds_toArray, List.set_cons_succ, List.set_cons_zero]
              refine wpAnyN_pureG 9 68 (v := ?_) rfl rfl (by kernel_rfl) (by kernel_rfl) (by kernel_rfl) (fun _ _ _ h => h) rfl (fun w => ?_) ?_
              rotate_left
              · go_simp
                try with_reducible rfl
              refine wpAnyN_pureG 10 69 (v := ?_) rfl rfl (by kernel_rfl) (by kernel_rfl) (by kernel_rfl) (fun _ _ _ h => h) rfl (fun w => ?_) ?_
              rotate_left
              · go_simp
                try with_reducible rfl
              refine wpAnyN_pureG 11 70 (v := ?_) rfl rfl (by kernel_rfl) (by kernel_rfl) (by kernel_rfl) (fun _ _ _ h => h) rfl (fun w => ?_) ?_
              rotate_left
              · go_simp
                try with_reducible rfl
              simp only [Act.put, List.setIfInBounds_toArray, List.set_cons_succ, List.set_cons_zero]
              have hAz := hAwc
              have hBz := hBwc
              have hRz := hRwc
              have hSz := hSwc
              have hXz := hXwc
              have Fz := Fwc
              have hab : ba ≠ bb := by omega
              clear hAwc hBwc hRwc hSwc hXwc Fwc h12
              obtain ⟨wz, rfl⟩ : ∃ wz, wz = wc := ⟨_, rfl⟩
              refine wpAnyN_store_blk 14 23 (.tmp 16) (.tmp 68) (by kernel_rfl) rfl rfl rfl rfl hAz 0 (y.1.map b8).toArray (by go_simp) (by go_simp) 32 (by kernel_rfl) (by simp [hyl]) (by simp) (by rw [List.toList_toArray]; exact b8_one _) (y.1.map b8).toArray (by simp) ?_
              intro w3 hA3 hg3
              have hB3 := hBz.grown hg3 (fun e => hab (Option.some.inj e).symm)
              have hR3 := hRz.grown hg3 (fun e => by have := Option.some.inj e; omega)
              have hS3 := hSz.grown hg3 (fun e => by have := Option.some.inj e; omega)
              have hX3 := hXz.grown hg3 (fun e => by have := Option.some.inj e; omega)
              have F3 := below_upd Fz hg3 (by omega) hAz.lt
              refine ⟨fun _ h => h.grown hg3 (fun e => by have := Option.some.inj e; omega), ?_⟩
              clear hg3 hAz hBz hRz hSz hXz Fz
              clear wz
              refine wpAnyN_store_blk 15 23 (.tmp 17) (.tmp 69) (by kernel_rfl) rfl rfl rfl rfl hB3 0 (z.1.map b8).toArray (by go_simp) (by go_simp) 32 (by kernel_rfl) (by simp [hzl]) (by simp) (by rw [List.toList_toArray]; exact b8_one _) (z.1.map b8).toArray (by simp) ?_
              intro w4 hB4 hg4
              have hA4 := hA3.grown hg4 (fun e => hab (Option.some.inj e))
              have hR4 := hR3.grown hg4 (fun e => by have := Option.some.inj e; omega)
              have hS4 := hS3.grown hg4 (fun e => by have := Option.some.inj e; omega)
              have hX4 := hX3.grown hg4 (fun e => by have := Option.some.inj e; omega)
              have F4 := below_upd F3 hg4 (by omega) hB3.lt
              refine ⟨fun _ h => h.grown hg4 (fun e => by have := Option.some.inj e; omega), ?_⟩
              clear hg4 hA3 hB3 hR3 hS3 hX3 F3
              clear w3
              refine wpAnyN_pureG 16 18 (v := ?_) rfl rfl (by kernel_rfl) (by kernel_rfl) (by kernel_rfl) (fun _ _ _ h => h) rfl (fun w => ?_) ?_
              rotate_left
              · go_simp
                try with_reducible rfl
              simp only [Act.put, List.setIfInBounds_toArray, List.set_cons_succ, List.set_cons_zero]
              refine wpAnyN_done (by kernel_rfl) ?_
              go_upto_region 14 with (fail)
              refine wp_region_N (fun w' => Blk w' ba 23 (y.1.map b8).toArray ∧ Blk w' bb 23 (z.1.map b8).toArray ∧ Blk w' bx 23 (x.1.map b8).toArray) [] (by kernel_rfl) ?_
              obtain ⟨wd, hwd⟩ : ∃ wd, wd = w4.drew := ⟨_, rfl⟩
              have hT : Blk wd ba 23 (y.1.map b8).toArray ∧ Blk wd bb 23 (z.1.map b8).toArray ∧ Blk wd bx 23 (x.1.map b8).toArray := by rw [hwd]; exact ⟨hA4, hB4, hX4⟩
              have hR1 : Blk wd (r + 1) 23 zero32 := by rw [hwd]; exact hR4
              have hS1 : Blk wd (r + 2) 23 zero32 := by rw [hwd]; exact hS4
              have F1 : Below r w wd := by rw [hwd]; exact F4.drew
              rw [← hwd]
              clear hwd hA4 hB4 hX4 hR4 hS4 F4
              clear w4
              refine wpAnyN_takeG 0 71 (v := hval y) rfl rfl (by kernel_rfl) (by kernel_rfl) (by kernel_rfl) (by kernel_rfl) (fun _ _ _ h => h) hT rfl (fun w hS => ?_) ?_
              · exact run_load_mid_blk 23 (.tmp 16) rfl hS.1 0 (by go_simp) (y.1.map b8) (fun j v h => by rw [Nat.zero_add, List.getElem?_toArray]; exact h) (.array 32 5) (by kernel_rfl) rfl 32 (by kernel_rfl) (by simp [hyl])
              refine wpAnyN_takeG 1 72 (v := hval z) rfl rfl (by kernel_rfl) (by kernel_rfl) (by kernel_rfl) (by kernel_rfl) (fun _ _ _ h => h) hT rfl (fun w hS => ?_) ?_
              · exact run_load_mid_blk 23 (.tmp 17) rfl hS.2.1 0 (by go_simp) (z.1.map b8) (fun j v h => by rw [Nat.zero_add, List.getElem?_toArray]; exact h) (.array 32 5) (by kernel_rfl) rfl 32 (by kernel_rfl) (by simp [hzl])
              refine wpAnyN_takeG 2 73 (v := hval x) rfl rfl (by kernel_rfl) (by kernel_rfl) (by kernel_rfl) (by kernel_rfl) (fun _ _ _ h => h) hT rfl (fun w hS => ?_) ?_
              · exact run_load_mid_blk 23 (.tmp 15) rfl hS.2.2 0 (by go_simp) (x.1.map b8) (fun j v h => by rw [Nat.zero_add, List.getElem?_toArray]; exact h) (.array 32 5) (by kernel_rfl) rfl 32 (by kernel_rfl) (by simp [hxl])
              simp only [Act.put, List.setIfInBounds_toArray, List.set_cons_succ, List.set_cons_zero]
              refine wpAnyN_pureG 4 75 (v := ?_) rfl rfl (by kernel_rfl) (by kernel_rfl) (by kernel_rfl) (fun _ _ _ h => h) rfl (fun w => ?_) ?_
              rotate_left
              · go_simp
                try with_reducible rfl
              simp only [Act.put, List.setIfInBounds_toArray, List.set_cons_succ, List.set_cons_zero]
              have c2 := refnode_any wd z x
              rw [← HV.out] at c2
              refine wpAnyN_call 3 43 (some 74) [.tmp 72, .tmp 73] [hval z, hval x] (by kernel_rfl) rfl rfl rfl rfl (by go_simp) Tryd.call43 ?_
              refine c2.mono ?_
              rintro e w5 ⟨rfl, G5⟩
              have hsz : r ≤ wd.heap.size := by have := hR1.lt; omega
              replace hR1 := hR1.below G5 hR1.lt
              replace hS1 := hS1.below G5 hS1.lt
              replace F1 := F1.trans (G5.mono hsz)
              have hT' : _ ∧ _ ∧ _ := ⟨hT.1.below G5 hT.1.lt, hT.2.1.below G5 hT.2.1.lt, hT.2.2.below G5 hT.2.2.lt⟩
              replace hT := hT'
              refine ⟨_, rfl, fun _ h => ⟨h.1.below G5 h.1.lt, h.2.1.below G5 h.2.1.lt, h.2.2.below G5 h.2.2.lt⟩, ?_⟩
              clear c2 G5 hsz hT'
              clear wd
              simp only [Act.put, List.setIfInBounds_toArray, List.set_cons_succ, List.set_cons_zero]
              refine wpAnyN_store_blk 5 23 (.tmp 10) (.tmp 71) (by kernel_rfl) rfl rfl rfl rfl hR1 0 (y.1.map b8).toArray (by go_simp) (by go_simp) 32 (by kernel_rfl) (by simp [hyl]) (by simp) (by rw [List.toList_toArray]; exact b8_one _) (y.1.map b8).toArray (by simp) ?_
              intro w6 hR6 hg6
              have hS6 := hS1.grown hg6 (fun e => by have := Option.some.inj e; omega)
              have F6 := below_upd F1 hg6 (by omega) hR1.lt
              refine ⟨fun _ h => ⟨h.1.grown hg6 (fun e => by have := Option.some.inj e; omega), h.2.1.grown hg6 (fun e => by have := Option.some.inj e; omega), h.2.2.grown hg6 (fun e => by have := Option.some.inj e; omega)⟩, ?_⟩
              clear hg6 hR1 hS1 F1
              refine wpAnyN_store_blk 6 23 (.tmp 11) (.tmp 74) (by kernel_rfl) rfl rfl rfl rfl hS6 0 (v.1.map b8).toArray (by go_simp) (by go_simp) 32 (by kernel_rfl) (by simp [hvl]) (by simp) (by rw [List.toList_toArray]; exact b8_one _) (v.1.map b8).toArray (by simp) ?_
              intro w7 hS7 hg7
              have hR7 := hR6.grown hg7 (fun e => by have := Option.some.inj e; omega)
              have F7 := below_upd F6 hg7 (by omega) hS6.lt
              refine ⟨fun _ h => ⟨h.1.grown hg7 (fun e => by have := Option.some.inj e; omega), h.2.1.grown hg7 (fun e => by have := Option.some.inj e; omega), h.2.2.grown hg7 (fun e => by have := Option.some.inj e; omega)⟩, ?_⟩
              clear hg7 hR6 hS6 F6
              refine wpAnyN_pureG 7 12 (v := ?_) rfl rfl (by kernel_rfl) (by kernel_rfl) (by kernel_rfl) (fun _ _ _ h => h) rfl (fun w => ?_) ?_
              rotate_left
              · go_simp
                try with_reducible rfl
              simp only [Act.put, List.setIfInBounds_toArray, List.set_cons_succ, List.set_cons_zero]
              refine wpAnyN_done (by kernel_rfl) ?_
              rw [HR.out] at F7
              go_wp2
              exact (ret_two_tmp rfl hR7 rfl hS7 rfl rfl (.array 32 5) (by kernel_rfl) rfl 32 (by kernel_rfl) (by simp [hyl]) (by simp [hvl]) ⟨rfl, F7⟩).2
        · have hhi := twoH_hi (m := m) (n := n) (whole := whole) (old := old) (x := x) (q := q) h1 hmk
          rw [hhi]
          clear hhi
          obtain ⟨k, hk⟩ : ∃ k, k = Tree.split n := ⟨_, rfl⟩
          rw [← hk] at hk1 hk0 hsp hmk ⊢
          have hd2 : decide ((m : Int) ≤ (k : Int)) = false := by rw [decide_eq_false_iff_not]; omega
          obtain ⟨m', hm'⟩ : ∃ m', m' = m - k := ⟨_, rfl⟩
          obtain ⟨n', hn'⟩ : ∃ n', n' = n - k := ⟨_, rfl⟩
          have q1 : IntKind.i64.wrap ((m : Int) - k) = (m' : Int) := by rw [show (m : Int) - k = m' by omega]; exact IntWalk.i64_in _ (by omega)
          have q2 : IntKind.i64.wrap ((n : Int) - k) = (n' : Int) := by rw [show (n : Int) - k = n' by omega]; exact IntWalk.i64_in _ (by omega)
          rw [← hm', ← hn']
          have ihc : ∀ W, Below r w W → Calls Tryd.prog 28 #[.int .i64 m', .int .i64 n', .bool false, hval old, .slice a6 q.length cp] W fun e w' => e = .returned (.tuple #[hval (twoH m' n' false old q).1.1, hval (twoH m' n' false old q).1.2, .bool (twoH m' n' false old q).2]) ∧ Below W.heap.size W w' := fun W hW => ih W m' n' false old a6 cp q (by omega) (HQ.out.below hW HR0.out) (by omega) hm (by omega) (by omega) (by omega)
          obtain ⟨y, hy⟩ : ∃ y, y = (twoH m' n' false old q).1.1 := ⟨_, rfl⟩
          obtain ⟨z, hz⟩ : ∃ z, z = (twoH m' n' false old q).1.2 := ⟨_, rfl⟩
          obtain ⟨o, ho⟩ : ∃ o, o = (twoH m' n' false old q).2 := ⟨_, rfl⟩
          rw [← hy, ← hz, ← ho] at ihc ⊢
          clear hk hy hz ho hm' hn'
          obtain ⟨u, hu⟩ : ∃ u, u = nodeH x y := ⟨_, rfl⟩
          obtain ⟨v, hv⟩ : ∃ v, v = nodeH x z := ⟨_, rfl⟩
          rw [← hu, ← hv]
          have HU := Lib.hid hu
          have HV := Lib.hid hv
          have hul := u.2
          have hvl := v.2
          clear hu hv
          have hyl := y.2
          have hzl := z.2
          replace ihc := Lib.hid ihc
          clear ih HQ
          go_enter Tryd.func28, Tryd.ntmps28
          go_upto_region 1 with (fail)
          change Code.wp _ _ _ _ (((w.alloc (.cells (old.1.map b8).toArray 23)).alloc (.cells zero32 23)).alloc (.cells zero32 23))
          rw [← HR.out.1, ← HR.out.2]
          replace HR := Lib.hid HR.out.2
          go_wp2_with fail
          refine hsp.mono ?_
          rintro e w2 ⟨rfl, hw2⟩
          rw [hw2]
          clear hsp hw2
          clear w2
          have hx1 : w1.rangeAt g (off + q.length * 32) (x.1.map b8) := range_below HY.out.1 F1 (Nat.lt_of_lt_of_le HY.out.2 HR0.out)
          go_wp2_with (first | (refine wpList_load_mid rfl 23 _ rfl g (off + q.length * 32) rfl (x.1.map b8) (.array 32 5) hx1 (by kernel_rfl) rfl (by rw [List.length_map, hxl]; kernel_rfl) ?_) | (refine wpList_store_blk rfl 23 _ _ rfl (Blk.new w1 zero32 23) (x.1.map b8).toArray rfl rfl 32 (by kernel_rfl) rfl (by simp [hxl]) (by rw [List.toList_toArray]; exact b8_one _) ?_))
          intro w2 hX2 hg2
          obtain ⟨bx, hbx⟩ : ∃ bx, bx = w1.heap.size := ⟨_, rfl⟩
          have hbr : r + 3 ≤ bx := by have := hS1.lt; omega
          have hL2 := (hL1.alloc (.cells zero32 23)).grown hg2 (fun e => by have := Option.some.inj e; omega)
          have hR2 := (hR1.alloc (.cells zero32 23)).grown hg2 (fun e => by have := Option.some.inj e; omega)
          have hS2 := (hS1.alloc (.cells zero32 23)).grown hg2 (fun e => by have := Option.some.inj e; omega)
          have F2 : Below r w w2 := below_upd (F1.alloc (by omega) (.cells zero32 23)) hg2 (by omega) (alloc_lt _ _)
          rw [← hbx] at hX2 ⊢
          clear hbx hg2 hL1 hR1 hS1 F1 hx1
          clear w1
          go_upto_region 15 with (fail)
          refine wp_region_N (fun w' => Blk w' r 23 (old.1.map b8).toArray) [] (by kernel_rfl) ?_
          obtain ⟨wd, hwd⟩ : ∃ wd, wd = w2.drew := ⟨_, rfl⟩
          have hL1 : Blk wd r 23 (old.1.map b8).toArray := by rw [hwd]; exact hL2
          have hR1 : Blk wd (r + 1) 23 zero32 := by rw [hwd]; exact hR2
          have hS1 : Blk wd (r + 2) 23 zero32 := by rw [hwd]; exact hS2
          have hX1 : Blk wd bx 23 (x.1.map b8).toArray := by rw [hwd]; exact hX2
          have F1 : Below r w wd := by rw [hwd]; exact F2.drew
          rw [← hwd]
          clear hwd hL2 hR2 hS2 hX2 F2
          clear w2
          refine wpAnyN_pureG 0 77 (v := ?_) rfl rfl (by kernel_rfl) (by kernel_rfl) (by kernel_rfl) (fun _ _ _ h => h) rfl (fun w => ?_) ?_
          rotate_left
          · go_simp
            try with_reducible rfl
          refine wpAnyN_pureG 1 78 (v := ?_) rfl rfl (by kernel_rfl) (by kernel_rfl) (by kernel_rfl) (fun _ _ _ h => h) rfl (fun w => ?_) ?_
          rotate_left
          · go_simp
            try with_reducible rfl
          refine wpAnyN_pureG 3 80 (v := ?_) rfl rfl (by kernel_rfl) (by kernel_rfl) (by kernel_rfl) (fun _ _ _ h => h) rfl (fun w => ?_) ?_
          rotate_left
          · go_simp
            try with_reducible rfl
          refine wpAnyN_pureG 4 81 (v := ?_) rfl rfl (by kernel_rfl) (by kernel_rfl) (by kernel_rfl) (fun _ _ _ h => h) rfl (fun w => ?_) ?_
          rotate_left
          · go_simp
            try with_reducible rfl
          refine wpAnyN_pureG 7 84 (v := ?_) rfl rfl (by kernel_rfl) (by kernel_rfl) (by kernel_rfl) (fun _ _ _ h => h) rfl (fun w => ?_) ?_
          rotate_left
          · go_simp
            try with_reducible rfl
          refine wpAnyN_pureG 8 85 (v := ?_) rfl rfl (by kernel_rfl) (by kernel_rfl) (by kernel_rfl) (fun _ _ _ h => h) rfl (fun w => ?_) ?_
          rotate_left
          · go_simp
            try with_reducible rfl
          simp only [Act.put, List.setIfInBounds_toArray, List.set_cons_succ, List.set_cons_zero]
          refine wpAnyN_pureG 2 79 (v := ?_) rfl rfl (by kernel_rfl) (by kernel_rfl) (by kernel_rfl) (fun _ _ _ h => h) rfl (fun w => ?_) ?_
          rotate_left
          · go_simp
            try with_reducible rfl
          refine wpAnyN_pureG 5 82 (v := ?_) rfl rfl (by kernel_rfl) (by kernel_rfl) (by kernel_rfl) (fun _ _ _ h => h) rfl (fun w => ?_) ?_
          rotate_left
          · go_simp
            try with_reducible rfl
          refine wpAnyN_pureG 9 86 (v := ?_) rfl rfl (by kernel_rfl) (by kernel_rfl) (by kernel_rfl) (fun _ _ _ h => h) rfl (fun w => ?_) ?_
          rotate_left
          · go_simp
            try with_reducible rfl
          simp only [Act.put, List.setIfInBounds_toArray, List.set_cons_succ, List.set_cons_zero]
          refine wpAnyN_takeG 6 83 (v := hval old) rfl rfl (by kernel_rfl) (by kernel_rfl) (by kernel_rfl) (by kernel_rfl) (fun _ _ _ h => h) hL1 rfl (fun w hS => ?_) ?_
          · exact run_load_mid_blk 23 (.tmp 8) rfl hS 0 (by go_simp) (old.1.map b8) (fun j v h => by rw [Nat.zero_add, List.getElem?_toArray]; exact h) (.array 32 5) (by kernel_rfl) rfl 32 (by kernel_rfl) (by simp [hll])
          simp only [Act.put, List.setIfInBounds_toArray, List.set_cons_succ, List.set_cons_zero]
          have hsz : bx + 1 ≤ wd.heap.size := hX1.lt
          refine wpAnyN_callOr 10 28 (some 87) [.tmp 79, .tmp 82, .const (.bool false), .tmp 83, .tmp 86] [.int .i64 m', .int .i64 n', .bool false, hval old, .slice a6 q.length cp] [15, 16] (by kernel_rfl) rfl rfl rfl rfl (by go_simp) Tryd.call28 ?_ ⟨⟨_, .pointer (some ⟨wd.heap.size, 0, none⟩), wd.alloc (.cells zero32 23), rfl, rfl, by go_simp, fun _ h => h.alloc _, ?_⟩, ⟨_, .pointer (some ⟨wd.heap.size, 0, none⟩), wd.alloc (.cells zero32 23), rfl, rfl, by go_simp, fun _ h => h.alloc _, ?_⟩, trivial⟩
          · have hRwd := hR1
            have hSwd := hS1
            have hXwd := hX1
            have Fwd := F1
            clear hR1 hS1 hX1 F1 hL1 hsz
            refine (ihc.out wd Fwd).mono ?_
            rintro e wc ⟨rfl, Gwc⟩
            refine ⟨_, rfl, fun _ h => h.below Gwc h.lt, ?_⟩
            have hRwc := hRwd.below Gwc hRwd.lt
            have hSwc := hSwd.below Gwc hSwd.lt
            have hXwc := hXwd.below Gwc hXwd.lt
            have Fwc : Below r w wc := Fwd.trans (Gwc.mono (Nat.le_trans (by omega) (Nat.le_of_lt hXwd.lt)))
            clear hRwd hSwd hXwd Fwd Gwc
            clear wd
            refine wpAnyN_pureG 11 76 (v := ?_) rfl rfl (by kernel_rfl) (by kernel_rfl) (by kernel_rfl) (fun _ _ _ h => h) rfl (fun w => ?_) ?_
            rotate_left
            · go_simp
              try with_reducible rfl
            simp only [Act.put, List.setIfInBounds_toArray, List.set_cons_succ, List.set_cons_zero]
            refine wpAnyN_pureG 12 88 (v := ?_) rfl rfl (by kernel_rfl) (by kernel_rfl) (by kernel_rfl) (fun _ _ _ h => h) rfl (fun w => ?_) ?_
            rotate_left
            · go_simp
              try with_reducible rfl
            refine wpAnyN_pureG 13 89 (v := ?_) rfl rfl (by kernel_rfl) (by kernel_rfl) (by kernel_rfl) (fun _ _ _ h => h) rfl (fun w => ?_) ?_
            rotate_left
            · go_simp
              try with_reducible rfl
            refine wpAnyN_pureG 14 90 (v := ?_) rfl rfl (by kernel_rfl) (by kernel_rfl) (by kernel_rfl) (fun _ _ _ h => h) rfl (fun w => ?_) ?_
            rotate_left
            · go_simp
              try with_reducible rfl
            simp only [Act.put, List.setIfInBounds_toArray, List.set_cons_succ, List.set_cons_zero]
            have hszc : bx + 1 ≤ wc.heap.size := hXwc.lt
            refine wpAnyN_dag2 [15, 16] (fun i => match i with | 15 => some 19 | 16 => some 20 | _ => none) (fun _ => []) (fun i v w => match i with
              | 15 => PtrC 23 zero32 v w
              | 16 => PtrC 23 zero32 v w
              | _ => True) (fun i => i == 15 || i == 16) (g := 3) (by kernel_rfl) (by kernel_rfl) rfl
              ⟨fun _ _ _ hb h => PtrC.below hb h, fun _ _ _ hb h => PtrC.below hb h, trivial⟩
              (fun w w' hb h => h.below hb h.lt) ⟨?_, ?_, trivial⟩ ?_
            · intro vs w hb _ o ho
              cases ho
              simp only [putsD]
              refine vwp_run rfl (v := .pointer (some ⟨w.heap.size, 0, none⟩)) (w' := w.alloc (.cells zero32 23)) ?_ ⟨below_alloc1 _ _, ⟨_, rfl, Blk.new _ _ _⟩, fun _ => ⟨_, rfl, Nat.le_refl _, alloc_lt _ _⟩⟩
              go_simp
            · intro vs w hb _ o ho
              cases ho
              simp only [putsD]
              refine vwp_run rfl (v := .pointer (some ⟨w.heap.size, 0, none⟩)) (w' := w.alloc (.cells zero32 23)) ?_ ⟨below_alloc1 _ _, ⟨_, rfl, Blk.new _ _ _⟩, fun _ => ⟨_, rfl, Nat.le_refl _, alloc_lt _ _⟩⟩
              go_simp
            · intro vs wz hb hR hne hfr
              obtain ⟨⟨ba, h12, hAz⟩, ⟨bb, h13, hBz⟩, -⟩ := hR
              have hne2 := hne 15 (by simp) 16 (by simp) (by decide) rfl rfl
              rw [h12, h13] at hne2
              have hab : ba ≠ bb := fun e => hne2 (by rw [e])
              obtain ⟨x1, hx1, hx1', -⟩ := hfr 15 (by simp) rfl
              rw [h12] at hx1
              obtain rfl : ba = x1 := Option.some.inj hx1
              obtain ⟨x2, hx2, hx2', -⟩ := hfr 16 (by simp) rfl
              rw [h13] at hx2
              obtain rfl : bb = x2 := Option.some.inj hx2
              have hbax : bx + 1 ≤ ba := by omega
              have hbbx : bx + 1 ≤ bb := by omega
              have hRz := hRwc.below hb hRwc.lt
              have hSz := hSwc.below hb hSwc.lt
              have hXz := hXwc.below hb hXwc.lt
              have Fz : Below r w wz := Fwc.trans (hb.mono (by omega))
              simp only [putsD]
              rw [h12, h13]
              clear hne hfr hne2 hx1 hx1' hx2 hx2' h12 h13 hb hRwc hSwc hXwc Fwc hszc
              clear wc
              simp only [Act.put, List.setIfInBounds_toArray, List.set_cons_succ, List.set_cons_zero]
              refine wpAnyN_store_blk 17 23 (.tmp 19) (.tmp 88) (by kernel_rfl) rfl rfl rfl rfl hAz 0 (y.1.map b8).toArray (by go_simp) (by go_simp) 32 (by kernel_rfl) (by simp [hyl]) (by simp) (by rw [List.toList_toArray]; exact b8_one _) (y.1.map b8).toArray (by simp) ?_
              intro w3 hA3 hg3
              have hB3 := hBz.grown hg3 (fun e => hab (Option.some.inj e).symm)
              have hR3 := hRz.grown hg3 (fun e => by have := Option.some.inj e; omega)
              have hS3 := hSz.grown hg3 (fun e => by have := Option.some.inj e; omega)
              have hX3 := hXz.grown hg3 (fun e => by have := Option.some.inj e; omega)
              have F3 := below_upd Fz hg3 (by omega) hAz.lt
              refine ⟨fun _ h => h.grown hg3 (fun e => by have := Option.some.inj e; omega), ?_⟩
              clear hg3 hAz hBz hRz hSz hXz Fz
              clear wz
              refine wpAnyN_store_blk 18 23 (.tmp 20) (.tmp 89) (by kernel_rfl) rfl rfl rfl rfl hB3 0 (z.1.map b8).toArray (by go_simp) (by go_simp) 32 (by kernel_rfl) (by simp [hzl]) (by simp) (by rw [List.toList_toArray]; exact b8_one _) (z.1.map b8).toArray (by simp) ?_
              intro w4 hB4 hg4
              have hA4 := hA3.grown hg4 (fun e => hab (Option.some.inj e))
              have hR4 := hR3.grown hg4 (fun e => by have := Option.some.inj e; omega)
              have hS4 := hS3.grown hg4 (fun e => by have := Option.some.inj e; omega)
              have hX4 := hX3.grown hg4 (fun e => by have := Option.some.inj e; omega)
              have F4 := below_upd F3 hg4 (by omega) hB3.lt
              refine ⟨fun _ h => h.grown hg4 (fun e => by have := Option.some.inj e; omega), ?_⟩
              clear hg4 hA3 hB3 hR3 hS3 hX3 F3
              clear w3
              refine wpAnyN_pureG 19 21 (v := ?_) rfl rfl (by kernel_rfl) (by kernel_rfl) (by kernel_rfl) (fun _ _ _ h => h) rfl (fun w => ?_) ?_
              rotate_left
              · go_simp
                try with_reducible rfl
              simp only [Act.put, List.setIfInBounds_toArray, List.set_cons_succ, List.set_cons_zero]
              refine wpAnyN_done (by kernel_rfl) ?_
              go_upto_region 16 with (fail)
              refine wp_region_N (fun w' => Blk w' ba 23 (y.1.map b8).toArray ∧ Blk w' bb 23 (z.1.map b8).toArray ∧ Blk w' bx 23 (x.1.map b8).toArray) [] (by kernel_rfl) ?_
              obtain ⟨wd, hwd⟩ : ∃ wd, wd = w4.drew := ⟨_, rfl⟩
              have hT : Blk wd ba 23 (y.1.map b8).toArray ∧ Blk wd bb 23 (z.1.map b8).toArray ∧ Blk wd bx 23 (x.1.map b8).toArray := by rw [hwd]; exact ⟨hA4, hB4, hX4⟩
              have hR1 : Blk wd (r + 1) 23 zero32 := by rw [hwd]; exact hR4
              have hS1 : Blk wd (r + 2) 23 zero32 := by rw [hwd]; exact hS4
              have F1 : Below r w wd := by rw [hwd]; exact F4.drew
              rw [← hwd]
              clear hwd hA4 hB4 hX4 hR4 hS4 F4
              clear w4
              refine wpAnyN_takeG 0 91 (v := hval x) rfl rfl (by kernel_rfl) (by kernel_rfl) (by kernel_rfl) (by kernel_rfl) (fun _ _ _ h => h) hT rfl (fun w hS => ?_) ?_
              · exact run_load_mid_blk 23 (.tmp 15) rfl hS.2.2 0 (by go_simp) (x.1.map b8) (fun j v h => by rw [Nat.zero_add, List.getElem?_toArray]; exact h) (.array 32 5) (by kernel_rfl) rfl 32 (by kernel_rfl) (by simp [hxl])
              refine wpAnyN_takeG 1 92 (v := hval y) rfl rfl (by kernel_rfl) (by kernel_rfl) (by kernel_rfl) (by kernel_rfl) (fun _ _ _ h => h) hT rfl (fun w hS => ?_) ?_
              · exact run_load_mid_blk 23 (.tmp 19) rfl hS.1 0 (by go_simp) (y.1.map b8) (fun j v h => by rw [Nat.zero_add, List.getElem?_toArray]; exact h) (.array 32 5) (by kernel_rfl) rfl 32 (by kernel_rfl) (by simp [hyl])
              refine wpAnyN_takeG 3 94 (v := hval x) rfl rfl (by kernel_rfl) (by kernel_rfl) (by kernel_rfl) (by kernel_rfl) (fun _ _ _ h => h) hT rfl (fun w hS => ?_) ?_
              · exact run_load_mid_blk 23 (.tmp 15) rfl hS.2.2 0 (by go_simp) (x.1.map b8) (fun j v h => by rw [Nat.zero_add, List.getElem?_toArray]; exact h) (.array 32 5) (by kernel_rfl) rfl 32 (by kernel_rfl) (by simp [hxl])
              simp only [Act.put, List.setIfInBounds_toArray, List.set_cons_succ, List.set_cons_zero]
              refine wpAnyN_takeG 4 95 (v := hval z) rfl rfl (by kernel_rfl) (by kernel_rfl) (by kernel_rfl) (by kernel_rfl) (fun _ _ _ h => h) hT rfl (fun w hS => ?_) ?_
              · exact run_load_mid_blk 23 (.tmp 20) rfl hS.2.1 0 (by go_simp) (z.1.map b8) (fun j v h => by rw [Nat.zero_add, List.getElem?_toArray]; exact h) (.array 32 5) (by kernel_rfl) rfl 32 (by kernel_rfl) (by simp [hzl])
              refine wpAnyN_pureG 6 97 (v := ?_) rfl rfl (by kernel_rfl) (by kernel_rfl) (by kernel_rfl) (fun _ _ _ h => h) rfl (fun w => ?_) ?_
              rotate_left
              · go_simp
                try with_reducible rfl
              simp only [Act.put, List.setIfInBounds_toArray, List.set_cons_succ, List.set_cons_zero]
              have c2 := refnode_any wd x y
              rw [← HU.out] at c2
              refine wpAnyN_call 2 43 (some 93) [.tmp 91, .tmp 92] [hval x, hval y] (by kernel_rfl) rfl rfl rfl rfl (by go_simp) Tryd.call43 ?_
              refine c2.mono ?_
              rintro e w5 ⟨rfl, G5⟩
              have hsz : r ≤ wd.heap.size := by have := hR1.lt; omega
              replace hR1 := hR1.below G5 hR1.lt
              replace hS1 := hS1.below G5 hS1.lt
              replace F1 := F1.trans (G5.mono hsz)
              have hT' : _ ∧ _ ∧ _ := ⟨hT.1.below G5 hT.1.lt, hT.2.1.below G5 hT.2.1.lt, hT.2.2.below G5 hT.2.2.lt⟩
              replace hT := hT'
              refine ⟨_, rfl, fun _ h => ⟨h.1.below G5 h.1.lt, h.2.1.below G5 h.2.1.lt, h.2.2.below G5 h.2.2.lt⟩, ?_⟩
              clear c2 G5 hsz hT'
              clear wd
              simp only [Act.put, List.setIfInBounds_toArray, List.set_cons_succ, List.set_cons_zero]
              have c3 := refnode_any w5 x z
              rw [← HV.out] at c3
              refine wpAnyN_call 5 43 (some 96) [.tmp 94, .tmp 95] [hval x, hval z] (by kernel_rfl) rfl rfl rfl rfl (by go_simp) Tryd.call43 ?_
              refine c3.mono ?_
              rintro e w8 ⟨rfl, G5⟩
              have hsz : r ≤ w5.heap.size := by have := hR1.lt; omega
              replace hR1 := hR1.below G5 hR1.lt
              replace hS1 := hS1.below G5 hS1.lt
              replace F1 := F1.trans (G5.mono hsz)
              have hT' : _ ∧ _ ∧ _ := ⟨hT.1.below G5 hT.1.lt, hT.2.1.below G5 hT.2.1.lt, hT.2.2.below G5 hT.2.2.lt⟩
              replace hT := hT'
              refine ⟨_, rfl, fun _ h => ⟨h.1.below G5 h.1.lt, h.2.1.below G5 h.2.1.lt, h.2.2.below G5 h.2.2.lt⟩, ?_⟩
              clear c3 G5 hsz hT'
              clear w5
              simp only [Act.put, List.setIfInBounds_toArray, List.set_cons_succ, List.set_cons_zero]
              refine wpAnyN_store_blk 7 23 (.tmp 10) (.tmp 93) (by kernel_rfl) rfl rfl rfl rfl hR1 0 (u.1.map b8).toArray (by go_simp) (by go_simp) 32 (by kernel_rfl) (by simp [hul]) (by simp) (by rw [List.toList_toArray]; exact b8_one _) (u.1.map b8).toArray (by simp) ?_
              intro w6 hR6 hg6
              have hS6 := hS1.grown hg6 (fun e => by have := Option.some.inj e; omega)
              have F6 := below_upd F1 hg6 (by omega) hR1.lt
              refine ⟨fun _ h => ⟨h.1.grown hg6 (fun e => by have := Option.some.inj e; omega), h.2.1.grown hg6 (fun e => by have := Option.some.inj e; omega), h.2.2.grown hg6 (fun e => by have := Option.some.inj e; omega)⟩, ?_⟩
              clear hg6 hR1 hS1 F1
              refine wpAnyN_store_blk 8 23 (.tmp 11) (.tmp 96) (by kernel_rfl) rfl rfl rfl rfl hS6 0 (v.1.map b8).toArray (by go_simp) (by go_simp) 32 (by kernel_rfl) (by simp [hvl]) (by simp) (by rw [List.toList_toArray]; exact b8_one _) (v.1.map b8).toArray (by simp) ?_
              intro w7 hS7 hg7
              have hR7 := hR6.grown hg7 (fun e => by have := Option.some.inj e; omega)
              have F7 := below_upd F6 hg7 (by omega) hS6.lt
              refine ⟨fun _ h => ⟨h.1.grown hg7 (fun e => by have := Option.some.inj e; omega), h.2.1.grown hg7 (fun e => by have := Option.some.inj e; omega), h.2.2.grown hg7 (fun e => by have := Option.some.inj e; omega)⟩, ?_⟩
              clear hg7 hR6 hS6 F6
              refine wpAnyN_pureG 9 12 (v := ?_) rfl rfl (by kernel_rfl) (by kernel_rfl) (by kernel_rfl) (fun _ _ _ h => h) rfl (fun w => ?_) ?_
              rotate_left
              · go_simp
                try with_reducible rfl
              simp only [Act.put, List.setIfInBounds_toArray, List.set_cons_succ, List.set_cons_zero]
              refine wpAnyN_done (by kernel_rfl) ?_
              rw [HR.out] at F7
              go_wp2
              exact (ret_two_tmp rfl hR7 rfl hS7 rfl rfl (.array 32 5) (by kernel_rfl) rfl 32 (by kernel_rfl) (by simp [hul]) (by simp [hvl]) ⟨rfl, F7⟩).2
          · have hRwd := hR1
            have hSwd := hS1
            have hXwd := hX1
            have Fwd := F1
            clear hR1 hS1 hX1 F1 hL1 hsz
            obtain ⟨ba, hba⟩ : ∃ ba, ba = wd.heap.size := ⟨_, rfl⟩
            obtain ⟨wa, hwa⟩ : ∃ wa, wa = wd.alloc (.cells zero32 23) := ⟨_, rfl⟩
            have hbax : bx + 1 ≤ ba := by have := hXwd.lt; omega
            have hAwa : Blk wa ba 23 zero32 := by rw [hwa, hba]; exact Blk.new wd _ _
            have Fwa : Below r w wa := by rw [hwa]; exact Fwd.alloc (by omega) _
            have hRwa := hRwd.alloc (.cells zero32 23)
            rw [← hwa] at hRwa
            have hSwa := hSwd.alloc (.cells zero32 23)
            rw [← hwa] at hSwa
            have hXwa := hXwd.alloc (.cells zero32 23)
            rw [← hwa] at hXwa
            rw [← hba, ← hwa]
            clear hba hwa hRwd hSwd hXwd Fwd
            clear wd
            show wpAnyN _ _ _ _ _ _ _ _ (Act.put _ (some 19) _) _
            simp only [Act.put, List.setIfInBounds_toArray, List.set_cons_succ, List.set_cons_zero]
            refine wpAnyN_callOr 10 28 (some 87) [.tmp 79, .tmp 82, .const (.bool false), .tmp 83, .tmp 86] [.int .i64 m', .int .i64 n', .bool false, hval old, .slice a6 q.length cp] [16] (by kernel_rfl) rfl rfl rfl rfl (by go_simp) Tryd.call28 ?_ ⟨⟨_, .pointer (some ⟨wa.heap.size, 0, none⟩), wa.alloc (.cells zero32 23), rfl, rfl, by go_simp, fun _ h => h.alloc _, ?_⟩, trivial⟩
            · refine (ihc.out wa Fwa).mono ?_
              rintro e wc ⟨rfl, Gwc⟩
              refine ⟨_, rfl, fun _ h => h.below Gwc h.lt, ?_⟩
              have hRwc := hRwa.below Gwc hRwa.lt
              have hSwc := hSwa.below Gwc hSwa.lt
              have hXwc := hXwa.below Gwc hXwa.lt
              have hAwc := hAwa.below Gwc hAwa.lt
              have Fwc : Below r w wc := Fwa.trans (Gwc.mono (Nat.le_trans (by omega) (Nat.le_of_lt hXwa.lt)))
              clear hRwa hSwa hXwa hAwa Fwa Gwc
              clear wa
              refine wpAnyN_pureG 11 76 (v := ?_) rfl rfl (by kernel_rfl) (by kernel_rfl) (by kernel_rfl) (fun _ _ _ h => h) rfl (fun w => ?_) ?_
              rotate_left
              · go_simp
                try with_reducible rfl
              simp only [Act.put, List.setIfInBounds_toArray, List.set_cons_succ, List.set_cons_zero]
              refine wpAnyN_pureG 12 88 (v := ?_) rfl rfl (by kernel_rfl) (by kernel_rfl) (by kernel_rfl) (fun _ _ _ h => h) rfl (fun w => ?_) ?_
              rotate_left
              · go_simp
                try with_reducible rfl
              refine wpAnyN_pureG 13 89 (v := ?_) rfl rfl (by kernel_rfl) (by kernel_rfl) (by kernel_rfl) (fun _ _ _ h => h) rfl (fun w => ?_) ?_
              rotate_left
              · go_simp
                try with_reducible rfl
              refine wpAnyN_pureG 14 90 (v := ?_) rfl rfl (by kernel_rfl) (by kernel_rfl) (by kernel_rfl) (fun _ _ _ h => h) rfl (fun w => ?_) ?_
              rotate_left
              · go_simp
                try with_reducible rfl
              simp only [Act.put, List.setIfInBounds_toArray, List.set_cons_succ, List.set_cons_zero]
              refine wpAnyN_run 16 (some 20) (v := .pointer (some ⟨wc.heap.size, 0, none⟩)) (w' := wc.alloc (.cells zero32 23)) (by kernel_rfl) rfl rfl rfl (by go_simp) ⟨fun _ h => h.alloc _, ?_⟩
              obtain ⟨bb, hbb⟩ : ∃ bb, bb = wc.heap.size := ⟨_, rfl⟩
              obtain ⟨wy, hwy⟩ : ∃ wy, wy = wc.alloc (.cells zero32 23) := ⟨_, rfl⟩
              have hbbx : bx + 1 ≤ bb := by have := hXwc.lt; omega
              have hBwy : Blk wy bb 23 zero32 := by rw [hwy, hbb]; exact Blk.new wc _ _
              have Fwy : Below r w wy := by rw [hwy]; exact Fwc.alloc (by omega) _
              have hRwy := hRwc.alloc (.cells zero32 23)
              rw [← hwy] at hRwy
              have hSwy := hSwc.alloc (.cells zero32 23)
              rw [← hwy] at hSwy
              have hXwy := hXwc.alloc (.cells zero32 23)
              rw [← hwy] at hXwy
              have hAwy := hAwc.alloc (.cells zero32 23)
              rw [← hwy] at hAwy
              rw [← hbb, ← hwy]
              have h12 : ba < bb := by have := hAwc.lt; omega
              clear hbb hwy hRwc hSwc hXwc Fwc hAwc
              clear wc
              simp only [Act.put, List.setIfInBounds_toArray, List.set_cons_succ, List.set_cons_zero]
              have hAz := hAwy
              have hBz := hBwy
              have hRz := hRwy
              have hSz := hSwy
              have hXz := hXwy
              have Fz := Fwy
              have hab : ba ≠ bb := by omega
              clear hAwy hBwy hRwy hSwy hXwy Fwy h12
              obtain ⟨wz, rfl⟩ : ∃ wz, wz = wy := ⟨_, rfl⟩
              refine wpAnyN_store_blk 17 23 (.tmp 19) (.tmp 88) (by kernel_rfl) rfl rfl rfl rfl hAz 0 (y.1.map b8).toArray (by go_simp) (by go_simp) 32 (by kernel_rfl) (by simp [hyl]) (by simp) (by rw [List.toList_toArray]; exact b8_one _) (y.1.map b8).toArray (by simp) ?_
              intro w3 hA3 hg3
              have hB3 := hBz.grown hg3 (fun e => hab (Option.some.inj e).symm)
              have hR3 := hRz.grown hg3 (fun e => by have := Option.some.inj e; omega)
              have hS3 := hSz.grown hg3 (fun e => by have := Option.some.inj e; omega)
              have hX3 := hXz.grown hg3 (fun e => by have := Option.some.inj e; omega)
              have F3 := below_upd Fz hg3 (by omega) hAz.lt
              refine ⟨fun _ h => h.grown hg3 (fun e => by have := Option.some.inj e; omega), ?_⟩
              clear hg3 hAz hBz hRz hSz hXz Fz
              clear wz
              refine wpAnyN_store_blk 18 23 (.tmp 20) (.tmp 89) (by kernel_rfl) rfl rfl rfl rfl hB3 0 (z.1.map b8).toArray (by go_simp) (by go_simp) 32 (by kernel_rfl) (by simp [hzl]) (by simp) (by rw [List.toList_toArray]; exact b8_one _) (z.1.map b8).toArray (by simp) ?_
              intro w4 hB4 hg4
              have hA4 := hA3.grown hg4 (fun e => hab (Option.some.inj e))
              have hR4 := hR3.grown hg4 (fun e => by have := Option.some.inj e; omega)
              have hS4 := hS3.grown hg4 (fun e => by have := Option.some.inj e; omega)
              have hX4 := hX3.grown hg4 (fun e => by have := Option.some.inj e; omega)
              have F4 := below_upd F3 hg4 (by omega) hB3.lt
              refine ⟨fun _ h => h.grown hg4 (fun e => by have := Option.some.inj e; omega), ?_⟩
              clear hg4 hA3 hB3 hR3 hS3 hX3 F3
              clear w3
              refine wpAnyN_pureG 19 21 (v := ?_) rfl rfl (by kernel_rfl) (by kernel_rfl) (by kernel_rfl) (fun _ _ _ h => h) rfl (fun w => ?_) ?_
              rotate_left
              · go_simp
                try with_reducible rfl
              simp only [Act.put, List.setIfInBounds_toArray, List.set_cons_succ, List.set_cons_zero]
              refine wpAnyN_done (by kernel_rfl) ?_
              go_upto_region 16 with (fail)
              refine wp_region_N (fun w' => Blk w' ba 23 (y.1.map b8).toArray ∧ Blk w' bb 23 (z.1.map b8).toArray ∧ Blk w' bx 23 (x.1.map b8).toArray) [] (by kernel_rfl) ?_
              obtain ⟨wd, hwd⟩ : ∃ wd, wd = w4.drew := ⟨_, rfl⟩
              have hT : Blk wd ba 23 (y.1.map b8).toArray ∧ Blk wd bb 23 (z.1.map b8).toArray ∧ Blk wd bx 23 (x.1.map b8).toArray := by rw [hwd]; exact ⟨hA4, hB4, hX4⟩
              have hR1 : Blk wd (r + 1) 23 zero32 := by rw [hwd]; exact hR4
              have hS1 : Blk wd (r + 2) 23 zero32 := by rw [hwd]; exact hS4
              have F1 : Below r w wd := by rw [hwd]; exact F4.drew
              rw [← hwd]
              clear hwd hA4 hB4 hX4 hR4 hS4 F4
              clear w4
              refine wpAnyN_takeG 0 91 (v := hval x) rfl rfl (by kernel_rfl) (by kernel_rfl) (by kernel_rfl) (by kernel_rfl) (fun _ _ _ h => h) hT rfl (fun w hS => ?_) ?_
              · exact run_load_mid_blk 23 (.tmp 15) rfl hS.2.2 0 (by go_simp) (x.1.map b8) (fun j v h => by rw [Nat.zero_add, List.getElem?_toArray]; exact h) (.array 32 5) (by kernel_rfl) rfl 32 (by kernel_rfl) (by simp [hxl])
              refine wpAnyN_takeG 1 92 (v := hval y) rfl rfl (by kernel_rfl) (by kernel_rfl) (by kernel_rfl) (by kernel_rfl) (fun _ _ _ h => h) hT rfl (fun w hS => ?_) ?_
              · exact run_load_mid_blk 23 (.tmp 19) rfl hS.1 0 (by go_simp) (y.1.map b8) (fun j v h => by rw [Nat.zero_add, List.getElem?_toArray]; exact h) (.array 32 5) (by kernel_rfl) rfl 32 (by kernel_rfl) (by simp [hyl])
              refine wpAnyN_takeG 3 94 (v := hval x) rfl rfl (by kernel_rfl) (by kernel_rfl) (by kernel_rfl) (by kernel_rfl) (fun _ _ _ h => h) hT rfl (fun w hS => ?_) ?_
              · exact run_load_mid_blk 23 (.tmp 15) rfl hS.2.2 0 (by go_simp) (x.1.map b8) (fun j v h => by rw [Nat.zero_add, List.getElem?_toArray]; exact h) (.array 32 5) (by kernel_rfl) rfl 32 (by kernel_rfl) (by simp [hxl])
              simp only [Act.put, List.setIfInBounds_toArray, List.set_cons_succ, List.set_cons_zero]
              refine wpAnyN_takeG 4 95 (v := hval z) rfl rfl (by kernel_rfl) (by kernel_rfl) (by kernel_rfl) (by kernel_rfl) (fun _ _ _ h => h) hT rfl (fun w hS => ?_) ?_
              · exact run_load_mid_blk 23 (.tmp 20) rfl hS.2.1 0 (by go_simp) (z.1.map b8) (fun j v h => by rw [Nat.zero_add, List.getElem?_toArray]; exact h) (.array 32 5) (by kernel_rfl) rfl 32 (by kernel_rfl) (by simp [hzl])
              refine wpAnyN_pureG 6 97 (v := ?_) rfl rfl (by kernel_rfl) (by kernel_rfl) (by kernel_rfl) (fun _ _ _ h => h) rfl (fun w => ?_) ?_
              rotate_left
              · go_simp
                try with_reducible rfl
              simp only [Act.put, List.setIfInBounds_toArray, List.set_cons_succ, List.set_cons_zero]
              have c2 := refnode_any wd x y
              rw [← HU.out] at c2
              refine wpAnyN_call 2 43 (some 93) [.tmp 91, .tmp 92] [hval x, hval y] (by kernel_rfl) rfl rfl rfl rfl (by go_simp) Tryd.call43 ?_
              refine c2.mono ?_
              rintro e w5 ⟨rfl, G5⟩
              have hsz : r ≤ wd.heap.size := by have := hR1.lt; omega
              replace hR1 := hR1.below G5 hR1.lt
              replace hS1 := hS1.below G5 hS1.lt
              replace F1 := F1.trans (G5.mono hsz)
              have hT' : _ ∧ _ ∧ _ := ⟨hT.1.below G5 hT.1.lt, hT.2.1.below G5 hT.2.1.lt, hT.2.2.below G5 hT.2.2.lt⟩
              replace hT := hT'
              refine ⟨_, rfl, fun _ h => ⟨h.1.below G5 h.1.lt, h.2.1.below G5 h.2.1.lt, h.2.2.below G5 h.2.2.lt⟩, ?_⟩
              clear c2 G5 hsz hT'
              clear wd
              simp only [Act.put, List.setIfInBounds_toArray, List.set_cons_succ, List.set_cons_zero]
              have c3 := refnode_any w5 x z
              rw [← HV.out] at c3
              refine wpAnyN_call 5 43 (some 96) [.tmp 94, .tmp 95] [hval x, hval z] (by kernel_rfl) rfl rfl rfl rfl (by go_simp) Tryd.call43 ?_
              refine c3.mono ?_
              rintro e w8 ⟨rfl, G5⟩
              have hsz : r ≤ w5.heap.size := by have := hR1.lt; omega
              replace hR1 := hR1.below G5 hR1.lt
              replace hS1 := hS1.below G5 hS1.lt
              replace F1 := F1.trans (G5.mono hsz)
              have hT' : _ ∧ _ ∧ _ := ⟨hT.1.below G5 hT.1.lt, hT.2.1.below G5 hT.2.1.lt, hT.2.2.below G5 hT.2.2.lt⟩
              replace hT := hT'
              refine ⟨_, rfl, fun _ h => ⟨h.1.below G5 h.1.lt, h.2.1.below G5 h.2.1.lt, h.2.2.below G5 h.2.2.lt⟩, ?_⟩
              clear c3 G5 hsz hT'
              clear w5
              simp only [Act.put, List.setIfInBounds_toArray, List.set_cons_succ, List.set_cons_zero]
              refine wpAnyN_store_blk 7 23 (.tmp 10) (.tmp 93) (by kernel_rfl) rfl rfl rfl rfl hR1 0 (u.1.map b8).toArray (by go_simp) (by go_simp) 32 (by kernel_rfl) (by simp [hul]) (by simp) (by rw [List.toList_toArray]; exact b8_one _) (u.1.map b8).toArray (by simp) ?_
              intro w6 hR6 hg6
              have hS6 := hS1.grown hg6 (fun e => by have := Option.some.inj e; omega)
              have F6 := below_upd F1 hg6 (by omega) hR1.lt
              refine ⟨fun _ h => ⟨h.1.grown hg6 (fun e => by have := Option.some.inj e; omega), h.2.1.grown hg6 (fun e => by have := Option.some.inj e; omega), h.2.2.grown hg6 (fun e => by have := Option.some.inj e; omega)⟩, ?_⟩
              clear hg6 hR1 hS1 F1
              refine wpAnyN_store_blk 8 23 (.tmp 11) (.tmp 96) (by kernel_rfl) rfl rfl rfl rfl hS6 0 (v.1.map b8).toArray (by go_simp) (by go_simp) 32 (by kernel_rfl) (by simp [hvl]) (by simp) (by rw [List.toList_toArray]; exact b8_one _) (v.1.map b8).toArray (by simp) ?_
              intro w7 hS7 hg7
              have hR7 := hR6.grown hg7 (fun e => by have := Option.some.inj e; omega)
              have F7 := below_upd F6 hg7 (by omega) hS6.lt
              refine ⟨fun _ h => ⟨h.1.grown hg7 (fun e => by have := Option.some.inj e; omega), h.2.1.grown hg7 (fun e => by have := Option.some.inj e; omega), h.2.2.grown hg7 (fun e => by have := Option.some.inj e; omega)⟩, ?_⟩
              clear hg7 hR6 hS6 F6
              refine wpAnyN_pureG 9 12 (v := ?_) rfl rfl (by kernel_rfl) (by kernel_rfl) (by kernel_rfl) (fun _ _ _ h => h) rfl (fun w => ?_) ?_
              rotate_left
              · go_simp
                try with_reducible rfl
              simp only [Act.put, List.setIfInBounds_toArray, List.set_cons_succ, List.set_cons_zero]
              refine wpAnyN_done (by kernel_rfl) ?_
              rw [HR.out] at F7
              go_wp2
              exact (ret_two_tmp rfl hR7 rfl hS7 rfl rfl (.array 32 5) (by kernel_rfl) rfl 32 (by kernel_rfl) (by simp [hul]) (by simp [hvl]) ⟨rfl, F7⟩).2
            · obtain ⟨bb, hbb⟩ : ∃ bb, bb = wa.heap.size := ⟨_, rfl⟩
              obtain ⟨wy, hwy⟩ : ∃ wy, wy = wa.alloc (.cells zero32 23) := ⟨_, rfl⟩
              have hbbx : bx + 1 ≤ bb := by have := hXwa.lt; omega
              have hBwy : Blk wy bb 23 zero32 := by rw [hwy, hbb]; exact Blk.new wa _ _
              have Fwy : Below r w wy := by rw [hwy]; exact Fwa.alloc (by omega) _
              have hRwy := hRwa.alloc (.cells zero32 23)
              rw [← hwy] at hRwy
              have hSwy := hSwa.alloc (.cells zero32 23)
              rw [← hwy] at hSwy
              have hXwy := hXwa.alloc (.cells zero32 23)
              rw [← hwy] at hXwy
              have hAwy := hAwa.alloc (.cells zero32 23)
              rw [← hwy] at hAwy
              rw [← hbb, ← hwy]
              have h12 : ba < bb := by have := hAwa.lt; omega
              clear hbb hwy hRwa hSwa hXwa Fwa hAwa
              clear wa
              show wpAnyN _ _ _ _ _ _ _ _ (Act.put _ (some 20) _) _
              simp only [Act.put, List.setIfInBounds_toArray, List.set_cons_succ, List.set_cons_zero]
              refine wpAnyN_call 10 28 (some 87) [.tmp 79, .tmp 82, .const (.bool false), .tmp 83, .tmp 86] [.int .i64 m', .int .i64 n', .bool false, hval old, .slice a6 q.length cp] (by kernel_rfl) rfl rfl rfl rfl (by go_simp) Tryd.call28 ?_
              refine (ihc.out wy Fwy).mono ?_
              rintro e wc ⟨rfl, Gwc⟩
              refine ⟨_, rfl, fun _ h => h.below Gwc h.lt, ?_⟩
              have hRwc := hRwy.below Gwc hRwy.lt
              have hSwc := hSwy.below Gwc hSwy.lt
              have hXwc := hXwy.below Gwc hXwy.lt
              have hAwc := hAwy.below Gwc hAwy.lt
              have hBwc := hBwy.below Gwc hBwy.lt
              have Fwc : Below r w wc := Fwy.trans (Gwc.mono (Nat.le_trans (by omega) (Nat.le_of_lt hXwy.lt)))
              clear hRwy hSwy hXwy hAwy hBwy Fwy Gwc
              clear wy
              refine wpAnyN_pureG 11 76 (v := ?_) rfl rfl (by kernel_rfl) (by kernel_rfl) (by kernel_rfl) (fun _ _ _ h => h) rfl (fun w => ?_) ?_
              rotate_left
              · go_simp
                try with_reducible rfl
              simp only [Act.put, List.setIfInBounds_toArray, List.set_cons_succ, List.set_cons_zero]
              refine wpAnyN_pureG 12 88 (v := ?_) rfl rfl (by kernel_rfl) (by kernel_rfl) (by kernel_rfl) (fun _ _ _ h => h) rfl (fun w => ?_) ?_
              rotate_left
              · go_simp
                try with_reducible rfl
              refine wpAnyN_pureG 13 89 (v := ?_) rfl rfl (by kernel_rfl) (by kernel_rfl) (by kernel_rfl) (fun _ _ _ h => h) rfl (fun w => ?_) ?_
              rotate_left
              · go_simp
                try with_reducible rfl
              refine wpAnyN_pureG 14 90 (v := ?_) rfl rfl (by kernel_rfl) (by kernel_rfl) (by kernel_rfl) (fun _ _ _ h => h) rfl (fun w => ?_) ?_
              rotate_left
              · go_simp
                try with_reducible rfl
              simp only [Act.put, List.setIfInBounds_toArray, List.set_cons_succ, List.set_cons_zero]
              have hAz := hAwc
              have hBz := hBwc
              have hRz := hRwc
              have hSz := hSwc
              have hXz := hXwc
              have Fz := Fwc
              have hab : ba ≠ bb := by omega
              clear hAwc hBwc hRwc hSwc hXwc Fwc h12
              obtain ⟨wz, rfl⟩ : ∃ wz, wz = wc := ⟨_, rfl⟩
              refine wpAnyN_store_blk 17 23 (.tmp 19) (.tmp 88) (by kernel_rfl) rfl rfl rfl rfl hAz 0 (y.1.map b8).toArray (by go_simp) (by go_simp) 32 (by kernel_rfl) (by simp [hyl]) (by simp) (by rw [List.toList_toArray]; exact b8_one _) (y.1.map b8).toArray (by simp) ?_
              intro w3 hA3 hg3
              have hB3 := hBz.grown hg3 (fun e => hab (Option.some.inj e).symm)
              have hR3 := hRz.grown hg3 (fun e => by have := Option.some.inj e; omega)
              have hS3 := hSz.grown hg3 (fun e => by have := Option.some.inj e; omega)
              have hX3 := hXz.grown hg3 (fun e => by have := Option.some.inj e; omega)
              have F3 := below_upd Fz hg3 (by omega) hAz.lt
              refine ⟨fun _ h => h.grown hg3 (fun e => by have := Option.some.inj e; omega), ?_⟩
              clear hg3 hAz hBz hRz hSz hXz Fz
              clear wz
              refine wpAnyN_store_blk 18 23 (.tmp 20) (.tmp 89) (by kernel_rfl) rfl rfl rfl rfl hB3 0 (z.1.map b8).toArray (by go_simp) (by go_simp) 32 (by kernel_rfl) (by simp [hzl]) (by simp) (by rw [List.toList_toArray]; exact b8_one _) (z.1.map b8).toArray (by simp) ?_
              intro w4 hB4 hg4
              have hA4 := hA3.grown hg4 (fun e => hab (Option.some.inj e))
              have hR4 := hR3.grown hg4 (fun e => by have := Option.some.inj e; omega)
              have hS4 := hS3.grown hg4 (fun e => by have := Option.some.inj e; omega)
              have hX4 := hX3.grown hg4 (fun e => by have := Option.some.inj e; omega)
              have F4 := below_upd F3 hg4 (by omega) hB3.lt
              refine ⟨fun _ h => h.grown hg4 (fun e => by have := Option.some.inj e; omega), ?_⟩
              clear hg4 hA3 hB3 hR3 hS3 hX3 F3
              clear w3
              refine wpAnyN_pureG 19 21 (v := ?_) rfl rfl (by kernel_rfl) (by kernel_rfl) (by kernel_rfl) (fun _ _ _ h => h) rfl (fun w => ?_) ?_
              rotate_left
              · go_simp
                try with_reducible rfl
              simp only [Act.put, List.setIfInBounds_toArray, List.set_cons_succ, List.set_cons_zero]
              refine wpAnyN_done (by kernel_rfl) ?_
              go_upto_region 16 with (fail)
              refine wp_region_N (fun w' => Blk w' ba 23 (y.1.map b8).toArray ∧ Blk w' bb 23 (z.1.map b8).toArray ∧ Blk w' bx 23 (x.1.map b8).toArray) [] (by kernel_rfl) ?_
              obtain ⟨wd, hwd⟩ : ∃ wd, wd = w4.drew := ⟨_, rfl⟩
              have hT : Blk wd ba 23 (y.1.map b8).toArray ∧ Blk wd bb 23 (z.1.map b8).toArray ∧ Blk wd bx 23 (x.1.map b8).toArray := by rw [hwd]; exact ⟨hA4, hB4, hX4⟩
              have hR1 : Blk wd (r + 1) 23 zero32 := by rw [hwd]; exact hR4
              have hS1 : Blk wd (r + 2) 23 zero32 := by rw [hwd]; exact hS4
              have F1 : Below r w wd := by rw [hwd]; exact F4.drew
              rw [← hwd]
              clear hwd hA4 hB4 hX4 hR4 hS4 F4
              clear w4
              refine wpAnyN_takeG 0 91 (v := hval x) rfl rfl (by kernel_rfl) (by kernel_rfl) (by kernel_rfl) (by kernel_rfl) (fun _ _ _ h => h) hT rfl (fun w hS => ?_) ?_
              · exact run_load_mid_blk 23 (.tmp 15) rfl hS.2.2 0 (by go_simp) (x.1.map b8) (fun j v h => by rw [Nat.zero_add, List.getElem?_toArray]; exact h) (.array 32 5) (by kernel_rfl) rfl 32 (by kernel_rfl) (by simp [hxl])
              refine wpAnyN_takeG 1 92 (v := hval y) rfl rfl (by kernel_rfl) (by kernel_rfl) (by kernel_rfl) (by kernel_rfl) (fun _ _ _ h => h) hT rfl (fun w hS => ?_) ?_
              · exact run_load_mid_blk 23 (.tmp 19) rfl hS.1 0 (by go_simp) (y.1.map b8) (fun j v h => by rw [Nat.zero_add, List.getElem?_toArray]; exact h) (.array 32 5) (by kernel_rfl) rfl 32 (by kernel_rfl) (by simp [hyl])
              refine wpAnyN_takeG 3 94 (v := hval x) rfl rfl (by kernel_rfl) (by kernel_rfl) (by kernel_rfl) (by kernel_rfl) (fun _ _ _ h => h) hT rfl (fun w hS => ?_) ?_
              · exact run_load_mid_blk 23 (.tmp 15) rfl hS.2.2 0 (by go_simp) (x.1.map b8) (fun j v h => by rw [Nat.zero_add, List.getElem?_toArray]; exact h) (.array 32 5) (by kernel_rfl) rfl 32 (by kernel_rfl) (by simp [hxl])
              simp only [Act.put, List.setIfInBounds_toArray, List.set_cons_succ, List.set_cons_zero]
              refine wpAnyN_takeG 4 95 (v := hval z) rfl rfl (by kernel_rfl) (by kernel_rfl) (by kernel_rfl) (by kernel_rfl) (fun _ _ _ h => h) hT rfl (fun w hS => ?_) ?_
              · exact run_load_mid_blk 23 (.tmp 20) rfl hS.2.1 0 (by go_simp) (z.1.map b8) (fun j v h => by rw [Nat.zero_add, List.getElem?_toArray]; exact h) (.array 32 5) (by kernel_rfl) rfl 32 (by kernel_rfl) (by simp [hzl])
              refine wpAnyN_pureG 6 97 (v := ?_) rfl rfl (by kernel_rfl) (by kernel_rfl) (by kernel_rfl) (fun _ _ _ h => h) rfl (fun w => ?_) ?_
              rotate_left
              · go_simp
                try with_reducible rfl
              simp only [Act.put, List.setIfInBounds_toArray, List.set_cons_succ, List.set_cons_zero]
              have c2 := refnode_any wd x y
              rw [← HU.out] at c2
              refine wpAnyN_call 2 43 (some 93) [.tmp 91, .tmp 92] [hval x, hval y] (by kernel_rfl) rfl rfl rfl rfl (by go_simp) Tryd.call43 ?_
              refine c2.mono ?_
              rintro e w5 ⟨rfl, G5⟩
              have hsz : r ≤ wd.heap.size := by have := hR1.lt; omega
              replace hR1 := hR1.below G5 hR1.lt
              replace hS1 := hS1.below G5 hS1.lt
              replace F1 := F1.trans (G5.mono hsz)
              have hT' : _ ∧ _ ∧ _ := ⟨hT.1.below G5 hT.1.lt, hT.2.1.below G5 hT.2.1.lt, hT.2.2.below G5 hT.2.2.lt⟩
              replace hT := hT'
              refine ⟨_, rfl, fun _ h => ⟨h.1.below G5 h.1.lt, h.2.1.below G5 h.2.1.lt, h.2.2.below G5 h.2.2.lt⟩, ?_⟩
              clear c2 G5 hsz hT'
              clear wd
              simp only [Act.put, List.setIfInBounds_toArray, List.set_cons_succ, List.set_cons_zero]
              have c3 := refnode_any w5 x z
              rw [← HV.out] at c3
              refine wpAnyN_call 5 43 (some 96) [.tmp 94, .tmp 95] [hval x, hval z] (by kernel_rfl) rfl rfl rfl rfl (by go_simp) Tryd.call43 ?_
              refine c3.mono ?_
              rintro e w8 ⟨rfl, G5⟩
              have hsz : r ≤ w5.heap.size := by have := hR1.lt; omega
              replace hR1 := hR1.below G5 hR1.lt
              replace hS1 := hS1.below G5 hS1.lt
              replace F1 := F1.trans (G5.mono hsz)
              have hT' : _ ∧ _ ∧ _ := ⟨hT.1.below G5 hT.1.lt, hT.2.1.below G5 hT.2.1.lt, hT.2.2.below G5 hT.2.2.lt⟩
              replace hT := hT'
              refine ⟨_, rfl, fun _ h => ⟨h.1.below G5 h.1.lt, h.2.1.below G5 h.2.1.lt, h.2.2.below G5 h.2.2.lt⟩, ?_⟩
              clear c3 G5 hsz hT'
              clear w5
              simp only [Act.put, List.setIfInBounds_toArray, List.set_cons_succ, List.set_cons_zero]
              refine wpAnyN_store_blk 7 23 (.tmp 10) (.tmp 93) (by kernel_rfl) rfl rfl rfl rfl hR1 0 (u.1.map b8).toArray (by go_simp) (by go_simp) 32 (by kernel_rfl) (by simp [hul]) (by simp) (by rw [List.toList_toArray]; exact b8_one _) (u.1.map b8).toArray (by simp) ?_
              intro w6 hR6 hg6
              have hS6 := hS1.grown hg6 (fun e => by have := Option.some.inj e; omega)
              have F6 := below_upd F1 hg6 (by omega) hR1.lt
              refine ⟨fun _ h => ⟨h.1.grown hg6 (fun e => by have := Option.some.inj e; omega), h.2.1.grown hg6 (fun e => by have := Option.some.inj e; omega), h.2.2.grown hg6 (fun e => by have := Option.some.inj e; omega)⟩, ?_⟩
              clear hg6 hR1 hS1 F1
              refine wpAnyN_store_blk 8 23 (.tmp 11) (.tmp 96) (by kernel_rfl) rfl rfl rfl rfl hS6 0 (v.1.map b8).toArray (by go_simp) (by go_simp) 32 (by kernel_rfl) (by simp [hvl]) (by simp) (by rw [List.toList_toArray]; exact b8_one _) (v.1.map b8).toArray (by simp) ?_
              intro w7 hS7 hg7
              have hR7 := hR6.grown hg7 (fun e => by have := Option.some.inj e; omega)
              have F7 := below_upd F6 hg7 (by omega) hS6.lt
              refine ⟨fun _ h => ⟨h.1.grown hg7 (fun e => by have := Option.some.inj e; omega), h.2.1.grown hg7 (fun e => by have := Option.some.inj e; omega), h.2.2.grown hg7 (fun e => by have := Option.some.inj e; omega)⟩, ?_⟩
              clear hg7 hR6 hS6 F6
              refine wpAnyN_pureG 9 12 (v := ?_) rfl rfl (by kernel_rfl) (by kernel_rfl) (by kernel_rfl) (fun _ _ _ h => h) rfl (fun w => ?_) ?_
              rotate_left
              · go_simp
                try with_reducible rfl
              simp only [Act.put, List.setIfInBounds_toArray, List.set_cons_succ, List.set_cons_zero]
              refine wpAnyN_done (by kernel_rfl) ?_
              rw [HR.out] at F7
              go_wp2
              exact (ret_two_tmp rfl hR7 rfl hS7 rfl rfl (.array 32 5) (by kernel_rfl) rfl 32 (by kernel_rfl) (by simp [hul]) (by simp [hvl]) ⟨rfl, F7⟩).2
          · have hRwd := hR1
            have hSwd := hS1
            have hXwd := hX1
            have Fwd := F1
            clear hR1 hS1 hX1 F1 hL1 hsz
            obtain ⟨bb, hbb⟩ : ∃ bb, bb = wd.heap.size := ⟨_, rfl⟩
            obtain ⟨wa, hwa⟩ : ∃ wa, wa = wd.alloc (.cells zero32 23) := ⟨_, rfl⟩
            have hbbx : bx + 1 ≤ bb := by have := hXwd.lt; omega
            have hBwa : Blk wa bb 23 zero32 := by rw [hwa, hbb]; exact Blk.new wd _ _
            have Fwa : Below r w wa := by rw [hwa]; exact Fwd.alloc (by omega) _
            have hRwa := hRwd.alloc (.cells zero32 23)
            rw [← hwa] at hRwa
            have hSwa := hSwd.alloc (.cells zero32 23)
            rw [← hwa] at hSwa
            have hXwa := hXwd.alloc (.cells zero32 23)
            rw [← hwa] at hXwa
            rw [← hbb, ← hwa]
            clear hbb hwa hRwd hSwd hXwd Fwd
            clear wd
            show wpAnyN _ _ _ _ _ _ _ _ (Act.put _ (some 20) _) _
            simp only [Act.put, List.setIfInBounds_toArray, List.set_cons_succ, List.set_cons_zero]
            refine wpAnyN_callOr 10 28 (some 87) [.tmp 79, .tmp 82, .const (.bool false), .tmp 83, .tmp 86] [.int .i64 m', .int .i64 n', .bool false, hval old, .slice a6 q.length cp] [15] (by kernel_rfl) rfl rfl rfl rfl (by go_simp) Tryd.call28 ?_ ⟨⟨_, .pointer (some ⟨wa.heap.size, 0, none⟩), wa.alloc (.cells zero32 23), rfl, rfl, by go_simp, fun _ h => h.alloc _, ?_⟩, trivial⟩
            · refine (ihc.out wa Fwa).mono ?_
              rintro e wc ⟨rfl, Gwc⟩
              refine ⟨_, rfl, fun _ h => h.below Gwc h.lt, ?_⟩
              have hRwc := hRwa.below Gwc hRwa.lt
              have hSwc := hSwa.below Gwc hSwa.lt
              have hXwc := hXwa.below Gwc hXwa.lt
              have hBwc := hBwa.below Gwc hBwa.lt
              have Fwc : Below r w wc := Fwa.trans (Gwc.mono (Nat.le_trans (by omega) (Nat.le_of_lt hXwa.lt)))
              clear hRwa hSwa hXwa hBwa Fwa Gwc
              clear wa
              refine wpAnyN_pureG 11 76 (v := ?_) rfl rfl (by kernel_rfl) (by kernel_rfl) (by kernel_rfl) (fun _ _ _ h => h) rfl (fun w => ?_) ?_
              rotate_left
              · go_simp
                try with_reducible rfl
              simp only [Act.put, List.setIfInBounds_toArray, List.set_cons_succ, List.set_cons_zero]
              refine wpAnyN_pureG 12 88 (v := ?_) rfl rfl (by kernel_rfl) (by kernel_rfl) (by kernel_rfl) (fun _ _ _ h => h) rfl (fun w => ?_) ?_
              rotate_left
              · go_simp
                try with_reducible rfl
              refine wpAnyN_pureG 13 89 (v := ?_) rfl rfl (by kernel_rfl) (by kernel_rfl) (by kernel_rfl) (fun _ _ _ h => h) rfl (fun w => ?_) ?_
              rotate_left
              · go_simp
                try with_reducible rfl
              refine wpAnyN_pureG 14 90 (v := ?_) rfl rfl (by kernel_rfl) (by kernel_rfl) (by kernel_rfl) (fun _ _ _ h => h) rfl (fun w => ?_) ?_
              rotate_left
              · go_simp
                try with_reducible rfl
              simp only [Act.put, List.setIfInBounds_toArray, List.set_cons_succ, List.set_cons_zero]
              refine wpAnyN_run 15 (some 19) (v := .pointer (some ⟨wc.heap.size, 0, none⟩)) (w' := wc.alloc (.cells zero32 23)) (by kernel_rfl) rfl rfl rfl (by go_simp) ⟨fun _ h => h.alloc _, ?_⟩
              obtain ⟨ba, hba⟩ : ∃ ba, ba = wc.heap.size := ⟨_, rfl⟩
              obtain ⟨wy, hwy⟩ : ∃ wy, wy = wc.alloc (.cells zero32 23) := ⟨_, rfl⟩
              have hbax : bx + 1 ≤ ba := by have := hXwc.lt; omega
              have hAwy : Blk wy ba 23 zero32 := by rw [hwy, hba]; exact Blk.new wc _ _
              have Fwy : Below r w wy := by rw [hwy]; exact Fwc.alloc (by omega) _
              have hRwy := hRwc.alloc (.cells zero32 23)
              rw [← hwy] at hRwy
              have hSwy := hSwc.alloc (.cells zero32 23)
              rw [← hwy] at hSwy
              have hXwy := hXwc.alloc (.cells zero32 23)
              rw [← hwy] at hXwy
              have hBwy := hBwc.alloc (.cells zero32 23)
              rw [← hwy] at hBwy
              rw [← hba, ← hwy]
              have h12 : bb < ba := by have := hBwc.lt; omega
              clear hba hwy hRwc hSwc hXwc Fwc hBwc
              clear wc
              simp only [Act.put, List.setIfInBounds_toArray, List.set_cons_succ, List.set_cons_zero]
              have hAz := hAwy
              have hBz := hBwy
              have hRz := hRwy
              have hSz := hSwy
              have hXz := hXwy
              have Fz := Fwy
              have hab : ba ≠ bb := by omega
              clear hAwy hBwy hRwy hSwy hXwy Fwy h12
              obtain ⟨wz, rfl⟩ : ∃ wz, wz = wy := ⟨_, rfl⟩
              refine wpAnyN_store_blk 17 23 (.tmp 19) (.tmp 88) (by kernel_rfl) rfl rfl rfl rfl hAz 0 (y.1.map b8).toArray (by go_simp) (by go_simp) 32 (by kernel_rfl) (by simp [hyl]) (by simp) (by rw [List.toList_toArray]; exact b8_one _) (y.1.map b8).toArray (by simp) ?_
              intro w3 hA3 hg3
              have hB3 := hBz.grown hg3 (fun e => hab (Option.some.inj e).symm)
              have hR3 := hRz.grown hg3 (fun e => by have := Option.some.inj e; omega)
              have hS3 := hSz.grown hg3 (fun e => by have := Option.some.inj e; omega)
              have hX3 := hXz.grown hg3 (fun e => by have := Option.some.inj e; omega)
              have F3 := below_upd Fz hg3 (by omega) hAz.lt
              refine ⟨fun _ h => h.grown hg3 (fun e => by have := Option.some.inj e; omega), ?_⟩
              clear hg3 hAz hBz hRz hSz hXz Fz
              clear wz
              refine wpAnyN_store_blk 18 23 (.tmp 20) (.tmp 89) (by kernel_rfl) rfl rfl rfl rfl hB3 0 (z.1.map b8).toArray (by go_simp) (by go_simp) 32 (by kernel_rfl) (by simp [hzl]) (by simp) (by rw [List.toList_toArray]; exact b8_one _) (z.1.map b8).toArray (by simp) ?_
              intro w4 hB4 hg4
              have hA4 := hA3.grown hg4 (fun e => hab (Option.some.inj e))
              have hR4 := hR3.grown hg4 (fun e => by have := Option.some.inj e; omega)
              have hS4 := hS3.grown hg4 (fun e => by have := Option.some.inj e; omega)
              have hX4 := hX3.grown hg4 (fun e => by have := Option.some.inj e; omega)
              have F4 := below_upd F3 hg4 (by omega) hB3.lt
              refine ⟨fun _ h => h.grown hg4 (fun e => by have := Option.some.inj e; omega), ?_⟩
              clear hg4 hA3 hB3 hR3 hS3 hX3 F3
              clear w3
              refine wpAnyN_pureG 19 21 (v := ?_) rfl rfl (by kernel_rfl) (by kernel_rfl) (by kernel_rfl) (fun _ _ _ h => h) rfl (fun w => ?_) ?_
              rotate_left
              · go_simp
                try with_reducible rfl
              simp only [Act.put, List.setIfInBounds_toArray, List.set_cons_succ, List.set_cons_zero]
              refine wpAnyN_done (by kernel_rfl) ?_
              go_upto_region 16 with (fail)
              refine wp_region_N (fun w' => Blk w' ba 23 (y.1.map b8).toArray ∧ Blk w' bb 23 (z.1.map b8).toArray ∧ Blk w' bx 23 (x.1.map b8).toArray) [] (by kernel_rfl) ?_
              obtain ⟨wd, hwd⟩ : ∃ wd, wd = w4.drew := ⟨_, rfl⟩
              have hT : Blk wd ba 23 (y.1.map b8).toArray ∧ Blk wd bb 23 (z.1.map b8).toArray ∧ Blk wd bx 23 (x.1.map b8).toArray := by rw [hwd]; exact ⟨hA4, hB4, hX4⟩
              have hR1 : Blk wd (r + 1) 23 zero32 := by rw [hwd]; exact hR4
              have hS1 : Blk wd (r + 2) 23 zero32 := by rw [hwd]; exact hS4
              have F1 : Below r w wd := by rw [hwd]; exact F4.drew
              rw [← hwd]
              clear hwd hA4 hB4 hX4 hR4 hS4 F4
              clear w4
              refine wpAnyN_takeG 0 91 (v := hval x) rfl rfl (by kernel_rfl) (by kernel_rfl) (by kernel_rfl) (by kernel_rfl) (fun _ _ _ h => h) hT rfl (fun w hS => ?_) ?_
              · exact run_load_mid_blk 23 (.tmp 15) rfl hS.2.2 0 (by go_simp) (x.1.map b8) (fun j v h => by rw [Nat.zero_add, List.getElem?_toArray]; exact h) (.array 32 5) (by kernel_rfl) rfl 32 (by kernel_rfl) (by simp [hxl])
              refine wpAnyN_takeG 1 92 (v := hval y) rfl rfl (by kernel_rfl) (by kernel_rfl) (by kernel_rfl) (by kernel_rfl) (fun _ _ _ h => h) hT rfl (fun w hS => ?_) ?_
              · exact run_load_mid_blk 23 (.tmp 19) rfl hS.1 0 (by go_simp) (y.1.map b8) (fun j v h => by rw [Nat.zero_add, List.getElem?_toArray]; exact h) (.array 32 5) (by kernel_rfl) rfl 32 (by kernel_rfl) (by simp [hyl])
              refine wpAnyN_takeG 3 94 (v := hval x) rfl rfl (by kernel_rfl) (by kernel_rfl) (by kernel_rfl) (by kernel_rfl) (fun _ _ _ h => h) hT rfl (fun w hS => ?_) ?_
              · exact run_load_mid_blk 23 (.tmp 15) rfl hS.2.2 0 (by go_simp) (x.1.map b8) (fun j v h => by rw [Nat.zero_add, List.getElem?_toArray]; exact h) (.array 32 5) (by kernel_rfl) rfl 32 (by kernel_rfl) (by simp [hxl])
              simp only [Act.put, List.setIfInBounds_toArray, List.set_cons_succ, List.set_cons_zero]
              refine wpAnyN_takeG 4 95 (v := hval z) rfl rfl (by kernel_rfl) (by kernel_rfl) (by kernel_rfl) (by kernel_rfl) (fun _ _ _ h => h) hT rfl (fun w hS => ?_) ?_
              · exact run_load_mid_blk 23 (.tmp 20) rfl hS.2.1 0 (by go_simp) (z.1.map b8) (fun j v h => by rw [Nat.zero_add, List.getElem?_toArray]; exact h) (.array 32 5) (by kernel_rfl) rfl 32 (by kernel_rfl) (by simp [hzl])
              refine wpAnyN_pureG 6 97 (v := ?_) rfl rfl (by kernel_rfl) (by kernel_rfl) (by kernel_rfl) (fun _ _ _ h => h) rfl (fun w => ?_) ?_
              rotate_left
              · go_simp
                try with_reducible rfl
              simp only [Act.put, List.setIfInBounds_toArray, List.set_cons_succ, List.set_cons_zero]
              have c2 := refnode_any wd x y
              rw [← HU.out] at c2
              refine wpAnyN_call 2 43 (some 93) [.tmp 91, .tmp 92] [hval x, hval y] (by kernel_rfl) rfl rfl rfl rfl (by go_simp) Tryd.call43 ?_
              refine c2.mono ?_
              rintro e w5 ⟨rfl, G5⟩
              have hsz : r ≤ wd.heap.size := by have := hR1.lt; omega
              replace hR1 := hR1.below G5 hR1.lt
              replace hS1 := hS1.below G5 hS1.lt
              replace F1 := F1.trans (G5.mono hsz)
              have hT' : _ ∧ _ ∧ _ := ⟨hT.1.below G5 hT.1.lt, hT.2.1.below G5 hT.2.1.lt, hT.2.2.below G5 hT.2.2.lt⟩
              replace hT := hT'
              refine ⟨_, rfl, fun _ h => ⟨h.1.below G5 h.1.lt, h.2.1.below G5 h.2.1.lt, h.2.2.below G5 h.2.2.lt⟩, ?_⟩
              clear c2 G5 hsz hT'
              clear wd
              simp only [Act.put, List.setIfInBounds_toArray, List.set_cons_succ, List.set_cons_zero]
              have c3 := refnode_any w5 x z
              rw [← HV.out] at c3
              refine wpAnyN_call 5 43 (some 96) [.tmp 94, .tmp 95] [hval x, hval z] (by kernel_rfl) rfl rfl rfl rfl (by go_simp) Tryd.call43 ?_
              refine c3.mono ?_
              rintro e w8 ⟨rfl, G5⟩
              have hsz : r ≤ w5.heap.size := by have := hR1.lt; omega
              replace hR1 := hR1.below G5 hR1.lt
              replace hS1 := hS1.below G5 hS1.lt
              replace F1 := F1.trans (G5.mono hsz)
              have hT' : _ ∧ _ ∧ _ := ⟨hT.1.below G5 hT.1.lt, hT.2.1.below G5 hT.2.1.lt, hT.2.2.below G5 hT.2.2.lt⟩
              replace hT := hT'
              refine ⟨_, rfl, fun _ h => ⟨h.1.below G5 h.1.lt, h.2.1.below G5 h.2.1.lt, h.2.2.below G5 h.2.2.lt⟩, ?_⟩
              clear c3 G5 hsz hT'
              clear w5
              simp only [Act.put, List.setIfInBounds_toArray, List.set_cons_succ, List.set_cons_zero]
              refine wpAnyN_store_blk 7 23 (.tmp 10) (.tmp 93) (by kernel_rfl) rfl rfl rfl rfl hR1 0 (u.1.map b8).toArray (by go_simp) (by go_simp) 32 (by kernel_rfl) (by simp [hul]) (by simp) (by rw [List.toList_toArray]; exact b8_one _) (u.1.map b8).toArray (by simp) ?_
              intro w6 hR6 hg6
              have hS6 := hS1.grown hg6 (fun e => by have := Option.some.inj e; omega)
              have F6 := below_upd F1 hg6 (by omega) hR1.lt
              refine ⟨fun _ h => ⟨h.1.grown hg6 (fun e => by have := Option.some.inj e; omega), h.2.1.grown hg6 (fun e => by have := Option.some.inj e; omega), h.2.2.grown hg6 (fun e => by have := Option.some.inj e; omega)⟩, ?_⟩
              clear hg6 hR1 hS1 F1
              refine wpAnyN_store_blk 8 23 (.tmp 11) (.tmp 96) (by kernel_rfl) rfl rfl rfl rfl hS6 0 (v.1.map b8).toArray (by go_simp) (by go_simp) 32 (by kernel_rfl) (by simp [hvl]) (by simp) (by rw [List.toList_toArray]; exact b8_one _) (v.1.map b8).toArray (by simp) ?_
              intro w7 hS7 hg7
              have hR7 := hR6.grown hg7 (fun e => by have := Option.some.inj e; omega)
              have F7 := below_upd F6 hg7 (by omega) hS6.lt
              refine ⟨fun _ h => ⟨h.1.grown hg7 (fun e => by have := Option.some.inj e; omega), h.2.1.grown hg7 (fun e => by have := Option.some.inj e; omega), h.2.2.grown hg7 (fun e => by have := Option.some.inj e; omega)⟩, ?_⟩
              clear hg7 hR6 hS6 F6
              refine wpAnyN_pureG 9 12 (v := ?_) rfl rfl (by kernel_rfl) (by kernel_rfl) (by kernel_rfl) (fun _ _ _ h => h) rfl (fun w => ?_) ?_
              rotate_left
              · go_simp
                try with_reducible rfl
              simp only [Act.put, List.setIfInBounds_toArray, List.set_cons_succ, List.set_cons_zero]
              refine wpAnyN_done (by kernel_rfl) ?_
              rw [HR.out] at F7
              go_wp2
              exact (ret_two_tmp rfl hR7 rfl hS7 rfl rfl (.array 32 5) (by kernel_rfl) rfl 32 (by kernel_rfl) (by simp [hul]) (by simp [hvl]) ⟨rfl, F7⟩).2
            · obtain ⟨ba, hba⟩ : ∃ ba, ba = wa.heap.size := ⟨_, rfl⟩
              obtain ⟨wy, hwy⟩ : ∃ wy, wy = wa.alloc (.cells zero32 23) := ⟨_, rfl⟩
              have hbax : bx + 1 ≤ ba := by have := hXwa.lt; omega
              have hAwy : Blk wy ba 23 zero32 := by rw [hwy, hba]; exact Blk.new wa _ _
              have Fwy : Below r w wy := by rw [hwy]; exact Fwa.alloc (by omega) _
              have hRwy := hRwa.alloc (.cells zero32 23)
              rw [← hwy] at hRwy
              have hSwy := hSwa.alloc (.cells zero32 23)
              rw [← hwy] at hSwy
              have hXwy := hXwa.alloc (.cells zero32 23)
              rw [← hwy] at hXwy
              have hBwy := hBwa.alloc (.cells zero32 23)
              rw [← hwy] at hBwy
              rw [← hba, ← hwy]
              have h12 : bb < ba := by have := hBwa.lt; omega
              clear hba hwy hRwa hSwa hXwa Fwa hBwa
              clear wa
              show wpAnyN _ _ _ _ _ _ _ _ (Act.put _ (some 19) _) _
              simp only [Act.put, List.setIfInBounds_toArray, List.set_cons_succ, List.set_cons_zero]
              refine wpAnyN_call 10 28 (some 87) [.tmp 79, .tmp 82, .const (.bool false), .tmp 83, .tmp 86] [.int .i64 m', .int .i64 n', .bool false, hval old, .slice a6 q.length cp] (by kernel_rfl) rfl rfl rfl rfl (by go_simp) Tryd.call28 ?_
              refine (ihc.out wy Fwy).mono ?_
              rintro e wc ⟨rfl, Gwc⟩
              refine ⟨_, rfl, fun _ h => h.below Gwc h.lt, ?_⟩
              have hRwc := hRwy.below Gwc hRwy.lt
              have hSwc := hSwy.below Gwc hSwy.lt
              have hXwc := hXwy.below Gwc hXwy.lt
              have hAwc := hAwy.below Gwc hAwy.lt
              have hBwc := hBwy.below Gwc hBwy.lt
              have Fwc : Below r w wc := Fwy.trans (Gwc.mono (Nat.le_trans (by omega) (Nat.le_of_lt hXwy.lt)))
              clear hRwy hSwy hXwy hAwy hBwy Fwy Gwc
              clear wy
              refine wpAnyN_pureG 11 76 (v := ?_) rfl rfl (by kernel_rfl) (by kernel_rfl) (by kernel_rfl) (fun _ _ _ h => h) rfl (fun w => ?_) ?_
              rotate_left
              · go_simp
                try with_reducible rfl
              simp only [Act.put, List.setIfInBounds_toArray, List.set_cons_succ, List.set_cons_zero]
              refine wpAnyN_pureG 12 88 (v := ?_) rfl rfl (by kernel_rfl) (by kernel_rfl) (by kernel_rfl) (fun _ _ _ h => h) rfl (fun w => ?_) ?_
              rotate_left
              · go_simp
                try with_reducible rfl
              refine wpAnyN_pureG 13 89 (v := ?_) rfl rfl (by kernel_rfl) (by kernel_rfl) (by kernel_rfl) (fun _ _ _ h => h) rfl (fun w => ?_) ?_
              rotate_left
              · go_simp
                try with_reducible rfl
              refine wpAnyN_pureG 14 90 (v := ?_) rfl rfl (by kernel_rfl) (by kernel_rfl) (by kernel_rfl) (fun _ _ _ h => h) rfl (fun w => ?_) ?_
              rotate_left
              · go_simp
                try with_reducible rfl
              simp only [Act.put, List.setIfInBounds_toArray, List.set_cons_succ, List.set_cons_zero]
              have hAz := hAwc
              have hBz := hBwc
              have hRz := hRwc
              have hSz := hSwc
              have hXz := hXwc
              have Fz := Fwc
              have hab : ba ≠ bb := by omega
              clear hAwc hBwc hRwc hSwc hXwc Fwc h12
              obtain ⟨wz, rfl⟩ : ∃ wz, wz = wc := ⟨_, rfl⟩
              refine wpAnyN_store_blk 17 23 (.tmp 19) (.tmp 88) (by kernel_rfl) rfl rfl rfl rfl hAz 0 (y.1.map b8).toArray (by go_simp) (by go_simp) 32 (by kernel_rfl) (by simp [hyl]) (by simp) (by rw [List.toList_toArray]; exact b8_one _) (y.1.map b8).toArray (by simp) ?_
              intro w3 hA3 hg3
              have hB3 := hBz.grown hg3 (fun e => hab (Option.some.inj e).symm)
              have hR3 := hRz.grown hg3 (fun e => by have := Option.some.inj e; omega)
              have hS3 := hSz.grown hg3 (fun e => by have := Option.some.inj e; omega)
              have hX3 := hXz.grown hg3 (fun e => by have := Option.some.inj e; omega)
              have F3 := below_upd Fz hg3 (by omega) hAz.lt
              refine ⟨fun _ h => h.grown hg3 (fun e => by have := Option.some.inj e; omega), ?_⟩
              clear hg3 hAz hBz hRz hSz hXz Fz
              clear wz
              refine wpAnyN_store_blk 18 23 (.tmp 20) (.tmp 89) (by kernel_rfl) rfl rfl rfl rfl hB3 0 (z.1.map b8).toArray (by go_simp) (by go_simp) 32 (by kernel_rfl) (by simp [hzl]) (by simp) (by rw [List.toList_toArray]; exact b8_one _) (z.1.map b8).toArray (by simp) ?_
              intro w4 hB4 hg4
              have hA4 := hA3.grown hg4 (fun e => hab (Option.some.inj e))
              have hR4 := hR3.grown hg4 (fun e => by have := Option.some.inj e; omega)
              have hS4 := hS3.grown hg4 (fun e => by have := Option.some.inj e; omega)
              have hX4 := hX3.grown hg4 (fun e => by have := Option.some.inj e; omega)
              have F4 := below_upd F3 hg4 (by omega) hB3.lt
              refine ⟨fun _ h => h.grown hg4 (fun e => by have := Option.some.inj e; omega), ?_⟩
              clear hg4 hA3 hB3 hR3 hS3 hX3 F3
              clear w3
              refine wpAnyN_pureG 19 21 (v := ?_) rfl rfl (by kernel_rfl) (by kernel_rfl) (by kernel_rfl) (fun _ _ _ h => h) rfl (fun w => ?_) ?_
              rotate_left
              · go_simp
                try with_reducible rfl
              simp only [Act.put, List.setIfInBounds_toArray, List.set_cons_succ, List.set_cons_zero]
              refine wpAnyN_done (by kernel_rfl) ?_
              go_upto_region 16 with (fail)
              refine wp_region_N (fun w' => Blk w' ba 23 (y.1.map b8).toArray ∧ Blk w' bb 23 (z.1.map b8).toArray ∧ Blk w' bx 23 (x.1.map b8).toArray) [] (by kernel_rfl) ?_
              obtain ⟨wd, hwd⟩ : ∃ wd, wd = w4.drew := ⟨_, rfl⟩
              have hT : Blk wd ba 23 (y.1.map b8).toArray ∧ Blk wd bb 23 (z.1.map b8).toArray ∧ Blk wd bx 23 (x.1.map b8).toArray := by rw [hwd]; exact ⟨hA4, hB4, hX4⟩
              have hR1 : Blk wd (r + 1) 23 zero32 := by rw [hwd]; exact hR4
              have hS1 : Blk wd (r + 2) 23 zero32 := by rw [hwd]; exact hS4
              have F1 : Below r w wd := by rw [hwd]; exact F4.drew
              rw [← hwd]
              clear hwd hA4 hB4 hX4 hR4 hS4 F4
              clear w4
              refine wpAnyN_takeG 0 91 (v := hval x) rfl rfl (by kernel_rfl) (by kernel_rfl) (by kernel_rfl) (by kernel_rfl) (fun _ _ _ h => h) hT rfl (fun w hS => ?_) ?_
              · exact run_load_mid_blk 23 (.tmp 15) rfl hS.2.2 0 (by go_simp) (x.1.map b8) (fun j v h => by rw [Nat.zero_add, List.getElem?_toArray]; exact h) (.array 32 5) (by kernel_rfl) rfl 32 (by kernel_rfl) (by simp [hxl])
              refine wpAnyN_takeG 1 92 (v := hval y) rfl rfl (by kernel_rfl) (by kernel_rfl) (by kernel_rfl) (by kernel_rfl) (fun _ _ _ h => h) hT rfl (fun w hS => ?_) ?_
              · exact run_load_mid_blk 23 (.tmp 19) rfl hS.1 0 (by go_simp) (y.1.map b8) (fun j v h => by rw [Nat.zero_add, List.getElem?_toArray]; exact h) (.array 32 5) (by kernel_rfl) rfl 32 (by kernel_rfl) (by simp [hyl])
              refine wpAnyN_takeG 3 94 (v := hval x) rfl rfl (by kernel_rfl) (by kernel_rfl) (by kernel_rfl) (by kernel_rfl) (fun _ _ _ h => h) hT rfl (fun w hS => ?_) ?_
              · exact run_load_mid_blk 23 (.tmp 15) rfl hS.2.2 0 (by go_simp) (x.1.map b8) (fun j v h => by rw [Nat.zero_add, List.getElem?_toArray]; exact h) (.array 32 5) (by kernel_rfl) rfl 32 (by kernel_rfl) (by simp [hxl])
              simp only [Act.put, List.setIfInBounds_toArray, List.set_cons_succ, List.set_cons_zero]
              refine wpAnyN_takeG 4 95 (v := hval z) rfl rfl (by kernel_rfl) (by kernel_rfl) (by kernel_rfl) (by kernel_rfl) (fun _ _ _ h => h) hT rfl (fun w hS => ?_) ?_
              · exact run_load_mid_blk 23 (.tmp 20) rfl hS.2.1 0 (by go_simp) (z.1.map b8) (fun j v h => by rw [Nat.zero_add, List.getElem?_toArray]; exact h) (.array 32 5) (by kernel_rfl) rfl 32 (by kernel_rfl) (by simp [hzl])
              refine wpAnyN_pureG 6 97 (v := ?_) rfl rfl (by kernel_rfl) (by kernel_rfl) (by kernel_rfl) (fun _ _ _ h => h) rfl (fun w => ?_) ?_
              rotate_left
              · go_simp
                try with_reducible rfl
              simp only [Act.put, List.setIfInBounds_toArray, List.set_cons_succ, List.set_cons_zero]
              have c2 := refnode_any wd x y
              rw [← HU.out] at c2
              refine wpAnyN_call 2 43 (some 93) [.tmp 91, .tmp 92] [hval x, hval y] (by kernel_rfl) rfl rfl rfl rfl (by go_simp) Tryd.call43 ?_
              refine c2.mono ?_
              rintro e w5 ⟨rfl, G5⟩
              have hsz : r ≤ wd.heap.size := by have := hR1.lt; omega
              replace hR1 := hR1.below G5 hR1.lt
              replace hS1 := hS1.below G5 hS1.lt
              replace F1 := F1.trans (G5.mono hsz)
              have hT' : _ ∧ _ ∧ _ := ⟨hT.1.below G5 hT.1.lt, hT.2.1.below G5 hT.2.1.lt, hT.2.2.below G5 hT.2.2.lt⟩
              replace hT := hT'
              refine ⟨_, rfl, fun _ h => ⟨h.1.below G5 h.1.lt, h.2.1.below G5 h.2.1.lt, h.2.2.below G5 h.2.2.lt⟩, ?_⟩
              clear c2 G5 hsz hT'
              clear wd
              simp only [Act.put, List.setIfInBounds_toArray, List.set_cons_succ, List.set_cons_zero]
              have c3 := refnode_any w5 x z
              rw [← HV.out] at c3
              refine wpAnyN_call 5 43 (some 96) [.tmp 94, .tmp 95] [hval x, hval z] (by kernel_rfl) rfl rfl rfl rfl (by go_simp) Tryd.call43 ?_
              refine c3.mono ?_
              rintro e w8 ⟨rfl, G5⟩
              have hsz : r ≤ w5.heap.size := by have := hR1.lt; omega
              replace hR1 := hR1.below G5 hR1.lt
              replace hS1 := hS1.below G5 hS1.lt
              replace F1 := F1.trans (G5.mono hsz)
              have hT' : _ ∧ _ ∧ _ := ⟨hT.1.below G5 hT.1.lt, hT.2.1.below G5 hT.2.1.lt, hT.2.2.below G5 hT.2.2.lt⟩
              replace hT := hT'
              refine ⟨_, rfl, fun _ h => ⟨h.1.below G5 h.1.lt, h.2.1.below G5 h.2.1.lt, h.2.2.below G5 h.2.2.lt⟩, ?_⟩
              clear c3 G5 hsz hT'
              clear w5
              simp only [Act.put, List.setIfInBounds_toArray, List.set_cons_succ, List.set_cons_zero]
              refine wpAnyN_store_blk 7 23 (.tmp 10) (.tmp 93) (by kernel_rfl) rfl rfl rfl rfl hR1 0 (u.1.map b8).toArray (by go_simp) (by go_simp) 32 (by kernel_rfl) (by simp [hul]) (by simp) (by rw [List.toList_toArray]; exact b8_one _) (u.1.map b8).toArray (by simp) ?_
              intro w6 hR6 hg6
              have hS6 := hS1.grown hg6 (fun e => by have := Option.some.inj e; omega)
              have F6 := below_upd F1 hg6 (by omega) hR1.lt
              refine ⟨fun _ h => ⟨h.1.grown hg6 (fun e => by have := Option.some.inj e; omega), h.2.1.grown hg6 (fun e => by have := Option.some.inj e; omega), h.2.2.grown hg6 (fun e => by have := Option.some.inj e; omega)⟩, ?_⟩
              clear hg6 hR1 hS1 F1
              refine wpAnyN_store_blk 8 23 (.tmp 11) (.tmp 96) (by kernel_rfl) rfl rfl rfl rfl hS6 0 (v.1.map b8).toArray (by go_simp) (by go_simp) 32 (by kernel_rfl) (by simp [hvl]) (by simp) (by rw [List.toList_toArray]; exact b8_one _) (v.1.map b8).toArray (by simp) ?_
              intro w7 hS7 hg7
              have hR7 := hR6.grown hg7 (fun e => by have := Option.some.inj e; omega)
              have F7 := below_upd F6 hg7 (by omega) hS6.lt
              refine ⟨fun _ h => ⟨h.1.grown hg7 (fun e => by have := Option.some.inj e; omega), h.2.1.grown hg7 (fun e => by have := Option.some.inj e; omega), h.2.2.grown hg7 (fun e => by have := Option.some.inj e; omega)⟩, ?_⟩
              clear hg7 hR6 hS6 F6
              refine wpAnyN_pureG 9 12 (v := ?_) rfl rfl (by kernel_rfl) (by kernel_rfl) (by kernel_rfl) (fun _ _ _ h => h) rfl (fun w => ?_) ?_
              rotate_left
              · go_simp
                try with_reducible rfl
              simp only [Act.put, List.setIfInBounds_toArray, List.set_cons_succ, List.set_cons_zero]
              refine wpAnyN_done (by kernel_rfl) ?_
              rw [HR.out] at F7
              go_wp2
              exact (ret_two_tmp rfl hR7 rfl hS7 rfl rfl (.array 32 5) (by kernel_rfl) rfl 32 (by kernel_rfl) (by simp [hul]) (by simp [hvl]) ⟨rfl, F7⟩).2
end Go.Proofs.YtadiijieldldhaaDoor
