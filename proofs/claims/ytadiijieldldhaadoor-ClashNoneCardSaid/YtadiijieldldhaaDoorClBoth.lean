/-
  The steps of a path and of a proof: clash.path, clash.proof.
-/
import Derived.Test.YtadiijieldldhaaDoorFound
import Derived.Test.YtadiijieldldhaaDoorRef19
namespace Go.Proofs.YtadiijieldldhaaDoor
open Go Go.RowKit
attribute [local irreducible] sha
theorem pair_fst (p : Pr) (j : Nat) (v : Value) (h : (p.1.1.map b8)[j]? = some v) : ((pairB p).map b8)[j]? = some v := by
  rw [pairB, List.map_append, List.getElem?_append_left (List.getElem?_eq_some_iff.1 h).1, h]
theorem pair_snd (p : Pr) (j : Nat) (v : Value) (h : (p.2.1.map b8)[j]? = some v) : ((pairB p).map b8)[32 + j]? = some v := by
  rw [pairB, List.map_append, List.getElem?_append_right (by simp [p.1.2]), List.length_map, p.1.2, Nat.add_sub_cancel_left, h]
theorem results_tmp_cell {P : Program} {fn : Func} {p q : Tmp} {ty : TypeId} (h : fn.results = #[.tmp q, .cell p ty]) (tmps : Array Value) (w : World) (g : Nat) (t : TypeId) (cs : Array Value) (fr : Nat × Nat) (d : TypeDesc)
    (hp : tmps.getD p undef = .pointer (some ⟨g, 0, none⟩)) (hg : w.heap[g]? = some (.cells cs t fr))
    (hu : P.underlying ty = some d) (hd : (match d with | .struct _ | .array _ _ => true | _ => false) = true) (hi : (P.info? ty).map (·.size) = some cs.size) :
    (results fn tmps).run P w = .ok (.tuple #[tmps.getD q undef, .agg cs]) w := by
  have hp' : tmps[p]?.getD undef = .pointer (some ⟨g, 0, none⟩) := by simpa using hp
  simp [results, h, hp', asAddr, run_loadVar_row w g t ty cs fr d hg hu hd hi]
theorem ret_tmp_blk {P : Program} {fn : Func} {R : Ending → World → Prop} {tmps : Array Value} {w : World} {p q : Tmp} {ty b T : Nat} {cs : Array Value} {v : Value} (h : fn.results = #[.tmp q, .cell p ty]) (hb : Blk w b T cs) (hp : tmps.getD p undef = .pointer (some ⟨b, 0, none⟩)) (hq : tmps.getD q undef = v)
    (d : TypeDesc) (hu : P.underlying ty = some d) (hd : (match d with | .struct _ | .array _ _ => true | _ => false) = true) (n : Nat) (hn : (P.info? ty).map (·.size) = some n) (hc : cs.size = n) (hR : R (.returned (.tuple #[v, .agg cs])) w) :
    bodyPost P fn R .normal ⟨tmps, []⟩ w ∧ bodyPost P fn R .ret ⟨tmps, []⟩ w := by
  subst hq
  exact ⟨bodyPost_end (results_tmp_cell h tmps w b T cs _ d hp hb hu hd (by rw [hc]; exact hn)) rfl hR, bodyPost_ret (results_tmp_cell h tmps w b T cs _ d hp hb hu hd (by rw [hc]; exact hn)) rfl hR⟩
abbrev clH (l : List Hs) (m : Nat) (leaf : Hs) (p : List Hs) : List Stp × Hs := Tree.clashR nodeH nilH l m leaf p.reverse
theorem clH_one {l : List Hs} {m : Nat} {leaf : Hs} {p : List Hs} (h : l.length < 2) : clH l m leaf p = ([], leaf) := by
  unfold clH
  cases p.reverse with
  | nil => rfl
  | cons x r => rw [Tree.clashR, if_pos h]
theorem clH_nil {l : List Hs} {m : Nat} {leaf : Hs} : clH l m leaf [] = ([], leaf) := rfl
theorem clH_lo {l : List Hs} {m : Nat} {leaf x : Hs} {q : List Hs} (h : 2 ≤ l.length) (hm : m < Tree.split l.length) : clH l m leaf (q ++ [x]) = ((((clH (l.take (Tree.split l.length)) m leaf q).2, x), (rootH (l.take (Tree.split l.length)), rootH (l.drop (Tree.split l.length)))) :: (clH (l.take (Tree.split l.length)) m leaf q).1, nodeH (clH (l.take (Tree.split l.length)) m leaf q).2 x) := by
  unfold clH; rw [List.reverse_append, List.reverse_singleton, List.singleton_append, Tree.clashR, if_neg (by omega), if_pos hm]; rfl
theorem clH_hi {l : List Hs} {m : Nat} {leaf x : Hs} {q : List Hs} (h : 2 ≤ l.length) (hm : ¬ m < Tree.split l.length) : clH l m leaf (q ++ [x]) = (((x, (clH (l.drop (Tree.split l.length)) (m - Tree.split l.length) leaf q).2), (rootH (l.take (Tree.split l.length)), rootH (l.drop (Tree.split l.length)))) :: (clH (l.drop (Tree.split l.length)) (m - Tree.split l.length) leaf q).1, nodeH x (clH (l.drop (Tree.split l.length)) (m - Tree.split l.length) leaf q).2) := by
  unfold clH; rw [List.reverse_append, List.reverse_singleton, List.singleton_append, Tree.clashR, if_neg (by omega), if_neg hm]; rfl
theorem clH_len {leaf : Hs} : ∀ (r : List Hs) (l : List Hs) (m : Nat), (Tree.clashR nodeH nilH l m leaf r).1.length ≤ r.length := by
  intro r
  induction r with
  | nil => intro l m; exact Nat.le_refl _
  | cons x r ih =>
    intro l m
    rw [Tree.clashR]
    split
    · exact Nat.zero_le _
    · split
      · simp only [List.length_cons]; exact Nat.succ_le_succ (ih _ _)
      · simp only [List.length_cons]; exact Nat.succ_le_succ (ih _ _)
set_option maxRecDepth 100000 in
set_option maxHeartbeats 16000000 in
theorem clpath_aux (N : Nat) : ∀ (w : World) (ao : Option Addr) (cp : Nat) (l : List Hs) (m : Nat) (leaf : Hs) (bo : Option Addr) (cq : Nat) (p : List Hs), p.length < N → Laid w → Hts w ao l → l.length ≤ cp → cp ≤ maxLen → l.length ≤ 1000000 → Hts w bo p → p.length ≤ cq → cq ≤ maxLen → p.length ≤ 1000000 → m < l.length →
    Calls Tryd.prog 39 #[.slice ao l.length cp, .int .i64 m, hval leaf, .slice bo p.length cq] w fun e w' => ∃ v, e = .returned (.tuple #[v, hval (clH l m leaf p).2]) ∧ OwnS w.heap.size w w' v (clH l m leaf p).1.reverse := by
  induction N with
  | zero => intro w ao cp l m leaf bo cq p h; omega
  | succ N ih =>
    intro w ao cp l m leaf bo cq p hN hL hA hc hm hbig hB hcq hmq hpb hml
    obtain ⟨fp, hfp⟩ := pairU
    obtain ⟨r, hr⟩ : ∃ r, r = w.heap.size := ⟨_, rfl⟩
    obtain ⟨w1, hw1⟩ : ∃ w1, w1 = (w.alloc (.cells (leaf.1.map b8).toArray 23)).alloc (.cells zero32 23) := ⟨_, rfl⟩
    have F1 : Below r w w1 := by rw [hw1, hr]; exact below_alloc2 _ _ _
    have hL1 : Blk w1 r 23 (leaf.1.map b8).toArray := by rw [hw1, hr]; exact (Blk.new w _ _).alloc _
    have hR1 : Blk w1 (r + 1) 23 zero32 := by rw [hw1, hr]; exact Blk.new1 w _ _ _
    have hll := leaf.2
    have HR := Lib.hid (And.intro hw1 hr)
    have hr0 : w.heap.size ≤ r := by omega
    have HR0 := Lib.hid hr0
    clear hw1 hr hr0
    have hm0 : cp ≤ 9223372036854775807 := hm
    have hmq0 : cq ≤ 9223372036854775807 := hmq
    by_cases h1 : l.length = 1
    · have hd : ((l.length : Int) == 1) = true := by rw [beq_iff_eq]; omega
      rw [clH_one (by omega)]
      clear ih
      go_enter Tryd.func39, Tryd.ntmps39
      go_upto_region 1 with (fail)
      change Code.wp _ _ _ _ ((w.alloc (.cells (leaf.1.map b8).toArray 23)).alloc (.cells zero32 23))
      rw [← HR.out.1, ← HR.out.2]
      replace HR := Lib.hid HR.out.2
      go_upto_region 2 with (fail)
      refine wp_region_N (fun w' => Blk w' r 23 (leaf.1.map b8).toArray) [] (by kernel_rfl) ?_
      obtain ⟨wd, hwd⟩ : ∃ wd, wd = w1.drew := ⟨_, rfl⟩
      replace hL1 : Blk wd r 23 (leaf.1.map b8).toArray := by rw [hwd]; exact hL1
      replace hR1 : Blk wd (r + 1) 23 zero32 := by rw [hwd]; exact hR1
      replace F1 : Below r w wd := by rw [hwd]; exact F1.drew
      rw [← hwd]
      clear hwd
      clear w1
      refine wpAnyN_takeG 0 24 (v := hval leaf) rfl rfl (by kernel_rfl) (by kernel_rfl) (by kernel_rfl) (by kernel_rfl) (fun _ _ _ h => h) hL1 rfl (fun w hS => ?_) ?_
      · exact run_load_mid_blk 23 (.tmp 6) rfl hS 0 (by go_simp) (leaf.1.map b8) (fun j v h => by rw [Nat.zero_add, List.getElem?_toArray]; exact h) (.array 32 5) (by kernel_rfl) rfl 32 (by kernel_rfl) (by simp [hll])
      simp only [Act.put, List.setIfInBounds_toArray, List.set_cons_succ, List.set_cons_zero]
      refine wpAnyN_pureG 1 8 (v := ?_) rfl rfl (by kernel_rfl) (by kernel_rfl) (by kernel_rfl) (fun _ _ _ h => h) rfl (fun w => ?_) ?_
      rotate_left
      · go_simp
        try with_reducible rfl
      simp only [Act.put, List.setIfInBounds_toArray, List.set_cons_succ, List.set_cons_zero]
      refine wpAnyN_store_blk 2 23 (.tmp 9) (.tmp 24) (by kernel_rfl) rfl rfl rfl rfl hR1 0 (leaf.1.map b8).toArray (by go_simp) (by go_simp) 32 (by kernel_rfl) (by simp [hll]) (by simp) (by rw [List.toList_toArray]; exact b8_one _) (leaf.1.map b8).toArray (by simp) ?_
      intro w5 hR5 hg5
      have F5 := below_upd F1 hg5 (by omega) hR1.lt
      refine ⟨fun _ h => h.grown hg5 (fun e => by have := Option.some.inj e; omega), wpAnyN_done (by kernel_rfl) ?_⟩
      have hs5 : r ≤ w5.heap.size := by have := hR5.lt; omega
      clear hg5 hR1 hL1 F1
      clear wd
      rw [HR.out] at F5 hs5
      have O5 : OwnS w.heap.size w w5 (.slice none 0 0) [] := Own.start _ _ F5 hs5
      go_wp2
      exact (ret_tmp_blk rfl hR5 rfl rfl (.array 32 5) (by kernel_rfl) rfl 32 (by kernel_rfl) (by simp [hll]) ⟨_, rfl, O5⟩).2
    · have hd : ((l.length : Int) == 1) = false := by rw [beq_eq_false_iff_ne]; omega
      rcases List.eq_nil_or_concat p with rfl | ⟨q, x, rfl⟩
      · have hd1 : (((([] : List Hs).length : Nat) : Int) == 0) = true := rfl
        rw [clH_nil]
        clear ih
        go_enter Tryd.func39, Tryd.ntmps39
        go_upto_region 1 with (fail)
        change Code.wp _ _ _ _ ((w.alloc (.cells (leaf.1.map b8).toArray 23)).alloc (.cells zero32 23))
        rw [← HR.out.1, ← HR.out.2]
        replace HR := Lib.hid HR.out.2
        go_upto_region 2 with (fail)
        refine wp_region_N (fun w' => Blk w' r 23 (leaf.1.map b8).toArray) [] (by kernel_rfl) ?_
        obtain ⟨wd, hwd⟩ : ∃ wd, wd = w1.drew := ⟨_, rfl⟩
        replace hL1 : Blk wd r 23 (leaf.1.map b8).toArray := by rw [hwd]; exact hL1
        replace hR1 : Blk wd (r + 1) 23 zero32 := by rw [hwd]; exact hR1
        replace F1 : Below r w wd := by rw [hwd]; exact F1.drew
        rw [← hwd]
        clear hwd
        clear w1
        refine wpAnyN_takeG 0 24 (v := hval leaf) rfl rfl (by kernel_rfl) (by kernel_rfl) (by kernel_rfl) (by kernel_rfl) (fun _ _ _ h => h) hL1 rfl (fun w hS => ?_) ?_
        · exact run_load_mid_blk 23 (.tmp 6) rfl hS 0 (by go_simp) (leaf.1.map b8) (fun j v h => by rw [Nat.zero_add, List.getElem?_toArray]; exact h) (.array 32 5) (by kernel_rfl) rfl 32 (by kernel_rfl) (by simp [hll])
        simp only [Act.put, List.setIfInBounds_toArray, List.set_cons_succ, List.set_cons_zero]
        refine wpAnyN_pureG 1 8 (v := ?_) rfl rfl (by kernel_rfl) (by kernel_rfl) (by kernel_rfl) (fun _ _ _ h => h) rfl (fun w => ?_) ?_
        rotate_left
        · go_simp
          try with_reducible rfl
        simp only [Act.put, List.setIfInBounds_toArray, List.set_cons_succ, List.set_cons_zero]
        refine wpAnyN_store_blk 2 23 (.tmp 9) (.tmp 24) (by kernel_rfl) rfl rfl rfl rfl hR1 0 (leaf.1.map b8).toArray (by go_simp) (by go_simp) 32 (by kernel_rfl) (by simp [hll]) (by simp) (by rw [List.toList_toArray]; exact b8_one _) (leaf.1.map b8).toArray (by simp) ?_
        intro w5 hR5 hg5
        have F5 := below_upd F1 hg5 (by omega) hR1.lt
        refine ⟨fun _ h => h.grown hg5 (fun e => by have := Option.some.inj e; omega), wpAnyN_done (by kernel_rfl) ?_⟩
        have hs5 : r ≤ w5.heap.size := by have := hR5.lt; omega
        clear hg5 hR1 hL1 F1
        clear wd
        rw [HR.out] at F5 hs5
        have O5 : OwnS w.heap.size w w5 (.slice none 0 0) [] := Own.start _ _ F5 hs5
        go_wp2
        exact (ret_tmp_blk rfl hR5 rfl rfl (.array 32 5) (by kernel_rfl) rfl 32 (by kernel_rfl) (by simp [hll]) ⟨_, rfl, O5⟩).2
      · rw [List.concat_eq_append] at hN hB hcq hpb ⊢
        have hxl := x.2
        have hlen : (q ++ [x]).length = q.length + 1 := by simp
        have hat : (q ++ [x])[q.length]'(by rw [hlen]; omega) = x := by simp
        obtain ⟨g, off, rfl, hg, hrg⟩ := hB.place (by rw [hlen]; omega)
        have hy0 := hrg q.length (by rw [hlen]; omega)
        rw [hat] at hy0
        obtain ⟨i0, hi, hz0, hz1, hz2⟩ := info_parts infoHs
        obtain ⟨a9, hs9, -, ht9⟩ := run_upto_hts (P := Tryd.prog) (t := 24) (by kernel_rfl) hi (some ⟨g, off, none⟩) (q.length + 1) cq q.length (by omega)
        have hQ := ht9 w _ hB
        rw [List.take_left] at hQ
        have hk1 := Tree.split_lt (n := l.length) (by omega)
        have hk0 := Tree.split_pos (n := l.length) (by omega)
        have hsp := split_any w1 (l.length : Int) (by omega) (by omega)
        rw [Int.toNat_natCast] at hsp
        have hd1 : ((q.length : Int) + 1 == 0) = false := by rw [beq_eq_false_iff_ne]; omega
        have hd1' : (((q.length + 1 : Nat) : Int) == 0) = false := by rw [beq_eq_false_iff_ne]; omega
        have qw : IntKind.i64.wrap (q.length : Int) = q.length := IntWalk.i64_in _ (by rw [hlen] at hcq; omega)
        rw [hlen] at hcq hN hpb ⊢
        have HY := Lib.hid (And.intro hy0 hg)
        have HQ := Lib.hid hQ
        clear hrg hat hlen hB hQ hy0 hg ht9
        by_cases hmk : m < Tree.split l.length
        · have hst := clH_lo (l := l) (m := m) (leaf := leaf) (x := x) (q := q) (by omega) hmk
          rw [hst]
          clear hst
          obtain ⟨k, hk⟩ : ∃ k, k = Tree.split l.length := ⟨_, rfl⟩
          rw [← hk] at hk1 hk0 hsp hmk ⊢
          obtain ⟨a6, hs6, -, ht6⟩ := run_upto_hts (P := Tryd.prog) (t := 24) (by kernel_rfl) hi ao l.length cp k (by omega)
          obtain ⟨a7, hs7, ht7⟩ := run_from_hts (P := Tryd.prog) (t := 24) (by kernel_rfl) hi hz1 ao l.length cp k (by omega) hc
          have hl1 : (l.take k).length = k := by rw [List.length_take]; omega
          have hl2 : (l.drop k).length = l.length - k := List.length_drop
          have c1 : ∀ W, Below r w W → Calls Tryd.prog 38 #[.slice a6 k cp] W fun e w' => e = .returned (hval (rootH (l.take k))) ∧ Below W.heap.size W w' := fun W hW => by
            have := root_any W a6 cp (l.take k) (hL.below hW HR0.out) (ht6 W l (hA.below hW HR0.out)) (by omega) hm
            rwa [hl1] at this
          have c2 : ∀ W, Below r w W → Calls Tryd.prog 38 #[.slice a7 (l.length - k) (cp - k)] W fun e w' => e = .returned (hval (rootH (l.drop k))) ∧ Below W.heap.size W w' := fun W hW => by
            have := root_any W a7 (cp - k) (l.drop k) (hL.below hW HR0.out) (ht7 W l rfl (hA.below hW HR0.out)) (by omega) (by simp only [maxLen]; omega)
            rwa [hl2] at this
          have hd2 : decide ((m : Int) < (k : Int)) = true := by rw [decide_eq_true_eq]; omega
          have ihc : ∀ W, Below r w W → Calls Tryd.prog 39 #[.slice a6 k cp, .int .i64 m, hval leaf, .slice a9 q.length cq] W fun e w' => ∃ v, e = .returned (.tuple #[v, hval (clH (l.take k) m leaf q).2]) ∧ OwnS W.heap.size W w' v (clH (l.take k) m leaf q).1.reverse := fun W hW => by
            have := ih W a6 cp (l.take k) m leaf a9 cq q (by omega) (hL.below hW HR0.out) (ht6 W l (hA.below hW HR0.out)) (by omega) hm (by omega) (HQ.out.below hW HR0.out) (by omega) hmq (by omega) (by omega)
            rwa [hl1] at this
          obtain ⟨y, hy⟩ : ∃ y, y = (clH (l.take k) m leaf q).2 := ⟨_, rfl⟩
          obtain ⟨ss, hss⟩ : ∃ ss, ss = (clH (l.take k) m leaf q).1 := ⟨_, rfl⟩
          have hsl : ss.length ≤ 1000000 := by rw [hss]; exact Nat.le_trans (clH_len _ _ _) (by rw [List.length_reverse]; omega)
          rw [← hy, ← hss] at ihc ⊢
          clear hk hy hss
          obtain ⟨u1, hu1⟩ : ∃ u1, u1 = rootH (l.take k) := ⟨_, rfl⟩
          obtain ⟨u2, hu2⟩ : ∃ u2, u2 = rootH (l.drop k) := ⟨_, rfl⟩
          obtain ⟨u, hu⟩ : ∃ u, u = nodeH y x := ⟨_, rfl⟩
          rw [← hu1] at c1
          rw [← hu2] at c2
          rw [← hu1, ← hu2, ← hu]
          obtain ⟨sd, hsd⟩ : ∃ sd : Pr, sd = (y, x) := ⟨_, rfl⟩
          obtain ⟨si, hsi⟩ : ∃ si : Pr, si = (u1, u2) := ⟨_, rfl⟩
          rw [← hsd, ← hsi]
          have hn : ∀ W, Below r w W → Calls Tryd.prog 31 #[hval sd.1, hval sd.2] W fun e w' => e = .returned (hval u) ∧ Below W.heap.size W w' := fun W hW => by
            rw [hu, hsd]; exact node_any W (hL.below hW HR0.out) _ _
          have HSD := Lib.hid (And.intro hsd hsi)
          have hul := u.2
          have hyl := y.2
          obtain ⟨sr, hsr⟩ : ∃ sr, sr = ss.reverse := ⟨_, rfl⟩
          have hsrl : sr.length ≤ 1000000 := by rw [hsr, List.length_reverse]; exact hsl
          have hrev : (((sd, si) :: ss : List Stp)).reverse = sr ++ [(sd, si)] := by rw [List.reverse_cons, hsr]
          simp only []
          rw [hrev]
          rw [← hsr] at ihc
          replace ihc := Lib.hid ihc
          replace c1 := Lib.hid c1
          replace c2 := Lib.hid c2
          replace hn := Lib.hid hn
          clear hsl hsr hrev hu hu1 hu2 hsd hsi ih HQ hl1 hl2 ht6 ht7 hA
          go_enter Tryd.func39, Tryd.ntmps39
          go_upto_region 1 with (fail)
          change Code.wp _ _ _ _ ((w.alloc (.cells (leaf.1.map b8).toArray 23)).alloc (.cells zero32 23))
          rw [← HR.out.1, ← HR.out.2]
          replace HR := Lib.hid HR.out.2
          go_wp2_with fail
          refine hsp.mono ?_
          rintro e w2 ⟨rfl, hw2⟩
          rw [hw2]
          clear hsp hw2
          clear w2
          go_upto_region 4 with (fail)
          refine wp_region_N (fun _ => True) [] (by kernel_rfl) ?_
          obtain ⟨wd, hwd⟩ : ∃ wd, wd = w1.drew := ⟨_, rfl⟩
          replace hL1 : Blk wd r 23 (leaf.1.map b8).toArray := by rw [hwd]; exact hL1
          replace hR1 : Blk wd (r + 1) 23 zero32 := by rw [hwd]; exact hR1
          replace F1 : Below r w wd := by rw [hwd]; exact F1.drew
          rw [← hwd]
          clear hwd
          clear w1
          refine wpAnyN_pureG 0 31 (v := ?_) rfl rfl (by kernel_rfl) (by kernel_rfl) (by kernel_rfl) (fun _ _ _ h => h) rfl (fun w => ?_) ?_
          rotate_left
          · go_simp
            try with_reducible rfl
          refine wpAnyN_pureG 1 32 (v := ?_) rfl rfl (by kernel_rfl) (by kernel_rfl) (by kernel_rfl) (fun _ _ _ h => h) rfl (fun w => ?_) ?_
          rotate_left
          · go_simp
            try with_reducible rfl
          refine wpAnyN_pureG 4 35 (v := ?_) rfl rfl (by kernel_rfl) (by kernel_rfl) (by kernel_rfl) (fun _ _ _ h => h) rfl (fun w => ?_) ?_
          rotate_left
          · go_simp
            try with_reducible rfl
          refine wpAnyN_pureG 5 36 (v := ?_) rfl rfl (by kernel_rfl) (by kernel_rfl) (by kernel_rfl) (fun _ _ _ h => h) rfl (fun w => ?_) ?_
          rotate_left
          · go_simp
            try with_reducible rfl
          simp only [Act.put, List.setIfInBounds_toArray, List.set_cons_succ, List.set_cons_zero]
          refine wpAnyN_pureG 2 33 (v := ?_) rfl rfl (by kernel_rfl) (by kernel_rfl) (by kernel_rfl) (fun _ _ _ h => h) rfl (fun w => ?_) ?_
          rotate_left
          · go_simp
            try with_reducible rfl
          refine wpAnyN_pureG 6 37 (v := ?_) rfl rfl (by kernel_rfl) (by kernel_rfl) (by kernel_rfl) (fun _ _ _ h => h) rfl (fun w => ?_) ?_
          rotate_left
          · go_simp
            try with_reducible rfl
          simp only [Act.put, List.setIfInBounds_toArray, List.set_cons_succ, List.set_cons_zero]
          have hsz : r + 2 ≤ wd.heap.size := hR1.lt
          refine wpAnyN_dag2 [3, 7, 8, 9] (fun i => match i with | 3 => some 34 | 7 => some 38 | 8 => some 39 | 9 => some 12 | _ => none) (fun i => match i with | 7 => [3] | 8 => [3, 7] | _ => []) (fun i v w => match i with
            | 3 => v = hval u1
            | 7 => v = hval u2
            | 8 => v = pval si
            | 9 => PtrC 70 zero64 v w
            | _ => True) (fun i => i == 9) (g := 1) (by kernel_rfl) (by kernel_rfl) rfl
            ⟨fun _ _ _ _ h => h, fun _ _ _ _ h => h, fun _ _ _ _ h => h, fun _ _ _ hb h => PtrC.below hb h, trivial⟩ (fun _ _ _ _ => trivial) ⟨?_, ?_, ?_, ?_, trivial⟩ ?_
          · intro vs w hb _ o ho
            cases ho
            simp only [putsD]
            have cc := c1.out w (F1.trans (hb.mono (by omega)))
            refine vwp_call 38 [.tmp 33] [.slice a6 k cp] rfl rfl ?_ Tryd.call38 ?_
            · go_simp
            · refine (cc).mono ?_
              rintro e w' ⟨rfl, G⟩
              exact ⟨_, rfl, G, rfl, fun h => by cases h⟩
          · intro vs w hb hd o ho
            cases ho
            obtain ⟨h3, -⟩ := hd
            simp only [putsD]
            have cc := c2.out w (F1.trans (hb.mono (by omega)))
            refine vwp_call 38 [.tmp 37] [.slice a7 (l.length - k) (cp - k)] rfl rfl ?_ Tryd.call38 ?_
            · go_simp
            · refine (cc).mono ?_
              rintro e w' ⟨rfl, G⟩
              exact ⟨_, rfl, G, rfl, fun h => by cases h⟩
          · intro vs w hb hd o ho
            cases ho
            obtain ⟨h3, h7, -⟩ := hd
            simp only [putsD]
            rw [h3, h7]
            exact vwp_run rfl (v := pval si) (w' := w) (run_build_pair w si _ _ (.tmp 34) (.tmp 38) rfl (by rw [HSD.out.2]; go_simp) (by rw [HSD.out.2]; go_simp)) ⟨Below.refl _ _, rfl, fun h => by cases h⟩
          · intro vs w hb _ o ho
            cases ho
            simp only [putsD]
            refine vwp_run rfl (v := .pointer (some ⟨w.heap.size, 0, none⟩)) (w' := w.alloc (.cells zero64 70)) ?_ ⟨below_alloc1 _ _, ⟨_, rfl, Blk.new _ _ _⟩, fun _ => ⟨_, rfl, Nat.le_refl _, alloc_lt _ _⟩⟩
            go_simp
          intro vs w2 hb hR hne hfr
          obtain ⟨h3, h7, h8, ⟨b1, h9, hk1'⟩, -⟩ := hR
          obtain ⟨x1, hx1, hx1', -⟩ := hfr 9 (by simp) rfl
          rw [h9] at hx1
          obtain rfl : b1 = x1 := Option.some.inj hx1
          simp only [putsD]
          rw [h3, h7, h8, h9]
          have hb1 : r + 2 ≤ b1 := by omega
          have hL2 := hL1.below hb hL1.lt
          have hR2 := hR1.below hb hR1.lt
          have F2 : Below r w w2 := F1.trans (hb.mono (by omega))
          clear hne hfr hx1 hx1' h3 h7 h8 h9 hb hR1 hL1 F1 hsz c1 c2
          clear wd
          simp only [Act.put, List.setIfInBounds_toArray, List.set_cons_succ, List.set_cons_zero]
          refine wpAnyN_store_blk 10 70 (.tmp 12) (.tmp 39) (by kernel_rfl) rfl rfl rfl rfl hk1' 0 ((pairB si).map b8).toArray (by go_simp) (by go_simp) 64 (by kernel_rfl) (by simp [pairB_len]) (by simp) (by rw [List.toList_toArray]; exact b8_one _) ((pairB si).map b8).toArray (by simp) ?_
          intro w3 hI3 hg3
          have hL3 := hL2.grown hg3 (fun e => by have := Option.some.inj e; omega)
          have hR3 := hR2.grown hg3 (fun e => by have := Option.some.inj e; omega)
          have F3 := below_upd F2 hg3 (by omega) hk1'.lt
          refine ⟨fun _ _ => trivial, wpAnyN_done (by kernel_rfl) ?_⟩
          clear hg3 hk1' hL2 hR2 F2
          clear w2
          generalize h2x : w3.heap.size = b2
          have hI4 := hI3.alloc (.cells zero32 23)
          have hL4 := hL3.alloc (.cells zero32 23)
          have hR4 := hR3.alloc (.cells zero32 23)
          have hH4 : Blk (w3.alloc (.cells zero32 23)) b2 23 zero32 := by rw [← h2x]; exact Blk.new w3 _ _
          have hb2 : b1 < b2 := by rw [← h2x]; exact hI3.lt
          have F4 : Below r w (w3.alloc (.cells zero32 23)) := F3.alloc (by omega) _
          have hs4 : (w3.alloc (.cells zero32 23)).heap.size = b2 + 1 := by rw [alloc_size, h2x]
          clear hI3 hL3 hR3 F3
          go_upto_region 7 with (fail)
          try rw [h2x]
          clear h2x
          obtain ⟨w4, hw4⟩ : ∃ w4, w4 = w3.alloc (.cells zero32 23) := ⟨_, rfl⟩
          rw [← hw4] at hI4 hL4 hR4 hH4 F4 hs4 ⊢
          clear hw4
          clear w3
          have hS5 := Blk.new w4 zero64 70
          rw [hs4] at hS5
          go_wp2_with (refine wpList_store_blk rfl 70 _ _ rfl hS5 zero64 rfl rfl 64 (by kernel_rfl) rfl rfl (by intro v hv; simp at hv; subst hv; rfl) ?_)
          intro w5 hS6 hg5
          have hI5 := (hI4.alloc (.cells zero64 70)).grown hg5 (fun e => by have := Option.some.inj e; omega)
          have hL5 := (hL4.alloc (.cells zero64 70)).grown hg5 (fun e => by have := Option.some.inj e; omega)
          have hR5 := (hR4.alloc (.cells zero64 70)).grown hg5 (fun e => by have := Option.some.inj e; omega)
          have hH5 := (hH4.alloc (.cells zero64 70)).grown hg5 (fun e => by have := Option.some.inj e; omega)
          have F5 : Below r w w5 := below_upd (F4.alloc (by omega) _) hg5 (by omega) (by rw [alloc_size]; omega)
          clear hg5 hS5 hI4 hL4 hR4 hH4 F4 hs4
          clear w4
          go_upto_region 9 with (fail)
          refine wp_region_N (fun w' => Blk w' r 23 (leaf.1.map b8).toArray) [] (by kernel_rfl) ?_
          obtain ⟨wd, hwd⟩ : ∃ wd, wd = w5.drew := ⟨_, rfl⟩
          replace hL5 : Blk wd r 23 (leaf.1.map b8).toArray := by rw [hwd]; exact hL5
          replace hR5 : Blk wd (r + 1) 23 zero32 := by rw [hwd]; exact hR5
          replace hI5 : Blk wd b1 70 ((pairB si).map b8).toArray := by rw [hwd]; exact hI5
          replace hH5 : Blk wd b2 23 zero32 := by rw [hwd]; exact hH5
          replace hS6 : Blk wd (b2 + 1) 70 zero64 := by rw [hwd]; exact hS6
          replace F5 : Below r w wd := by rw [hwd]; exact F5.drew
          rw [← hwd]
          clear hwd
          clear w5
          refine wpAnyN_pureG 0 45 (v := ?_) rfl rfl (by kernel_rfl) (by kernel_rfl) (by kernel_rfl) (fun _ _ _ h => h) rfl (fun w => ?_) ?_
          rotate_left
          · go_simp
            try with_reducible rfl
          refine wpAnyN_pureG 1 46 (v := ?_) rfl rfl (by kernel_rfl) (by kernel_rfl) (by kernel_rfl) (fun _ _ _ h => h) rfl (fun w => ?_) ?_
          rotate_left
          · go_simp
            try with_reducible rfl
          refine wpAnyN_pureG 3 48 (v := ?_) rfl rfl (by kernel_rfl) (by kernel_rfl) (by kernel_rfl) (fun _ _ _ h => h) rfl (fun w => ?_) ?_
          rotate_left
          · go_simp
            try with_reducible rfl
          refine wpAnyN_pureG 5 50 (v := ?_) rfl rfl (by kernel_rfl) (by kernel_rfl) (by kernel_rfl) (fun _ _ _ h => h) rfl (fun w => ?_) ?_
          rotate_left
          · go_simp
            try with_reducible rfl
          refine wpAnyN_pureG 6 51 (v := ?_) rfl rfl (by kernel_rfl) (by kernel_rfl) (by kernel_rfl) (fun _ _ _ h => h) rfl (fun w => ?_) ?_
          rotate_left
          · go_simp
            try with_reducible rfl
          simp only [Act.put, List.setIfInBounds_toArray, List.set_cons_succ, List.set_cons_zero]
          refine wpAnyN_pureG 2 47 (v := ?_) rfl rfl (by kernel_rfl) (by kernel_rfl) (by kernel_rfl) (fun _ _ _ h => h) rfl (fun w => ?_) ?_
          rotate_left
          · go_simp
            try with_reducible rfl
          refine wpAnyN_pureG 7 52 (v := ?_) rfl rfl (by kernel_rfl) (by kernel_rfl) (by kernel_rfl) (fun _ _ _ h => h) rfl (fun w => ?_) ?_
          rotate_left
          · go_simp
            try with_reducible rfl
          simp only [Act.put, List.setIfInBounds_toArray, List.set_cons_succ, List.set_cons_zero]
          refine wpAnyN_takeG 4 49 (v := hval leaf) rfl rfl (by kernel_rfl) (by kernel_rfl) (by kernel_rfl) (by kernel_rfl) (fun _ _ _ h => h) hL5 rfl (fun w hS => ?_) ?_
          · exact run_load_mid_blk 23 (.tmp 6) rfl hS 0 (by go_simp) (leaf.1.map b8) (fun j v h => by rw [Nat.zero_add, List.getElem?_toArray]; exact h) (.array 32 5) (by kernel_rfl) rfl 32 (by kernel_rfl) (by simp [hll])
          simp only [Act.put, List.setIfInBounds_toArray, List.set_cons_succ, List.set_cons_zero]
          refine wpAnyN_call 8 39 (some 53) [.tmp 47, .tmp 48, .tmp 49, .tmp 52] [.slice a6 k cp, .int .i64 m, hval leaf, .slice a9 q.length cq] (by kernel_rfl) rfl rfl rfl rfl (by go_simp) Tryd.call39 ?_
          refine (ihc.out wd F5).mono ?_
          rintro e w6 ⟨v6, rfl, O6⟩
          refine ⟨_, rfl, fun _ h => h.below O6.bel h.lt, ?_⟩
          have hR6 := hR5.below O6.bel hR5.lt
          have hI6 := hI5.below O6.bel hI5.lt
          have hH6 := hH5.below O6.bel hH5.lt
          have hS7 := hS6.below O6.bel hS6.lt
          have hsz : b2 + 2 ≤ wd.heap.size := hS6.lt
          have F6 : Below r w w6 := F5.trans (O6.bel.mono (by omega))
          have row6 := O6.row
          have own6 : ∀ g, v6.ownBlock = some g → b2 + 2 ≤ g := fun g e => Nat.le_trans hsz (O6.own g e)
          have le6 : b2 + 2 ≤ w6.heap.size := Nat.le_trans hsz O6.le
          clear ihc O6 hL5 hR5 hI5 hH5 hS6 hsz F5
          clear wd
          refine wpAnyN_pureG 9 44 (v := ?_) rfl rfl (by kernel_rfl) (by kernel_rfl) (by kernel_rfl) (fun _ _ _ h => h) rfl (fun w => ?_) ?_
          rotate_left
          · go_simp
            try with_reducible rfl
          simp only [Act.put, List.setIfInBounds_toArray, List.set_cons_succ, List.set_cons_zero]
          refine wpAnyN_pureG 10 54 (v := ?_) rfl rfl (by kernel_rfl) (by kernel_rfl) (by kernel_rfl) (fun _ _ _ h => h) rfl (fun w => ?_) ?_
          rotate_left
          · go_simp
            try with_reducible rfl
          refine wpAnyN_pureG 11 55 (v := ?_) rfl rfl (by kernel_rfl) (by kernel_rfl) (by kernel_rfl) (fun _ _ _ h => h) rfl (fun w => ?_) ?_
          rotate_left
          · go_simp
            try with_reducible rfl
          simp only [Act.put, List.setIfInBounds_toArray, List.set_cons_succ, List.set_cons_zero]
          refine wpAnyN_pureG 12 13 (v := ?_) rfl rfl (by kernel_rfl) (by kernel_rfl) (by kernel_rfl) (fun _ _ _ h => h) rfl (fun w => ?_) ?_
          rotate_left
          · go_simp
            try with_reducible rfl
          simp only [Act.put, List.setIfInBounds_toArray, List.set_cons_succ, List.set_cons_zero]
          refine wpAnyN_store_blk 13 23 (.tmp 14) (.tmp 55) (by kernel_rfl) rfl rfl rfl rfl hH6 0 (y.1.map b8).toArray (by go_simp) (by go_simp) 32 (by kernel_rfl) (by simp [hyl]) (by simp) (by rw [List.toList_toArray]; exact b8_one _) (y.1.map b8).toArray (by simp) ?_
          intro w7 hH7 hg7
          have hR7 := hR6.grown hg7 (fun e => by have := Option.some.inj e; omega)
          have hI7 := hI6.grown hg7 (fun e => by have := Option.some.inj e; omega)
          have hS8 := hS7.grown hg7 (fun e => by have := Option.some.inj e; omega)
          have F7 := below_upd F6 hg7 (by omega) hH6.lt
          have row7 := row6.grown hg7 (fun g e e' => by have := Option.some.inj e'; have := own6 g e; omega)
          have le7 : b2 + 2 ≤ w7.heap.size := Nat.le_trans le6 hg7.size
          refine ⟨fun _ h => h.grown hg7 (fun e => by have := Option.some.inj e; omega), wpAnyN_done (by kernel_rfl) ?_⟩
          clear hg7 hR6 hI6 hH6 hS7 F6 row6 le6
          clear w6
          go_upto_region 10 with (fail)
          refine wp_region_N (fun w' => Blk w' b2 23 (y.1.map b8).toArray ∧ w'.rangeAt g (off + q.length * 32) (x.1.map b8)) [] (by kernel_rfl) ?_
          obtain ⟨wd, hwd⟩ : ∃ wd, wd = w7.drew := ⟨_, rfl⟩
          replace hR7 : Blk wd (r + 1) 23 zero32 := by rw [hwd]; exact hR7
          replace hI7 : Blk wd b1 70 ((pairB si).map b8).toArray := by rw [hwd]; exact hI7
          replace hH7 : Blk wd b2 23 (y.1.map b8).toArray := by rw [hwd]; exact hH7
          replace hS8 : Blk wd (b2 + 1) 70 zero64 := by rw [hwd]; exact hS8
          replace row7 : Row wd v6 72 128 sr.length ((flatS sr).map b8) := by rw [hwd]; exact row7
          replace le7 : b2 + 2 ≤ wd.heap.size := by rw [hwd]; exact le7
          replace F7 : Below r w wd := by rw [hwd]; exact F7.drew
          rw [← hwd]
          clear hwd
          clear w7
          have hX7 : wd.rangeAt g (off + q.length * 32) (x.1.map b8) := range_below HY.out.1 F7 (Nat.lt_of_lt_of_le HY.out.2 HR0.out)
          refine wpAnyN_takeG 0 56 (v := hval y) rfl rfl (by kernel_rfl) (by kernel_rfl) (by kernel_rfl) (by kernel_rfl) (fun _ _ _ h => h) ⟨hH7, hX7⟩ rfl (fun w hS => ?_) ?_
          · exact run_load_mid_blk 23 (.tmp 14) rfl hS.1 0 (by go_simp) (y.1.map b8) (fun j v h => by rw [Nat.zero_add, List.getElem?_toArray]; exact h) (.array 32 5) (by kernel_rfl) rfl 32 (by kernel_rfl) (by simp [hyl])
          simp only [Act.put, List.setIfInBounds_toArray, List.set_cons_succ, List.set_cons_zero]
          refine wpAnyN_pureG 1 57 (v := ?_) rfl rfl (by kernel_rfl) (by kernel_rfl) (by kernel_rfl) (fun _ _ _ h => h) rfl (fun w => ?_) ?_
          rotate_left
          · go_simp
            try with_reducible rfl
          refine wpAnyN_pureG 2 58 (v := ?_) rfl rfl (by kernel_rfl) (by kernel_rfl) (by kernel_rfl) (fun _ _ _ h => h) rfl (fun w => ?_) ?_
          rotate_left
          · go_simp
            try with_reducible rfl
          simp only [Act.put, List.setIfInBounds_toArray, List.set_cons_succ, List.set_cons_zero]
          refine wpAnyN_pureG 3 59 (v := .pointer (some ⟨g, off + q.length * 32, none⟩)) rfl rfl (by kernel_rfl) (by kernel_rfl) (by kernel_rfl) (fun _ _ _ h => h) rfl (fun w => ?_) ?_
          · go_simp
            try (intro h; omega)
          simp only [Act.put, List.setIfInBounds_toArray, List.set_cons_succ, List.set_cons_zero]
          refine wpAnyN_takeG 4 60 (v := hval x) rfl rfl (by kernel_rfl) (by kernel_rfl) (by kernel_rfl) (by kernel_rfl) (fun _ _ _ h => h) ⟨hH7, hX7⟩ rfl (fun w hS => ?_) ?_
          · exact run_load_range 23 _ rfl hS.2 (by go_simp) (.array 32 5) (by kernel_rfl) rfl 32 (by kernel_rfl) (by simp [hxl])
          simp only [Act.put, List.setIfInBounds_toArray, List.set_cons_succ, List.set_cons_zero]
          refine wpAnyN_pureG 5 61 (v := pval sd) rfl rfl (by kernel_rfl) (by kernel_rfl) (by kernel_rfl) (fun _ _ _ h => h) rfl (fun w => ?_) ?_
          · exact run_build_pair w sd _ _ (.tmp 56) (.tmp 60) rfl (by rw [HSD.out.1]; go_simp) (by rw [HSD.out.1]; go_simp)
          simp only [Act.put, List.setIfInBounds_toArray, List.set_cons_succ, List.set_cons_zero]
          refine wpAnyN_store_blk 6 70 (.tmp 15) (.tmp 61) (by kernel_rfl) rfl rfl rfl rfl hS8 0 ((pairB sd).map b8).toArray (by go_simp) (by go_simp) 64 (by kernel_rfl) (by simp [pairB_len]) (by simp) (by rw [List.toList_toArray]; exact b8_one _) ((pairB sd).map b8).toArray (by simp) ?_
          intro w8 hS9 hg8
          have hR8 := hR7.grown hg8 (fun e => by have := Option.some.inj e; omega)
          have hI8 := hI7.grown hg8 (fun e => by have := Option.some.inj e; omega)
          have F8 := below_upd F7 hg8 (by omega) hS8.lt
          have row8 := row7.grown hg8 (fun g e e' => by have := Option.some.inj e'; have := own6 g e; omega)
          have le8 : b2 + 2 ≤ w8.heap.size := Nat.le_trans le7 hg8.size
          refine ⟨fun _ h => ⟨h.1.grown hg8 (fun e => by have := Option.some.inj e; omega), range_grown h.2 hg8 (Nat.lt_of_lt_of_le HY.out.2 (Nat.le_trans HR0.out (by omega))) (by have := HY.out.2; have := HR0.out; omega)⟩, wpAnyN_done (by kernel_rfl) ?_⟩
          clear hg8 hR7 hI7 hH7 hS8 F7 row7 le7 hX7
          clear wd
          obtain ⟨j0, hj, hj0, hj1, hj2⟩ := info_parts infoSt
          go_upto_region 13 with (fail)
          refine wp_region_N (fun w' => Blk w' (b2 + 1) 70 ((pairB sd).map b8).toArray ∧ Blk w' b1 70 ((pairB si).map b8).toArray) [] (by kernel_rfl) ?_
          obtain ⟨wd, hwd⟩ : ∃ wd, wd = w8.drew := ⟨_, rfl⟩
          replace hR8 : Blk wd (r + 1) 23 zero32 := by rw [hwd]; exact hR8
          replace hI8 : Blk wd b1 70 ((pairB si).map b8).toArray := by rw [hwd]; exact hI8
          replace hS9 : Blk wd (b2 + 1) 70 ((pairB sd).map b8).toArray := by rw [hwd]; exact hS9
          replace row8 : Row wd v6 72 128 sr.length ((flatS sr).map b8) := by rw [hwd]; exact row8
          replace le8 : b2 + 2 ≤ wd.heap.size := by rw [hwd]; exact le8
          replace F8 : Below r w wd := by rw [hwd]; exact F8.drew
          rw [← hwd]
          clear hwd
          clear w8
          refine wpAnyN_pureG 0 82 (v := ?_) rfl rfl (by kernel_rfl) (by kernel_rfl) (by kernel_rfl) (fun _ _ _ h => h) rfl (fun w => ?_) ?_
          rotate_left
          · go_simp
            try with_reducible rfl
          refine wpAnyN_pureG 6 88 (v := ?_) rfl rfl (by kernel_rfl) (by kernel_rfl) (by kernel_rfl) (fun _ _ _ h => h) rfl (fun w => ?_) ?_
          rotate_left
          · go_simp
            try with_reducible rfl
          refine wpAnyN_pureG 8 90 (v := ?_) rfl rfl (by kernel_rfl) (by kernel_rfl) (by kernel_rfl) (fun _ _ _ h => h) rfl (fun w => ?_) ?_
          rotate_left
          · go_simp
            try with_reducible rfl
          simp only [Act.put, List.setIfInBounds_toArray, List.set_cons_succ, List.set_cons_zero]
          refine wpAnyN_takeG 1 83 (v := pval sd) rfl rfl (by kernel_rfl) (by kernel_rfl) (by kernel_rfl) (by kernel_rfl) (fun _ _ _ h => h) ⟨hS9, hI8⟩ rfl (fun w hS => ?_) ?_
          · exact run_load_mid_blk 70 (.tmp 15) rfl hS.1 0 (by go_simp) ((pairB sd).map b8) (fun j v h => by rw [Nat.zero_add, List.getElem?_toArray]; exact h) (.struct fp) hfp rfl 64 (by kernel_rfl) (by simp [pairB_len])
          refine wpAnyN_takeG 2 84 (v := pval si) rfl rfl (by kernel_rfl) (by kernel_rfl) (by kernel_rfl) (by kernel_rfl) (fun _ _ _ h => h) ⟨hS9, hI8⟩ rfl (fun w hS => ?_) ?_
          · exact run_load_mid_blk 70 (.tmp 12) rfl hS.2 0 (by go_simp) ((pairB si).map b8) (fun j v h => by rw [Nat.zero_add, List.getElem?_toArray]; exact h) (.struct fp) hfp rfl 64 (by kernel_rfl) (by simp [pairB_len])
          refine wpAnyN_takeG 7 89 (v := hval sd.1) rfl rfl (by kernel_rfl) (by kernel_rfl) (by kernel_rfl) (by kernel_rfl) (fun _ _ _ h => h) ⟨hS9, hI8⟩ rfl (fun w hS => ?_) ?_
          · exact run_load_mid_blk 23 (.tmp 88) rfl hS.1 0 (by go_simp) (sd.1.1.map b8) (fun j v hv => by rw [Nat.zero_add, List.getElem?_toArray]; exact pair_fst _ _ _ hv) (.array 32 5) (by kernel_rfl) rfl 32 (by kernel_rfl) (by simp [sd.1.2])
          refine wpAnyN_takeG 9 91 (v := hval sd.2) rfl rfl (by kernel_rfl) (by kernel_rfl) (by kernel_rfl) (by kernel_rfl) (fun _ _ _ h => h) ⟨hS9, hI8⟩ rfl (fun w hS => ?_) ?_
          · exact run_load_mid_blk 23 (.tmp 90) rfl hS.1 32 (by go_simp) (sd.2.1.map b8) (fun j v hv => by rw [List.getElem?_toArray]; exact pair_snd _ _ _ hv) (.array 32 5) (by kernel_rfl) rfl 32 (by kernel_rfl) (by simp [sd.2.2])
          simp only [Act.put, List.setIfInBounds_toArray, List.set_cons_succ, List.set_cons_zero]
          refine wpAnyN_pureG 3 85 (v := sval (sd, si)) rfl rfl (by kernel_rfl) (by kernel_rfl) (by kernel_rfl) (fun _ _ _ h => h) rfl (fun w => ?_) ?_
          · exact run_build_step w (sd, si) _ _ (.tmp 83) (.tmp 84) rfl (by go_simp) (by go_simp)
          simp only [Act.put, List.setIfInBounds_toArray, List.set_cons_succ, List.set_cons_zero]
          refine wpAnyN_run 4 (some 86) (v := .slice (some ⟨wd.heap.size, 0, none⟩) 1 1) (w' := wd.alloc (.cells ((stB (sd, si)).map b8).toArray 72)) (by kernel_rfl) rfl rfl rfl (run_build_steps wd (sd, si) _ _ (.tmp 85) rfl (by go_simp)) ⟨fun _ h => ⟨h.1.alloc _, h.2.alloc _⟩, ?_⟩
          simp only [Act.put, List.setIfInBounds_toArray, List.set_cons_succ, List.set_cons_zero]
          have O8 : OwnS r w wd v6 sr := ⟨row8, fun g e => by have := own6 g e; omega, F8, by omega⟩
          refine wpAnyN_append 5 (some 87) (.tmp 82) (.tmp 86) 60 60 (by kernel_rfl) rfl rfl rfl rfl 72 j0 (.agg zero128) 128 128 (by kernel_rfl) hj hj0 hj1 hj2 rfl (by decide) (row8.alloc _) (by go_simp) (src_step wd (sd, si)) (by go_simp) (by simp only [maxLen]; omega) (by omega) ?_
          intro v9 w9 hrow9 hg9 hv9
          have O9 := OwnS.push O8 _ hrow9 hg9 (by rw [alloc_size] at hv9; exact hv9)
          have nb : ∀ b, b < b2 + 2 → some b ≠ v6.ownBlock := fun b hb e => by have := own6 b e.symm; omega
          have hR9 := (hR8.alloc _).grown hg9 (nb _ (by omega))
          have le9 : b2 + 2 ≤ w9.heap.size := Nat.le_trans le8 (Nat.le_trans (by rw [alloc_size]; omega) hg9.size)
          have own9 : ∀ g, v9.ownBlock = some g → g ≠ r + 1 := fun g e => by
            rcases hv9 with e1 | ⟨e1, -⟩
            · have := own6 g (e1 ▸ e); omega
            · have := Option.some.inj (e1.symm.trans e); rw [alloc_size] at this; omega
          refine ⟨fun _ h => ⟨h.1.grown hg9 (nb _ (by omega)), h.2.grown hg9 (nb _ (by omega))⟩, ?_⟩
          clear hrow9 hg9 hv9 O8 row8 F8 hR8 hS9 hI8 nb own6 le8
          generalize wd.heap.size = gz
          simp only [Act.put, List.setIfInBounds_toArray, List.set_cons_succ, List.set_cons_zero]
          refine wpAnyN_call 10 31 (some 92) [.tmp 89, .tmp 91] [hval sd.1, hval sd.2] (by kernel_rfl) rfl rfl rfl rfl (by go_simp) Tryd.call31 ?_
          refine (hn.out w9 O9.bel).mono ?_
          rintro e w10 ⟨rfl, G10⟩
          have hR10 := hR9.below G10 hR9.lt
          have O10 := Own.below O9 G10
          refine ⟨_, rfl, fun _ h => ⟨h.1.below G10 h.1.lt, h.2.below G10 h.2.lt⟩, ?_⟩
          clear hR9 O9 G10 le9 hn
          clear w9
          refine wpAnyN_pureG 11 8 (v := ?_) rfl rfl (by kernel_rfl) (by kernel_rfl) (by kernel_rfl) (fun _ _ _ h => h) rfl (fun w => ?_) ?_
          rotate_left
          · go_simp
            try with_reducible rfl
          simp only [Act.put, List.setIfInBounds_toArray, List.set_cons_succ, List.set_cons_zero]
          refine wpAnyN_store_blk 12 23 (.tmp 9) (.tmp 92) (by kernel_rfl) rfl rfl rfl rfl hR10 0 (u.1.map b8).toArray (by go_simp) (by go_simp) 32 (by kernel_rfl) (by simp [hul]) (by simp) (by rw [List.toList_toArray]; exact b8_one _) (u.1.map b8).toArray (by simp) ?_
          intro w5 hR5 hg5
          have O5 := Own.upd O10 hg5 (by omega) hR10.lt own9
          refine ⟨fun _ h => ⟨h.1.grown hg5 (fun e => by have := Option.some.inj e; omega), h.2.grown hg5 (fun e => by have := Option.some.inj e; omega)⟩, wpAnyN_done (by kernel_rfl) ?_⟩
          clear hg5 hR10 O10
          rw [HR.out] at O5
          go_wp2
          exact (ret_tmp_blk rfl hR5 rfl rfl (.array 32 5) (by kernel_rfl) rfl 32 (by kernel_rfl) (by simp [hul]) ⟨_, rfl, O5⟩).2
        · have hst := clH_hi (l := l) (m := m) (leaf := leaf) (x := x) (q := q) (by omega) hmk
          rw [hst]
          clear hst
          obtain ⟨k, hk⟩ : ∃ k, k = Tree.split l.length := ⟨_, rfl⟩
          rw [← hk] at hk1 hk0 hsp hmk ⊢
          obtain ⟨a6, hs6, -, ht6⟩ := run_upto_hts (P := Tryd.prog) (t := 24) (by kernel_rfl) hi ao l.length cp k (by omega)
          obtain ⟨a7, hs7, ht7⟩ := run_from_hts (P := Tryd.prog) (t := 24) (by kernel_rfl) hi hz1 ao l.length cp k (by omega) hc
          have hl1 : (l.take k).length = k := by rw [List.length_take]; omega
          have hl2 : (l.drop k).length = l.length - k := List.length_drop
          have c1 : ∀ W, Below r w W → Calls Tryd.prog 38 #[.slice a6 k cp] W fun e w' => e = .returned (hval (rootH (l.take k))) ∧ Below W.heap.size W w' := fun W hW => by
            have := root_any W a6 cp (l.take k) (hL.below hW HR0.out) (ht6 W l (hA.below hW HR0.out)) (by omega) hm
            rwa [hl1] at this
          have c2 : ∀ W, Below r w W → Calls Tryd.prog 38 #[.slice a7 (l.length - k) (cp - k)] W fun e w' => e = .returned (hval (rootH (l.drop k))) ∧ Below W.heap.size W w' := fun W hW => by
            have := root_any W a7 (cp - k) (l.drop k) (hL.below hW HR0.out) (ht7 W l rfl (hA.below hW HR0.out)) (by omega) (by simp only [maxLen]; omega)
            rwa [hl2] at this
          have hd2 : decide ((m : Int) < (k : Int)) = false := by rw [decide_eq_false_iff_not]; omega
          obtain ⟨m', hm'⟩ : ∃ m', m' = m - k := ⟨_, rfl⟩
          have q1 : IntKind.i64.wrap ((m : Int) - k) = (m' : Int) := by rw [show (m : Int) - k = m' by omega]; exact IntWalk.i64_in _ (by omega)
          rw [← hm']
          have ihc : ∀ W, Below r w W → Calls Tryd.prog 39 #[.slice a7 (l.length - k) (cp - k), .int .i64 m', hval leaf, .slice a9 q.length cq] W fun e w' => ∃ v, e = .returned (.tuple #[v, hval (clH (l.drop k) m' leaf q).2]) ∧ OwnS W.heap.size W w' v (clH (l.drop k) m' leaf q).1.reverse := fun W hW => by
            have := ih W a7 (cp - k) (l.drop k) m' leaf a9 cq q (by omega) (hL.below hW HR0.out) (ht7 W l rfl (hA.below hW HR0.out)) (by omega) (by simp only [maxLen]; omega) (by omega) (HQ.out.below hW HR0.out) (by omega) hmq (by omega) (by omega)
            rwa [hl2] at this
          obtain ⟨y, hy⟩ : ∃ y, y = (clH (l.drop k) m' leaf q).2 := ⟨_, rfl⟩
          obtain ⟨ss, hss⟩ : ∃ ss, ss = (clH (l.drop k) m' leaf q).1 := ⟨_, rfl⟩
          have hsl : ss.length ≤ 1000000 := by rw [hss]; exact Nat.le_trans (clH_len _ _ _) (by rw [List.length_reverse]; omega)
          rw [← hy, ← hss] at ihc ⊢
          clear hk hy hss hm'
          obtain ⟨u1, hu1⟩ : ∃ u1, u1 = rootH (l.take k) := ⟨_, rfl⟩
          obtain ⟨u2, hu2⟩ : ∃ u2, u2 = rootH (l.drop k) := ⟨_, rfl⟩
          obtain ⟨u, hu⟩ : ∃ u, u = nodeH x y := ⟨_, rfl⟩
          rw [← hu1] at c1
          rw [← hu2] at c2
          rw [← hu1, ← hu2, ← hu]
          obtain ⟨sd, hsd⟩ : ∃ sd : Pr, sd = (x, y) := ⟨_, rfl⟩
          obtain ⟨si, hsi⟩ : ∃ si : Pr, si = (u1, u2) := ⟨_, rfl⟩
          rw [← hsd, ← hsi]
          have hn : ∀ W, Below r w W → Calls Tryd.prog 31 #[hval sd.1, hval sd.2] W fun e w' => e = .returned (hval u) ∧ Below W.heap.size W w' := fun W hW => by
            rw [hu, hsd]; exact node_any W (hL.below hW HR0.out) _ _
          have HSD := Lib.hid (And.intro hsd hsi)
          have hul := u.2
          have hyl := y.2
          obtain ⟨sr, hsr⟩ : ∃ sr, sr = ss.reverse := ⟨_, rfl⟩
          have hsrl : sr.length ≤ 1000000 := by rw [hsr, List.length_reverse]; exact hsl
          have hrev : (((sd, si) :: ss : List Stp)).reverse = sr ++ [(sd, si)] := by rw [List.reverse_cons, hsr]
          simp only []
          rw [hrev]
          rw [← hsr] at ihc
          replace ihc := Lib.hid ihc
          replace c1 := Lib.hid c1
          replace c2 := Lib.hid c2
          replace hn := Lib.hid hn
          clear hsl hsr hrev hu hu1 hu2 hsd hsi ih HQ hl1 hl2 ht6 ht7 hA
          go_enter Tryd.func39, Tryd.ntmps39
          go_upto_region 1 with (fail)
          change Code.wp _ _ _ _ ((w.alloc (.cells (leaf.1.map b8).toArray 23)).alloc (.cells zero32 23))
          rw [← HR.out.1, ← HR.out.2]
          replace HR := Lib.hid HR.out.2
          go_wp2_with fail
          refine hsp.mono ?_
          rintro e w2 ⟨rfl, hw2⟩
          rw [hw2]
          clear hsp hw2
          clear w2
          go_upto_region 4 with (fail)
          refine wp_region_N (fun _ => True) [] (by kernel_rfl) ?_
          obtain ⟨wd, hwd⟩ : ∃ wd, wd = w1.drew := ⟨_, rfl⟩
          replace hL1 : Blk wd r 23 (leaf.1.map b8).toArray := by rw [hwd]; exact hL1
          replace hR1 : Blk wd (r + 1) 23 zero32 := by rw [hwd]; exact hR1
          replace F1 : Below r w wd := by rw [hwd]; exact F1.drew
          rw [← hwd]
          clear hwd
          clear w1
          refine wpAnyN_pureG 0 31 (v := ?_) rfl rfl (by kernel_rfl) (by kernel_rfl) (by kernel_rfl) (fun _ _ _ h => h) rfl (fun w => ?_) ?_
          rotate_left
          · go_simp
            try with_reducible rfl
          refine wpAnyN_pureG 1 32 (v := ?_) rfl rfl (by kernel_rfl) (by kernel_rfl) (by kernel_rfl) (fun _ _ _ h => h) rfl (fun w => ?_) ?_
          rotate_left
          · go_simp
            try with_reducible rfl
          refine wpAnyN_pureG 4 35 (v := ?_) rfl rfl (by kernel_rfl) (by kernel_rfl) (by kernel_rfl) (fun _ _ _ h => h) rfl (fun w => ?_) ?_
          rotate_left
          · go_simp
            try with_reducible rfl
          refine wpAnyN_pureG 5 36 (v := ?_) rfl rfl (by kernel_rfl) (by kernel_rfl) (by kernel_rfl) (fun _ _ _ h => h) rfl (fun w => ?_) ?_
          rotate_left
          · go_simp
            try with_reducible rfl
          simp only [Act.put, List.setIfInBounds_toArray, List.set_cons_succ, List.set_cons_zero]
          refine wpAnyN_pureG 2 33 (v := ?_) rfl rfl (by kernel_rfl) (by kernel_rfl) (by kernel_rfl) (fun _ _ _ h => h) rfl (fun w => ?_) ?_
          rotate_left
          · go_simp
            try with_reducible rfl
          refine wpAnyN_pureG 6 37 (v := ?_) rfl rfl (by kernel_rfl) (by kernel_rfl) (by kernel_rfl) (fun _ _ _ h => h) rfl (fun w => ?_) ?_
          rotate_left
          · go_simp
            try with_reducible rfl
          simp only [Act.put, List.setIfInBounds_toArray, List.set_cons_succ, List.set_cons_zero]
          have hsz : r + 2 ≤ wd.heap.size := hR1.lt
          refine wpAnyN_dag2 [3, 7, 8, 9] (fun i => match i with | 3 => some 34 | 7 => some 38 | 8 => some 39 | 9 => some 12 | _ => none) (fun i => match i with | 7 => [3] | 8 => [3, 7] | _ => []) (fun i v w => match i with
            | 3 => v = hval u1
            | 7 => v = hval u2
            | 8 => v = pval si
            | 9 => PtrC 70 zero64 v w
            | _ => True) (fun i => i == 9) (g := 1) (by kernel_rfl) (by kernel_rfl) rfl
            ⟨fun _ _ _ _ h => h, fun _ _ _ _ h => h, fun _ _ _ _ h => h, fun _ _ _ hb h => PtrC.below hb h, trivial⟩ (fun _ _ _ _ => trivial) ⟨?_, ?_, ?_, ?_, trivial⟩ ?_
          · intro vs w hb _ o ho
            cases ho
            simp only [putsD]
            have cc := c1.out w (F1.trans (hb.mono (by omega)))
            refine vwp_call 38 [.tmp 33] [.slice a6 k cp] rfl rfl ?_ Tryd.call38 ?_
            · go_simp
            · refine (cc).mono ?_
              rintro e w' ⟨rfl, G⟩
              exact ⟨_, rfl, G, rfl, fun h => by cases h⟩
          · intro vs w hb hd o ho
            cases ho
            obtain ⟨h3, -⟩ := hd
            simp only [putsD]
            have cc := c2.out w (F1.trans (hb.mono (by omega)))
            refine vwp_call 38 [.tmp 37] [.slice a7 (l.length - k) (cp - k)] rfl rfl ?_ Tryd.call38 ?_
            · go_simp
            · refine (cc).mono ?_
              rintro e w' ⟨rfl, G⟩
              exact ⟨_, rfl, G, rfl, fun h => by cases h⟩
          · intro vs w hb hd o ho
            cases ho
            obtain ⟨h3, h7, -⟩ := hd
            simp only [putsD]
            rw [h3, h7]
            exact vwp_run rfl (v := pval si) (w' := w) (run_build_pair w si _ _ (.tmp 34) (.tmp 38) rfl (by rw [HSD.out.2]; go_simp) (by rw [HSD.out.2]; go_simp)) ⟨Below.refl _ _, rfl, fun h => by cases h⟩
          · intro vs w hb _ o ho
            cases ho
            simp only [putsD]
            refine vwp_run rfl (v := .pointer (some ⟨w.heap.size, 0, none⟩)) (w' := w.alloc (.cells zero64 70)) ?_ ⟨below_alloc1 _ _, ⟨_, rfl, Blk.new _ _ _⟩, fun _ => ⟨_, rfl, Nat.le_refl _, alloc_lt _ _⟩⟩
            go_simp
          intro vs w2 hb hR hne hfr
          obtain ⟨h3, h7, h8, ⟨b1, h9, hk1'⟩, -⟩ := hR
          obtain ⟨x1, hx1, hx1', -⟩ := hfr 9 (by simp) rfl
          rw [h9] at hx1
          obtain rfl : b1 = x1 := Option.some.inj hx1
          simp only [putsD]
          rw [h3, h7, h8, h9]
          have hb1 : r + 2 ≤ b1 := by omega
          have hL2 := hL1.below hb hL1.lt
          have hR2 := hR1.below hb hR1.lt
          have F2 : Below r w w2 := F1.trans (hb.mono (by omega))
          clear hne hfr hx1 hx1' h3 h7 h8 h9 hb hR1 hL1 F1 hsz c1 c2
          clear wd
          simp only [Act.put, List.setIfInBounds_toArray, List.set_cons_succ, List.set_cons_zero]
          refine wpAnyN_store_blk 10 70 (.tmp 12) (.tmp 39) (by kernel_rfl) rfl rfl rfl rfl hk1' 0 ((pairB si).map b8).toArray (by go_simp) (by go_simp) 64 (by kernel_rfl) (by simp [pairB_len]) (by simp) (by rw [List.toList_toArray]; exact b8_one _) ((pairB si).map b8).toArray (by simp) ?_
          intro w3 hI3 hg3
          have hL3 := hL2.grown hg3 (fun e => by have := Option.some.inj e; omega)
          have hR3 := hR2.grown hg3 (fun e => by have := Option.some.inj e; omega)
          have F3 := below_upd F2 hg3 (by omega) hk1'.lt
          refine ⟨fun _ _ => trivial, wpAnyN_done (by kernel_rfl) ?_⟩
          clear hg3 hk1' hL2 hR2 F2
          clear w2
          generalize h2x : w3.heap.size = b2
          have hI4 := hI3.alloc (.cells zero32 23)
          have hL4 := hL3.alloc (.cells zero32 23)
          have hR4 := hR3.alloc (.cells zero32 23)
          have hH4 : Blk (w3.alloc (.cells zero32 23)) b2 23 zero32 := by rw [← h2x]; exact Blk.new w3 _ _
          have hb2 : b1 < b2 := by rw [← h2x]; exact hI3.lt
          have F4 : Below r w (w3.alloc (.cells zero32 23)) := F3.alloc (by omega) _
          have hs4 : (w3.alloc (.cells zero32 23)).heap.size = b2 + 1 := by rw [alloc_size, h2x]
          clear hI3 hL3 hR3 F3
          go_upto_region 7 with (fail)
          try rw [h2x]
          clear h2x
          obtain ⟨w4, hw4⟩ : ∃ w4, w4 = w3.alloc (.cells zero32 23) := ⟨_, rfl⟩
          rw [← hw4] at hI4 hL4 hR4 hH4 F4 hs4 ⊢
          clear hw4
          clear w3
          have hS5 := Blk.new w4 zero64 70
          rw [hs4] at hS5
          go_wp2_with (refine wpList_store_blk rfl 70 _ _ rfl hS5 zero64 rfl rfl 64 (by kernel_rfl) rfl rfl (by intro v hv; simp at hv; subst hv; rfl) ?_)
          intro w5 hS6 hg5
          have hI5 := (hI4.alloc (.cells zero64 70)).grown hg5 (fun e => by have := Option.some.inj e; omega)
          have hL5 := (hL4.alloc (.cells zero64 70)).grown hg5 (fun e => by have := Option.some.inj e; omega)
          have hR5 := (hR4.alloc (.cells zero64 70)).grown hg5 (fun e => by have := Option.some.inj e; omega)
          have hH5 := (hH4.alloc (.cells zero64 70)).grown hg5 (fun e => by have := Option.some.inj e; omega)
          have F5 : Below r w w5 := below_upd (F4.alloc (by omega) _) hg5 (by omega) (by rw [alloc_size]; omega)
          clear hg5 hS5 hI4 hL4 hR4 hH4 F4 hs4
          clear w4
          go_upto_region 11 with (fail)
          refine wp_region_N (fun w' => Blk w' r 23 (leaf.1.map b8).toArray) [] (by kernel_rfl) ?_
          obtain ⟨wd, hwd⟩ : ∃ wd, wd = w5.drew := ⟨_, rfl⟩
          replace hL5 : Blk wd r 23 (leaf.1.map b8).toArray := by rw [hwd]; exact hL5
          replace hR5 : Blk wd (r + 1) 23 zero32 := by rw [hwd]; exact hR5
          replace hI5 : Blk wd b1 70 ((pairB si).map b8).toArray := by rw [hwd]; exact hI5
          replace hH5 : Blk wd b2 23 zero32 := by rw [hwd]; exact hH5
          replace hS6 : Blk wd (b2 + 1) 70 zero64 := by rw [hwd]; exact hS6
          replace F5 : Below r w wd := by rw [hwd]; exact F5.drew
          rw [← hwd]
          clear hwd
          clear w5
          refine wpAnyN_pureG 0 63 (v := ?_) rfl rfl (by kernel_rfl) (by kernel_rfl) (by kernel_rfl) (fun _ _ _ h => h) rfl (fun w => ?_) ?_
          rotate_left
          · go_simp
            try with_reducible rfl
          refine wpAnyN_pureG 1 64 (v := ?_) rfl rfl (by kernel_rfl) (by kernel_rfl) (by kernel_rfl) (fun _ _ _ h => h) rfl (fun w => ?_) ?_
          rotate_left
          · go_simp
            try with_reducible rfl
          refine wpAnyN_pureG 3 66 (v := ?_) rfl rfl (by kernel_rfl) (by kernel_rfl) (by kernel_rfl) (fun _ _ _ h => h) rfl (fun w => ?_) ?_
          rotate_left
          · go_simp
            try with_reducible rfl
          refine wpAnyN_pureG 4 67 (v := ?_) rfl rfl (by kernel_rfl) (by kernel_rfl) (by kernel_rfl) (fun _ _ _ h => h) rfl (fun w => ?_) ?_
          rotate_left
          · go_simp
            try with_reducible rfl
          refine wpAnyN_pureG 7 70 (v := ?_) rfl rfl (by kernel_rfl) (by kernel_rfl) (by kernel_rfl) (fun _ _ _ h => h) rfl (fun w => ?_) ?_
          rotate_left
          · go_simp
            try with_reducible rfl
          refine wpAnyN_pureG 8 71 (v := ?_) rfl rfl (by kernel_rfl) (by kernel_rfl) (by kernel_rfl) (fun _ _ _ h => h) rfl (fun w => ?_) ?_
          rotate_left
          · go_simp
            try with_reducible rfl
          simp only [Act.put, List.setIfInBounds_toArray, List.set_cons_succ, List.set_cons_zero]
          refine wpAnyN_pureG 2 65 (v := ?_) rfl rfl (by kernel_rfl) (by kernel_rfl) (by kernel_rfl) (fun _ _ _ h => h) rfl (fun w => ?_) ?_
          rotate_left
          · go_simp
            try with_reducible rfl
          refine wpAnyN_pureG 5 68 (v := ?_) rfl rfl (by kernel_rfl) (by kernel_rfl) (by kernel_rfl) (fun _ _ _ h => h) rfl (fun w => ?_) ?_
          rotate_left
          · go_simp
            try with_reducible rfl
          refine wpAnyN_pureG 9 72 (v := ?_) rfl rfl (by kernel_rfl) (by kernel_rfl) (by kernel_rfl) (fun _ _ _ h => h) rfl (fun w => ?_) ?_
          rotate_left
          · go_simp
            try with_reducible rfl
          simp only [Act.put, List.setIfInBounds_toArray, List.set_cons_succ, List.set_cons_zero]
          refine wpAnyN_takeG 6 69 (v := hval leaf) rfl rfl (by kernel_rfl) (by kernel_rfl) (by kernel_rfl) (by kernel_rfl) (fun _ _ _ h => h) hL5 rfl (fun w hS => ?_) ?_
          · exact run_load_mid_blk 23 (.tmp 6) rfl hS 0 (by go_simp) (leaf.1.map b8) (fun j v h => by rw [Nat.zero_add, List.getElem?_toArray]; exact h) (.array 32 5) (by kernel_rfl) rfl 32 (by kernel_rfl) (by simp [hll])
          simp only [Act.put, List.setIfInBounds_toArray, List.set_cons_succ, List.set_cons_zero]
          refine wpAnyN_call 10 39 (some 73) [.tmp 65, .tmp 68, .tmp 69, .tmp 72] [.slice a7 (l.length - k) (cp - k), .int .i64 m', hval leaf, .slice a9 q.length cq] (by kernel_rfl) rfl rfl rfl rfl (by go_simp) Tryd.call39 ?_
          refine (ihc.out wd F5).mono ?_
          rintro e w6 ⟨v6, rfl, O6⟩
          refine ⟨_, rfl, fun _ h => h.below O6.bel h.lt, ?_⟩
          have hR6 := hR5.below O6.bel hR5.lt
          have hI6 := hI5.below O6.bel hI5.lt
          have hH6 := hH5.below O6.bel hH5.lt
          have hS7 := hS6.below O6.bel hS6.lt
          have hsz : b2 + 2 ≤ wd.heap.size := hS6.lt
          have F6 : Below r w w6 := F5.trans (O6.bel.mono (by omega))
          have row6 := O6.row
          have own6 : ∀ g, v6.ownBlock = some g → b2 + 2 ≤ g := fun g e => Nat.le_trans hsz (O6.own g e)
          have le6 : b2 + 2 ≤ w6.heap.size := Nat.le_trans hsz O6.le
          clear ihc O6 hL5 hR5 hI5 hH5 hS6 hsz F5
          clear wd
          refine wpAnyN_pureG 11 62 (v := ?_) rfl rfl (by kernel_rfl) (by kernel_rfl) (by kernel_rfl) (fun _ _ _ h => h) rfl (fun w => ?_) ?_
          rotate_left
          · go_simp
            try with_reducible rfl
          simp only [Act.put, List.setIfInBounds_toArray, List.set_cons_succ, List.set_cons_zero]
          refine wpAnyN_pureG 12 74 (v := ?_) rfl rfl (by kernel_rfl) (by kernel_rfl) (by kernel_rfl) (fun _ _ _ h => h) rfl (fun w => ?_) ?_
          rotate_left
          · go_simp
            try with_reducible rfl
          refine wpAnyN_pureG 13 75 (v := ?_) rfl rfl (by kernel_rfl) (by kernel_rfl) (by kernel_rfl) (fun _ _ _ h => h) rfl (fun w => ?_) ?_
          rotate_left
          · go_simp
            try with_reducible rfl
          simp only [Act.put, List.setIfInBounds_toArray, List.set_cons_succ, List.set_cons_zero]
          refine wpAnyN_pureG 14 13 (v := ?_) rfl rfl (by kernel_rfl) (by kernel_rfl) (by kernel_rfl) (fun _ _ _ h => h) rfl (fun w => ?_) ?_
          rotate_left
          · go_simp
            try with_reducible rfl
          simp only [Act.put, List.setIfInBounds_toArray, List.set_cons_succ, List.set_cons_zero]
          refine wpAnyN_store_blk 15 23 (.tmp 14) (.tmp 75) (by kernel_rfl) rfl rfl rfl rfl hH6 0 (y.1.map b8).toArray (by go_simp) (by go_simp) 32 (by kernel_rfl) (by simp [hyl]) (by simp) (by rw [List.toList_toArray]; exact b8_one _) (y.1.map b8).toArray (by simp) ?_
          intro w7 hH7 hg7
          have hR7 := hR6.grown hg7 (fun e => by have := Option.some.inj e; omega)
          have hI7 := hI6.grown hg7 (fun e => by have := Option.some.inj e; omega)
          have hS8 := hS7.grown hg7 (fun e => by have := Option.some.inj e; omega)
          have F7 := below_upd F6 hg7 (by omega) hH6.lt
          have row7 := row6.grown hg7 (fun g e e' => by have := Option.some.inj e'; have := own6 g e; omega)
          have le7 : b2 + 2 ≤ w7.heap.size := Nat.le_trans le6 hg7.size
          refine ⟨fun _ h => h.grown hg7 (fun e => by have := Option.some.inj e; omega), wpAnyN_done (by kernel_rfl) ?_⟩
          clear hg7 hR6 hI6 hH6 hS7 F6 row6 le6
          clear w6
          go_upto_region 12 with (fail)
          refine wp_region_N (fun w' => Blk w' b2 23 (y.1.map b8).toArray ∧ w'.rangeAt g (off + q.length * 32) (x.1.map b8)) [] (by kernel_rfl) ?_
          obtain ⟨wd, hwd⟩ : ∃ wd, wd = w7.drew := ⟨_, rfl⟩
          replace hR7 : Blk wd (r + 1) 23 zero32 := by rw [hwd]; exact hR7
          replace hI7 : Blk wd b1 70 ((pairB si).map b8).toArray := by rw [hwd]; exact hI7
          replace hH7 : Blk wd b2 23 (y.1.map b8).toArray := by rw [hwd]; exact hH7
          replace hS8 : Blk wd (b2 + 1) 70 zero64 := by rw [hwd]; exact hS8
          replace row7 : Row wd v6 72 128 sr.length ((flatS sr).map b8) := by rw [hwd]; exact row7
          replace le7 : b2 + 2 ≤ wd.heap.size := by rw [hwd]; exact le7
          replace F7 : Below r w wd := by rw [hwd]; exact F7.drew
          rw [← hwd]
          clear hwd
          clear w7
          have hX7 : wd.rangeAt g (off + q.length * 32) (x.1.map b8) := range_below HY.out.1 F7 (Nat.lt_of_lt_of_le HY.out.2 HR0.out)
          refine wpAnyN_pureG 0 76 (v := ?_) rfl rfl (by kernel_rfl) (by kernel_rfl) (by kernel_rfl) (fun _ _ _ h => h) rfl (fun w => ?_) ?_
          rotate_left
          · go_simp
            try with_reducible rfl
          refine wpAnyN_pureG 1 77 (v := ?_) rfl rfl (by kernel_rfl) (by kernel_rfl) (by kernel_rfl) (fun _ _ _ h => h) rfl (fun w => ?_) ?_
          rotate_left
          · go_simp
            try with_reducible rfl
          simp only [Act.put, List.setIfInBounds_toArray, List.set_cons_succ, List.set_cons_zero]
          refine wpAnyN_pureG 2 78 (v := .pointer (some ⟨g, off + q.length * 32, none⟩)) rfl rfl (by kernel_rfl) (by kernel_rfl) (by kernel_rfl) (fun _ _ _ h => h) rfl (fun w => ?_) ?_
          · go_simp
            try (intro h; omega)
          simp only [Act.put, List.setIfInBounds_toArray, List.set_cons_succ, List.set_cons_zero]
          refine wpAnyN_takeG 3 79 (v := hval x) rfl rfl (by kernel_rfl) (by kernel_rfl) (by kernel_rfl) (by kernel_rfl) (fun _ _ _ h => h) ⟨hH7, hX7⟩ rfl (fun w hS => ?_) ?_
          · exact run_load_range 23 _ rfl hS.2 (by go_simp) (.array 32 5) (by kernel_rfl) rfl 32 (by kernel_rfl) (by simp [hxl])
          simp only [Act.put, List.setIfInBounds_toArray, List.set_cons_succ, List.set_cons_zero]
          refine wpAnyN_takeG 4 80 (v := hval y) rfl rfl (by kernel_rfl) (by kernel_rfl) (by kernel_rfl) (by kernel_rfl) (fun _ _ _ h => h) ⟨hH7, hX7⟩ rfl (fun w hS => ?_) ?_
          · exact run_load_mid_blk 23 (.tmp 14) rfl hS.1 0 (by go_simp) (y.1.map b8) (fun j v h => by rw [Nat.zero_add, List.getElem?_toArray]; exact h) (.array 32 5) (by kernel_rfl) rfl 32 (by kernel_rfl) (by simp [hyl])
          simp only [Act.put, List.setIfInBounds_toArray, List.set_cons_succ, List.set_cons_zero]
          refine wpAnyN_pureG 5 81 (v := pval sd) rfl rfl (by kernel_rfl) (by kernel_rfl) (by kernel_rfl) (fun _ _ _ h => h) rfl (fun w => ?_) ?_
          · exact run_build_pair w sd _ _ (.tmp 79) (.tmp 80) rfl (by rw [HSD.out.1]; go_simp) (by rw [HSD.out.1]; go_simp)
          simp only [Act.put, List.setIfInBounds_toArray, List.set_cons_succ, List.set_cons_zero]
          refine wpAnyN_store_blk 6 70 (.tmp 15) (.tmp 81) (by kernel_rfl) rfl rfl rfl rfl hS8 0 ((pairB sd).map b8).toArray (by go_simp) (by go_simp) 64 (by kernel_rfl) (by simp [pairB_len]) (by simp) (by rw [List.toList_toArray]; exact b8_one _) ((pairB sd).map b8).toArray (by simp) ?_
          intro w8 hS9 hg8
          have hR8 := hR7.grown hg8 (fun e => by have := Option.some.inj e; omega)
          have hI8 := hI7.grown hg8 (fun e => by have := Option.some.inj e; omega)
          have F8 := below_upd F7 hg8 (by omega) hS8.lt
          have row8 := row7.grown hg8 (fun g e e' => by have := Option.some.inj e'; have := own6 g e; omega)
          have le8 : b2 + 2 ≤ w8.heap.size := Nat.le_trans le7 hg8.size
          refine ⟨fun _ h => ⟨h.1.grown hg8 (fun e => by have := Option.some.inj e; omega), range_grown h.2 hg8 (Nat.lt_of_lt_of_le HY.out.2 (Nat.le_trans HR0.out (by omega))) (by have := HY.out.2; have := HR0.out; omega)⟩, wpAnyN_done (by kernel_rfl) ?_⟩
          clear hg8 hR7 hI7 hH7 hS8 F7 row7 le7 hX7
          clear wd
          obtain ⟨j0, hj, hj0, hj1, hj2⟩ := info_parts infoSt
          go_upto_region 13 with (fail)
          refine wp_region_N (fun w' => Blk w' (b2 + 1) 70 ((pairB sd).map b8).toArray ∧ Blk w' b1 70 ((pairB si).map b8).toArray) [] (by kernel_rfl) ?_
          obtain ⟨wd, hwd⟩ : ∃ wd, wd = w8.drew := ⟨_, rfl⟩
          replace hR8 : Blk wd (r + 1) 23 zero32 := by rw [hwd]; exact hR8
          replace hI8 : Blk wd b1 70 ((pairB si).map b8).toArray := by rw [hwd]; exact hI8
          replace hS9 : Blk wd (b2 + 1) 70 ((pairB sd).map b8).toArray := by rw [hwd]; exact hS9
          replace row8 : Row wd v6 72 128 sr.length ((flatS sr).map b8) := by rw [hwd]; exact row8
          replace le8 : b2 + 2 ≤ wd.heap.size := by rw [hwd]; exact le8
          replace F8 : Below r w wd := by rw [hwd]; exact F8.drew
          rw [← hwd]
          clear hwd
          clear w8
          refine wpAnyN_pureG 0 82 (v := ?_) rfl rfl (by kernel_rfl) (by kernel_rfl) (by kernel_rfl) (fun _ _ _ h => h) rfl (fun w => ?_) ?_
          rotate_left
          · go_simp
            try with_reducible rfl
          refine wpAnyN_pureG 6 88 (v := ?_) rfl rfl (by kernel_rfl) (by kernel_rfl) (by kernel_rfl) (fun _ _ _ h => h) rfl (fun w => ?_) ?_
          rotate_left
          · go_simp
            try with_reducible rfl
          refine wpAnyN_pureG 8 90 (v := ?_) rfl rfl (by kernel_rfl) (by kernel_rfl) (by kernel_rfl) (fun _ _ _ h => h) rfl (fun w => ?_) ?_
          rotate_left
          · go_simp
            try with_reducible rfl
          simp only [Act.put, List.setIfInBounds_toArray, List.set_cons_succ, List.set_cons_zero]
          refine wpAnyN_takeG 1 83 (v := pval sd) rfl rfl (by kernel_rfl) (by kernel_rfl) (by kernel_rfl) (by kernel_rfl) (fun _ _ _ h => h) ⟨hS9, hI8⟩ rfl (fun w hS => ?_) ?_
          · exact run_load_mid_blk 70 (.tmp 15) rfl hS.1 0 (by go_simp) ((pairB sd).map b8) (fun j v h => by rw [Nat.zero_add, List.getElem?_toArray]; exact h) (.struct fp) hfp rfl 64 (by kernel_rfl) (by simp [pairB_len])
          refine wpAnyN_takeG 2 84 (v := pval si) rfl rfl (by kernel_rfl) (by kernel_rfl) (by kernel_rfl) (by kernel_rfl) (fun _ _ _ h => h) ⟨hS9, hI8⟩ rfl (fun w hS => ?_) ?_
          · exact run_load_mid_blk 70 (.tmp 12) rfl hS.2 0 (by go_simp) ((pairB si).map b8) (fun j v h => by rw [Nat.zero_add, List.getElem?_toArray]; exact h) (.struct fp) hfp rfl 64 (by kernel_rfl) (by simp [pairB_len])
          refine wpAnyN_takeG 7 89 (v := hval sd.1) rfl rfl (by kernel_rfl) (by kernel_rfl) (by kernel_rfl) (by kernel_rfl) (fun _ _ _ h => h) ⟨hS9, hI8⟩ rfl (fun w hS => ?_) ?_
          · exact run_load_mid_blk 23 (.tmp 88) rfl hS.1 0 (by go_simp) (sd.1.1.map b8) (fun j v hv => by rw [Nat.zero_add, List.getElem?_toArray]; exact pair_fst _ _ _ hv) (.array 32 5) (by kernel_rfl) rfl 32 (by kernel_rfl) (by simp [sd.1.2])
          refine wpAnyN_takeG 9 91 (v := hval sd.2) rfl rfl (by kernel_rfl) (by kernel_rfl) (by kernel_rfl) (by kernel_rfl) (fun _ _ _ h => h) ⟨hS9, hI8⟩ rfl (fun w hS => ?_) ?_
          · exact run_load_mid_blk 23 (.tmp 90) rfl hS.1 32 (by go_simp) (sd.2.1.map b8) (fun j v hv => by rw [List.getElem?_toArray]; exact pair_snd _ _ _ hv) (.array 32 5) (by kernel_rfl) rfl 32 (by kernel_rfl) (by simp [sd.2.2])
          simp only [Act.put, List.setIfInBounds_toArray, List.set_cons_succ, List.set_cons_zero]
          refine wpAnyN_pureG 3 85 (v := sval (sd, si)) rfl rfl (by kernel_rfl) (by kernel_rfl) (by kernel_rfl) (fun _ _ _ h => h) rfl (fun w => ?_) ?_
          · exact run_build_step w (sd, si) _ _ (.tmp 83) (.tmp 84) rfl (by go_simp) (by go_simp)
          simp only [Act.put, List.setIfInBounds_toArray, List.set_cons_succ, List.set_cons_zero]
          refine wpAnyN_run 4 (some 86) (v := .slice (some ⟨wd.heap.size, 0, none⟩) 1 1) (w' := wd.alloc (.cells ((stB (sd, si)).map b8).toArray 72)) (by kernel_rfl) rfl rfl rfl (run_build_steps wd (sd, si) _ _ (.tmp 85) rfl (by go_simp)) ⟨fun _ h => ⟨h.1.alloc _, h.2.alloc _⟩, ?_⟩
          simp only [Act.put, List.setIfInBounds_toArray, List.set_cons_succ, List.set_cons_zero]
          have O8 : OwnS r w wd v6 sr := ⟨row8, fun g e => by have := own6 g e; omega, F8, by omega⟩
          refine wpAnyN_append 5 (some 87) (.tmp 82) (.tmp 86) 60 60 (by kernel_rfl) rfl rfl rfl rfl 72 j0 (.agg zero128) 128 128 (by kernel_rfl) hj hj0 hj1 hj2 rfl (by decide) (row8.alloc _) (by go_simp) (src_step wd (sd, si)) (by go_simp) (by simp only [maxLen]; omega) (by omega) ?_
          intro v9 w9 hrow9 hg9 hv9
          have O9 := OwnS.push O8 _ hrow9 hg9 (by rw [alloc_size] at hv9; exact hv9)
          have nb : ∀ b, b < b2 + 2 → some b ≠ v6.ownBlock := fun b hb e => by have := own6 b e.symm; omega
          have hR9 := (hR8.alloc _).grown hg9 (nb _ (by omega))
          have le9 : b2 + 2 ≤ w9.heap.size := Nat.le_trans le8 (Nat.le_trans (by rw [alloc_size]; omega) hg9.size)
          have own9 : ∀ g, v9.ownBlock = some g → g ≠ r + 1 := fun g e => by
            rcases hv9 with e1 | ⟨e1, -⟩
            · have := own6 g (e1 ▸ e); omega
            · have := Option.some.inj (e1.symm.trans e); rw [alloc_size] at this; omega
          refine ⟨fun _ h => ⟨h.1.grown hg9 (nb _ (by omega)), h.2.grown hg9 (nb _ (by omega))⟩, ?_⟩
          clear hrow9 hg9 hv9 O8 row8 F8 hR8 hS9 hI8 nb own6 le8
          generalize wd.heap.size = gz
          simp only [Act.put, List.setIfInBounds_toArray, List.set_cons_succ, List.set_cons_zero]
          refine wpAnyN_call 10 31 (some 92) [.tmp 89, .tmp 91] [hval sd.1, hval sd.2] (by kernel_rfl) rfl rfl rfl rfl (by go_simp) Tryd.call31 ?_
          refine (hn.out w9 O9.bel).mono ?_
          rintro e w10 ⟨rfl, G10⟩
          have hR10 := hR9.below G10 hR9.lt
          have O10 := Own.below O9 G10
          refine ⟨_, rfl, fun _ h => ⟨h.1.below G10 h.1.lt, h.2.below G10 h.2.lt⟩, ?_⟩
          clear hR9 O9 G10 le9 hn
          clear w9
          refine wpAnyN_pureG 11 8 (v := ?_) rfl rfl (by kernel_rfl) (by kernel_rfl) (by kernel_rfl) (fun _ _ _ h => h) rfl (fun w => ?_) ?_
          rotate_left
          · go_simp
            try with_reducible rfl
          simp only [Act.put, List.setIfInBounds_toArray, List.set_cons_succ, List.set_cons_zero]
          refine wpAnyN_store_blk 12 23 (.tmp 9) (.tmp 92) (by kernel_rfl) rfl rfl rfl rfl hR10 0 (u.1.map b8).toArray (by go_simp) (by go_simp) 32 (by kernel_rfl) (by simp [hul]) (by simp) (by rw [List.toList_toArray]; exact b8_one _) (u.1.map b8).toArray (by simp) ?_
          intro w5 hR5 hg5
          have O5 := Own.upd O10 hg5 (by omega) hR10.lt own9
          refine ⟨fun _ h => ⟨h.1.grown hg5 (fun e => by have := Option.some.inj e; omega), h.2.grown hg5 (fun e => by have := Option.some.inj e; omega)⟩, wpAnyN_done (by kernel_rfl) ?_⟩
          clear hg5 hR10 O10
          rw [HR.out] at O5
          go_wp2
          exact (ret_tmp_blk rfl hR5 rfl rfl (.array 32 5) (by kernel_rfl) rfl 32 (by kernel_rfl) (by simp [hul]) ⟨_, rfl, O5⟩).2
abbrev cl2H (l : List Hs) (m : Nat) (whole : Bool) (old : Hs) (p : List Hs) : List Stp × Hs := Tree.clash2R nodeH nilH l m whole old p.reverse
theorem cl2H_nil {l : List Hs} {m : Nat} {whole : Bool} {old : Hs} : cl2H l m whole old [] = ([], old) := rfl
theorem cl2H_whole {l : List Hs} {old : Hs} {p : List Hs} : cl2H l l.length true old p = ([], old) := by
  unfold cl2H
  cases p.reverse with
  | nil => rfl
  | cons x r => rw [Tree.clash2R, if_pos rfl]; rfl
theorem cl2H_head {l : List Hs} {old x : Hs} {q : List Hs} : cl2H l l.length false old (x :: q) = ([], x) := by
  unfold cl2H
  cases h : (x :: q).reverse with
  | nil => simp at h
  | cons y r =>
    have h2 : x :: q = r.reverse ++ [y] := by
      have := congrArg List.reverse h
      rwa [List.reverse_reverse, List.reverse_cons] at this
    rw [Tree.clash2R, if_pos rfl, ← h2]; rfl
theorem cl2H_lo {l : List Hs} {m : Nat} {whole : Bool} {leaf x : Hs} {q : List Hs} (h : m ≠ l.length) (hm : m ≤ Tree.split l.length) : cl2H l m whole leaf (q ++ [x]) = ((((cl2H (l.take (Tree.split l.length)) m whole leaf q).2, x), (rootH (l.take (Tree.split l.length)), rootH (l.drop (Tree.split l.length)))) :: (cl2H (l.take (Tree.split l.length)) m whole leaf q).1, nodeH (cl2H (l.take (Tree.split l.length)) m whole leaf q).2 x) := by
  unfold cl2H; rw [List.reverse_append, List.reverse_singleton, List.singleton_append, Tree.clash2R, if_neg h, if_pos hm]; rfl
theorem cl2H_hi {l : List Hs} {m : Nat} {whole : Bool} {leaf x : Hs} {q : List Hs} (h : m ≠ l.length) (hm : ¬ m ≤ Tree.split l.length) : cl2H l m whole leaf (q ++ [x]) = (((x, (cl2H (l.drop (Tree.split l.length)) (m - Tree.split l.length) false leaf q).2), (rootH (l.take (Tree.split l.length)), rootH (l.drop (Tree.split l.length)))) :: (cl2H (l.drop (Tree.split l.length)) (m - Tree.split l.length) false leaf q).1, nodeH x (cl2H (l.drop (Tree.split l.length)) (m - Tree.split l.length) false leaf q).2) := by
  unfold cl2H; rw [List.reverse_append, List.reverse_singleton, List.singleton_append, Tree.clash2R, if_neg h, if_neg hm]; rfl
theorem cl2H_len : ∀ (r : List Hs) (l : List Hs) (m : Nat) (whole : Bool) (old : Hs), (Tree.clash2R nodeH nilH l m whole old r).1.length ≤ r.length := by
  intro r
  induction r with
  | nil => intro l m whole old; exact Nat.le_refl _
  | cons x r ih =>
    intro l m whole old
    rw [Tree.clash2R]
    split
    · split <;> exact Nat.zero_le _
    · split
      · simp only [List.length_cons]; exact Nat.succ_le_succ (ih _ _ _ _)
      · simp only [List.length_cons]; exact Nat.succ_le_succ (ih _ _ _ _)
set_option maxRecDepth 100000 in
set_option maxHeartbeats 16000000 in
theorem clproof_aux (N : Nat) : ∀ (w : World) (ao : Option Addr) (cp : Nat) (l : List Hs) (m : Nat) (whole : Bool) (leaf : Hs) (bo : Option Addr) (cq : Nat) (p : List Hs), p.length < N → Laid w → Hts w ao l → l.length ≤ cp → cp ≤ maxLen → l.length ≤ 1000000 → Hts w bo p → p.length ≤ cq → cq ≤ maxLen → p.length ≤ 1000000 → 1 ≤ m → m ≤ l.length →
    Calls Tryd.prog 41 #[.slice ao l.length cp, .int .i64 m, .bool whole, hval leaf, .slice bo p.length cq] w fun e w' => ∃ v, e = .returned (.tuple #[v, hval (cl2H l m whole leaf p).2]) ∧ OwnS w.heap.size w w' v (cl2H l m whole leaf p).1.reverse := by
  induction N with
  | zero => intro w ao cp l m whole leaf bo cq p h; omega
  | succ N ih =>
    intro w ao cp l m whole leaf bo cq p hN hL hA hc hm hbig hB hcq hmq hpb hm1 hml
    obtain ⟨fp, hfp⟩ := pairU
    obtain ⟨r, hr⟩ : ∃ r, r = w.heap.size := ⟨_, rfl⟩
    obtain ⟨w1, hw1⟩ : ∃ w1, w1 = (w.alloc (.cells (leaf.1.map b8).toArray 23)).alloc (.cells zero32 23) := ⟨_, rfl⟩
    have F1 : Below r w w1 := by rw [hw1, hr]; exact below_alloc2 _ _ _
    have hL1 : Blk w1 r 23 (leaf.1.map b8).toArray := by rw [hw1, hr]; exact (Blk.new w _ _).alloc _
    have hR1 : Blk w1 (r + 1) 23 zero32 := by rw [hw1, hr]; exact Blk.new1 w _ _ _
    have hll := leaf.2
    have HR := Lib.hid (And.intro hw1 hr)
    have hr0 : w.heap.size ≤ r := by omega
    have HR0 := Lib.hid hr0
    clear hw1 hr hr0
    have hm0 : cp ≤ 9223372036854775807 := hm
    have hmq0 : cq ≤ 9223372036854775807 := hmq
    by_cases h1 : m = l.length
    · have hd : ((m : Int) == (l.length : Int)) = true := by rw [beq_iff_eq]; omega
      subst h1
      cases whole with
      | true =>
        rw [cl2H_whole]
        clear ih
        go_enter Tryd.func41, Tryd.ntmps41
        go_upto_region 1 with (fail)
        change Code.wp _ _ _ _ ((w.alloc (.cells (leaf.1.map b8).toArray 23)).alloc (.cells zero32 23))
        rw [← HR.out.1, ← HR.out.2]
        replace HR := Lib.hid HR.out.2
        go_upto_region 3 with (fail)
        refine wp_region_N (fun w' => Blk w' r 23 (leaf.1.map b8).toArray) [] (by kernel_rfl) ?_
        obtain ⟨wd, hwd⟩ : ∃ wd, wd = w1.drew := ⟨_, rfl⟩
        replace hL1 : Blk wd r 23 (leaf.1.map b8).toArray := by rw [hwd]; exact hL1
        replace hR1 : Blk wd (r + 1) 23 zero32 := by rw [hwd]; exact hR1
        replace F1 : Below r w wd := by rw [hwd]; exact F1.drew
        rw [← hwd]
        clear hwd
        clear w1
        refine wpAnyN_takeG 0 33 (v := hval leaf) rfl rfl (by kernel_rfl) (by kernel_rfl) (by kernel_rfl) (by kernel_rfl) (fun _ _ _ h => h) hL1 rfl (fun w hS => ?_) ?_
        · exact run_load_mid_blk 23 (.tmp 8) rfl hS 0 (by go_simp) (leaf.1.map b8) (fun j v h => by rw [Nat.zero_add, List.getElem?_toArray]; exact h) (.array 32 5) (by kernel_rfl) rfl 32 (by kernel_rfl) (by simp [hll])
        simp only [Act.put, List.setIfInBounds_toArray, List.set_cons_succ, List.set_cons_zero]
        refine wpAnyN_pureG 1 10 (v := ?_) rfl rfl (by kernel_rfl) (by kernel_rfl) (by kernel_rfl) (fun _ _ _ h => h) rfl (fun w => ?_) ?_
        rotate_left
        · go_simp
          try with_reducible rfl
        simp only [Act.put, List.setIfInBounds_toArray, List.set_cons_succ, List.set_cons_zero]
        refine wpAnyN_store_blk 2 23 (.tmp 11) (.tmp 33) (by kernel_rfl) rfl rfl rfl rfl hR1 0 (leaf.1.map b8).toArray (by go_simp) (by go_simp) 32 (by kernel_rfl) (by simp [hll]) (by simp) (by rw [List.toList_toArray]; exact b8_one _) (leaf.1.map b8).toArray (by simp) ?_
        intro w5 hR5 hg5
        have F5 := below_upd F1 hg5 (by omega) hR1.lt
        refine ⟨fun _ h => h.grown hg5 (fun e => by have := Option.some.inj e; omega), wpAnyN_done (by kernel_rfl) ?_⟩
        have hs5 : r ≤ w5.heap.size := by have := hR5.lt; omega
        clear hg5 hR1 hL1 F1
        clear wd
        rw [HR.out] at F5 hs5
        have O5 : OwnS w.heap.size w w5 (.slice none 0 0) [] := Own.start _ _ F5 hs5
        go_wp2
        exact (ret_tmp_blk rfl hR5 rfl rfl (.array 32 5) (by kernel_rfl) rfl 32 (by kernel_rfl) (by simp [hll]) ⟨_, rfl, O5⟩).2
      | false =>
        cases p with
        | nil =>
          have hd1 : (((([] : List Hs).length : Nat) : Int) == 0) = true := rfl
          rw [cl2H_nil]
          clear ih
          go_enter Tryd.func41, Tryd.ntmps41
          go_upto_region 1 with (fail)
          change Code.wp _ _ _ _ ((w.alloc (.cells (leaf.1.map b8).toArray 23)).alloc (.cells zero32 23))
          rw [← HR.out.1, ← HR.out.2]
          replace HR := Lib.hid HR.out.2
          go_upto_region 3 with (fail)
          refine wp_region_N (fun w' => Blk w' r 23 (leaf.1.map b8).toArray) [] (by kernel_rfl) ?_
          obtain ⟨wd, hwd⟩ : ∃ wd, wd = w1.drew := ⟨_, rfl⟩
          replace hL1 : Blk wd r 23 (leaf.1.map b8).toArray := by rw [hwd]; exact hL1
          replace hR1 : Blk wd (r + 1) 23 zero32 := by rw [hwd]; exact hR1
          replace F1 : Below r w wd := by rw [hwd]; exact F1.drew
          rw [← hwd]
          clear hwd
          clear w1
          refine wpAnyN_takeG 0 33 (v := hval leaf) rfl rfl (by kernel_rfl) (by kernel_rfl) (by kernel_rfl) (by kernel_rfl) (fun _ _ _ h => h) hL1 rfl (fun w hS => ?_) ?_
          · exact run_load_mid_blk 23 (.tmp 8) rfl hS 0 (by go_simp) (leaf.1.map b8) (fun j v h => by rw [Nat.zero_add, List.getElem?_toArray]; exact h) (.array 32 5) (by kernel_rfl) rfl 32 (by kernel_rfl) (by simp [hll])
          simp only [Act.put, List.setIfInBounds_toArray, List.set_cons_succ, List.set_cons_zero]
          refine wpAnyN_pureG 1 10 (v := ?_) rfl rfl (by kernel_rfl) (by kernel_rfl) (by kernel_rfl) (fun _ _ _ h => h) rfl (fun w => ?_) ?_
          rotate_left
          · go_simp
            try with_reducible rfl
          simp only [Act.put, List.setIfInBounds_toArray, List.set_cons_succ, List.set_cons_zero]
          refine wpAnyN_store_blk 2 23 (.tmp 11) (.tmp 33) (by kernel_rfl) rfl rfl rfl rfl hR1 0 (leaf.1.map b8).toArray (by go_simp) (by go_simp) 32 (by kernel_rfl) (by simp [hll]) (by simp) (by rw [List.toList_toArray]; exact b8_one _) (leaf.1.map b8).toArray (by simp) ?_
          intro w5 hR5 hg5
          have F5 := below_upd F1 hg5 (by omega) hR1.lt
          refine ⟨fun _ h => h.grown hg5 (fun e => by have := Option.some.inj e; omega), wpAnyN_done (by kernel_rfl) ?_⟩
          have hs5 : r ≤ w5.heap.size := by have := hR5.lt; omega
          clear hg5 hR1 hL1 F1
          clear wd
          rw [HR.out] at F5 hs5
          have O5 : OwnS w.heap.size w w5 (.slice none 0 0) [] := Own.start _ _ F5 hs5
          go_wp2
          exact (ret_tmp_blk rfl hR5 rfl rfl (.array 32 5) (by kernel_rfl) rfl 32 (by kernel_rfl) (by simp [hll]) ⟨_, rfl, O5⟩).2
        | cons x q =>
          rw [cl2H_head]
          have hd1 : (((((x :: q : List Hs)).length : Nat) : Int) == 0) = false := by rw [beq_eq_false_iff_ne, List.length_cons]; omega
          obtain ⟨n, hn⟩ : ∃ n, n = (x :: q).length := ⟨_, rfl⟩
          have hn1 : 1 ≤ n := by rw [hn, List.length_cons]; omega
          obtain ⟨g, off, rfl, hg, hrg⟩ := hB.place (by rw [← hn]; omega)
          have hy0 := hrg 0 (by rw [← hn]; omega)
          rw [Nat.zero_mul, Nat.add_zero, List.getElem_cons_zero] at hy0
          have HY := Lib.hid (And.intro hy0 hg)
          have hxl := x.2
          rw [← hn] at hN hcq hd1 hpb ⊢
          clear hrg hy0 hg hB ih hn hN
          go_enter Tryd.func41, Tryd.ntmps41
          go_upto_region 1 with (fail)
          change Code.wp _ _ _ _ ((w.alloc (.cells (leaf.1.map b8).toArray 23)).alloc (.cells zero32 23))
          rw [← HR.out.1, ← HR.out.2]
          replace HR := Lib.hid HR.out.2
          go_upto_region 4 with (fail)
          refine wp_region_N (fun w' => w'.rangeAt g off (x.1.map b8)) [] (by kernel_rfl) ?_
          obtain ⟨wd, hwd⟩ : ∃ wd, wd = w1.drew := ⟨_, rfl⟩
          replace hL1 : Blk wd r 23 (leaf.1.map b8).toArray := by rw [hwd]; exact hL1
          replace hR1 : Blk wd (r + 1) 23 zero32 := by rw [hwd]; exact hR1
          replace F1 : Below r w wd := by rw [hwd]; exact F1.drew
          rw [← hwd]
          clear hwd
          clear w1
          have hy := range_below HY.out.1 F1 (Nat.lt_of_lt_of_le HY.out.2 HR0.out)
          refine wpAnyN_pureG 0 34 (v := ?_) rfl rfl (by kernel_rfl) (by kernel_rfl) (by kernel_rfl) (fun _ _ _ h => h) rfl (fun w => ?_) ?_
          rotate_left
          · go_simp
            try with_reducible rfl
          simp only [Act.put, List.setIfInBounds_toArray, List.set_cons_succ, List.set_cons_zero]
          refine wpAnyN_pureG 1 35 (v := .pointer (some ⟨g, off, none⟩)) rfl rfl (by kernel_rfl) (by kernel_rfl) (by kernel_rfl) (fun _ _ _ h => h) rfl (fun w => ?_) ?_
          · go_simp
            try (intro h; omega)
          simp only [Act.put, List.setIfInBounds_toArray, List.set_cons_succ, List.set_cons_zero]
          refine wpAnyN_takeG 2 36 (v := hval x) rfl rfl (by kernel_rfl) (by kernel_rfl) (by kernel_rfl) (by kernel_rfl) (fun _ _ _ h => h) hy rfl (fun w hS => ?_) ?_
          · exact run_load_range 23 _ rfl hS (by go_simp) (.array 32 5) (by kernel_rfl) rfl 32 (by kernel_rfl) (by simp [hxl])
          simp only [Act.put, List.setIfInBounds_toArray, List.set_cons_succ, List.set_cons_zero]
          refine wpAnyN_pureG 3 10 (v := ?_) rfl rfl (by kernel_rfl) (by kernel_rfl) (by kernel_rfl) (fun _ _ _ h => h) rfl (fun w => ?_) ?_
          rotate_left
          · go_simp
            try with_reducible rfl
          simp only [Act.put, List.setIfInBounds_toArray, List.set_cons_succ, List.set_cons_zero]
          refine wpAnyN_store_blk 4 23 (.tmp 11) (.tmp 36) (by kernel_rfl) rfl rfl rfl rfl hR1 0 (x.1.map b8).toArray (by go_simp) (by go_simp) 32 (by kernel_rfl) (by simp [hxl]) (by simp) (by rw [List.toList_toArray]; exact b8_one _) (x.1.map b8).toArray (by simp) ?_
          intro w5 hR5 hg5
          have F5 := below_upd F1 hg5 (by omega) hR1.lt
          refine ⟨fun _ h => range_grown h hg5 (Nat.lt_of_lt_of_le HY.out.2 (Nat.le_trans HR0.out (by have := hR1.lt; omega))) (by have := HY.out.2; have := HR0.out; omega), wpAnyN_done (by kernel_rfl) ?_⟩
          have hs5 : r ≤ w5.heap.size := by have := hR5.lt; omega
          clear hg5 hR1 hL1 F1 hy
          clear wd
          rw [HR.out] at F5 hs5
          have O5 : OwnS w.heap.size w w5 (.slice none 0 0) [] := Own.start _ _ F5 hs5
          go_wp2
          exact (ret_tmp_blk rfl hR5 rfl rfl (.array 32 5) (by kernel_rfl) rfl 32 (by kernel_rfl) (by simp [hxl]) ⟨_, rfl, O5⟩).2
    · have hd : ((m : Int) == (l.length : Int)) = false := by rw [beq_eq_false_iff_ne]; omega
      rcases List.eq_nil_or_concat p with rfl | ⟨q, x, rfl⟩
      · have hd1 : (((([] : List Hs).length : Nat) : Int) == 0) = true := rfl
        rw [cl2H_nil]
        clear ih
        cases whole with
        | true =>
          go_enter Tryd.func41, Tryd.ntmps41
          go_upto_region 1 with (fail)
          change Code.wp _ _ _ _ ((w.alloc (.cells (leaf.1.map b8).toArray 23)).alloc (.cells zero32 23))
          rw [← HR.out.1, ← HR.out.2]
          replace HR := Lib.hid HR.out.2
          go_upto_region 3 with (fail)
          refine wp_region_N (fun w' => Blk w' r 23 (leaf.1.map b8).toArray) [] (by kernel_rfl) ?_
          obtain ⟨wd, hwd⟩ : ∃ wd, wd = w1.drew := ⟨_, rfl⟩
          replace hL1 : Blk wd r 23 (leaf.1.map b8).toArray := by rw [hwd]; exact hL1
          replace hR1 : Blk wd (r + 1) 23 zero32 := by rw [hwd]; exact hR1
          replace F1 : Below r w wd := by rw [hwd]; exact F1.drew
          rw [← hwd]
          clear hwd
          clear w1
          refine wpAnyN_takeG 0 33 (v := hval leaf) rfl rfl (by kernel_rfl) (by kernel_rfl) (by kernel_rfl) (by kernel_rfl) (fun _ _ _ h => h) hL1 rfl (fun w hS => ?_) ?_
          · exact run_load_mid_blk 23 (.tmp 8) rfl hS 0 (by go_simp) (leaf.1.map b8) (fun j v h => by rw [Nat.zero_add, List.getElem?_toArray]; exact h) (.array 32 5) (by kernel_rfl) rfl 32 (by kernel_rfl) (by simp [hll])
          simp only [Act.put, List.setIfInBounds_toArray, List.set_cons_succ, List.set_cons_zero]
          refine wpAnyN_pureG 1 10 (v := ?_) rfl rfl (by kernel_rfl) (by kernel_rfl) (by kernel_rfl) (fun _ _ _ h => h) rfl (fun w => ?_) ?_
          rotate_left
          · go_simp
            try with_reducible rfl
          simp only [Act.put, List.setIfInBounds_toArray, List.set_cons_succ, List.set_cons_zero]
          refine wpAnyN_store_blk 2 23 (.tmp 11) (.tmp 33) (by kernel_rfl) rfl rfl rfl rfl hR1 0 (leaf.1.map b8).toArray (by go_simp) (by go_simp) 32 (by kernel_rfl) (by simp [hll]) (by simp) (by rw [List.toList_toArray]; exact b8_one _) (leaf.1.map b8).toArray (by simp) ?_
          intro w5 hR5 hg5
          have F5 := below_upd F1 hg5 (by omega) hR1.lt
          refine ⟨fun _ h => h.grown hg5 (fun e => by have := Option.some.inj e; omega), wpAnyN_done (by kernel_rfl) ?_⟩
          have hs5 : r ≤ w5.heap.size := by have := hR5.lt; omega
          clear hg5 hR1 hL1 F1
          clear wd
          rw [HR.out] at F5 hs5
          have O5 : OwnS w.heap.size w w5 (.slice none 0 0) [] := Own.start _ _ F5 hs5
          go_wp2
          exact (ret_tmp_blk rfl hR5 rfl rfl (.array 32 5) (by kernel_rfl) rfl 32 (by kernel_rfl) (by simp [hll]) ⟨_, rfl, O5⟩).2
        | false =>
          go_enter Tryd.func41, Tryd.ntmps41
          go_upto_region 1 with (fail)
          change Code.wp _ _ _ _ ((w.alloc (.cells (leaf.1.map b8).toArray 23)).alloc (.cells zero32 23))
          rw [← HR.out.1, ← HR.out.2]
          replace HR := Lib.hid HR.out.2
          go_upto_region 3 with (fail)
          refine wp_region_N (fun w' => Blk w' r 23 (leaf.1.map b8).toArray) [] (by kernel_rfl) ?_
          obtain ⟨wd, hwd⟩ : ∃ wd, wd = w1.drew := ⟨_, rfl⟩
          replace hL1 : Blk wd r 23 (leaf.1.map b8).toArray := by rw [hwd]; exact hL1
          replace hR1 : Blk wd (r + 1) 23 zero32 := by rw [hwd]; exact hR1
          replace F1 : Below r w wd := by rw [hwd]; exact F1.drew
          rw [← hwd]
          clear hwd
          clear w1
          refine wpAnyN_takeG 0 33 (v := hval leaf) rfl rfl (by kernel_rfl) (by kernel_rfl) (by kernel_rfl) (by kernel_rfl) (fun _ _ _ h => h) hL1 rfl (fun w hS => ?_) ?_
          · exact run_load_mid_blk 23 (.tmp 8) rfl hS 0 (by go_simp) (leaf.1.map b8) (fun j v h => by rw [Nat.zero_add, List.getElem?_toArray]; exact h) (.array 32 5) (by kernel_rfl) rfl 32 (by kernel_rfl) (by simp [hll])
          simp only [Act.put, List.setIfInBounds_toArray, List.set_cons_succ, List.set_cons_zero]
          refine wpAnyN_pureG 1 10 (v := ?_) rfl rfl (by kernel_rfl) (by kernel_rfl) (by kernel_rfl) (fun _ _ _ h => h) rfl (fun w => ?_) ?_
          rotate_left
          · go_simp
            try with_reducible rfl
          simp only [Act.put, List.setIfInBounds_toArray, List.set_cons_succ, List.set_cons_zero]
          refine wpAnyN_store_blk 2 23 (.tmp 11) (.tmp 33) (by kernel_rfl) rfl rfl rfl rfl hR1 0 (leaf.1.map b8).toArray (by go_simp) (by go_simp) 32 (by kernel_rfl) (by simp [hll]) (by simp) (by rw [List.toList_toArray]; exact b8_one _) (leaf.1.map b8).toArray (by simp) ?_
          intro w5 hR5 hg5
          have F5 := below_upd F1 hg5 (by omega) hR1.lt
          refine ⟨fun _ h => h.grown hg5 (fun e => by have := Option.some.inj e; omega), wpAnyN_done (by kernel_rfl) ?_⟩
          have hs5 : r ≤ w5.heap.size := by have := hR5.lt; omega
          clear hg5 hR1 hL1 F1
          clear wd
          rw [HR.out] at F5 hs5
          have O5 : OwnS w.heap.size w w5 (.slice none 0 0) [] := Own.start _ _ F5 hs5
          go_wp2
          exact (ret_tmp_blk rfl hR5 rfl rfl (.array 32 5) (by kernel_rfl) rfl 32 (by kernel_rfl) (by simp [hll]) ⟨_, rfl, O5⟩).2
      · rw [List.concat_eq_append] at hN hB hcq hpb ⊢
        have hxl := x.2
        have hlen : (q ++ [x]).length = q.length + 1 := by simp
        have hat : (q ++ [x])[q.length]'(by rw [hlen]; omega) = x := by simp
        obtain ⟨g, off, rfl, hg, hrg⟩ := hB.place (by rw [hlen]; omega)
        have hy0 := hrg q.length (by rw [hlen]; omega)
        rw [hat] at hy0
        obtain ⟨i0, hi, hz0, hz1, hz2⟩ := info_parts infoHs
        obtain ⟨a9, hs9, -, ht9⟩ := run_upto_hts (P := Tryd.prog) (t := 24) (by kernel_rfl) hi (some ⟨g, off, none⟩) (q.length + 1) cq q.length (by omega)
        have hQ := ht9 w _ hB
        rw [List.take_left] at hQ
        have hk1 := Tree.split_lt (n := l.length) (by omega)
        have hk0 := Tree.split_pos (n := l.length) (by omega)
        have hsp := split_any w1 (l.length : Int) (by omega) (by omega)
        rw [Int.toNat_natCast] at hsp
        have hd1 : ((q.length : Int) + 1 == 0) = false := by rw [beq_eq_false_iff_ne]; omega
        have hd1' : (((q.length + 1 : Nat) : Int) == 0) = false := by rw [beq_eq_false_iff_ne]; omega
        have qw : IntKind.i64.wrap (q.length : Int) = q.length := IntWalk.i64_in _ (by rw [hlen] at hcq; omega)
        rw [hlen] at hcq hN hpb ⊢
        have HY := Lib.hid (And.intro hy0 hg)
        have HQ := Lib.hid hQ
        clear hrg hat hlen hB hQ hy0 hg ht9
        by_cases hmk : m ≤ Tree.split l.length
        · have hst := cl2H_lo (l := l) (m := m) (whole := whole) (leaf := leaf) (x := x) (q := q) h1 hmk
          rw [hst]
          clear hst
          obtain ⟨k, hk⟩ : ∃ k, k = Tree.split l.length := ⟨_, rfl⟩
          rw [← hk] at hk1 hk0 hsp hmk ⊢
          obtain ⟨a6, hs6, -, ht6⟩ := run_upto_hts (P := Tryd.prog) (t := 24) (by kernel_rfl) hi ao l.length cp k (by omega)
          obtain ⟨a7, hs7, ht7⟩ := run_from_hts (P := Tryd.prog) (t := 24) (by kernel_rfl) hi hz1 ao l.length cp k (by omega) hc
          have hl1 : (l.take k).length = k := by rw [List.length_take]; omega
          have hl2 : (l.drop k).length = l.length - k := List.length_drop
          have c1 : ∀ W, Below r w W → Calls Tryd.prog 38 #[.slice a6 k cp] W fun e w' => e = .returned (hval (rootH (l.take k))) ∧ Below W.heap.size W w' := fun W hW => by
            have := root_any W a6 cp (l.take k) (hL.below hW HR0.out) (ht6 W l (hA.below hW HR0.out)) (by omega) hm
            rwa [hl1] at this
          have c2 : ∀ W, Below r w W → Calls Tryd.prog 38 #[.slice a7 (l.length - k) (cp - k)] W fun e w' => e = .returned (hval (rootH (l.drop k))) ∧ Below W.heap.size W w' := fun W hW => by
            have := root_any W a7 (cp - k) (l.drop k) (hL.below hW HR0.out) (ht7 W l rfl (hA.below hW HR0.out)) (by omega) (by simp only [maxLen]; omega)
            rwa [hl2] at this
          have hd2 : decide ((m : Int) ≤ (k : Int)) = true := by rw [decide_eq_true_eq]; omega
          have ihc : ∀ W, Below r w W → Calls Tryd.prog 41 #[.slice a6 k cp, .int .i64 m, .bool whole, hval leaf, .slice a9 q.length cq] W fun e w' => ∃ v, e = .returned (.tuple #[v, hval (cl2H (l.take k) m whole leaf q).2]) ∧ OwnS W.heap.size W w' v (cl2H (l.take k) m whole leaf q).1.reverse := fun W hW => by
            have := ih W a6 cp (l.take k) m whole leaf a9 cq q (by omega) (hL.below hW HR0.out) (ht6 W l (hA.below hW HR0.out)) (by omega) hm (by omega) (HQ.out.below hW HR0.out) (by omega) hmq (by omega) hm1 (by omega)
            rwa [hl1] at this
          obtain ⟨y, hy⟩ : ∃ y, y = (cl2H (l.take k) m whole leaf q).2 := ⟨_, rfl⟩
          obtain ⟨ss, hss⟩ : ∃ ss, ss = (cl2H (l.take k) m whole leaf q).1 := ⟨_, rfl⟩
          have hsl : ss.length ≤ 1000000 := by rw [hss]; exact Nat.le_trans (cl2H_len _ _ _ _ _) (by rw [List.length_reverse]; omega)
          rw [← hy, ← hss] at ihc ⊢
          clear hk hy hss
          obtain ⟨u1, hu1⟩ : ∃ u1, u1 = rootH (l.take k) := ⟨_, rfl⟩
          obtain ⟨u2, hu2⟩ : ∃ u2, u2 = rootH (l.drop k) := ⟨_, rfl⟩
          obtain ⟨u, hu⟩ : ∃ u, u = nodeH y x := ⟨_, rfl⟩
          rw [← hu1] at c1
          rw [← hu2] at c2
          rw [← hu1, ← hu2, ← hu]
          obtain ⟨sd, hsd⟩ : ∃ sd : Pr, sd = (y, x) := ⟨_, rfl⟩
          obtain ⟨si, hsi⟩ : ∃ si : Pr, si = (u1, u2) := ⟨_, rfl⟩
          rw [← hsd, ← hsi]
          have hn : ∀ W, Below r w W → Calls Tryd.prog 31 #[hval sd.1, hval sd.2] W fun e w' => e = .returned (hval u) ∧ Below W.heap.size W w' := fun W hW => by
            rw [hu, hsd]; exact node_any W (hL.below hW HR0.out) _ _
          have HSD := Lib.hid (And.intro hsd hsi)
          have hul := u.2
          have hyl := y.2
          obtain ⟨sr, hsr⟩ : ∃ sr, sr = ss.reverse := ⟨_, rfl⟩
          have hsrl : sr.length ≤ 1000000 := by rw [hsr, List.length_reverse]; exact hsl
          have hrev : (((sd, si) :: ss : List Stp)).reverse = sr ++ [(sd, si)] := by rw [List.reverse_cons, hsr]
          simp only []
          rw [hrev]
          rw [← hsr] at ihc
          replace ihc := Lib.hid ihc
          replace c1 := Lib.hid c1
          replace c2 := Lib.hid c2
          replace hn := Lib.hid hn
          clear hsl hsr hrev hu hu1 hu2 hsd hsi ih HQ hl1 hl2 ht6 ht7 hA
          go_enter Tryd.func41, Tryd.ntmps41
          go_upto_region 1 with (fail)
          change Code.wp _ _ _ _ ((w.alloc (.cells (leaf.1.map b8).toArray 23)).alloc (.cells zero32 23))
          rw [← HR.out.1, ← HR.out.2]
          replace HR := Lib.hid HR.out.2
          go_wp2_with fail
          refine hsp.mono ?_
          rintro e w2 ⟨rfl, hw2⟩
          rw [hw2]
          clear hsp hw2
          clear w2
          go_upto_region 6 with (fail)
          refine wp_region_N (fun _ => True) [] (by kernel_rfl) ?_
          obtain ⟨wd, hwd⟩ : ∃ wd, wd = w1.drew := ⟨_, rfl⟩
          replace hL1 : Blk wd r 23 (leaf.1.map b8).toArray := by rw [hwd]; exact hL1
          replace hR1 : Blk wd (r + 1) 23 zero32 := by rw [hwd]; exact hR1
          replace F1 : Below r w wd := by rw [hwd]; exact F1.drew
          rw [← hwd]
          clear hwd
          clear w1
          refine wpAnyN_pureG 0 43 (v := ?_) rfl rfl (by kernel_rfl) (by kernel_rfl) (by kernel_rfl) (fun _ _ _ h => h) rfl (fun w => ?_) ?_
          rotate_left
          · go_simp
            try with_reducible rfl
          refine wpAnyN_pureG 1 44 (v := ?_) rfl rfl (by kernel_rfl) (by kernel_rfl) (by kernel_rfl) (fun _ _ _ h => h) rfl (fun w => ?_) ?_
          rotate_left
          · go_simp
            try with_reducible rfl
          refine wpAnyN_pureG 4 47 (v := ?_) rfl rfl (by kernel_rfl) (by kernel_rfl) (by kernel_rfl) (fun _ _ _ h => h) rfl (fun w => ?_) ?_
          rotate_left
          · go_simp
            try with_reducible rfl
          refine wpAnyN_pureG 5 48 (v := ?_) rfl rfl (by kernel_rfl) (by kernel_rfl) (by kernel_rfl) (fun _ _ _ h => h) rfl (fun w => ?_) ?_
          rotate_left
          · go_simp
            try with_reducible rfl
          simp only [Act.put, List.setIfInBounds_toArray, List.set_cons_succ, List.set_cons_zero]
          refine wpAnyN_pureG 2 45 (v := ?_) rfl rfl (by kernel_rfl) (by kernel_rfl) (by kernel_rfl) (fun _ _ _ h => h) rfl (fun w => ?_) ?_
          rotate_left
          · go_simp
            try with_reducible rfl
          refine wpAnyN_pureG 6 49 (v := ?_) rfl rfl (by kernel_rfl) (by kernel_rfl) (by kernel_rfl) (fun _ _ _ h => h) rfl (fun w => ?_) ?_
          rotate_left
          · go_simp
            try with_reducible rfl
          simp only [Act.put, List.setIfInBounds_toArray, List.set_cons_succ, List.set_cons_zero]
          have hsz : r + 2 ≤ wd.heap.size := hR1.lt
          refine wpAnyN_dag2 [3, 7, 8, 9] (fun i => match i with | 3 => some 46 | 7 => some 50 | 8 => some 51 | 9 => some 14 | _ => none) (fun i => match i with | 7 => [3] | 8 => [3, 7] | _ => []) (fun i v w => match i with
            | 3 => v = hval u1
            | 7 => v = hval u2
            | 8 => v = pval si
            | 9 => PtrC 70 zero64 v w
            | _ => True) (fun i => i == 9) (g := 1) (by kernel_rfl) (by kernel_rfl) rfl
            ⟨fun _ _ _ _ h => h, fun _ _ _ _ h => h, fun _ _ _ _ h => h, fun _ _ _ hb h => PtrC.below hb h, trivial⟩ (fun _ _ _ _ => trivial) ⟨?_, ?_, ?_, ?_, trivial⟩ ?_
          · intro vs w hb _ o ho
            cases ho
            simp only [putsD]
            have cc := c1.out w (F1.trans (hb.mono (by omega)))
            refine vwp_call 38 [.tmp 45] [.slice a6 k cp] rfl rfl ?_ Tryd.call38 ?_
            · go_simp
            · refine (cc).mono ?_
              rintro e w' ⟨rfl, G⟩
              exact ⟨_, rfl, G, rfl, fun h => by cases h⟩
          · intro vs w hb hd o ho
            cases ho
            obtain ⟨h3, -⟩ := hd
            simp only [putsD]
            have cc := c2.out w (F1.trans (hb.mono (by omega)))
            refine vwp_call 38 [.tmp 49] [.slice a7 (l.length - k) (cp - k)] rfl rfl ?_ Tryd.call38 ?_
            · go_simp
            · refine (cc).mono ?_
              rintro e w' ⟨rfl, G⟩
              exact ⟨_, rfl, G, rfl, fun h => by cases h⟩
          · intro vs w hb hd o ho
            cases ho
            obtain ⟨h3, h7, -⟩ := hd
            simp only [putsD]
            rw [h3, h7]
            exact vwp_run rfl (v := pval si) (w' := w) (run_build_pair w si _ _ (.tmp 46) (.tmp 50) rfl (by rw [HSD.out.2]; go_simp) (by rw [HSD.out.2]; go_simp)) ⟨Below.refl _ _, rfl, fun h => by cases h⟩
          · intro vs w hb _ o ho
            cases ho
            simp only [putsD]
            refine vwp_run rfl (v := .pointer (some ⟨w.heap.size, 0, none⟩)) (w' := w.alloc (.cells zero64 70)) ?_ ⟨below_alloc1 _ _, ⟨_, rfl, Blk.new _ _ _⟩, fun _ => ⟨_, rfl, Nat.le_refl _, alloc_lt _ _⟩⟩
            go_simp
          intro vs w2 hb hR hne hfr
          obtain ⟨h3, h7, h8, ⟨b1, h9, hk1'⟩, -⟩ := hR
          obtain ⟨x1, hx1, hx1', -⟩ := hfr 9 (by simp) rfl
          rw [h9] at hx1
          obtain rfl : b1 = x1 := Option.some.inj hx1
          simp only [putsD]
          rw [h3, h7, h8, h9]
          have hb1 : r + 2 ≤ b1 := by omega
          have hL2 := hL1.below hb hL1.lt
          have hR2 := hR1.below hb hR1.lt
          have F2 : Below r w w2 := F1.trans (hb.mono (by omega))
          clear hne hfr hx1 hx1' h3 h7 h8 h9 hb hR1 hL1 F1 hsz c1 c2
          clear wd
          simp only [Act.put, List.setIfInBounds_toArray, List.set_cons_succ, List.set_cons_zero]
          refine wpAnyN_store_blk 10 70 (.tmp 14) (.tmp 51) (by kernel_rfl) rfl rfl rfl rfl hk1' 0 ((pairB si).map b8).toArray (by go_simp) (by go_simp) 64 (by kernel_rfl) (by simp [pairB_len]) (by simp) (by rw [List.toList_toArray]; exact b8_one _) ((pairB si).map b8).toArray (by simp) ?_
          intro w3 hI3 hg3
          have hL3 := hL2.grown hg3 (fun e => by have := Option.some.inj e; omega)
          have hR3 := hR2.grown hg3 (fun e => by have := Option.some.inj e; omega)
          have F3 := below_upd F2 hg3 (by omega) hk1'.lt
          refine ⟨fun _ _ => trivial, wpAnyN_done (by kernel_rfl) ?_⟩
          clear hg3 hk1' hL2 hR2 F2
          clear w2
          generalize h2x : w3.heap.size = b2
          have hI4 := hI3.alloc (.cells zero32 23)
          have hL4 := hL3.alloc (.cells zero32 23)
          have hR4 := hR3.alloc (.cells zero32 23)
          have hH4 : Blk (w3.alloc (.cells zero32 23)) b2 23 zero32 := by rw [← h2x]; exact Blk.new w3 _ _
          have hb2 : b1 < b2 := by rw [← h2x]; exact hI3.lt
          have F4 : Below r w (w3.alloc (.cells zero32 23)) := F3.alloc (by omega) _
          have hs4 : (w3.alloc (.cells zero32 23)).heap.size = b2 + 1 := by rw [alloc_size, h2x]
          clear hI3 hL3 hR3 F3
          go_upto_region 9 with (fail)
          try rw [h2x]
          clear h2x
          obtain ⟨w4, hw4⟩ : ∃ w4, w4 = w3.alloc (.cells zero32 23) := ⟨_, rfl⟩
          rw [← hw4] at hI4 hL4 hR4 hH4 F4 hs4 ⊢
          clear hw4
          clear w3
          have hS5 := Blk.new w4 zero64 70
          rw [hs4] at hS5
          go_wp2_with (refine wpList_store_blk rfl 70 _ _ rfl hS5 zero64 rfl rfl 64 (by kernel_rfl) rfl rfl (by intro v hv; simp at hv; subst hv; rfl) ?_)
          intro w5 hS6 hg5
          have hI5 := (hI4.alloc (.cells zero64 70)).grown hg5 (fun e => by have := Option.some.inj e; omega)
          have hL5 := (hL4.alloc (.cells zero64 70)).grown hg5 (fun e => by have := Option.some.inj e; omega)
          have hR5 := (hR4.alloc (.cells zero64 70)).grown hg5 (fun e => by have := Option.some.inj e; omega)
          have hH5 := (hH4.alloc (.cells zero64 70)).grown hg5 (fun e => by have := Option.some.inj e; omega)
          have F5 : Below r w w5 := below_upd (F4.alloc (by omega) _) hg5 (by omega) (by rw [alloc_size]; omega)
          clear hg5 hS5 hI4 hL4 hR4 hH4 F4 hs4
          clear w4
          go_upto_region 11 with (fail)
          refine wp_region_N (fun w' => Blk w' r 23 (leaf.1.map b8).toArray) [] (by kernel_rfl) ?_
          obtain ⟨wd, hwd⟩ : ∃ wd, wd = w5.drew := ⟨_, rfl⟩
          replace hL5 : Blk wd r 23 (leaf.1.map b8).toArray := by rw [hwd]; exact hL5
          replace hR5 : Blk wd (r + 1) 23 zero32 := by rw [hwd]; exact hR5
          replace hI5 : Blk wd b1 70 ((pairB si).map b8).toArray := by rw [hwd]; exact hI5
          replace hH5 : Blk wd b2 23 zero32 := by rw [hwd]; exact hH5
          replace hS6 : Blk wd (b2 + 1) 70 zero64 := by rw [hwd]; exact hS6
          replace F5 : Below r w wd := by rw [hwd]; exact F5.drew
          rw [← hwd]
          clear hwd
          clear w5
          refine wpAnyN_pureG 0 57 (v := ?_) rfl rfl (by kernel_rfl) (by kernel_rfl) (by kernel_rfl) (fun _ _ _ h => h) rfl (fun w => ?_) ?_
          rotate_left
          · go_simp
            try with_reducible rfl
          refine wpAnyN_pureG 1 58 (v := ?_) rfl rfl (by kernel_rfl) (by kernel_rfl) (by kernel_rfl) (fun _ _ _ h => h) rfl (fun w => ?_) ?_
          rotate_left
          · go_simp
            try with_reducible rfl
          refine wpAnyN_pureG 3 60 (v := ?_) rfl rfl (by kernel_rfl) (by kernel_rfl) (by kernel_rfl) (fun _ _ _ h => h) rfl (fun w => ?_) ?_
          rotate_left
          · go_simp
            try with_reducible rfl
          refine wpAnyN_pureG 4 61 (v := ?_) rfl rfl (by kernel_rfl) (by kernel_rfl) (by kernel_rfl) (fun _ _ _ h => h) rfl (fun w => ?_) ?_
          rotate_left
          · go_simp
            try with_reducible rfl
          refine wpAnyN_pureG 6 63 (v := ?_) rfl rfl (by kernel_rfl) (by kernel_rfl) (by kernel_rfl) (fun _ _ _ h => h) rfl (fun w => ?_) ?_
          rotate_left
          · go_simp
            try with_reducible rfl
          refine wpAnyN_pureG 7 64 (v := ?_) rfl rfl (by kernel_rfl) (by kernel_rfl) (by kernel_rfl) (fun _ _ _ h => h) rfl (fun w => ?_) ?_
          rotate_left
          · go_simp
            try with_reducible rfl
          simp only [Act.put, List.setIfInBounds_toArray, List.set_cons_succ, List.set_cons_zero]
          refine wpAnyN_pureG 2 59 (v := ?_) rfl rfl (by kernel_rfl) (by kernel_rfl) (by kernel_rfl) (fun _ _ _ h => h) rfl (fun w => ?_) ?_
          rotate_left
          · go_simp
            try with_reducible rfl
          refine wpAnyN_pureG 8 65 (v := ?_) rfl rfl (by kernel_rfl) (by kernel_rfl) (by kernel_rfl) (fun _ _ _ h => h) rfl (fun w => ?_) ?_
          rotate_left
          · go_simp
            try with_reducible rfl
          simp only [Act.put, List.setIfInBounds_toArray, List.set_cons_succ, List.set_cons_zero]
          refine wpAnyN_takeG 5 62 (v := hval leaf) rfl rfl (by kernel_rfl) (by kernel_rfl) (by kernel_rfl) (by kernel_rfl) (fun _ _ _ h => h) hL5 rfl (fun w hS => ?_) ?_
          · exact run_load_mid_blk 23 (.tmp 8) rfl hS 0 (by go_simp) (leaf.1.map b8) (fun j v h => by rw [Nat.zero_add, List.getElem?_toArray]; exact h) (.array 32 5) (by kernel_rfl) rfl 32 (by kernel_rfl) (by simp [hll])
          simp only [Act.put, List.setIfInBounds_toArray, List.set_cons_succ, List.set_cons_zero]
          refine wpAnyN_call 9 41 (some 66) [.tmp 59, .tmp 60, .tmp 61, .tmp 62, .tmp 65] [.slice a6 k cp, .int .i64 m, .bool whole, hval leaf, .slice a9 q.length cq] (by kernel_rfl) rfl rfl rfl rfl (by go_simp) Tryd.call41 ?_
          refine (ihc.out wd F5).mono ?_
          rintro e w6 ⟨v6, rfl, O6⟩
          refine ⟨_, rfl, fun _ h => h.below O6.bel h.lt, ?_⟩
          have hR6 := hR5.below O6.bel hR5.lt
          have hI6 := hI5.below O6.bel hI5.lt
          have hH6 := hH5.below O6.bel hH5.lt
          have hS7 := hS6.below O6.bel hS6.lt
          have hsz : b2 + 2 ≤ wd.heap.size := hS6.lt
          have F6 : Below r w w6 := F5.trans (O6.bel.mono (by omega))
          have row6 := O6.row
          have own6 : ∀ g, v6.ownBlock = some g → b2 + 2 ≤ g := fun g e => Nat.le_trans hsz (O6.own g e)
          have le6 : b2 + 2 ≤ w6.heap.size := Nat.le_trans hsz O6.le
          clear ihc O6 hL5 hR5 hI5 hH5 hS6 hsz F5
          clear wd
          refine wpAnyN_pureG 10 56 (v := ?_) rfl rfl (by kernel_rfl) (by kernel_rfl) (by kernel_rfl) (fun _ _ _ h => h) rfl (fun w => ?_) ?_
          rotate_left
          · go_simp
            try with_reducible rfl
          simp only [Act.put, List.setIfInBounds_toArray, List.set_cons_succ, List.set_cons_zero]
          refine wpAnyN_pureG 11 67 (v := ?_) rfl rfl (by kernel_rfl) (by kernel_rfl) (by kernel_rfl) (fun _ _ _ h => h) rfl (fun w => ?_) ?_
          rotate_left
          · go_simp
            try with_reducible rfl
          refine wpAnyN_pureG 12 68 (v := ?_) rfl rfl (by kernel_rfl) (by kernel_rfl) (by kernel_rfl) (fun _ _ _ h => h) rfl (fun w => ?_) ?_
          rotate_left
          · go_simp
            try with_reducible rfl
          simp only [Act.put, List.setIfInBounds_toArray, List.set_cons_succ, List.set_cons_zero]
          refine wpAnyN_pureG 13 15 (v := ?_) rfl rfl (by kernel_rfl) (by kernel_rfl) (by kernel_rfl) (fun _ _ _ h => h) rfl (fun w => ?_) ?_
          rotate_left
          · go_simp
            try with_reducible rfl
          simp only [Act.put, List.setIfInBounds_toArray, List.set_cons_succ, List.set_cons_zero]
          refine wpAnyN_store_blk 14 23 (.tmp 16) (.tmp 68) (by kernel_rfl) rfl rfl rfl rfl hH6 0 (y.1.map b8).toArray (by go_simp) (by go_simp) 32 (by kernel_rfl) (by simp [hyl]) (by simp) (by rw [List.toList_toArray]; exact b8_one _) (y.1.map b8).toArray (by simp) ?_
          intro w7 hH7 hg7
          have hR7 := hR6.grown hg7 (fun e => by have := Option.some.inj e; omega)
          have hI7 := hI6.grown hg7 (fun e => by have := Option.some.inj e; omega)
          have hS8 := hS7.grown hg7 (fun e => by have := Option.some.inj e; omega)
          have F7 := below_upd F6 hg7 (by omega) hH6.lt
          have row7 := row6.grown hg7 (fun g e e' => by have := Option.some.inj e'; have := own6 g e; omega)
          have le7 : b2 + 2 ≤ w7.heap.size := Nat.le_trans le6 hg7.size
          refine ⟨fun _ h => h.grown hg7 (fun e => by have := Option.some.inj e; omega), wpAnyN_done (by kernel_rfl) ?_⟩
          clear hg7 hR6 hI6 hH6 hS7 F6 row6 le6
          clear w6
          go_upto_region 12 with (fail)
          refine wp_region_N (fun w' => Blk w' b2 23 (y.1.map b8).toArray ∧ w'.rangeAt g (off + q.length * 32) (x.1.map b8)) [] (by kernel_rfl) ?_
          obtain ⟨wd, hwd⟩ : ∃ wd, wd = w7.drew := ⟨_, rfl⟩
          replace hR7 : Blk wd (r + 1) 23 zero32 := by rw [hwd]; exact hR7
          replace hI7 : Blk wd b1 70 ((pairB si).map b8).toArray := by rw [hwd]; exact hI7
          replace hH7 : Blk wd b2 23 (y.1.map b8).toArray := by rw [hwd]; exact hH7
          replace hS8 : Blk wd (b2 + 1) 70 zero64 := by rw [hwd]; exact hS8
          replace row7 : Row wd v6 72 128 sr.length ((flatS sr).map b8) := by rw [hwd]; exact row7
          replace le7 : b2 + 2 ≤ wd.heap.size := by rw [hwd]; exact le7
          replace F7 : Below r w wd := by rw [hwd]; exact F7.drew
          rw [← hwd]
          clear hwd
          clear w7
          have hX7 : wd.rangeAt g (off + q.length * 32) (x.1.map b8) := range_below HY.out.1 F7 (Nat.lt_of_lt_of_le HY.out.2 HR0.out)
          refine wpAnyN_takeG 0 69 (v := hval y) rfl rfl (by kernel_rfl) (by kernel_rfl) (by kernel_rfl) (by kernel_rfl) (fun _ _ _ h => h) ⟨hH7, hX7⟩ rfl (fun w hS => ?_) ?_
          · exact run_load_mid_blk 23 (.tmp 16) rfl hS.1 0 (by go_simp) (y.1.map b8) (fun j v h => by rw [Nat.zero_add, List.getElem?_toArray]; exact h) (.array 32 5) (by kernel_rfl) rfl 32 (by kernel_rfl) (by simp [hyl])
          simp only [Act.put, List.setIfInBounds_toArray, List.set_cons_succ, List.set_cons_zero]
          refine wpAnyN_pureG 1 70 (v := ?_) rfl rfl (by kernel_rfl) (by kernel_rfl) (by kernel_rfl) (fun _ _ _ h => h) rfl (fun w => ?_) ?_
          rotate_left
          · go_simp
            try with_reducible rfl
          refine wpAnyN_pureG 2 71 (v := ?_) rfl rfl (by kernel_rfl) (by kernel_rfl) (by kernel_rfl) (fun _ _ _ h => h) rfl (fun w => ?_) ?_
          rotate_left
          · go_simp
            try with_reducible rfl
          simp only [Act.put, List.setIfInBounds_toArray, List.set_cons_succ, List.set_cons_zero]
          refine wpAnyN_pureG 3 72 (v := .pointer (some ⟨g, off + q.length * 32, none⟩)) rfl rfl (by kernel_rfl) (by kernel_rfl) (by kernel_rfl) (fun _ _ _ h => h) rfl (fun w => ?_) ?_
          · go_simp
            try (intro h; omega)
          simp only [Act.put, List.setIfInBounds_toArray, List.set_cons_succ, List.set_cons_zero]
          refine wpAnyN_takeG 4 73 (v := hval x) rfl rfl (by kernel_rfl) (by kernel_rfl) (by kernel_rfl) (by kernel_rfl) (fun _ _ _ h => h) ⟨hH7, hX7⟩ rfl (fun w hS => ?_) ?_
          · exact run_load_range 23 _ rfl hS.2 (by go_simp) (.array 32 5) (by kernel_rfl) rfl 32 (by kernel_rfl) (by simp [hxl])
          simp only [Act.put, List.setIfInBounds_toArray, List.set_cons_succ, List.set_cons_zero]
          refine wpAnyN_pureG 5 74 (v := pval sd) rfl rfl (by kernel_rfl) (by kernel_rfl) (by kernel_rfl) (fun _ _ _ h => h) rfl (fun w => ?_) ?_
          · exact run_build_pair w sd _ _ (.tmp 69) (.tmp 73) rfl (by rw [HSD.out.1]; go_simp) (by rw [HSD.out.1]; go_simp)
          simp only [Act.put, List.setIfInBounds_toArray, List.set_cons_succ, List.set_cons_zero]
          refine wpAnyN_store_blk 6 70 (.tmp 17) (.tmp 74) (by kernel_rfl) rfl rfl rfl rfl hS8 0 ((pairB sd).map b8).toArray (by go_simp) (by go_simp) 64 (by kernel_rfl) (by simp [pairB_len]) (by simp) (by rw [List.toList_toArray]; exact b8_one _) ((pairB sd).map b8).toArray (by simp) ?_
          intro w8 hS9 hg8
          have hR8 := hR7.grown hg8 (fun e => by have := Option.some.inj e; omega)
          have hI8 := hI7.grown hg8 (fun e => by have := Option.some.inj e; omega)
          have F8 := below_upd F7 hg8 (by omega) hS8.lt
          have row8 := row7.grown hg8 (fun g e e' => by have := Option.some.inj e'; have := own6 g e; omega)
          have le8 : b2 + 2 ≤ w8.heap.size := Nat.le_trans le7 hg8.size
          refine ⟨fun _ h => ⟨h.1.grown hg8 (fun e => by have := Option.some.inj e; omega), range_grown h.2 hg8 (Nat.lt_of_lt_of_le HY.out.2 (Nat.le_trans HR0.out (by omega))) (by have := HY.out.2; have := HR0.out; omega)⟩, wpAnyN_done (by kernel_rfl) ?_⟩
          clear hg8 hR7 hI7 hH7 hS8 F7 row7 le7 hX7
          clear wd
          obtain ⟨j0, hj, hj0, hj1, hj2⟩ := info_parts infoSt
          go_upto_region 15 with (fail)
          refine wp_region_N (fun w' => Blk w' (b2 + 1) 70 ((pairB sd).map b8).toArray ∧ Blk w' b1 70 ((pairB si).map b8).toArray) [] (by kernel_rfl) ?_
          obtain ⟨wd, hwd⟩ : ∃ wd, wd = w8.drew := ⟨_, rfl⟩
          replace hR8 : Blk wd (r + 1) 23 zero32 := by rw [hwd]; exact hR8
          replace hI8 : Blk wd b1 70 ((pairB si).map b8).toArray := by rw [hwd]; exact hI8
          replace hS9 : Blk wd (b2 + 1) 70 ((pairB sd).map b8).toArray := by rw [hwd]; exact hS9
          replace row8 : Row wd v6 72 128 sr.length ((flatS sr).map b8) := by rw [hwd]; exact row8
          replace le8 : b2 + 2 ≤ wd.heap.size := by rw [hwd]; exact le8
          replace F8 : Below r w wd := by rw [hwd]; exact F8.drew
          rw [← hwd]
          clear hwd
          clear w8
          refine wpAnyN_pureG 0 95 (v := ?_) rfl rfl (by kernel_rfl) (by kernel_rfl) (by kernel_rfl) (fun _ _ _ h => h) rfl (fun w => ?_) ?_
          rotate_left
          · go_simp
            try with_reducible rfl
          refine wpAnyN_pureG 6 101 (v := ?_) rfl rfl (by kernel_rfl) (by kernel_rfl) (by kernel_rfl) (fun _ _ _ h => h) rfl (fun w => ?_) ?_
          rotate_left
          · go_simp
            try with_reducible rfl
          refine wpAnyN_pureG 8 103 (v := ?_) rfl rfl (by kernel_rfl) (by kernel_rfl) (by kernel_rfl) (fun _ _ _ h => h) rfl (fun w => ?_) ?_
          rotate_left
          · go_simp
            try with_reducible rfl
          simp only [Act.put, List.setIfInBounds_toArray, List.set_cons_succ, List.set_cons_zero]
          refine wpAnyN_takeG 1 96 (v := pval sd) rfl rfl (by kernel_rfl) (by kernel_rfl) (by kernel_rfl) (by kernel_rfl) (fun _ _ _ h => h) ⟨hS9, hI8⟩ rfl (fun w hS => ?_) ?_
          · exact run_load_mid_blk 70 (.tmp 17) rfl hS.1 0 (by go_simp) ((pairB sd).map b8) (fun j v h => by rw [Nat.zero_add, List.getElem?_toArray]; exact h) (.struct fp) hfp rfl 64 (by kernel_rfl) (by simp [pairB_len])
          refine wpAnyN_takeG 2 97 (v := pval si) rfl rfl (by kernel_rfl) (by kernel_rfl) (by kernel_rfl) (by kernel_rfl) (fun _ _ _ h => h) ⟨hS9, hI8⟩ rfl (fun w hS => ?_) ?_
          · exact run_load_mid_blk 70 (.tmp 14) rfl hS.2 0 (by go_simp) ((pairB si).map b8) (fun j v h => by rw [Nat.zero_add, List.getElem?_toArray]; exact h) (.struct fp) hfp rfl 64 (by kernel_rfl) (by simp [pairB_len])
          refine wpAnyN_takeG 7 102 (v := hval sd.1) rfl rfl (by kernel_rfl) (by kernel_rfl) (by kernel_rfl) (by kernel_rfl) (fun _ _ _ h => h) ⟨hS9, hI8⟩ rfl (fun w hS => ?_) ?_
          · exact run_load_mid_blk 23 (.tmp 101) rfl hS.1 0 (by go_simp) (sd.1.1.map b8) (fun j v hv => by rw [Nat.zero_add, List.getElem?_toArray]; exact pair_fst _ _ _ hv) (.array 32 5) (by kernel_rfl) rfl 32 (by kernel_rfl) (by simp [sd.1.2])
          refine wpAnyN_takeG 9 104 (v := hval sd.2) rfl rfl (by kernel_rfl) (by kernel_rfl) (by kernel_rfl) (by kernel_rfl) (fun _ _ _ h => h) ⟨hS9, hI8⟩ rfl (fun w hS => ?_) ?_
          · exact run_load_mid_blk 23 (.tmp 103) rfl hS.1 32 (by go_simp) (sd.2.1.map b8) (fun j v hv => by rw [List.getElem?_toArray]; exact pair_snd _ _ _ hv) (.array 32 5) (by kernel_rfl) rfl 32 (by kernel_rfl) (by simp [sd.2.2])
          simp only [Act.put, List.setIfInBounds_toArray, List.set_cons_succ, List.set_cons_zero]
          refine wpAnyN_pureG 3 98 (v := sval (sd, si)) rfl rfl (by kernel_rfl) (by kernel_rfl) (by kernel_rfl) (fun _ _ _ h => h) rfl (fun w => ?_) ?_
          · exact run_build_step w (sd, si) _ _ (.tmp 96) (.tmp 97) rfl (by go_simp) (by go_simp)
          simp only [Act.put, List.setIfInBounds_toArray, List.set_cons_succ, List.set_cons_zero]
          refine wpAnyN_run 4 (some 99) (v := .slice (some ⟨wd.heap.size, 0, none⟩) 1 1) (w' := wd.alloc (.cells ((stB (sd, si)).map b8).toArray 72)) (by kernel_rfl) rfl rfl rfl (run_build_steps wd (sd, si) _ _ (.tmp 98) rfl (by go_simp)) ⟨fun _ h => ⟨h.1.alloc _, h.2.alloc _⟩, ?_⟩
          simp only [Act.put, List.setIfInBounds_toArray, List.set_cons_succ, List.set_cons_zero]
          have O8 : OwnS r w wd v6 sr := ⟨row8, fun g e => by have := own6 g e; omega, F8, by omega⟩
          refine wpAnyN_append 5 (some 100) (.tmp 95) (.tmp 99) 60 60 (by kernel_rfl) rfl rfl rfl rfl 72 j0 (.agg zero128) 128 128 (by kernel_rfl) hj hj0 hj1 hj2 rfl (by decide) (row8.alloc _) (by go_simp) (src_step wd (sd, si)) (by go_simp) (by simp only [maxLen]; omega) (by omega) ?_
          intro v9 w9 hrow9 hg9 hv9
          have O9 := OwnS.push O8 _ hrow9 hg9 (by rw [alloc_size] at hv9; exact hv9)
          have nb : ∀ b, b < b2 + 2 → some b ≠ v6.ownBlock := fun b hb e => by have := own6 b e.symm; omega
          have hR9 := (hR8.alloc _).grown hg9 (nb _ (by omega))
          have le9 : b2 + 2 ≤ w9.heap.size := Nat.le_trans le8 (Nat.le_trans (by rw [alloc_size]; omega) hg9.size)
          have own9 : ∀ g, v9.ownBlock = some g → g ≠ r + 1 := fun g e => by
            rcases hv9 with e1 | ⟨e1, -⟩
            · have := own6 g (e1 ▸ e); omega
            · have := Option.some.inj (e1.symm.trans e); rw [alloc_size] at this; omega
          refine ⟨fun _ h => ⟨h.1.grown hg9 (nb _ (by omega)), h.2.grown hg9 (nb _ (by omega))⟩, ?_⟩
          clear hrow9 hg9 hv9 O8 row8 F8 hR8 hS9 hI8 nb own6 le8
          generalize wd.heap.size = gz
          simp only [Act.put, List.setIfInBounds_toArray, List.set_cons_succ, List.set_cons_zero]
          refine wpAnyN_call 10 31 (some 105) [.tmp 102, .tmp 104] [hval sd.1, hval sd.2] (by kernel_rfl) rfl rfl rfl rfl (by go_simp) Tryd.call31 ?_
          refine (hn.out w9 O9.bel).mono ?_
          rintro e w10 ⟨rfl, G10⟩
          have hR10 := hR9.below G10 hR9.lt
          have O10 := Own.below O9 G10
          refine ⟨_, rfl, fun _ h => ⟨h.1.below G10 h.1.lt, h.2.below G10 h.2.lt⟩, ?_⟩
          clear hR9 O9 G10 le9 hn
          clear w9
          refine wpAnyN_pureG 11 10 (v := ?_) rfl rfl (by kernel_rfl) (by kernel_rfl) (by kernel_rfl) (fun _ _ _ h => h) rfl (fun w => ?_) ?_
          rotate_left
          · go_simp
            try with_reducible rfl
          simp only [Act.put, List.setIfInBounds_toArray, List.set_cons_succ, List.set_cons_zero]
          refine wpAnyN_store_blk 12 23 (.tmp 11) (.tmp 105) (by kernel_rfl) rfl rfl rfl rfl hR10 0 (u.1.map b8).toArray (by go_simp) (by go_simp) 32 (by kernel_rfl) (by simp [hul]) (by simp) (by rw [List.toList_toArray]; exact b8_one _) (u.1.map b8).toArray (by simp) ?_
          intro w5 hR5 hg5
          have O5 := Own.upd O10 hg5 (by omega) hR10.lt own9
          refine ⟨fun _ h => ⟨h.1.grown hg5 (fun e => by have := Option.some.inj e; omega), h.2.grown hg5 (fun e => by have := Option.some.inj e; omega)⟩, wpAnyN_done (by kernel_rfl) ?_⟩
          clear hg5 hR10 O10
          rw [HR.out] at O5
          go_wp2
          exact (ret_tmp_blk rfl hR5 rfl rfl (.array 32 5) (by kernel_rfl) rfl 32 (by kernel_rfl) (by simp [hul]) ⟨_, rfl, O5⟩).2
        · have hst := cl2H_hi (l := l) (m := m) (whole := whole) (leaf := leaf) (x := x) (q := q) h1 hmk
          rw [hst]
          clear hst
          obtain ⟨k, hk⟩ : ∃ k, k = Tree.split l.length := ⟨_, rfl⟩
          rw [← hk] at hk1 hk0 hsp hmk ⊢
          obtain ⟨a6, hs6, -, ht6⟩ := run_upto_hts (P := Tryd.prog) (t := 24) (by kernel_rfl) hi ao l.length cp k (by omega)
          obtain ⟨a7, hs7, ht7⟩ := run_from_hts (P := Tryd.prog) (t := 24) (by kernel_rfl) hi hz1 ao l.length cp k (by omega) hc
          have hl1 : (l.take k).length = k := by rw [List.length_take]; omega
          have hl2 : (l.drop k).length = l.length - k := List.length_drop
          have c1 : ∀ W, Below r w W → Calls Tryd.prog 38 #[.slice a6 k cp] W fun e w' => e = .returned (hval (rootH (l.take k))) ∧ Below W.heap.size W w' := fun W hW => by
            have := root_any W a6 cp (l.take k) (hL.below hW HR0.out) (ht6 W l (hA.below hW HR0.out)) (by omega) hm
            rwa [hl1] at this
          have c2 : ∀ W, Below r w W → Calls Tryd.prog 38 #[.slice a7 (l.length - k) (cp - k)] W fun e w' => e = .returned (hval (rootH (l.drop k))) ∧ Below W.heap.size W w' := fun W hW => by
            have := root_any W a7 (cp - k) (l.drop k) (hL.below hW HR0.out) (ht7 W l rfl (hA.below hW HR0.out)) (by omega) (by simp only [maxLen]; omega)
            rwa [hl2] at this
          have hd2 : decide ((m : Int) ≤ (k : Int)) = false := by rw [decide_eq_false_iff_not]; omega
          obtain ⟨m', hm'⟩ : ∃ m', m' = m - k := ⟨_, rfl⟩
          have q1 : IntKind.i64.wrap ((m : Int) - k) = (m' : Int) := by rw [show (m : Int) - k = m' by omega]; exact IntWalk.i64_in _ (by omega)
          rw [← hm']
          have ihc : ∀ W, Below r w W → Calls Tryd.prog 41 #[.slice a7 (l.length - k) (cp - k), .int .i64 m', .bool false, hval leaf, .slice a9 q.length cq] W fun e w' => ∃ v, e = .returned (.tuple #[v, hval (cl2H (l.drop k) m' false leaf q).2]) ∧ OwnS W.heap.size W w' v (cl2H (l.drop k) m' false leaf q).1.reverse := fun W hW => by
            have := ih W a7 (cp - k) (l.drop k) m' false leaf a9 cq q (by omega) (hL.below hW HR0.out) (ht7 W l rfl (hA.below hW HR0.out)) (by omega) (by simp only [maxLen]; omega) (by omega) (HQ.out.below hW HR0.out) (by omega) hmq (by omega) (by omega) (by omega)
            rwa [hl2] at this
          obtain ⟨y, hy⟩ : ∃ y, y = (cl2H (l.drop k) m' false leaf q).2 := ⟨_, rfl⟩
          obtain ⟨ss, hss⟩ : ∃ ss, ss = (cl2H (l.drop k) m' false leaf q).1 := ⟨_, rfl⟩
          have hsl : ss.length ≤ 1000000 := by rw [hss]; exact Nat.le_trans (cl2H_len _ _ _ _ _) (by rw [List.length_reverse]; omega)
          rw [← hy, ← hss] at ihc ⊢
          clear hk hy hss hm'
          obtain ⟨u1, hu1⟩ : ∃ u1, u1 = rootH (l.take k) := ⟨_, rfl⟩
          obtain ⟨u2, hu2⟩ : ∃ u2, u2 = rootH (l.drop k) := ⟨_, rfl⟩
          obtain ⟨u, hu⟩ : ∃ u, u = nodeH x y := ⟨_, rfl⟩
          rw [← hu1] at c1
          rw [← hu2] at c2
          rw [← hu1, ← hu2, ← hu]
          obtain ⟨sd, hsd⟩ : ∃ sd : Pr, sd = (x, y) := ⟨_, rfl⟩
          obtain ⟨si, hsi⟩ : ∃ si : Pr, si = (u1, u2) := ⟨_, rfl⟩
          rw [← hsd, ← hsi]
          have hn : ∀ W, Below r w W → Calls Tryd.prog 31 #[hval sd.1, hval sd.2] W fun e w' => e = .returned (hval u) ∧ Below W.heap.size W w' := fun W hW => by
            rw [hu, hsd]; exact node_any W (hL.below hW HR0.out) _ _
          have HSD := Lib.hid (And.intro hsd hsi)
          have hul := u.2
          have hyl := y.2
          obtain ⟨sr, hsr⟩ : ∃ sr, sr = ss.reverse := ⟨_, rfl⟩
          have hsrl : sr.length ≤ 1000000 := by rw [hsr, List.length_reverse]; exact hsl
          have hrev : (((sd, si) :: ss : List Stp)).reverse = sr ++ [(sd, si)] := by rw [List.reverse_cons, hsr]
          simp only []
          rw [hrev]
          rw [← hsr] at ihc
          replace ihc := Lib.hid ihc
          replace c1 := Lib.hid c1
          replace c2 := Lib.hid c2
          replace hn := Lib.hid hn
          clear hsl hsr hrev hu hu1 hu2 hsd hsi ih HQ hl1 hl2 ht6 ht7 hA
          go_enter Tryd.func41, Tryd.ntmps41
          go_upto_region 1 with (fail)
          change Code.wp _ _ _ _ ((w.alloc (.cells (leaf.1.map b8).toArray 23)).alloc (.cells zero32 23))
          rw [← HR.out.1, ← HR.out.2]
          replace HR := Lib.hid HR.out.2
          go_wp2_with fail
          refine hsp.mono ?_
          rintro e w2 ⟨rfl, hw2⟩
          rw [hw2]
          clear hsp hw2
          clear w2
          go_upto_region 6 with (fail)
          refine wp_region_N (fun _ => True) [] (by kernel_rfl) ?_
          obtain ⟨wd, hwd⟩ : ∃ wd, wd = w1.drew := ⟨_, rfl⟩
          replace hL1 : Blk wd r 23 (leaf.1.map b8).toArray := by rw [hwd]; exact hL1
          replace hR1 : Blk wd (r + 1) 23 zero32 := by rw [hwd]; exact hR1
          replace F1 : Below r w wd := by rw [hwd]; exact F1.drew
          rw [← hwd]
          clear hwd
          clear w1
          refine wpAnyN_pureG 0 43 (v := ?_) rfl rfl (by kernel_rfl) (by kernel_rfl) (by kernel_rfl) (fun _ _ _ h => h) rfl (fun w => ?_) ?_
          rotate_left
          · go_simp
            try with_reducible rfl
          refine wpAnyN_pureG 1 44 (v := ?_) rfl rfl (by kernel_rfl) (by kernel_rfl) (by kernel_rfl) (fun _ _ _ h => h) rfl (fun w => ?_) ?_
          rotate_left
          · go_simp
            try with_reducible rfl
          refine wpAnyN_pureG 4 47 (v := ?_) rfl rfl (by kernel_rfl) (by kernel_rfl) (by kernel_rfl) (fun _ _ _ h => h) rfl (fun w => ?_) ?_
          rotate_left
          · go_simp
            try with_reducible rfl
          refine wpAnyN_pureG 5 48 (v := ?_) rfl rfl (by kernel_rfl) (by kernel_rfl) (by kernel_rfl) (fun _ _ _ h => h) rfl (fun w => ?_) ?_
          rotate_left
          · go_simp
            try with_reducible rfl
          simp only [Act.put, List.setIfInBounds_toArray, List.set_cons_succ, List.set_cons_zero]
          refine wpAnyN_pureG 2 45 (v := ?_) rfl rfl (by kernel_rfl) (by kernel_rfl) (by kernel_rfl) (fun _ _ _ h => h) rfl (fun w => ?_) ?_
          rotate_left
          · go_simp
            try with_reducible rfl
          refine wpAnyN_pureG 6 49 (v := ?_) rfl rfl (by kernel_rfl) (by kernel_rfl) (by kernel_rfl) (fun _ _ _ h => h) rfl (fun w => ?_) ?_
          rotate_left
          · go_simp
            try with_reducible rfl
          simp only [Act.put, List.setIfInBounds_toArray, List.set_cons_succ, List.set_cons_zero]
          have hsz : r + 2 ≤ wd.heap.size := hR1.lt
          refine wpAnyN_dag2 [3, 7, 8, 9] (fun i => match i with | 3 => some 46 | 7 => some 50 | 8 => some 51 | 9 => some 14 | _ => none) (fun i => match i with | 7 => [3] | 8 => [3, 7] | _ => []) (fun i v w => match i with
            | 3 => v = hval u1
            | 7 => v = hval u2
            | 8 => v = pval si
            | 9 => PtrC 70 zero64 v w
            | _ => True) (fun i => i == 9) (g := 1) (by kernel_rfl) (by kernel_rfl) rfl
            ⟨fun _ _ _ _ h => h, fun _ _ _ _ h => h, fun _ _ _ _ h => h, fun _ _ _ hb h => PtrC.below hb h, trivial⟩ (fun _ _ _ _ => trivial) ⟨?_, ?_, ?_, ?_, trivial⟩ ?_
          · intro vs w hb _ o ho
            cases ho
            simp only [putsD]
            have cc := c1.out w (F1.trans (hb.mono (by omega)))
            refine vwp_call 38 [.tmp 45] [.slice a6 k cp] rfl rfl ?_ Tryd.call38 ?_
            · go_simp
            · refine (cc).mono ?_
              rintro e w' ⟨rfl, G⟩
              exact ⟨_, rfl, G, rfl, fun h => by cases h⟩
          · intro vs w hb hd o ho
            cases ho
            obtain ⟨h3, -⟩ := hd
            simp only [putsD]
            have cc := c2.out w (F1.trans (hb.mono (by omega)))
            refine vwp_call 38 [.tmp 49] [.slice a7 (l.length - k) (cp - k)] rfl rfl ?_ Tryd.call38 ?_
            · go_simp
            · refine (cc).mono ?_
              rintro e w' ⟨rfl, G⟩
              exact ⟨_, rfl, G, rfl, fun h => by cases h⟩
          · intro vs w hb hd o ho
            cases ho
            obtain ⟨h3, h7, -⟩ := hd
            simp only [putsD]
            rw [h3, h7]
            exact vwp_run rfl (v := pval si) (w' := w) (run_build_pair w si _ _ (.tmp 46) (.tmp 50) rfl (by rw [HSD.out.2]; go_simp) (by rw [HSD.out.2]; go_simp)) ⟨Below.refl _ _, rfl, fun h => by cases h⟩
          · intro vs w hb _ o ho
            cases ho
            simp only [putsD]
            refine vwp_run rfl (v := .pointer (some ⟨w.heap.size, 0, none⟩)) (w' := w.alloc (.cells zero64 70)) ?_ ⟨below_alloc1 _ _, ⟨_, rfl, Blk.new _ _ _⟩, fun _ => ⟨_, rfl, Nat.le_refl _, alloc_lt _ _⟩⟩
            go_simp
          intro vs w2 hb hR hne hfr
          obtain ⟨h3, h7, h8, ⟨b1, h9, hk1'⟩, -⟩ := hR
          obtain ⟨x1, hx1, hx1', -⟩ := hfr 9 (by simp) rfl
          rw [h9] at hx1
          obtain rfl : b1 = x1 := Option.some.inj hx1
          simp only [putsD]
          rw [h3, h7, h8, h9]
          have hb1 : r + 2 ≤ b1 := by omega
          have hL2 := hL1.below hb hL1.lt
          have hR2 := hR1.below hb hR1.lt
          have F2 : Below r w w2 := F1.trans (hb.mono (by omega))
          clear hne hfr hx1 hx1' h3 h7 h8 h9 hb hR1 hL1 F1 hsz c1 c2
          clear wd
          simp only [Act.put, List.setIfInBounds_toArray, List.set_cons_succ, List.set_cons_zero]
          refine wpAnyN_store_blk 10 70 (.tmp 14) (.tmp 51) (by kernel_rfl) rfl rfl rfl rfl hk1' 0 ((pairB si).map b8).toArray (by go_simp) (by go_simp) 64 (by kernel_rfl) (by simp [pairB_len]) (by simp) (by rw [List.toList_toArray]; exact b8_one _) ((pairB si).map b8).toArray (by simp) ?_
          intro w3 hI3 hg3
          have hL3 := hL2.grown hg3 (fun e => by have := Option.some.inj e; omega)
          have hR3 := hR2.grown hg3 (fun e => by have := Option.some.inj e; omega)
          have F3 := below_upd F2 hg3 (by omega) hk1'.lt
          refine ⟨fun _ _ => trivial, wpAnyN_done (by kernel_rfl) ?_⟩
          clear hg3 hk1' hL2 hR2 F2
          clear w2
          generalize h2x : w3.heap.size = b2
          have hI4 := hI3.alloc (.cells zero32 23)
          have hL4 := hL3.alloc (.cells zero32 23)
          have hR4 := hR3.alloc (.cells zero32 23)
          have hH4 : Blk (w3.alloc (.cells zero32 23)) b2 23 zero32 := by rw [← h2x]; exact Blk.new w3 _ _
          have hb2 : b1 < b2 := by rw [← h2x]; exact hI3.lt
          have F4 : Below r w (w3.alloc (.cells zero32 23)) := F3.alloc (by omega) _
          have hs4 : (w3.alloc (.cells zero32 23)).heap.size = b2 + 1 := by rw [alloc_size, h2x]
          clear hI3 hL3 hR3 F3
          go_upto_region 9 with (fail)
          try rw [h2x]
          clear h2x
          obtain ⟨w4, hw4⟩ : ∃ w4, w4 = w3.alloc (.cells zero32 23) := ⟨_, rfl⟩
          rw [← hw4] at hI4 hL4 hR4 hH4 F4 hs4 ⊢
          clear hw4
          clear w3
          have hS5 := Blk.new w4 zero64 70
          rw [hs4] at hS5
          go_wp2_with (refine wpList_store_blk rfl 70 _ _ rfl hS5 zero64 rfl rfl 64 (by kernel_rfl) rfl rfl (by intro v hv; simp at hv; subst hv; rfl) ?_)
          intro w5 hS6 hg5
          have hI5 := (hI4.alloc (.cells zero64 70)).grown hg5 (fun e => by have := Option.some.inj e; omega)
          have hL5 := (hL4.alloc (.cells zero64 70)).grown hg5 (fun e => by have := Option.some.inj e; omega)
          have hR5 := (hR4.alloc (.cells zero64 70)).grown hg5 (fun e => by have := Option.some.inj e; omega)
          have hH5 := (hH4.alloc (.cells zero64 70)).grown hg5 (fun e => by have := Option.some.inj e; omega)
          have F5 : Below r w w5 := below_upd (F4.alloc (by omega) _) hg5 (by omega) (by rw [alloc_size]; omega)
          clear hg5 hS5 hI4 hL4 hR4 hH4 F4 hs4
          clear w4
          go_upto_region 13 with (fail)
          refine wp_region_N (fun w' => Blk w' r 23 (leaf.1.map b8).toArray) [] (by kernel_rfl) ?_
          obtain ⟨wd, hwd⟩ : ∃ wd, wd = w5.drew := ⟨_, rfl⟩
          replace hL5 : Blk wd r 23 (leaf.1.map b8).toArray := by rw [hwd]; exact hL5
          replace hR5 : Blk wd (r + 1) 23 zero32 := by rw [hwd]; exact hR5
          replace hI5 : Blk wd b1 70 ((pairB si).map b8).toArray := by rw [hwd]; exact hI5
          replace hH5 : Blk wd b2 23 zero32 := by rw [hwd]; exact hH5
          replace hS6 : Blk wd (b2 + 1) 70 zero64 := by rw [hwd]; exact hS6
          replace F5 : Below r w wd := by rw [hwd]; exact F5.drew
          rw [← hwd]
          clear hwd
          clear w5
          refine wpAnyN_pureG 0 76 (v := ?_) rfl rfl (by kernel_rfl) (by kernel_rfl) (by kernel_rfl) (fun _ _ _ h => h) rfl (fun w => ?_) ?_
          rotate_left
          · go_simp
            try with_reducible rfl
          refine wpAnyN_pureG 1 77 (v := ?_) rfl rfl (by kernel_rfl) (by kernel_rfl) (by kernel_rfl) (fun _ _ _ h => h) rfl (fun w => ?_) ?_
          rotate_left
          · go_simp
            try with_reducible rfl
          refine wpAnyN_pureG 3 79 (v := ?_) rfl rfl (by kernel_rfl) (by kernel_rfl) (by kernel_rfl) (fun _ _ _ h => h) rfl (fun w => ?_) ?_
          rotate_left
          · go_simp
            try with_reducible rfl
          refine wpAnyN_pureG 4 80 (v := ?_) rfl rfl (by kernel_rfl) (by kernel_rfl) (by kernel_rfl) (fun _ _ _ h => h) rfl (fun w => ?_) ?_
          rotate_left
          · go_simp
            try with_reducible rfl
          refine wpAnyN_pureG 7 83 (v := ?_) rfl rfl (by kernel_rfl) (by kernel_rfl) (by kernel_rfl) (fun _ _ _ h => h) rfl (fun w => ?_) ?_
          rotate_left
          · go_simp
            try with_reducible rfl
          refine wpAnyN_pureG 8 84 (v := ?_) rfl rfl (by kernel_rfl) (by kernel_rfl) (by kernel_rfl) (fun _ _ _ h => h) rfl (fun w => ?_) ?_
          rotate_left
          · go_simp
            try with_reducible rfl
          simp only [Act.put, List.setIfInBounds_toArray, List.set_cons_succ, List.set_cons_zero]
          refine wpAnyN_pureG 2 78 (v := ?_) rfl rfl (by kernel_rfl) (by kernel_rfl) (by kernel_rfl) (fun _ _ _ h => h) rfl (fun w => ?_) ?_
          rotate_left
          · go_simp
            try with_reducible rfl
          refine wpAnyN_pureG 5 81 (v := ?_) rfl rfl (by kernel_rfl) (by kernel_rfl) (by kernel_rfl) (fun _ _ _ h => h) rfl (fun w => ?_) ?_
          rotate_left
          · go_simp
            try with_reducible rfl
          refine wpAnyN_pureG 9 85 (v := ?_) rfl rfl (by kernel_rfl) (by kernel_rfl) (by kernel_rfl) (fun _ _ _ h => h) rfl (fun w => ?_) ?_
          rotate_left
          · go_simp
            try with_reducible rfl
          simp only [Act.put, List.setIfInBounds_toArray, List.set_cons_succ, List.set_cons_zero]
          refine wpAnyN_takeG 6 82 (v := hval leaf) rfl rfl (by kernel_rfl) (by kernel_rfl) (by kernel_rfl) (by kernel_rfl) (fun _ _ _ h => h) hL5 rfl (fun w hS => ?_) ?_
          · exact run_load_mid_blk 23 (.tmp 8) rfl hS 0 (by go_simp) (leaf.1.map b8) (fun j v h => by rw [Nat.zero_add, List.getElem?_toArray]; exact h) (.array 32 5) (by kernel_rfl) rfl 32 (by kernel_rfl) (by simp [hll])
          simp only [Act.put, List.setIfInBounds_toArray, List.set_cons_succ, List.set_cons_zero]
          refine wpAnyN_call 10 41 (some 86) [.tmp 78, .tmp 81, .const (.bool false), .tmp 82, .tmp 85] [.slice a7 (l.length - k) (cp - k), .int .i64 m', .bool false, hval leaf, .slice a9 q.length cq] (by kernel_rfl) rfl rfl rfl rfl (by go_simp) Tryd.call41 ?_
          refine (ihc.out wd F5).mono ?_
          rintro e w6 ⟨v6, rfl, O6⟩
          refine ⟨_, rfl, fun _ h => h.below O6.bel h.lt, ?_⟩
          have hR6 := hR5.below O6.bel hR5.lt
          have hI6 := hI5.below O6.bel hI5.lt
          have hH6 := hH5.below O6.bel hH5.lt
          have hS7 := hS6.below O6.bel hS6.lt
          have hsz : b2 + 2 ≤ wd.heap.size := hS6.lt
          have F6 : Below r w w6 := F5.trans (O6.bel.mono (by omega))
          have row6 := O6.row
          have own6 : ∀ g, v6.ownBlock = some g → b2 + 2 ≤ g := fun g e => Nat.le_trans hsz (O6.own g e)
          have le6 : b2 + 2 ≤ w6.heap.size := Nat.le_trans hsz O6.le
          clear ihc O6 hL5 hR5 hI5 hH5 hS6 hsz F5
          clear wd
          refine wpAnyN_pureG 11 75 (v := ?_) rfl rfl (by kernel_rfl) (by kernel_rfl) (by kernel_rfl) (fun _ _ _ h => h) rfl (fun w => ?_) ?_
          rotate_left
          · go_simp
            try with_reducible rfl
          simp only [Act.put, List.setIfInBounds_toArray, List.set_cons_succ, List.set_cons_zero]
          refine wpAnyN_pureG 12 87 (v := ?_) rfl rfl (by kernel_rfl) (by kernel_rfl) (by kernel_rfl) (fun _ _ _ h => h) rfl (fun w => ?_) ?_
          rotate_left
          · go_simp
            try with_reducible rfl
          refine wpAnyN_pureG 13 88 (v := ?_) rfl rfl (by kernel_rfl) (by kernel_rfl) (by kernel_rfl) (fun _ _ _ h => h) rfl (fun w => ?_) ?_
          rotate_left
          · go_simp
            try with_reducible rfl
          simp only [Act.put, List.setIfInBounds_toArray, List.set_cons_succ, List.set_cons_zero]
          refine wpAnyN_pureG 14 15 (v := ?_) rfl rfl (by kernel_rfl) (by kernel_rfl) (by kernel_rfl) (fun _ _ _ h => h) rfl (fun w => ?_) ?_
          rotate_left
          · go_simp
            try with_reducible rfl
          simp only [Act.put, List.setIfInBounds_toArray, List.set_cons_succ, List.set_cons_zero]
          refine wpAnyN_store_blk 15 23 (.tmp 16) (.tmp 88) (by kernel_rfl) rfl rfl rfl rfl hH6 0 (y.1.map b8).toArray (by go_simp) (by go_simp) 32 (by kernel_rfl) (by simp [hyl]) (by simp) (by rw [List.toList_toArray]; exact b8_one _) (y.1.map b8).toArray (by simp) ?_
          intro w7 hH7 hg7
          have hR7 := hR6.grown hg7 (fun e => by have := Option.some.inj e; omega)
          have hI7 := hI6.grown hg7 (fun e => by have := Option.some.inj e; omega)
          have hS8 := hS7.grown hg7 (fun e => by have := Option.some.inj e; omega)
          have F7 := below_upd F6 hg7 (by omega) hH6.lt
          have row7 := row6.grown hg7 (fun g e e' => by have := Option.some.inj e'; have := own6 g e; omega)
          have le7 : b2 + 2 ≤ w7.heap.size := Nat.le_trans le6 hg7.size
          refine ⟨fun _ h => h.grown hg7 (fun e => by have := Option.some.inj e; omega), wpAnyN_done (by kernel_rfl) ?_⟩
          clear hg7 hR6 hI6 hH6 hS7 F6 row6 le6
          clear w6
          go_upto_region 14 with (fail)
          refine wp_region_N (fun w' => Blk w' b2 23 (y.1.map b8).toArray ∧ w'.rangeAt g (off + q.length * 32) (x.1.map b8)) [] (by kernel_rfl) ?_
          obtain ⟨wd, hwd⟩ : ∃ wd, wd = w7.drew := ⟨_, rfl⟩
          replace hR7 : Blk wd (r + 1) 23 zero32 := by rw [hwd]; exact hR7
          replace hI7 : Blk wd b1 70 ((pairB si).map b8).toArray := by rw [hwd]; exact hI7
          replace hH7 : Blk wd b2 23 (y.1.map b8).toArray := by rw [hwd]; exact hH7
          replace hS8 : Blk wd (b2 + 1) 70 zero64 := by rw [hwd]; exact hS8
          replace row7 : Row wd v6 72 128 sr.length ((flatS sr).map b8) := by rw [hwd]; exact row7
          replace le7 : b2 + 2 ≤ wd.heap.size := by rw [hwd]; exact le7
          replace F7 : Below r w wd := by rw [hwd]; exact F7.drew
          rw [← hwd]
          clear hwd
          clear w7
          have hX7 : wd.rangeAt g (off + q.length * 32) (x.1.map b8) := range_below HY.out.1 F7 (Nat.lt_of_lt_of_le HY.out.2 HR0.out)
          refine wpAnyN_pureG 0 89 (v := ?_) rfl rfl (by kernel_rfl) (by kernel_rfl) (by kernel_rfl) (fun _ _ _ h => h) rfl (fun w => ?_) ?_
          rotate_left
          · go_simp
            try with_reducible rfl
          refine wpAnyN_pureG 1 90 (v := ?_) rfl rfl (by kernel_rfl) (by kernel_rfl) (by kernel_rfl) (fun _ _ _ h => h) rfl (fun w => ?_) ?_
          rotate_left
          · go_simp
            try with_reducible rfl
          simp only [Act.put, List.setIfInBounds_toArray, List.set_cons_succ, List.set_cons_zero]
          refine wpAnyN_pureG 2 91 (v := .pointer (some ⟨g, off + q.length * 32, none⟩)) rfl rfl (by kernel_rfl) (by kernel_rfl) (by kernel_rfl) (fun _ _ _ h => h) rfl (fun w => ?_) ?_
          · go_simp
            try (intro h; omega)
          simp only [Act.put, List.setIfInBounds_toArray, List.set_cons_succ, List.set_cons_zero]
          refine wpAnyN_takeG 3 92 (v := hval x) rfl rfl (by kernel_rfl) (by kernel_rfl) (by kernel_rfl) (by kernel_rfl) (fun _ _ _ h => h) ⟨hH7, hX7⟩ rfl (fun w hS => ?_) ?_
          · exact run_load_range 23 _ rfl hS.2 (by go_simp) (.array 32 5) (by kernel_rfl) rfl 32 (by kernel_rfl) (by simp [hxl])
          simp only [Act.put, List.setIfInBounds_toArray, List.set_cons_succ, List.set_cons_zero]
          refine wpAnyN_takeG 4 93 (v := hval y) rfl rfl (by kernel_rfl) (by kernel_rfl) (by kernel_rfl) (by kernel_rfl) (fun _ _ _ h => h) ⟨hH7, hX7⟩ rfl (fun w hS => ?_) ?_
          · exact run_load_mid_blk 23 (.tmp 16) rfl hS.1 0 (by go_simp) (y.1.map b8) (fun j v h => by rw [Nat.zero_add, List.getElem?_toArray]; exact h) (.array 32 5) (by kernel_rfl) rfl 32 (by kernel_rfl) (by simp [hyl])
          simp only [Act.put, List.setIfInBounds_toArray, List.set_cons_succ, List.set_cons_zero]
          refine wpAnyN_pureG 5 94 (v := pval sd) rfl rfl (by kernel_rfl) (by kernel_rfl) (by kernel_rfl) (fun _ _ _ h => h) rfl (fun w => ?_) ?_
          · exact run_build_pair w sd _ _ (.tmp 92) (.tmp 93) rfl (by rw [HSD.out.1]; go_simp) (by rw [HSD.out.1]; go_simp)
          simp only [Act.put, List.setIfInBounds_toArray, List.set_cons_succ, List.set_cons_zero]
          refine wpAnyN_store_blk 6 70 (.tmp 17) (.tmp 94) (by kernel_rfl) rfl rfl rfl rfl hS8 0 ((pairB sd).map b8).toArray (by go_simp) (by go_simp) 64 (by kernel_rfl) (by simp [pairB_len]) (by simp) (by rw [List.toList_toArray]; exact b8_one _) ((pairB sd).map b8).toArray (by simp) ?_
          intro w8 hS9 hg8
          have hR8 := hR7.grown hg8 (fun e => by have := Option.some.inj e; omega)
          have hI8 := hI7.grown hg8 (fun e => by have := Option.some.inj e; omega)
          have F8 := below_upd F7 hg8 (by omega) hS8.lt
          have row8 := row7.grown hg8 (fun g e e' => by have := Option.some.inj e'; have := own6 g e; omega)
          have le8 : b2 + 2 ≤ w8.heap.size := Nat.le_trans le7 hg8.size
          refine ⟨fun _ h => ⟨h.1.grown hg8 (fun e => by have := Option.some.inj e; omega), range_grown h.2 hg8 (Nat.lt_of_lt_of_le HY.out.2 (Nat.le_trans HR0.out (by omega))) (by have := HY.out.2; have := HR0.out; omega)⟩, wpAnyN_done (by kernel_rfl) ?_⟩
          clear hg8 hR7 hI7 hH7 hS8 F7 row7 le7 hX7
          clear wd
          obtain ⟨j0, hj, hj0, hj1, hj2⟩ := info_parts infoSt
          go_upto_region 15 with (fail)
          refine wp_region_N (fun w' => Blk w' (b2 + 1) 70 ((pairB sd).map b8).toArray ∧ Blk w' b1 70 ((pairB si).map b8).toArray) [] (by kernel_rfl) ?_
          obtain ⟨wd, hwd⟩ : ∃ wd, wd = w8.drew := ⟨_, rfl⟩
          replace hR8 : Blk wd (r + 1) 23 zero32 := by rw [hwd]; exact hR8
          replace hI8 : Blk wd b1 70 ((pairB si).map b8).toArray := by rw [hwd]; exact hI8
          replace hS9 : Blk wd (b2 + 1) 70 ((pairB sd).map b8).toArray := by rw [hwd]; exact hS9
          replace row8 : Row wd v6 72 128 sr.length ((flatS sr).map b8) := by rw [hwd]; exact row8
          replace le8 : b2 + 2 ≤ wd.heap.size := by rw [hwd]; exact le8
          replace F8 : Below r w wd := by rw [hwd]; exact F8.drew
          rw [← hwd]
          clear hwd
          clear w8
          refine wpAnyN_pureG 0 95 (v := ?_) rfl rfl (by kernel_rfl) (by kernel_rfl) (by kernel_rfl) (fun _ _ _ h => h) rfl (fun w => ?_) ?_
          rotate_left
          · go_simp
            try with_reducible rfl
          refine wpAnyN_pureG 6 101 (v := ?_) rfl rfl (by kernel_rfl) (by kernel_rfl) (by kernel_rfl) (fun _ _ _ h => h) rfl (fun w => ?_) ?_
          rotate_left
          · go_simp
            try with_reducible rfl
          refine wpAnyN_pureG 8 103 (v := ?_) rfl rfl (by kernel_rfl) (by kernel_rfl) (by kernel_rfl) (fun _ _ _ h => h) rfl (fun w => ?_) ?_
          rotate_left
          · go_simp
            try with_reducible rfl
          simp only [Act.put, List.setIfInBounds_toArray, List.set_cons_succ, List.set_cons_zero]
          refine wpAnyN_takeG 1 96 (v := pval sd) rfl rfl (by kernel_rfl) (by kernel_rfl) (by kernel_rfl) (by kernel_rfl) (fun _ _ _ h => h) ⟨hS9, hI8⟩ rfl (fun w hS => ?_) ?_
          · exact run_load_mid_blk 70 (.tmp 17) rfl hS.1 0 (by go_simp) ((pairB sd).map b8) (fun j v h => by rw [Nat.zero_add, List.getElem?_toArray]; exact h) (.struct fp) hfp rfl 64 (by kernel_rfl) (by simp [pairB_len])
          refine wpAnyN_takeG 2 97 (v := pval si) rfl rfl (by kernel_rfl) (by kernel_rfl) (by kernel_rfl) (by kernel_rfl) (fun _ _ _ h => h) ⟨hS9, hI8⟩ rfl (fun w hS => ?_) ?_
          · exact run_load_mid_blk 70 (.tmp 14) rfl hS.2 0 (by go_simp) ((pairB si).map b8) (fun j v h => by rw [Nat.zero_add, List.getElem?_toArray]; exact h) (.struct fp) hfp rfl 64 (by kernel_rfl) (by simp [pairB_len])
          refine wpAnyN_takeG 7 102 (v := hval sd.1) rfl rfl (by kernel_rfl) (by kernel_rfl) (by kernel_rfl) (by kernel_rfl) (fun _ _ _ h => h) ⟨hS9, hI8⟩ rfl (fun w hS => ?_) ?_
          · exact run_load_mid_blk 23 (.tmp 101) rfl hS.1 0 (by go_simp) (sd.1.1.map b8) (fun j v hv => by rw [Nat.zero_add, List.getElem?_toArray]; exact pair_fst _ _ _ hv) (.array 32 5) (by kernel_rfl) rfl 32 (by kernel_rfl) (by simp [sd.1.2])
          refine wpAnyN_takeG 9 104 (v := hval sd.2) rfl rfl (by kernel_rfl) (by kernel_rfl) (by kernel_rfl) (by kernel_rfl) (fun _ _ _ h => h) ⟨hS9, hI8⟩ rfl (fun w hS => ?_) ?_
          · exact run_load_mid_blk 23 (.tmp 103) rfl hS.1 32 (by go_simp) (sd.2.1.map b8) (fun j v hv => by rw [List.getElem?_toArray]; exact pair_snd _ _ _ hv) (.array 32 5) (by kernel_rfl) rfl 32 (by kernel_rfl) (by simp [sd.2.2])
          simp only [Act.put, List.setIfInBounds_toArray, List.set_cons_succ, List.set_cons_zero]
          refine wpAnyN_pureG 3 98 (v := sval (sd, si)) rfl rfl (by kernel_rfl) (by kernel_rfl) (by kernel_rfl) (fun _ _ _ h => h) rfl (fun w => ?_) ?_
          · exact run_build_step w (sd, si) _ _ (.tmp 96) (.tmp 97) rfl (by go_simp) (by go_simp)
          simp only [Act.put, List.setIfInBounds_toArray, List.set_cons_succ, List.set_cons_zero]
          refine wpAnyN_run 4 (some 99) (v := .slice (some ⟨wd.heap.size, 0, none⟩) 1 1) (w' := wd.alloc (.cells ((stB (sd, si)).map b8).toArray 72)) (by kernel_rfl) rfl rfl rfl (run_build_steps wd (sd, si) _ _ (.tmp 98) rfl (by go_simp)) ⟨fun _ h => ⟨h.1.alloc _, h.2.alloc _⟩, ?_⟩
          simp only [Act.put, List.setIfInBounds_toArray, List.set_cons_succ, List.set_cons_zero]
          have O8 : OwnS r w wd v6 sr := ⟨row8, fun g e => by have := own6 g e; omega, F8, by omega⟩
          refine wpAnyN_append 5 (some 100) (.tmp 95) (.tmp 99) 60 60 (by kernel_rfl) rfl rfl rfl rfl 72 j0 (.agg zero128) 128 128 (by kernel_rfl) hj hj0 hj1 hj2 rfl (by decide) (row8.alloc _) (by go_simp) (src_step wd (sd, si)) (by go_simp) (by simp only [maxLen]; omega) (by omega) ?_
          intro v9 w9 hrow9 hg9 hv9
          have O9 := OwnS.push O8 _ hrow9 hg9 (by rw [alloc_size] at hv9; exact hv9)
          have nb : ∀ b, b < b2 + 2 → some b ≠ v6.ownBlock := fun b hb e => by have := own6 b e.symm; omega
          have hR9 := (hR8.alloc _).grown hg9 (nb _ (by omega))
          have le9 : b2 + 2 ≤ w9.heap.size := Nat.le_trans le8 (Nat.le_trans (by rw [alloc_size]; omega) hg9.size)
          have own9 : ∀ g, v9.ownBlock = some g → g ≠ r + 1 := fun g e => by
            rcases hv9 with e1 | ⟨e1, -⟩
            · have := own6 g (e1 ▸ e); omega
            · have := Option.some.inj (e1.symm.trans e); rw [alloc_size] at this; omega
          refine ⟨fun _ h => ⟨h.1.grown hg9 (nb _ (by omega)), h.2.grown hg9 (nb _ (by omega))⟩, ?_⟩
          clear hrow9 hg9 hv9 O8 row8 F8 hR8 hS9 hI8 nb own6 le8
          generalize wd.heap.size = gz
          simp only [Act.put, List.setIfInBounds_toArray, List.set_cons_succ, List.set_cons_zero]
          refine wpAnyN_call 10 31 (some 105) [.tmp 102, .tmp 104] [hval sd.1, hval sd.2] (by kernel_rfl) rfl rfl rfl rfl (by go_simp) Tryd.call31 ?_
          refine (hn.out w9 O9.bel).mono ?_
          rintro e w10 ⟨rfl, G10⟩
          have hR10 := hR9.below G10 hR9.lt
          have O10 := Own.below O9 G10
          refine ⟨_, rfl, fun _ h => ⟨h.1.below G10 h.1.lt, h.2.below G10 h.2.lt⟩, ?_⟩
          clear hR9 O9 G10 le9 hn
          clear w9
          refine wpAnyN_pureG 11 10 (v := ?_) rfl rfl (by kernel_rfl) (by kernel_rfl) (by kernel_rfl) (fun _ _ _ h => h) rfl (fun w => ?_) ?_
          rotate_left
          · go_simp
            try with_reducible rfl
          simp only [Act.put, List.setIfInBounds_toArray, List.set_cons_succ, List.set_cons_zero]
          refine wpAnyN_store_blk 12 23 (.tmp 11) (.tmp 105) (by kernel_rfl) rfl rfl rfl rfl hR10 0 (u.1.map b8).toArray (by go_simp) (by go_simp) 32 (by kernel_rfl) (by simp [hul]) (by simp) (by rw [List.toList_toArray]; exact b8_one _) (u.1.map b8).toArray (by simp) ?_
          intro w5 hR5 hg5
          have O5 := Own.upd O10 hg5 (by omega) hR10.lt own9
          refine ⟨fun _ h => ⟨h.1.grown hg5 (fun e => by have := Option.some.inj e; omega), h.2.grown hg5 (fun e => by have := Option.some.inj e; omega)⟩, wpAnyN_done (by kernel_rfl) ?_⟩
          clear hg5 hR10 O10
          rw [HR.out] at O5
          go_wp2
          exact (ret_tmp_blk rfl hR5 rfl rfl (.array 32 5) (by kernel_rfl) rfl 32 (by kernel_rfl) (by simp [hul]) ⟨_, rfl, O5⟩).2
end Go.Proofs.YtadiijieldldhaaDoor
