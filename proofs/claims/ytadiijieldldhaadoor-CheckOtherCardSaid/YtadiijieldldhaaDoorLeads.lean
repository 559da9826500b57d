/-
  Where a path leads: the reference's Leads (layer 19).
-/
import Derived.Test.YtadiijieldldhaaDoorCheck
namespace Go.Proofs.YtadiijieldldhaaDoor
open Go Go.RowKit
attribute [local irreducible] sha
def zeroH : Hs := ⟨List.replicate 32 0, by simp⟩
theorem zeroH_val : hval zeroH = .agg zero32 := rfl
abbrev leadsH (m n : Nat) (leaf : Hs) (p : List Hs) : Hs × Bool := Tree.leadsR nodeH zeroH m n leaf p.reverse
theorem leadsH_one (m : Nat) (leaf : Hs) (p : List Hs) : leadsH m 1 leaf p = (leaf, decide (p.length = 0)) := by
  unfold leadsH
  rw [← List.length_reverse]
  cases p.reverse with
  | nil => rw [Tree.leadsR, if_pos rfl]; rfl
  | cons x r => rw [Tree.leadsR, if_pos rfl]; simp
theorem leadsH_nil {m n : Nat} {leaf : Hs} (h : n ≠ 1) : leadsH m n leaf [] = (zeroH, false) := by
  unfold leadsH; rw [List.reverse_nil, Tree.leadsR, if_neg h]
theorem leadsH_lo {m n : Nat} {leaf x : Hs} {q : List Hs} (h : n ≠ 1) (hm : m < Tree.split n) : leadsH m n leaf (q ++ [x]) = (nodeH (leadsH m (Tree.split n) leaf q).1 x, (leadsH m (Tree.split n) leaf q).2) := by
  unfold leadsH; rw [List.reverse_append, List.reverse_singleton, List.singleton_append, Tree.leadsR, if_neg h, if_pos hm]
theorem leadsH_hi {m n : Nat} {leaf x : Hs} {q : List Hs} (h : n ≠ 1) (hm : ¬ m < Tree.split n) : leadsH m n leaf (q ++ [x]) = (nodeH x (leadsH (m - Tree.split n) (n - Tree.split n) leaf q).1, (leadsH (m - Tree.split n) (n - Tree.split n) leaf q).2) := by
  unfold leadsH; rw [List.reverse_append, List.reverse_singleton, List.singleton_append, Tree.leadsR, if_neg h, if_neg hm]
theorem range_below {w w' : World} {g o n : Nat} {mid : List Value} (h : w.rangeAt g o mid) (hb : Below n w w') (hn : g < n) : w'.rangeAt g o mid :=
  fun j v hv => (hb.cell (p := ⟨g, o + j, none⟩) hn).trans (h j v hv)
theorem range_grown {w w' : World} {g o c : Nat} {mid : List Value} (h : w.rangeAt g o mid) (hg : w.grownBy w' (some c)) (hn : g < w.heap.size) (hne : g ≠ c) : w'.rangeAt g o mid := by
  intro j v hv
  have e := hg.block g hn (fun e => hne (Option.some.inj e))
  have := h j v hv
  simp only [World.cell?] at this ⊢
  rw [e]; exact this
section
variable {P : Program} {ops : Array Oper} {Q : Exit → Act → World → Prop} {md : Region.Mode} {S : World → Prop} {tail : List Nat}
theorem wp_call_in {oi : Oper} {fn : Nat} {d : Option Tmp} {xs : List Operand} {args : List Value} {ats : Array TypeId} {a : Act} {w : World} {K : Act → World → Prop} (ho : oi.op = .call { callee := .value (.func fn), args := xs.toArray, argTypes := ats }) (hd : oi.dst = d) (hxs : xs.map a.eval = args)
    (he : ∀ args w, (callFunc fn args).run P w = .ok (.enter fn args) w) (h : Calls P fn args.toArray w fun e w' => ∃ v, e = .returned v ∧ K (a.put d v) w') : oi.wp P a w K Q := by
  obtain ⟨dst, op, ty, pos, after, guard⟩ := oi
  subst ho hd hxs
  unfold Oper.wp
  have e1 : execOp a.eval { dst := dst, op := .call { callee := .value (.func fn), args := xs.toArray, argTypes := ats }, type := ty, pos := pos, after := after, guard := guard } = callFunc fn (#[] ++ xs.toArray.map a.eval ++ #[]) := rfl
  rw [e1, Array.empty_append, Array.append_empty, List.map_toArray, he]
  refine h.mono fun e w' ⟨v, he, h2⟩ => ?_
  subst he
  exact h2
/-- a call, or what yields a value, comes up first -/
theorem wpAnyN_callOr (i fn : Nat) (d : Option Tmp) (xs : List Operand) (args : List Value) (L : List Nat) {ats : Array TypeId} {oi : Oper} {f : Nat} {l : Array Bool} {a : Act} {w : World} (hr : Region.ready md ops l = i :: L) (hi : ops[i]? = some oi) (hg : oi.guard = none)
    (ho : oi.op = .call { callee := .value (.func fn), args := xs.toArray, argTypes := ats }) (hd : oi.dst = d) (hxs : xs.map a.eval = args) (he : ∀ args w, (callFunc fn args).run P w = .ok (.enter fn args) w)
    (h : Calls P fn args.toArray w fun e w' => ∃ v, e = .returned v ∧ (i ∉ tail → S w → S w') ∧ wpAnyN P md ops Q S tail f (l.setIfInBounds i true) (a.put d v) w')
    (hL : AllL L fun j => ∃ oj v w', ops[j]? = some oj ∧ oj.guard = none ∧ (execOp a.eval oj).run P w = .ok (.value v) w' ∧ (j ∉ tail → S w → S w') ∧ wpAnyN P md ops Q S tail f (l.setIfInBounds j true) (a.put oj.dst v) w') : wpAnyN P md ops Q S tail (f + 1) l a w := by
  refine ⟨fun h0 => (by rw [hr] at h0; cases h0), fun j hj => ?_⟩
  rw [hr] at hj
  rcases List.mem_cons.1 hj with rfl | hj
  · have hw : Region.wanted oi (yielded ops a.tmps) = true := by simp [Region.wanted, hg]
    unfold wpOp
    simp only [hi, hw, if_true]
    refine .inl (wp_call_in ho hd hxs he (h.mono fun e w' ⟨v, h1, h2, h3⟩ => ⟨v, h1, ?_⟩))
    exact ⟨h2, h3⟩
  · obtain ⟨oj, v, w', hj1, hjg, hrun, h2, h3⟩ := hL.get j hj
    have hw : Region.wanted oj (yielded ops a.tmps) = true := by simp [Region.wanted, hjg]
    unfold wpOp
    simp only [hj1, hw, if_true]
    left
    unfold Oper.wp
    rw [hrun]
    exact ⟨h2, h3⟩
end
theorem results_cell_tmp {P : Program} {fn : Func} {p q : Tmp} {ty : TypeId} (h : fn.results = #[.cell p ty, .tmp q]) (tmps : Array Value) (w : World) (g : Nat) (t : TypeId) (cs : Array Value) (fr : Nat × Nat) (d : TypeDesc)
    (hp : tmps.getD p undef = .pointer (some ⟨g, 0, none⟩)) (hg : w.heap[g]? = some (.cells cs t fr))
    (hu : P.underlying ty = some d) (hd : (match d with | .struct _ | .array _ _ => true | _ => false) = true) (hi : (P.info? ty).map (·.size) = some cs.size) :
    (results fn tmps).run P w = .ok (.tuple #[.agg cs, tmps.getD q undef]) w := by
  have hp' : tmps[p]?.getD undef = .pointer (some ⟨g, 0, none⟩) := by simpa using hp
  simp [results, h, hp', asAddr, run_loadVar_row w g t ty cs fr d hg hu hd hi]
theorem ret_blk_tmp {P : Program} {fn : Func} {R : Ending → World → Prop} {tmps : Array Value} {w : World} {p q : Tmp} {ty b T : Nat} {cs : Array Value} {v : Value} (h : fn.results = #[.cell p ty, .tmp q]) (hb : Blk w b T cs) (hp : tmps.getD p undef = .pointer (some ⟨b, 0, none⟩)) (hq : tmps.getD q undef = v)
    (d : TypeDesc) (hu : P.underlying ty = some d) (hd : (match d with | .struct _ | .array _ _ => true | _ => false) = true) (n : Nat) (hn : (P.info? ty).map (·.size) = some n) (hc : cs.size = n) (hR : R (.returned (.tuple #[.agg cs, v])) w) :
    bodyPost P fn R .normal ⟨tmps, []⟩ w ∧ bodyPost P fn R .ret ⟨tmps, []⟩ w := by
  subst hq
  exact ⟨bodyPost_end (results_cell_tmp h tmps w b T cs _ d hp hb hu hd (by rw [hc]; exact hn)) rfl hR, bodyPost_ret (results_cell_tmp h tmps w b T cs _ d hp hb hu hd (by rw [hc]; exact hn)) rfl hR⟩
set_option maxRecDepth 100000 in
set_option maxHeartbeats 8000000 in
theorem refleads_aux (N : Nat) : ∀ (w : World) (m n : Nat) (leaf : Hs) (ao : Option Addr) (cp : Nat) (p : List Hs), p.length < N → Hts w ao p → p.length ≤ cp → cp ≤ maxLen → m < n → n ≤ 9223372036854775807 →
    Calls Tryd.prog 29 #[.int .i64 m, .int .i64 n, hval leaf, .slice ao p.length cp] w fun e w' => e = .returned (.tuple #[hval (leadsH m n leaf p).1, .bool (leadsH m n leaf p).2]) ∧ Below w.heap.size w w' := by
  induction N with
  | zero => intro w m n leaf ao cp p h; omega
  | succ N ih =>
    intro w m n leaf ao cp p hN hB hc hm hmn hn
    obtain ⟨r, hr⟩ : ∃ r, r = w.heap.size := ⟨_, rfl⟩
    obtain ⟨w1, hw1⟩ : ∃ w1, w1 = (w.alloc (.cells (leaf.1.map b8).toArray 23)).alloc (.cells zero32 23) := ⟨_, rfl⟩
    have F1 : Below r w w1 := by rw [hw1, hr]; exact below_alloc2 _ _ _
    have hL1 : Blk w1 r 23 (leaf.1.map b8).toArray := by rw [hw1, hr]; exact (Blk.new w _ _).alloc _
    have hR1 : Blk w1 (r + 1) 23 zero32 := by rw [hw1, hr]; exact Blk.new1 w _ _ _
    have hll := leaf.2
    have HR := Lib.hid (And.intro hw1 hr)
    have hr0 : w.heap.size ≤ r := by omega
    have HR0 := Lib.hid hr0
    clear hw1 hr hr0
    obtain ⟨i0, hi, hz0, hz1, hz2⟩ := info_parts infoHs
    have hm0 : cp ≤ 9223372036854775807 := hm
    by_cases h1 : n = 1
    · subst h1
      have hd : (((1 : Nat) : Int) == 1) = true := rfl
      obtain ⟨q, hq⟩ : ∃ q, q = decide (p.length = 0) := ⟨_, rfl⟩
      have hq0 : ((p.length : Int) == 0) = q := by rw [hq, Bool.eq_iff_iff, beq_iff_eq, decide_eq_true_eq]; omega
      rw [leadsH_one, ← hq]
      clear hq
      go_enter Tryd.func29, Tryd.ntmps29
      go_upto_region 1 with (fail)
      change Code.wp _ _ _ _ ((w.alloc (.cells (leaf.1.map b8).toArray 23)).alloc (.cells zero32 23))
      rw [← HR.out.1, ← HR.out.2]
      replace HR := Lib.hid HR.out.2
      go_wp2_with (first | (refine wpList_load_mid_blk rfl 23 (.tmp 6) rfl hL1 0 rfl (leaf.1.map b8) (fun j v hv => by rw [Nat.zero_add, List.getElem?_toArray]; exact hv) (.array 32 5) (by kernel_rfl) rfl 32 (by kernel_rfl) (by simp [hll]) ?_) | (refine wpList_store_blk rfl 23 _ _ rfl hR1 (leaf.1.map b8).toArray rfl rfl 32 (by kernel_rfl) rfl (by simp [hll]) (by rw [List.toList_toArray]; exact b8_one _) ?_))
      intro w3 hR3 hg3
      have F3 := below_upd F1 hg3 (by omega) hR1.lt
      rw [HR.out] at F3
      clear hg3 hR1 hL1 F1
      go_wp2
      exact (ret_blk_tmp rfl hR3 rfl rfl (.array 32 5) (by kernel_rfl) rfl 32 (by kernel_rfl) (by simp [hll]) ⟨rfl, F3⟩).2
    · have hd : ((n : Int) == 1) = false := by rw [beq_eq_false_iff_ne]; omega
      rcases List.eq_nil_or_concat p with rfl | ⟨q, x, rfl⟩
      · have hd1 : (((([] : List Hs).length : Nat) : Int) == 0) = true := rfl
        rw [leadsH_nil h1]
        go_enter Tryd.func29, Tryd.ntmps29
        go_upto_region 1 with (fail)
        change Code.wp _ _ _ _ ((w.alloc (.cells (leaf.1.map b8).toArray 23)).alloc (.cells zero32 23))
        rw [← HR.out.1, ← HR.out.2]
        replace HR := Lib.hid HR.out.2
        go_wp2_with (refine wpList_store_blk rfl 23 _ _ rfl hR1 zero32 rfl rfl 32 (by kernel_rfl) rfl rfl (by intro v hv; simp at hv; subst hv; rfl) ?_)
        intro w3 hR3 hg3
        have F3 := below_upd F1 hg3 (by omega) hR1.lt
        rw [HR.out] at F3
        clear hg3 hR1 hL1 F1
        go_wp2
        exact (ret_blk_tmp rfl hR3 rfl rfl (.array 32 5) (by kernel_rfl) rfl 32 (by kernel_rfl) rfl ⟨rfl, F3⟩).2
      · rw [List.concat_eq_append] at hN hB hc ⊢
        have hxl := x.2
        have hlen : (q ++ [x]).length = q.length + 1 := by simp
        have hat : (q ++ [x])[q.length]'(by rw [hlen]; omega) = x := by simp
        obtain ⟨g, off, rfl, hg, hrg⟩ := hB.place (by rw [hlen]; omega)
        have hy0 := hrg q.length (by rw [hlen]; omega)
        rw [hat] at hy0
        obtain ⟨a6, hs6, -, ht6⟩ := run_upto_hts (P := Tryd.prog) (t := 24) (by kernel_rfl) hi (some ⟨g, off, none⟩) (q.length + 1) cp q.length (by omega)
        have hQ := ht6 w _ hB
        rw [List.take_left] at hQ
        have hk1 := Tree.split_lt (n := n) (by omega)
        have hk0 := Tree.split_pos (n := n) (by omega)
        have hsp := refsplit_any w1 (n : Int) (by omega) (by omega)
        rw [Int.toNat_natCast] at hsp
        have hd1 : ((q.length : Int) + 1 == 0) = false := by rw [beq_eq_false_iff_ne]; omega
        have hd1' : (((q.length + 1 : Nat) : Int) == 0) = false := by rw [beq_eq_false_iff_ne]; omega
        have qw : IntKind.i64.wrap (q.length : Int) = q.length := IntWalk.i64_in _ (by rw [hlen] at hc; omega)
        rw [hlen] at hc hN ⊢
        have HY := Lib.hid (And.intro hy0 hg)
        have HQ := Lib.hid hQ
        clear hrg hat hlen hB hQ hy0 hg ht6
        by_cases hmk : m < Tree.split n
        · have hlo := leadsH_lo (m := m) (n := n) (leaf := leaf) (x := x) (q := q) h1 hmk
          rw [hlo]
          clear hlo
          obtain ⟨k, hk⟩ : ∃ k, k = Tree.split n := ⟨_, rfl⟩
          rw [← hk] at hk1 hk0 hsp hmk ⊢
          have hd2 : decide ((m : Int) < (k : Int)) = true := by rw [decide_eq_true_eq]; omega
          have ihc : ∀ W, Below r w W → Calls Tryd.prog 29 #[.int .i64 m, .int .i64 k, hval leaf, .slice a6 q.length cp] W fun e w' => e = .returned (.tuple #[hval (leadsH m k leaf q).1, .bool (leadsH m k leaf q).2]) ∧ Below W.heap.size W w' := fun W hW => ih W m k leaf a6 cp q (by omega) (HQ.out.below hW HR0.out) (by omega) hm hmk (by omega)
          obtain ⟨y, hy⟩ : ∃ y, y = (leadsH m k leaf q).1 := ⟨_, rfl⟩
          obtain ⟨o, ho⟩ : ∃ o, o = (leadsH m k leaf q).2 := ⟨_, rfl⟩
          rw [← hy, ← ho] at ihc ⊢
          clear hk hy ho
          obtain ⟨u, hu⟩ : ∃ u, u = nodeH y x := ⟨_, rfl⟩
          rw [← hu]
          have HU := Lib.hid hu
          have hul := u.2
          have hyl := y.2
          replace ihc := Lib.hid ihc
          clear hu ih HQ
          go_enter Tryd.func29, Tryd.ntmps29
          go_upto_region 1 with (fail)
          change Code.wp _ _ _ _ ((w.alloc (.cells (leaf.1.map b8).toArray 23)).alloc (.cells zero32 23))
          rw [← HR.out.1, ← HR.out.2]
          replace HR := Lib.hid HR.out.2
          go_wp2_with fail
          refine hsp.mono ?_
          rintro e w2 ⟨rfl, hw2⟩
          rw [hw2]
          clear hsp hw2
          clear w2
          go_upto_region 8 with (fail)
          refine wp_region_N (fun w' => Blk w' r 23 (leaf.1.map b8).toArray) [] (by kernel_rfl) ?_
          obtain ⟨wd, hwd⟩ : ∃ wd, wd = w1.drew := ⟨_, rfl⟩
          replace hL1 : Blk wd r 23 (leaf.1.map b8).toArray := by rw [hwd]; exact hL1
          replace hR1 : Blk wd (r + 1) 23 zero32 := by rw [hwd]; exact hR1
          replace F1 : Below r w wd := by rw [hwd]; exact F1.drew
          rw [← hwd]
          clear hwd
          clear w1
          refine wpAnyN_pureG 0 35 (v := ?_) rfl rfl (by kernel_rfl) (by kernel_rfl) (by kernel_rfl) (fun _ _ _ h => h) rfl (fun w => ?_) ?_
          rotate_left
          · go_simp
            try with_reducible rfl
          refine wpAnyN_pureG 1 36 (v := ?_) rfl rfl (by kernel_rfl) (by kernel_rfl) (by kernel_rfl) (fun _ _ _ h => h) rfl (fun w => ?_) ?_
          rotate_left
          · go_simp
            try with_reducible rfl
          refine wpAnyN_pureG 3 38 (v := ?_) rfl rfl (by kernel_rfl) (by kernel_rfl) (by kernel_rfl) (fun _ _ _ h => h) rfl (fun w => ?_) ?_
          rotate_left
          · go_simp
            try with_reducible rfl
          refine wpAnyN_pureG 4 39 (v := ?_) rfl rfl (by kernel_rfl) (by kernel_rfl) (by kernel_rfl) (fun _ _ _ h => h) rfl (fun w => ?_) ?_
          rotate_left
          · go_simp
            try with_reducible rfl
          refine wpAnyN_pureG 5 40 (v := ?_) rfl rfl (by kernel_rfl) (by kernel_rfl) (by kernel_rfl) (fun _ _ _ h => h) rfl (fun w => ?_) ?_
          rotate_left
          · go_simp
            try with_reducible rfl
          simp only [Act.put, List.setIfInBounds_toArray, List.set_cons_succ, List.set_cons_zero]
          refine wpAnyN_takeG 2 37 (v := hval leaf) rfl rfl (by kernel_rfl) (by kernel_rfl) (by kernel_rfl) (by kernel_rfl) (fun _ _ _ h => h) hL1 rfl (fun w hS => ?_) ?_
          · exact run_load_mid_blk 23 _ rfl hS 0 (by go_simp) (leaf.1.map b8) (fun j v h => by rw [Nat.zero_add, List.getElem?_toArray]; exact h) (.array 32 5) (by kernel_rfl) rfl 32 (by kernel_rfl) (by simp [hll])
          simp only [Act.put, List.setIfInBounds_toArray, List.set_cons_succ, List.set_cons_zero]
          have hsz : r + 2 ≤ wd.heap.size := hR1.lt
          refine wpAnyN_callOr 6 29 (some 41) [.tmp 35, .tmp 36, .tmp 37, .tmp 40] [.int .i64 m, .int .i64 k, hval leaf, .slice a6 q.length cp] [10] (by kernel_rfl) rfl rfl rfl rfl (by go_simp) Tryd.call29 ?_ ⟨⟨_, .pointer (some ⟨wd.heap.size, 0, none⟩), wd.alloc (.cells zero32 23), rfl, rfl, by go_simp, fun _ h => h.alloc _, ?_⟩, trivial⟩
          · refine (ihc.out wd F1).mono ?_
            rintro e w2 ⟨rfl, G2⟩
            refine ⟨_, rfl, fun _ h => h.below G2 h.lt, ?_⟩
            have hR1' := hR1.below G2 hR1.lt
            have F1' : Below r w w2 := F1.trans (G2.mono (by omega))
            have hsz2 : r + 2 ≤ w2.heap.size := hR1'.lt
            clear hR1 hL1 F1 hsz ihc G2
            clear wd
            refine wpAnyN_pureG 7 34 (v := ?_) rfl rfl (by kernel_rfl) (by kernel_rfl) (by kernel_rfl) (fun _ _ _ h => h) rfl (fun w => ?_) ?_
            rotate_left
            · go_simp
              try with_reducible rfl
            refine wpAnyN_pureG 8 42 (v := ?_) rfl rfl (by kernel_rfl) (by kernel_rfl) (by kernel_rfl) (fun _ _ _ h => h) rfl (fun w => ?_) ?_
            rotate_left
            · go_simp
              try with_reducible rfl
            refine wpAnyN_pureG 9 43 (v := ?_) rfl rfl (by kernel_rfl) (by kernel_rfl) (by kernel_rfl) (fun _ _ _ h => h) rfl (fun w => ?_) ?_
            rotate_left
            · go_simp
              try with_reducible rfl
            simp only [Act.put, List.setIfInBounds_toArray, List.set_cons_succ, List.set_cons_zero]
            refine wpAnyN_run 10 (some 12) (v := .pointer (some ⟨w2.heap.size, 0, none⟩)) (w' := w2.alloc (.cells zero32 23)) (by kernel_rfl) rfl rfl rfl (by go_simp) ⟨fun _ h => h.alloc _, ?_⟩
            obtain ⟨b2, hb2⟩ : ∃ b2, b2 = w2.heap.size := ⟨_, rfl⟩
            obtain ⟨wa, hwa⟩ : ∃ wa, wa = w2.alloc (.cells zero32 23) := ⟨_, rfl⟩
            have hk2 : Blk wa b2 23 zero32 := by rw [hwa, hb2]; exact Blk.new w2 _ _
            have hR2 : Blk wa (r + 1) 23 zero32 := by rw [hwa]; exact hR1'.alloc _
            have F2 : Below r w wa := by rw [hwa]; exact F1'.alloc (by omega) _
            have hr2 : r + 2 ≤ b2 := by omega
            rw [← hb2, ← hwa]
            clear hb2 hwa hR1' F1' hsz2
            clear w2
            simp only [Act.put, List.setIfInBounds_toArray, List.set_cons_succ, List.set_cons_zero]
            refine wpAnyN_store_blk 11 23 (.tmp 12) (.tmp 42) (by kernel_rfl) rfl rfl rfl rfl hk2 0 (y.1.map b8).toArray (by go_simp) (by go_simp) 32 (by kernel_rfl) (by simp [hyl]) (by simp) (by rw [List.toList_toArray]; exact b8_one _) (y.1.map b8).toArray (by simp) ?_
            intro w3 hY3 hg3
            have hR3 := hR2.grown hg3 (fun e => by have := Option.some.inj e; omega)
            have F3 := below_upd F2 hg3 (by omega) hk2.lt
            refine ⟨fun _ h => h.grown hg3 (fun e => by have := Option.some.inj e; omega), ?_⟩
            clear hg3 hk2 hR2 F2
            refine wpAnyN_pureG 12 13 (v := ?_) rfl rfl (by kernel_rfl) (by kernel_rfl) (by kernel_rfl) (fun _ _ _ h => h) rfl (fun w => ?_) ?_
            rotate_left
            · go_simp
              try with_reducible rfl
            simp only [Act.put, List.setIfInBounds_toArray, List.set_cons_succ, List.set_cons_zero]
            refine wpAnyN_done (by kernel_rfl) ?_
            go_upto_region 9 with (fail)
            refine wp_region_N (fun w' => Blk w' b2 23 (y.1.map b8).toArray ∧ w'.rangeAt g (off + q.length * 32) (x.1.map b8)) [] (by kernel_rfl) ?_
            obtain ⟨wd, hwd⟩ : ∃ wd, wd = w3.drew := ⟨_, rfl⟩
            replace hY3 : Blk wd b2 23 (y.1.map b8).toArray := by rw [hwd]; exact hY3
            replace hR3 : Blk wd (r + 1) 23 zero32 := by rw [hwd]; exact hR3
            replace F3 : Below r w wd := by rw [hwd]; exact F3.drew
            rw [← hwd]
            clear hwd
            clear w3
            have hX3 : wd.rangeAt g (off + q.length * 32) (x.1.map b8) := range_below HY.out.1 F3 (Nat.lt_of_lt_of_le HY.out.2 HR0.out)
            refine wpAnyN_takeG 0 44 (v := hval y) rfl rfl (by kernel_rfl) (by kernel_rfl) (by kernel_rfl) (by kernel_rfl) (fun _ _ _ h => h) ⟨hY3, hX3⟩ rfl (fun w hS => ?_) ?_
            · exact run_load_mid_blk 23 _ rfl hS.1 0 (by go_simp) (y.1.map b8) (fun j v h => by rw [Nat.zero_add, List.getElem?_toArray]; exact h) (.array 32 5) (by kernel_rfl) rfl 32 (by kernel_rfl) (by simp [hyl])
            simp only [Act.put, List.setIfInBounds_toArray, List.set_cons_succ, List.set_cons_zero]
            refine wpAnyN_pureG 1 45 (v := ?_) rfl rfl (by kernel_rfl) (by kernel_rfl) (by kernel_rfl) (fun _ _ _ h => h) rfl (fun w => ?_) ?_
            rotate_left
            · go_simp
              try with_reducible rfl
            refine wpAnyN_pureG 2 46 (v := ?_) rfl rfl (by kernel_rfl) (by kernel_rfl) (by kernel_rfl) (fun _ _ _ h => h) rfl (fun w => ?_) ?_
            rotate_left
            · go_simp
              try with_reducible rfl
            refine wpAnyN_pureG 3 47 (v := .pointer (some ⟨g, off + q.length * 32, none⟩)) rfl rfl (by kernel_rfl) (by kernel_rfl) (by kernel_rfl) (fun _ _ _ h => h) rfl (fun w => ?_) ?_
            · go_simp
              intro h; omega
            simp only [Act.put, List.setIfInBounds_toArray, List.set_cons_succ, List.set_cons_zero]
            refine wpAnyN_takeG 4 48 (v := hval x) rfl rfl (by kernel_rfl) (by kernel_rfl) (by kernel_rfl) (by kernel_rfl) (fun _ _ _ h => h) ⟨hY3, hX3⟩ rfl (fun w hS => ?_) ?_
            · exact run_load_range 23 _ rfl hS.2 (by go_simp) (.array 32 5) (by kernel_rfl) rfl 32 (by kernel_rfl) (by simp [hxl])
            simp only [Act.put, List.setIfInBounds_toArray, List.set_cons_succ, List.set_cons_zero]
            refine wpAnyN_pureG 6 50 (v := ?_) rfl rfl (by kernel_rfl) (by kernel_rfl) (by kernel_rfl) (fun _ _ _ h => h) rfl (fun w => ?_) ?_
            rotate_left
            · go_simp
              try with_reducible rfl
            simp only [Act.put, List.setIfInBounds_toArray, List.set_cons_succ, List.set_cons_zero]
            have c2 := refnode_any wd y x
            rw [← HU.out] at c2
            refine wpAnyN_call 5 43 (some 49) [.tmp 44, .tmp 48] [hval y, hval x] (by kernel_rfl) rfl rfl rfl rfl (by go_simp) Tryd.call43 ?_
            refine c2.mono ?_
            rintro e w4 ⟨rfl, G4⟩
            have hR4 := hR3.below G4 hR3.lt
            have hsz : r + 2 ≤ wd.heap.size := hR3.lt
            have F4 := F3.trans (G4.mono (by omega))
            refine ⟨_, rfl, fun _ h => ⟨h.1.below G4 h.1.lt, range_below h.2 G4 (Nat.lt_of_lt_of_le HY.out.2 (Nat.le_trans HR0.out (by omega)))⟩, ?_⟩
            clear c2 hR3 F3 G4 hsz hX3 hY3
            clear wd
            simp only [Act.put, List.setIfInBounds_toArray, List.set_cons_succ, List.set_cons_zero]
            refine wpAnyN_store_blk 7 23 (.tmp 8) (.tmp 49) (by kernel_rfl) rfl rfl rfl rfl hR4 0 (u.1.map b8).toArray (by go_simp) (by go_simp) 32 (by kernel_rfl) (by simp [hul]) (by simp) (by rw [List.toList_toArray]; exact b8_one _) (u.1.map b8).toArray (by simp) ?_
            intro w5 hR5 hg5
            have F5 := below_upd F4 hg5 (by omega) hR4.lt
            refine ⟨fun _ h => ⟨h.1.grown hg5 (fun e => by have := Option.some.inj e; omega), range_grown h.2 hg5 (Nat.lt_of_lt_of_le HY.out.2 (Nat.le_trans HR0.out (by have := hR4.lt; omega))) (by have := HY.out.2; have := HR0.out; omega)⟩, ?_⟩
            clear hg5 hR4 F4
            clear w4
            refine wpAnyN_pureG 8 9 (v := ?_) rfl rfl (by kernel_rfl) (by kernel_rfl) (by kernel_rfl) (fun _ _ _ h => h) rfl (fun w => ?_) ?_
            rotate_left
            · go_simp
              try with_reducible rfl
            simp only [Act.put, List.setIfInBounds_toArray, List.set_cons_succ, List.set_cons_zero]
            refine wpAnyN_done (by kernel_rfl) ?_
            rw [HR.out] at F5
            go_wp2
            exact (ret_blk_tmp rfl hR5 rfl rfl (.array 32 5) (by kernel_rfl) rfl 32 (by kernel_rfl) (by simp [hul]) ⟨rfl, F5⟩).2
          · obtain ⟨b2, hb2⟩ : ∃ b2, b2 = wd.heap.size := ⟨_, rfl⟩
            obtain ⟨wa, hwa⟩ : ∃ wa, wa = wd.alloc (.cells zero32 23) := ⟨_, rfl⟩
            have hk1 : Blk wa b2 23 zero32 := by rw [hwa, hb2]; exact Blk.new wd _ _
            have hR1' : Blk wa (r + 1) 23 zero32 := by rw [hwa]; exact hR1.alloc _
            have F1' : Below r w wa := by rw [hwa]; exact F1.alloc (by omega) _
            have hr2 : r + 2 ≤ b2 := by omega
            have hsz2 : r ≤ wa.heap.size := by have := hk1.lt; omega
            rw [← hb2, ← hwa]
            clear hb2 hwa hR1 hL1 F1 hsz
            clear wd
            show wpAnyN _ _ _ _ _ _ _ _ (Act.put _ (some 12) _) _
            simp only [Act.put, List.setIfInBounds_toArray, List.set_cons_succ, List.set_cons_zero]
            refine wpAnyN_call 6 29 (some 41) [.tmp 35, .tmp 36, .tmp 37, .tmp 40] [.int .i64 m, .int .i64 k, hval leaf, .slice a6 q.length cp] (by kernel_rfl) rfl rfl rfl rfl (by go_simp) Tryd.call29 ?_
            refine (ihc.out wa F1').mono ?_
            rintro e w2 ⟨rfl, G2⟩
            refine ⟨_, rfl, fun _ h => h.below G2 h.lt, ?_⟩
            have hR2 := hR1'.below G2 hR1'.lt
            have hk2 := hk1.below G2 hk1.lt
            have F2 : Below r w w2 := F1'.trans (G2.mono hsz2)
            clear hR1' hk1 F1' ihc G2 hsz2
            clear wa
            refine wpAnyN_pureG 7 34 (v := ?_) rfl rfl (by kernel_rfl) (by kernel_rfl) (by kernel_rfl) (fun _ _ _ h => h) rfl (fun w => ?_) ?_
            rotate_left
            · go_simp
              try with_reducible rfl
            refine wpAnyN_pureG 8 42 (v := ?_) rfl rfl (by kernel_rfl) (by kernel_rfl) (by kernel_rfl) (fun _ _ _ h => h) rfl (fun w => ?_) ?_
            rotate_left
            · go_simp
              try with_reducible rfl
            refine wpAnyN_pureG 9 43 (v := ?_) rfl rfl (by kernel_rfl) (by kernel_rfl) (by kernel_rfl) (fun _ _ _ h => h) rfl (fun w => ?_) ?_
            rotate_left
            · go_simp
              try with_reducible rfl
            simp only [Act.put, List.setIfInBounds_toArray, List.set_cons_succ, List.set_cons_zero]
            refine wpAnyN_store_blk 11 23 (.tmp 12) (.tmp 42) (by kernel_rfl) rfl rfl rfl rfl hk2 0 (y.1.map b8).toArray (by go_simp) (by go_simp) 32 (by kernel_rfl) (by simp [hyl]) (by simp) (by rw [List.toList_toArray]; exact b8_one _) (y.1.map b8).toArray (by simp) ?_
            intro w3 hY3 hg3
            have hR3 := hR2.grown hg3 (fun e => by have := Option.some.inj e; omega)
            have F3 := below_upd F2 hg3 (by omega) hk2.lt
            refine ⟨fun _ h => h.grown hg3 (fun e => by have := Option.some.inj e; omega), ?_⟩
            clear hg3 hk2 hR2 F2
            refine wpAnyN_pureG 12 13 (v := ?_) rfl rfl (by kernel_rfl) (by kernel_rfl) (by kernel_rfl) (fun _ _ _ h => h) rfl (fun w => ?_) ?_
            rotate_left
            · go_simp
              try with_reducible rfl
            simp only [Act.put, List.setIfInBounds_toArray, List.set_cons_succ, List.set_cons_zero]
            refine wpAnyN_done (by kernel_rfl) ?_
            go_upto_region 9 with (fail)
            refine wp_region_N (fun w' => Blk w' b2 23 (y.1.map b8).toArray ∧ w'.rangeAt g (off + q.length * 32) (x.1.map b8)) [] (by kernel_rfl) ?_
            obtain ⟨wd, hwd⟩ : ∃ wd, wd = w3.drew := ⟨_, rfl⟩
            replace hY3 : Blk wd b2 23 (y.1.map b8).toArray := by rw [hwd]; exact hY3
            replace hR3 : Blk wd (r + 1) 23 zero32 := by rw [hwd]; exact hR3
            replace F3 : Below r w wd := by rw [hwd]; exact F3.drew
            rw [← hwd]
            clear hwd
            clear w3
            have hX3 : wd.rangeAt g (off + q.length * 32) (x.1.map b8) := range_below HY.out.1 F3 (Nat.lt_of_lt_of_le HY.out.2 HR0.out)
            refine wpAnyN_takeG 0 44 (v := hval y) rfl rfl (by kernel_rfl) (by kernel_rfl) (by kernel_rfl) (by kernel_rfl) (fun _ _ _ h => h) ⟨hY3, hX3⟩ rfl (fun w hS => ?_) ?_
            · exact run_load_mid_blk 23 _ rfl hS.1 0 (by go_simp) (y.1.map b8) (fun j v h => by rw [Nat.zero_add, List.getElem?_toArray]; exact h) (.array 32 5) (by kernel_rfl) rfl 32 (by kernel_rfl) (by simp [hyl])
            simp only [Act.put, List.setIfInBounds_toArray, List.set_cons_succ, List.set_cons_zero]
            refine wpAnyN_pureG 1 45 (v := ?_) rfl rfl (by kernel_rfl) (by kernel_rfl) (by kernel_rfl) (fun _ _ _ h => h) rfl (fun w => ?_) ?_
            rotate_left
            · go_simp
              try with_reducible rfl
            refine wpAnyN_pureG 2 46 (v := ?_) rfl rfl (by kernel_rfl) (by kernel_rfl) (by kernel_rfl) (fun _ _ _ h => h) rfl (fun w => ?_) ?_
            rotate_left
            · go_simp
              try with_reducible rfl
            refine wpAnyN_pureG 3 47 (v := .pointer (some ⟨g, off + q.length * 32, none⟩)) rfl rfl (by kernel_rfl) (by kernel_rfl) (by kernel_rfl) (fun _ _ _ h => h) rfl (fun w => ?_) ?_
            · go_simp
              intro h; omega
            simp only [Act.put, List.setIfInBounds_toArray, List.set_cons_succ, List.set_cons_zero]
            refine wpAnyN_takeG 4 48 (v := hval x) rfl rfl (by kernel_rfl) (by kernel_rfl) (by kernel_rfl) (by kernel_rfl) (fun _ _ _ h => h) ⟨hY3, hX3⟩ rfl (fun w hS => ?_) ?_
            · exact run_load_range 23 _ rfl hS.2 (by go_simp) (.array 32 5) (by kernel_rfl) rfl 32 (by kernel_rfl) (by simp [hxl])
            simp only [Act.put, List.setIfInBounds_toArray, List.set_cons_succ, List.set_cons_zero]
            refine wpAnyN_pureG 6 50 (v := ?_) rfl rfl (by kernel_rfl) (by kernel_rfl) (by kernel_rfl) (fun _ _ _ h => h) rfl (fun w => ?_) ?_
            rotate_left
            · go_simp
              try with_reducible rfl
            simp only [Act.put, List.setIfInBounds_toArray, List.set_cons_succ, List.set_cons_zero]
            have c2 := refnode_any wd y x
            rw [← HU.out] at c2
            refine wpAnyN_call 5 43 (some 49) [.tmp 44, .tmp 48] [hval y, hval x] (by kernel_rfl) rfl rfl rfl rfl (by go_simp) Tryd.call43 ?_
            refine c2.mono ?_
            rintro e w4 ⟨rfl, G4⟩
            have hR4 := hR3.below G4 hR3.lt
            have hsz : r + 2 ≤ wd.heap.size := hR3.lt
            have F4 := F3.trans (G4.mono (by omega))
            refine ⟨_, rfl, fun _ h => ⟨h.1.below G4 h.1.lt, range_below h.2 G4 (Nat.lt_of_lt_of_le HY.out.2 (Nat.le_trans HR0.out (by omega)))⟩, ?_⟩
            clear c2 hR3 F3 G4 hsz hX3 hY3
            clear wd
            simp only [Act.put, List.setIfInBounds_toArray, List.set_cons_succ, List.set_cons_zero]
            refine wpAnyN_store_blk 7 23 (.tmp 8) (.tmp 49) (by kernel_rfl) rfl rfl rfl rfl hR4 0 (u.1.map b8).toArray (by go_simp) (by go_simp) 32 (by kernel_rfl) (by simp [hul]) (by simp) (by rw [List.toList_toArray]; exact b8_one _) (u.1.map b8).toArray (by simp) ?_
            intro w5 hR5 hg5
            have F5 := below_upd F4 hg5 (by omega) hR4.lt
            refine ⟨fun _ h => ⟨h.1.grown hg5 (fun e => by have := Option.some.inj e; omega), range_grown h.2 hg5 (Nat.lt_of_lt_of_le HY.out.2 (Nat.le_trans HR0.out (by have := hR4.lt; omega))) (by have := HY.out.2; have := HR0.out; omega)⟩, ?_⟩
            clear hg5 hR4 F4
            clear w4
            refine wpAnyN_pureG 8 9 (v := ?_) rfl rfl (by kernel_rfl) (by kernel_rfl) (by kernel_rfl) (fun _ _ _ h => h) rfl (fun w => ?_) ?_
            rotate_left
            · go_simp
              try with_reducible rfl
            simp only [Act.put, List.setIfInBounds_toArray, List.set_cons_succ, List.set_cons_zero]
            refine wpAnyN_done (by kernel_rfl) ?_
            rw [HR.out] at F5
            go_wp2
            exact (ret_blk_tmp rfl hR5 rfl rfl (.array 32 5) (by kernel_rfl) rfl 32 (by kernel_rfl) (by simp [hul]) ⟨rfl, F5⟩).2
        · have hhi := leadsH_hi (m := m) (n := n) (leaf := leaf) (x := x) (q := q) h1 hmk
          rw [hhi]
          clear hhi
          obtain ⟨k, hk⟩ : ∃ k, k = Tree.split n := ⟨_, rfl⟩
          rw [← hk] at hk1 hk0 hsp hmk ⊢
          have hd2 : decide ((m : Int) < (k : Int)) = false := by rw [decide_eq_false_iff_not]; omega
          obtain ⟨m', hm'⟩ : ∃ m', m' = m - k := ⟨_, rfl⟩
          obtain ⟨n', hn'⟩ : ∃ n', n' = n - k := ⟨_, rfl⟩
          have q1 : IntKind.i64.wrap ((m : Int) - k) = (m' : Int) := by rw [show (m : Int) - k = m' by omega]; exact IntWalk.i64_in _ (by omega)
          have q2 : IntKind.i64.wrap ((n : Int) - k) = (n' : Int) := by rw [show (n : Int) - k = n' by omega]; exact IntWalk.i64_in _ (by omega)
          rw [← hm', ← hn']
          have ihc : ∀ W, Below r w W → Calls Tryd.prog 29 #[.int .i64 m', .int .i64 n', hval leaf, .slice a6 q.length cp] W fun e w' => e = .returned (.tuple #[hval (leadsH m' n' leaf q).1, .bool (leadsH m' n' leaf q).2]) ∧ Below W.heap.size W w' := fun W hW => ih W m' n' leaf a6 cp q (by omega) (HQ.out.below hW HR0.out) (by omega) hm (by omega) (by omega)
          obtain ⟨y, hy⟩ : ∃ y, y = (leadsH m' n' leaf q).1 := ⟨_, rfl⟩
          obtain ⟨o, ho⟩ : ∃ o, o = (leadsH m' n' leaf q).2 := ⟨_, rfl⟩
          rw [← hy, ← ho] at ihc ⊢
          clear hk hy ho hm' hn'
          obtain ⟨u, hu⟩ : ∃ u, u = nodeH x y := ⟨_, rfl⟩
          rw [← hu]
          have HU := Lib.hid hu
          have hul := u.2
          have hyl := y.2
          replace ihc := Lib.hid ihc
          clear hu ih HQ
          go_enter Tryd.func29, Tryd.ntmps29
          go_upto_region 1 with (fail)
          change Code.wp _ _ _ _ ((w.alloc (.cells (leaf.1.map b8).toArray 23)).alloc (.cells zero32 23))
          rw [← HR.out.1, ← HR.out.2]
          replace HR := Lib.hid HR.out.2
          go_wp2_with fail
          refine hsp.mono ?_
          rintro e w2 ⟨rfl, hw2⟩
          rw [hw2]
          clear hsp hw2
          clear w2
          go_upto_region 10 with (fail)
          refine wp_region_N (fun w' => Blk w' r 23 (leaf.1.map b8).toArray) [] (by kernel_rfl) ?_
          obtain ⟨wd, hwd⟩ : ∃ wd, wd = w1.drew := ⟨_, rfl⟩
          replace hL1 : Blk wd r 23 (leaf.1.map b8).toArray := by rw [hwd]; exact hL1
          replace hR1 : Blk wd (r + 1) 23 zero32 := by rw [hwd]; exact hR1
          replace F1 : Below r w wd := by rw [hwd]; exact F1.drew
          rw [← hwd]
          clear hwd
          clear w1
          refine wpAnyN_pureG 0 52 (v := ?_) rfl rfl (by kernel_rfl) (by kernel_rfl) (by kernel_rfl) (fun _ _ _ h => h) rfl (fun w => ?_) ?_
          rotate_left
          · go_simp
            try with_reducible rfl
          refine wpAnyN_pureG 1 53 (v := ?_) rfl rfl (by kernel_rfl) (by kernel_rfl) (by kernel_rfl) (fun _ _ _ h => h) rfl (fun w => ?_) ?_
          rotate_left
          · go_simp
            try with_reducible rfl
          refine wpAnyN_pureG 3 55 (v := ?_) rfl rfl (by kernel_rfl) (by kernel_rfl) (by kernel_rfl) (fun _ _ _ h => h) rfl (fun w => ?_) ?_
          rotate_left
          · go_simp
            try with_reducible rfl
          refine wpAnyN_pureG 4 56 (v := ?_) rfl rfl (by kernel_rfl) (by kernel_rfl) (by kernel_rfl) (fun _ _ _ h => h) rfl (fun w => ?_) ?_
          rotate_left
          · go_simp
            try with_reducible rfl
          refine wpAnyN_pureG 7 59 (v := ?_) rfl rfl (by kernel_rfl) (by kernel_rfl) (by kernel_rfl) (fun _ _ _ h => h) rfl (fun w => ?_) ?_
          rotate_left
          · go_simp
            try with_reducible rfl
          refine wpAnyN_pureG 8 60 (v := ?_) rfl rfl (by kernel_rfl) (by kernel_rfl) (by kernel_rfl) (fun _ _ _ h => h) rfl (fun w => ?_) ?_
          rotate_left
          · go_simp
            try with_reducible rfl
          simp only [Act.put, List.setIfInBounds_toArray, List.set_cons_succ, List.set_cons_zero]
          refine wpAnyN_pureG 2 54 (v := ?_) rfl rfl (by kernel_rfl) (by kernel_rfl) (by kernel_rfl) (fun _ _ _ h => h) rfl (fun w => ?_) ?_
          rotate_left
          · go_simp
            try with_reducible rfl
          refine wpAnyN_pureG 5 57 (v := ?_) rfl rfl (by kernel_rfl) (by kernel_rfl) (by kernel_rfl) (fun _ _ _ h => h) rfl (fun w => ?_) ?_
          rotate_left
          · go_simp
            try with_reducible rfl
          refine wpAnyN_pureG 9 61 (v := ?_) rfl rfl (by kernel_rfl) (by kernel_rfl) (by kernel_rfl) (fun _ _ _ h => h) rfl (fun w => ?_) ?_
          rotate_left
          · go_simp
            try with_reducible rfl
          simp only [Act.put, List.setIfInBounds_toArray, List.set_cons_succ, List.set_cons_zero]
          refine wpAnyN_takeG 6 58 (v := hval leaf) rfl rfl (by kernel_rfl) (by kernel_rfl) (by kernel_rfl) (by kernel_rfl) (fun _ _ _ h => h) hL1 rfl (fun w hS => ?_) ?_
          · exact run_load_mid_blk 23 _ rfl hS 0 (by go_simp) (leaf.1.map b8) (fun j v h => by rw [Nat.zero_add, List.getElem?_toArray]; exact h) (.array 32 5) (by kernel_rfl) rfl 32 (by kernel_rfl) (by simp [hll])
          simp only [Act.put, List.setIfInBounds_toArray, List.set_cons_succ, List.set_cons_zero]
          have hsz : r + 2 ≤ wd.heap.size := hR1.lt
          refine wpAnyN_callOr 10 29 (some 62) [.tmp 54, .tmp 57, .tmp 58, .tmp 61] [.int .i64 m', .int .i64 n', hval leaf, .slice a6 q.length cp] [14] (by kernel_rfl) rfl rfl rfl rfl (by go_simp) Tryd.call29 ?_ ⟨⟨_, .pointer (some ⟨wd.heap.size, 0, none⟩), wd.alloc (.cells zero32 23), rfl, rfl, by go_simp, fun _ h => h.alloc _, ?_⟩, trivial⟩
          · refine (ihc.out wd F1).mono ?_
            rintro e w2 ⟨rfl, G2⟩
            refine ⟨_, rfl, fun _ h => h.below G2 h.lt, ?_⟩
            have hR1' := hR1.below G2 hR1.lt
            have F1' : Below r w w2 := F1.trans (G2.mono (by omega))
            have hsz2 : r + 2 ≤ w2.heap.size := hR1'.lt
            clear hR1 hL1 F1 hsz ihc G2
            clear wd
            refine wpAnyN_pureG 11 51 (v := ?_) rfl rfl (by kernel_rfl) (by kernel_rfl) (by kernel_rfl) (fun _ _ _ h => h) rfl (fun w => ?_) ?_
            rotate_left
            · go_simp
              try with_reducible rfl
            refine wpAnyN_pureG 12 63 (v := ?_) rfl rfl (by kernel_rfl) (by kernel_rfl) (by kernel_rfl) (fun _ _ _ h => h) rfl (fun w => ?_) ?_
            rotate_left
            · go_simp
              try with_reducible rfl
            refine wpAnyN_pureG 13 64 (v := ?_) rfl rfl (by kernel_rfl) (by kernel_rfl) (by kernel_rfl) (fun _ _ _ h => h) rfl (fun w => ?_) ?_
            rotate_left
            · go_simp
              try with_reducible rfl
            simp only [Act.put, List.setIfInBounds_toArray, List.set_cons_succ, List.set_cons_zero]
            refine wpAnyN_run 14 (some 14) (v := .pointer (some ⟨w2.heap.size, 0, none⟩)) (w' := w2.alloc (.cells zero32 23)) (by kernel_rfl) rfl rfl rfl (by go_simp) ⟨fun _ h => h.alloc _, ?_⟩
            obtain ⟨b2, hb2⟩ : ∃ b2, b2 = w2.heap.size := ⟨_, rfl⟩
            obtain ⟨wa, hwa⟩ : ∃ wa, wa = w2.alloc (.cells zero32 23) := ⟨_, rfl⟩
            have hk2 : Blk wa b2 23 zero32 := by rw [hwa, hb2]; exact Blk.new w2 _ _
            have hR2 : Blk wa (r + 1) 23 zero32 := by rw [hwa]; exact hR1'.alloc _
            have F2 : Below r w wa := by rw [hwa]; exact F1'.alloc (by omega) _
            have hr2 : r + 2 ≤ b2 := by omega
            rw [← hb2, ← hwa]
            clear hb2 hwa hR1' F1' hsz2
            clear w2
            simp only [Act.put, List.setIfInBounds_toArray, List.set_cons_succ, List.set_cons_zero]
            refine wpAnyN_store_blk 15 23 (.tmp 14) (.tmp 63) (by kernel_rfl) rfl rfl rfl rfl hk2 0 (y.1.map b8).toArray (by go_simp) (by go_simp) 32 (by kernel_rfl) (by simp [hyl]) (by simp) (by rw [List.toList_toArray]; exact b8_one _) (y.1.map b8).toArray (by simp) ?_
            intro w3 hY3 hg3
            have hR3 := hR2.grown hg3 (fun e => by have := Option.some.inj e; omega)
            have F3 := below_upd F2 hg3 (by omega) hk2.lt
            refine ⟨fun _ h => h.grown hg3 (fun e => by have := Option.some.inj e; omega), ?_⟩
            clear hg3 hk2 hR2 F2
            refine wpAnyN_pureG 16 15 (v := ?_) rfl rfl (by kernel_rfl) (by kernel_rfl) (by kernel_rfl) (fun _ _ _ h => h) rfl (fun w => ?_) ?_
            rotate_left
            · go_simp
              try with_reducible rfl
            simp only [Act.put, List.setIfInBounds_toArray, List.set_cons_succ, List.set_cons_zero]
            refine wpAnyN_done (by kernel_rfl) ?_
            go_upto_region 11 with (fail)
            refine wp_region_N (fun w' => Blk w' b2 23 (y.1.map b8).toArray ∧ w'.rangeAt g (off + q.length * 32) (x.1.map b8)) [] (by kernel_rfl) ?_
            obtain ⟨wd, hwd⟩ : ∃ wd, wd = w3.drew := ⟨_, rfl⟩
            replace hY3 : Blk wd b2 23 (y.1.map b8).toArray := by rw [hwd]; exact hY3
            replace hR3 : Blk wd (r + 1) 23 zero32 := by rw [hwd]; exact hR3
            replace F3 : Below r w wd := by rw [hwd]; exact F3.drew
            rw [← hwd]
            clear hwd
            clear w3
            have hX3 : wd.rangeAt g (off + q.length * 32) (x.1.map b8) := range_below HY.out.1 F3 (Nat.lt_of_lt_of_le HY.out.2 HR0.out)
            refine wpAnyN_pureG 0 65 (v := ?_) rfl rfl (by kernel_rfl) (by kernel_rfl) (by kernel_rfl) (fun _ _ _ h => h) rfl (fun w => ?_) ?_
            rotate_left
            · go_simp
              try with_reducible rfl
            refine wpAnyN_pureG 1 66 (v := ?_) rfl rfl (by kernel_rfl) (by kernel_rfl) (by kernel_rfl) (fun _ _ _ h => h) rfl (fun w => ?_) ?_
            rotate_left
            · go_simp
              try with_reducible rfl
            refine wpAnyN_pureG 2 67 (v := .pointer (some ⟨g, off + q.length * 32, none⟩)) rfl rfl (by kernel_rfl) (by kernel_rfl) (by kernel_rfl) (fun _ _ _ h => h) rfl (fun w => ?_) ?_
            · go_simp
              intro h; omega
            simp only [Act.put, List.setIfInBounds_toArray, List.set_cons_succ, List.set_cons_zero]
            refine wpAnyN_takeG 3 68 (v := hval x) rfl rfl (by kernel_rfl) (by kernel_rfl) (by kernel_rfl) (by kernel_rfl) (fun _ _ _ h => h) ⟨hY3, hX3⟩ rfl (fun w hS => ?_) ?_
            · exact run_load_range 23 _ rfl hS.2 (by go_simp) (.array 32 5) (by kernel_rfl) rfl 32 (by kernel_rfl) (by simp [hxl])
            simp only [Act.put, List.setIfInBounds_toArray, List.set_cons_succ, List.set_cons_zero]
            refine wpAnyN_takeG 4 69 (v := hval y) rfl rfl (by kernel_rfl) (by kernel_rfl) (by kernel_rfl) (by kernel_rfl) (fun _ _ _ h => h) ⟨hY3, hX3⟩ rfl (fun w hS => ?_) ?_
            · exact run_load_mid_blk 23 _ rfl hS.1 0 (by go_simp) (y.1.map b8) (fun j v h => by rw [Nat.zero_add, List.getElem?_toArray]; exact h) (.array 32 5) (by kernel_rfl) rfl 32 (by kernel_rfl) (by simp [hyl])
            simp only [Act.put, List.setIfInBounds_toArray, List.set_cons_succ, List.set_cons_zero]
            refine wpAnyN_pureG 6 71 (v := ?_) rfl rfl (by kernel_rfl) (by kernel_rfl) (by kernel_rfl) (fun _ _ _ h => h) rfl (fun w => ?_) ?_
            rotate_left
            · go_simp
              try with_reducible rfl
            simp only [Act.put, List.setIfInBounds_toArray, List.set_cons_succ, List.set_cons_zero]
            have c2 := refnode_any wd x y
            rw [← HU.out] at c2
            refine wpAnyN_call 5 43 (some 70) [.tmp 68, .tmp 69] [hval x, hval y] (by kernel_rfl) rfl rfl rfl rfl (by go_simp) Tryd.call43 ?_
            refine c2.mono ?_
            rintro e w4 ⟨rfl, G4⟩
            have hR4 := hR3.below G4 hR3.lt
            have hsz : r + 2 ≤ wd.heap.size := hR3.lt
            have F4 := F3.trans (G4.mono (by omega))
            refine ⟨_, rfl, fun _ h => ⟨h.1.below G4 h.1.lt, range_below h.2 G4 (Nat.lt_of_lt_of_le HY.out.2 (Nat.le_trans HR0.out (by omega)))⟩, ?_⟩
            clear c2 hR3 F3 G4 hsz hX3 hY3
            clear wd
            simp only [Act.put, List.setIfInBounds_toArray, List.set_cons_succ, List.set_cons_zero]
            refine wpAnyN_store_blk 7 23 (.tmp 8) (.tmp 70) (by kernel_rfl) rfl rfl rfl rfl hR4 0 (u.1.map b8).toArray (by go_simp) (by go_simp) 32 (by kernel_rfl) (by simp [hul]) (by simp) (by rw [List.toList_toArray]; exact b8_one _) (u.1.map b8).toArray (by simp) ?_
            intro w5 hR5 hg5
            have F5 := below_upd F4 hg5 (by omega) hR4.lt
            refine ⟨fun _ h => ⟨h.1.grown hg5 (fun e => by have := Option.some.inj e; omega), range_grown h.2 hg5 (Nat.lt_of_lt_of_le HY.out.2 (Nat.le_trans HR0.out (by have := hR4.lt; omega))) (by have := HY.out.2; have := HR0.out; omega)⟩, ?_⟩
            clear hg5 hR4 F4
            clear w4
            refine wpAnyN_pureG 8 9 (v := ?_) rfl rfl (by kernel_rfl) (by kernel_rfl) (by kernel_rfl) (fun _ _ _ h => h) rfl (fun w => ?_) ?_
            rotate_left
            · go_simp
              try with_reducible rfl
            simp only [Act.put, List.setIfInBounds_toArray, List.set_cons_succ, List.set_cons_zero]
            refine wpAnyN_done (by kernel_rfl) ?_
            rw [HR.out] at F5
            go_wp2
            exact (ret_blk_tmp rfl hR5 rfl rfl (.array 32 5) (by kernel_rfl) rfl 32 (by kernel_rfl) (by simp [hul]) ⟨rfl, F5⟩).2
          · obtain ⟨b2, hb2⟩ : ∃ b2, b2 = wd.heap.size := ⟨_, rfl⟩
            obtain ⟨wa, hwa⟩ : ∃ wa, wa = wd.alloc (.cells zero32 23) := ⟨_, rfl⟩
            have hk1 : Blk wa b2 23 zero32 := by rw [hwa, hb2]; exact Blk.new wd _ _
            have hR1' : Blk wa (r + 1) 23 zero32 := by rw [hwa]; exact hR1.alloc _
            have F1' : Below r w wa := by rw [hwa]; exact F1.alloc (by omega) _
            have hr2 : r + 2 ≤ b2 := by omega
            have hsz2 : r ≤ wa.heap.size := by have := hk1.lt; omega
            rw [← hb2, ← hwa]
            clear hb2 hwa hR1 hL1 F1 hsz
            clear wd
            show wpAnyN _ _ _ _ _ _ _ _ (Act.put _ (some 14) _) _
            simp only [Act.put, List.setIfInBounds_toArray, List.set_cons_succ, List.set_cons_zero]
            refine wpAnyN_call 10 29 (some 62) [.tmp 54, .tmp 57, .tmp 58, .tmp 61] [.int .i64 m', .int .i64 n', hval leaf, .slice a6 q.length cp] (by kernel_rfl) rfl rfl rfl rfl (by go_simp) Tryd.call29 ?_
            refine (ihc.out wa F1').mono ?_
            rintro e w2 ⟨rfl, G2⟩
            refine ⟨_, rfl, fun _ h => h.below G2 h.lt, ?_⟩
            have hR2 := hR1'.below G2 hR1'.lt
            have hk2 := hk1.below G2 hk1.lt
            have F2 : Below r w w2 := F1'.trans (G2.mono hsz2)
            clear hR1' hk1 F1' ihc G2 hsz2
            clear wa
            refine wpAnyN_pureG 11 51 (v := ?_) rfl rfl (by kernel_rfl) (by kernel_rfl) (by kernel_rfl) (fun _ _ _ h => h) rfl (fun w => ?_) ?_
            rotate_left
            · go_simp
              try with_reducible rfl
            refine wpAnyN_pureG 12 63 (v := ?_) rfl rfl (by kernel_rfl) (by kernel_rfl) (by kernel_rfl) (fun _ _ _ h => h) rfl (fun w => ?_) ?_
            rotate_left
            · go_simp
              try with_reducible rfl
            refine wpAnyN_pureG 13 64 (v := ?_) rfl rfl (by kernel_rfl) (by kernel_rfl) (by kernel_rfl) (fun _ _ _ h => h) rfl (fun w => ?_) ?_
            rotate_left
            · go_simp
              try with_reducible rfl
            simp only [Act.put, List.setIfInBounds_toArray, List.set_cons_succ, List.set_cons_zero]
            refine wpAnyN_store_blk 15 23 (.tmp 14) (.tmp 63) (by kernel_rfl) rfl rfl rfl rfl hk2 0 (y.1.map b8).toArray (by go_simp) (by go_simp) 32 (by kernel_rfl) (by simp [hyl]) (by simp) (by rw [List.toList_toArray]; exact b8_one _) (y.1.map b8).toArray (by simp) ?_
            intro w3 hY3 hg3
            have hR3 := hR2.grown hg3 (fun e => by have := Option.some.inj e; omega)
            have F3 := below_upd F2 hg3 (by omega) hk2.lt
            refine ⟨fun _ h => h.grown hg3 (fun e => by have := Option.some.inj e; omega), ?_⟩
            clear hg3 hk2 hR2 F2
            refine wpAnyN_pureG 16 15 (v := ?_) rfl rfl (by kernel_rfl) (by kernel_rfl) (by kernel_rfl) (fun _ _ _ h => h) rfl (fun w => ?_) ?_
            rotate_left
            · go_simp
              try with_reducible rfl
            simp only [Act.put, List.setIfInBounds_toArray, List.set_cons_succ, List.set_cons_zero]
            refine wpAnyN_done (by kernel_rfl) ?_
            go_upto_region 11 with (fail)
            refine wp_region_N (fun w' => Blk w' b2 23 (y.1.map b8).toArray ∧ w'.rangeAt g (off + q.length * 32) (x.1.map b8)) [] (by kernel_rfl) ?_
            obtain ⟨wd, hwd⟩ : ∃ wd, wd = w3.drew := ⟨_, rfl⟩
            replace hY3 : Blk wd b2 23 (y.1.map b8).toArray := by rw [hwd]; exact hY3
            replace hR3 : Blk wd (r + 1) 23 zero32 := by rw [hwd]; exact hR3
            replace F3 : Below r w wd := by rw [hwd]; exact F3.drew
            rw [← hwd]
            clear hwd
            clear w3
            have hX3 : wd.rangeAt g (off + q.length * 32) (x.1.map b8) := range_below HY.out.1 F3 (Nat.lt_of_lt_of_le HY.out.2 HR0.out)
            refine wpAnyN_pureG 0 65 (v := ?_) rfl rfl (by kernel_rfl) (by kernel_rfl) (by kernel_rfl) (fun _ _ _ h => h) rfl (fun w => ?_) ?_
            rotate_left
            · go_simp
              try with_reducible rfl
            refine wpAnyN_pureG 1 66 (v := ?_) rfl rfl (by kernel_rfl) (by kernel_rfl) (by kernel_rfl) (fun _ _ _ h => h) rfl (fun w => ?_) ?_
            rotate_left
            · go_simp
              try with_reducible rfl
            refine wpAnyN_pureG 2 67 (v := .pointer (some ⟨g, off + q.length * 32, none⟩)) rfl rfl (by kernel_rfl) (by kernel_rfl) (by kernel_rfl) (fun _ _ _ h => h) rfl (fun w => ?_) ?_
            · go_simp
              intro h; omega
            simp only [Act.put, List.setIfInBounds_toArray, List.set_cons_succ, List.set_cons_zero]
            refine wpAnyN_takeG 3 68 (v := hval x) rfl rfl (by kernel_rfl) (by kernel_rfl) (by kernel_rfl) (by kernel_rfl) (fun _ _ _ h => h) ⟨hY3, hX3⟩ rfl (fun w hS => ?_) ?_
            · exact run_load_range 23 _ rfl hS.2 (by go_simp) (.array 32 5) (by kernel_rfl) rfl 32 (by kernel_rfl) (by simp [hxl])
            simp only [Act.put, List.setIfInBounds_toArray, List.set_cons_succ, List.set_cons_zero]
            refine wpAnyN_takeG 4 69 (v := hval y) rfl rfl (by kernel_rfl) (by kernel_rfl) (by kernel_rfl) (by kernel_rfl) (fun _ _ _ h => h) ⟨hY3, hX3⟩ rfl (fun w hS => ?_) ?_
            · exact run_load_mid_blk 23 _ rfl hS.1 0 (by go_simp) (y.1.map b8) (fun j v h => by rw [Nat.zero_add, List.getElem?_toArray]; exact h) (.array 32 5) (by kernel_rfl) rfl 32 (by kernel_rfl) (by simp [hyl])
            simp only [Act.put, List.setIfInBounds_toArray, List.set_cons_succ, List.set_cons_zero]
            refine wpAnyN_pureG 6 71 (v := ?_) rfl rfl (by kernel_rfl) (by kernel_rfl) (by kernel_rfl) (fun _ _ _ h => h) rfl (fun w => ?_) ?_
            rotate_left
            · go_simp
              try with_reducible rfl
            simp only [Act.put, List.setIfInBounds_toArray, List.set_cons_succ, List.set_cons_zero]
            have c2 := refnode_any wd x y
            rw [← HU.out] at c2
            refine wpAnyN_call 5 43 (some 70) [.tmp 68, .tmp 69] [hval x, hval y] (by kernel_rfl) rfl rfl rfl rfl (by go_simp) Tryd.call43 ?_
            refine c2.mono ?_
            rintro e w4 ⟨rfl, G4⟩
            have hR4 := hR3.below G4 hR3.lt
            have hsz : r + 2 ≤ wd.heap.size := hR3.lt
            have F4 := F3.trans (G4.mono (by omega))
            refine ⟨_, rfl, fun _ h => ⟨h.1.below G4 h.1.lt, range_below h.2 G4 (Nat.lt_of_lt_of_le HY.out.2 (Nat.le_trans HR0.out (by omega)))⟩, ?_⟩
            clear c2 hR3 F3 G4 hsz hX3 hY3
            clear wd
            simp only [Act.put, List.setIfInBounds_toArray, List.set_cons_succ, List.set_cons_zero]
            refine wpAnyN_store_blk 7 23 (.tmp 8) (.tmp 70) (by kernel_rfl) rfl rfl rfl rfl hR4 0 (u.1.map b8).toArray (by go_simp) (by go_simp) 32 (by kernel_rfl) (by simp [hul]) (by simp) (by rw [List.toList_toArray]; exact b8_one _) (u.1.map b8).toArray (by simp) ?_
            intro w5 hR5 hg5
            have F5 := below_upd F4 hg5 (by omega) hR4.lt
            refine ⟨fun _ h => ⟨h.1.grown hg5 (fun e => by have := Option.some.inj e; omega), range_grown h.2 hg5 (Nat.lt_of_lt_of_le HY.out.2 (Nat.le_trans HR0.out (by have := hR4.lt; omega))) (by have := HY.out.2; have := HR0.out; omega)⟩, ?_⟩
            clear hg5 hR4 F4
            clear w4
            refine wpAnyN_pureG 8 9 (v := ?_) rfl rfl (by kernel_rfl) (by kernel_rfl) (by kernel_rfl) (fun _ _ _ h => h) rfl (fun w => ?_) ?_
            rotate_left
            · go_simp
              try with_reducible rfl
            simp only [Act.put, List.setIfInBounds_toArray, List.set_cons_succ, List.set_cons_zero]
            refine wpAnyN_done (by kernel_rfl) ?_
            rw [HR.out] at F5
            go_wp2
            exact (ret_blk_tmp rfl hR5 rfl rfl (.array 32 5) (by kernel_rfl) rfl 32 (by kernel_rfl) (by simp [hul]) ⟨rfl, F5⟩).2
end Go.Proofs.YtadiijieldldhaaDoor
