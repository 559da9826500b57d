/-
  The path of one of hashes: proof.path, proof.Path.
-/
import Derived.Test.YtbglblamoodocaaDoorRefRoot
namespace Go.Proofs.YtbglblamoodocaaDoor
open Go Go.RowKit
attribute [local irreducible] sha
def pathH (l : List Hs) (m : Nat) : List Hs := Tree.path nodeH nilH l m
theorem deep_small (m n : Nat) : Tree.deep m n ≤ n := Tree.deep_le n m n (Nat.le_of_lt Nat.lt_two_pow_self)
theorem pathH_len (l : List Hs) (m : Nat) (h : m < l.length) : (pathH l m).length ≤ l.length := by
  unfold pathH; rw [Tree.path_len nodeH nilH _ l m (Nat.le_refl _) h]; exact deep_small _ _
theorem Own.base {r r' : Nat} {w wd wr : World} {e sz : Nat} {v : Value} {n : Nat} {xs : List Value} (h : Own r' wd wr e sz v n xs) (F : Below r w wd) (hr : r ≤ r') : Own r w wr e sz v n xs :=
  ⟨h.row, fun g e => Nat.le_trans hr (h.own g e), F.trans (h.bel.mono hr), Nat.le_trans hr h.le⟩
set_option maxRecDepth 100000 in
set_option maxHeartbeats 4000000 in
theorem path_aux (N : Nat) : ∀ (w : World) (ao : Option Addr) (cp : Nat) (l : List Hs) (m : Nat), l.length < N → m < l.length → Laid w → Hts w ao l → l.length ≤ cp → cp ≤ maxLen → l.length ≤ 1000000 →
    Calls Tryd.prog 44 #[.slice ao l.length cp, .int .i64 m] w fun e w' => ∃ v, e = .returned v ∧ OwnH w.heap.size w w' v (pathH l m) := by
  induction N with
  | zero => intro w ao cp l m hN; omega
  | succ N ih =>
    intro w ao cp l m hN hml hL hB hc hm hbig
    have hm0 : cp ≤ 9223372036854775807 := hm
    obtain ⟨i0, hi, hz0, hz1, hz2⟩ := info_parts infoHs
    obtain ⟨r, hr⟩ : ∃ r, r = w.heap.size := ⟨_, rfl⟩
    have HR := Lib.hid hr
    have hr0 : w.heap.size ≤ r := by omega
    have HR0 := Lib.hid hr0
    clear hr hr0
    by_cases h1 : l.length = 1
    · have hd : ((l.length : Int) == 1) = true := by rw [beq_iff_eq]; omega
      have hp : pathH l m = [] := Tree.path_one nodeH nilH (by omega)
      go_enter Tryd.func44, Tryd.ntmps44
      go_wp2
      go_ret
      exact ⟨_, rfl, by rw [hp]; exact Own.nil _ _ _ rfl⟩
    · have hd : ((l.length : Int) == 1) = false := by rw [beq_eq_false_iff_ne]; omega
      have hk1 := Tree.split_lt (n := l.length) (by omega)
      have hk0 := Tree.split_pos (n := l.length) (by omega)
      have hsp := split_any w (l.length : Int) (by omega) (by omega)
      rw [Int.toNat_natCast] at hsp
      by_cases hmk : m < Tree.split l.length
      · have hpath : pathH l m = pathH (l.take (Tree.split l.length)) m ++ [rootH (l.drop (Tree.split l.length))] := Tree.path_lo nodeH nilH (by omega) hmk
        obtain ⟨k, hk⟩ : ∃ k, k = Tree.split l.length := ⟨_, rfl⟩
        rw [← hk] at hk1 hk0 hpath hsp hmk
        have hd2 : decide ((m : Int) < (k : Int)) = true := by rw [decide_eq_true_eq]; omega
        obtain ⟨a6, hs6, -, ht6⟩ := run_upto_hts (P := Tryd.prog) (t := 32) (by kernel_rfl) hi ao l.length cp k (by omega)
        obtain ⟨a7, hs7, ht7⟩ := run_from_hts (P := Tryd.prog) (t := 32) (by kernel_rfl) hi hz1 ao l.length cp k (by omega) hc
        have hl1 : (l.take k).length = k := by rw [List.length_take]; omega
        have hl2 : (l.drop k).length = l.length - k := List.length_drop
        have HI := Lib.hid ih
        have HL := Lib.hid (And.intro hl1 hl2)
        have HT := Lib.hid hpath
        clear hl1 hl2 hpath ih hk h1
        go_enter Tryd.func44, Tryd.ntmps44
        go_wp2_with fail
        refine hsp.mono ?_
        rintro e w' ⟨rfl, hw'⟩
        rw [hw']
        clear hsp hw'
        clear w'
        go_upto_region 5 with (fail)
        refine wp_region_N (fun _ => True) [] (by kernel_rfl) ?_
        obtain ⟨wd, hwd⟩ : ∃ wd, wd = w.drew := ⟨_, rfl⟩
        have F1 : Below r w wd := by rw [hwd]; exact (Below.refl _ _).drew
        have hs1 : r ≤ wd.heap.size := by rw [hwd, HR.out]; exact Nat.le_refl _
        rw [← hwd]
        clear hwd
        refine wpAnyN_pureG 0 15 (v := ?_) rfl rfl (by kernel_rfl) (by kernel_rfl) (by kernel_rfl) (fun _ _ _ h => h) rfl (fun w => ?_) ?_
        rotate_left
        · go_simp
          try with_reducible rfl
        refine wpAnyN_pureG 1 16 (v := ?_) rfl rfl (by kernel_rfl) (by kernel_rfl) (by kernel_rfl) (fun _ _ _ h => h) rfl (fun w => ?_) ?_
        rotate_left
        · go_simp
          try with_reducible rfl
        refine wpAnyN_pureG 2 17 (v := ?_) rfl rfl (by kernel_rfl) (by kernel_rfl) (by kernel_rfl) (fun _ _ _ h => h) rfl (fun w => ?_) ?_
        rotate_left
        · go_simp
          try with_reducible rfl
        refine wpAnyN_pureG 3 18 (v := ?_) rfl rfl (by kernel_rfl) (by kernel_rfl) (by kernel_rfl) (fun _ _ _ h => h) rfl (fun w => ?_) ?_
        rotate_left
        · go_simp
          try with_reducible rfl
        refine wpAnyN_pureG 5 20 (v := ?_) rfl rfl (by kernel_rfl) (by kernel_rfl) (by kernel_rfl) (fun _ _ _ h => h) rfl (fun w => ?_) ?_
        rotate_left
        · go_simp
          try with_reducible rfl
        refine wpAnyN_pureG 6 21 (v := ?_) rfl rfl (by kernel_rfl) (by kernel_rfl) (by kernel_rfl) (fun _ _ _ h => h) rfl (fun w => ?_) ?_
        rotate_left
        · go_simp
          try with_reducible rfl
        refine wpAnyN_pureG 7 22 (v := ?_) rfl rfl (by kernel_rfl) (by kernel_rfl) (by kernel_rfl) (fun _ _ _ h => h) rfl (fun w => ?_) ?_
        rotate_left
        · go_simp
          try with_reducible rfl
        have c1 := HI.out wd a6 cp (l.take k) m (by have := HL.out.1; omega) (by have := HL.out.1; omega) (hL.below F1 HR0.out) (ht6 wd l (hB.below F1 HR0.out)) (by have := HL.out.1; omega) hm (by have := HL.out.1; omega)
        rw [HL.out.1] at c1
        simp only [Act.put, List.setIfInBounds_toArray, List.set_cons_succ, List.set_cons_zero]
        refine wpAnyN_call 4 44 (some 19) [.tmp 17, .tmp 18] [.slice a6 k cp, .int .i64 m] (by kernel_rfl) rfl rfl rfl rfl (by go_simp) Tryd.call44 ?_
        refine c1.mono ?_
        rintro e w2 ⟨v2, rfl, O2⟩
        replace O2 := O2.base F1 hs1
        refine ⟨_, rfl, fun _ _ => trivial, ?_⟩
        clear c1 F1 hs1
        clear wd
        have c2 := root_any w2 a7 (cp - k) (l.drop k) (hL.below O2.bel HR0.out) (ht7 w2 l rfl (hB.below O2.bel HR0.out)) (by have := HL.out; omega) (by simp only [maxLen]; omega)
        rw [HL.out.2] at c2
        refine wpAnyN_call 8 24 (some 23) [.tmp 22] [.slice a7 (l.length - k) (cp - k)] (by kernel_rfl) rfl rfl rfl rfl (by go_simp) Tryd.call24 ?_
        refine c2.mono ?_
        rintro e w3 ⟨rfl, G3⟩
        have O3 := Own.below O2 G3
        refine ⟨_, rfl, fun _ _ => trivial, ?_⟩
        clear c2 O2 G3
        clear w2
        obtain ⟨u, hu⟩ : ∃ u, u = rootH (l.drop k) := ⟨_, rfl⟩
        rw [← hu]
        have hul := u.2
        have HU := Lib.hid hu
        clear hu
        obtain ⟨q, hq⟩ : ∃ q, q = pathH (l.take k) m := ⟨_, rfl⟩
        rw [← hq] at O3
        have hql : q.length ≤ 1000000 := by rw [hq]; exact Nat.le_trans (pathH_len _ _ (by have := HL.out; omega)) (by have := HL.out; omega)
        have HQ := Lib.hid hq
        clear hq
        refine wpAnyN_run 9 (some 24) (v := .slice (some ⟨w3.heap.size, 0, none⟩) 1 1) (w' := w3.alloc (.cells (u.1.map b8).toArray 28)) (by kernel_rfl) rfl rfl rfl (run_build_one w3 u.1 hul _ _ (.tmp 23) rfl rfl) ⟨fun _ _ => trivial, ?_⟩
        refine wpAnyN_append 10 (some 25) (.tmp 19) (.tmp 24) 32 32 (by kernel_rfl) rfl rfl rfl rfl 28 i0 (.agg zero32) 32 32 (by kernel_rfl) hi hz0 hz1 hz2 rfl (by decide) (O3.row.alloc _) rfl (src_one w3 u) rfl (by simp only [maxLen]; omega) (by omega) ?_
        intro v4 w4 hrow4 hg4 hv4
        have O4 := OwnH.push O3 _ hrow4 hg4 (by rw [alloc_size] at hv4; exact hv4)
        refine ⟨fun _ _ => trivial, ?_⟩
        clear hrow4 hg4 hv4 O3
        generalize w3.heap.size = gz
        refine wpAnyN_pureG 11 4 (v := ?_) rfl rfl (by kernel_rfl) (by kernel_rfl) (by kernel_rfl) (fun _ _ _ h => h) rfl (fun w => ?_) ?_
        rotate_left
        · go_simp
          try with_reducible rfl
        refine wpAnyN_done (by kernel_rfl) ?_
        simp only [Act.put, List.setIfInBounds_toArray, List.set_cons_succ, List.set_cons_zero]
        rw [HU.out, HQ.out, ← HT.out, HR.out] at O4
        go_wp2
        go_ret
        exact ⟨_, rfl, O4⟩
      · have hpath : pathH l m = pathH (l.drop (Tree.split l.length)) (m - Tree.split l.length) ++ [rootH (l.take (Tree.split l.length))] := Tree.path_hi nodeH nilH (by omega) (by omega)
        obtain ⟨k, hk⟩ : ∃ k, k = Tree.split l.length := ⟨_, rfl⟩
        rw [← hk] at hk1 hk0 hpath hsp hmk
        have hd2 : decide ((m : Int) < (k : Int)) = false := by rw [decide_eq_false_iff_not]; omega
        obtain ⟨d, hdd⟩ : ∃ d, d = m - k := ⟨_, rfl⟩
        have q1 : IntKind.i64.wrap ((m : Int) - k) = (d : Int) := by rw [show (m : Int) - k = d by omega]; exact IntWalk.i64_in _ (by omega)
        rw [← hdd] at hpath
        obtain ⟨a6, hs6, -, ht6⟩ := run_upto_hts (P := Tryd.prog) (t := 32) (by kernel_rfl) hi ao l.length cp k (by omega)
        obtain ⟨a7, hs7, ht7⟩ := run_from_hts (P := Tryd.prog) (t := 32) (by kernel_rfl) hi hz1 ao l.length cp k (by omega) hc
        have hl1 : (l.take k).length = k := by rw [List.length_take]; omega
        have hl2 : (l.drop k).length = l.length - k := List.length_drop
        have HI := Lib.hid ih
        have HL := Lib.hid (And.intro hl1 (And.intro hl2 hdd))
        have HT := Lib.hid hpath
        clear hl1 hl2 hpath ih hk h1 hdd
        go_enter Tryd.func44, Tryd.ntmps44
        go_wp2_with fail
        refine hsp.mono ?_
        rintro e w' ⟨rfl, hw'⟩
        rw [hw']
        clear hsp hw'
        clear w'
        go_upto_region 6 with (fail)
        refine wp_region_N (fun _ => True) [] (by kernel_rfl) ?_
        obtain ⟨wd, hwd⟩ : ∃ wd, wd = w.drew := ⟨_, rfl⟩
        have F1 : Below r w wd := by rw [hwd]; exact (Below.refl _ _).drew
        have hs1 : r ≤ wd.heap.size := by rw [hwd, HR.out]; exact Nat.le_refl _
        rw [← hwd]
        clear hwd
        refine wpAnyN_pureG 0 26 (v := ?_) rfl rfl (by kernel_rfl) (by kernel_rfl) (by kernel_rfl) (fun _ _ _ h => h) rfl (fun w => ?_) ?_
        rotate_left
        · go_simp
          try with_reducible rfl
        refine wpAnyN_pureG 1 27 (v := ?_) rfl rfl (by kernel_rfl) (by kernel_rfl) (by kernel_rfl) (fun _ _ _ h => h) rfl (fun w => ?_) ?_
        rotate_left
        · go_simp
          try with_reducible rfl
        refine wpAnyN_pureG 2 28 (v := ?_) rfl rfl (by kernel_rfl) (by kernel_rfl) (by kernel_rfl) (fun _ _ _ h => h) rfl (fun w => ?_) ?_
        rotate_left
        · go_simp
          try with_reducible rfl
        refine wpAnyN_pureG 3 29 (v := ?_) rfl rfl (by kernel_rfl) (by kernel_rfl) (by kernel_rfl) (fun _ _ _ h => h) rfl (fun w => ?_) ?_
        rotate_left
        · go_simp
          try with_reducible rfl
        refine wpAnyN_pureG 4 30 (v := ?_) rfl rfl (by kernel_rfl) (by kernel_rfl) (by kernel_rfl) (fun _ _ _ h => h) rfl (fun w => ?_) ?_
        rotate_left
        · go_simp
          try with_reducible rfl
        refine wpAnyN_pureG 5 31 (v := .int .i64 d) rfl rfl (by kernel_rfl) (by kernel_rfl) (by kernel_rfl) (fun _ _ _ h => h) rfl (fun w => ?_) ?_
        · go_simp
        refine wpAnyN_pureG 7 33 (v := ?_) rfl rfl (by kernel_rfl) (by kernel_rfl) (by kernel_rfl) (fun _ _ _ h => h) rfl (fun w => ?_) ?_
        rotate_left
        · go_simp
          try with_reducible rfl
        refine wpAnyN_pureG 8 34 (v := ?_) rfl rfl (by kernel_rfl) (by kernel_rfl) (by kernel_rfl) (fun _ _ _ h => h) rfl (fun w => ?_) ?_
        rotate_left
        · go_simp
          try with_reducible rfl
        refine wpAnyN_pureG 9 35 (v := ?_) rfl rfl (by kernel_rfl) (by kernel_rfl) (by kernel_rfl) (fun _ _ _ h => h) rfl (fun w => ?_) ?_
        rotate_left
        · go_simp
          try with_reducible rfl
        have c1 := HI.out wd a7 (cp - k) (l.drop k) d (by have := HL.out; omega) (by have := HL.out; omega) (hL.below F1 HR0.out) (ht7 wd l rfl (hB.below F1 HR0.out)) (by have := HL.out; omega) (by simp only [maxLen]; omega) (by have := HL.out; omega)
        rw [HL.out.2.1] at c1
        simp only [Act.put, List.setIfInBounds_toArray, List.set_cons_succ, List.set_cons_zero]
        refine wpAnyN_call 6 44 (some 32) [.tmp 28, .tmp 31] [.slice a7 (l.length - k) (cp - k), .int .i64 d] (by kernel_rfl) rfl rfl rfl rfl (by go_simp) Tryd.call44 ?_
        refine c1.mono ?_
        rintro e w2 ⟨v2, rfl, O2⟩
        replace O2 := O2.base F1 hs1
        refine ⟨_, rfl, fun _ _ => trivial, ?_⟩
        clear c1 F1 hs1
        clear wd
        have c2 := root_any w2 a6 cp (l.take k) (hL.below O2.bel HR0.out) (ht6 w2 l (hB.below O2.bel HR0.out)) (by have := HL.out; omega) (by simp only [maxLen]; omega)
        rw [HL.out.1] at c2
        refine wpAnyN_call 10 24 (some 36) [.tmp 35] [.slice a6 k cp] (by kernel_rfl) rfl rfl rfl rfl (by go_simp) Tryd.call24 ?_
        refine c2.mono ?_
        rintro e w3 ⟨rfl, G3⟩
        have O3 := Own.below O2 G3
        refine ⟨_, rfl, fun _ _ => trivial, ?_⟩
        clear c2 O2 G3
        clear w2
        obtain ⟨u, hu⟩ : ∃ u, u = rootH (l.take k) := ⟨_, rfl⟩
        rw [← hu]
        have hul := u.2
        have HU := Lib.hid hu
        clear hu
        obtain ⟨q, hq⟩ : ∃ q, q = pathH (l.drop k) d := ⟨_, rfl⟩
        rw [← hq] at O3
        have hql : q.length ≤ 1000000 := by rw [hq]; exact Nat.le_trans (pathH_len _ _ (by have := HL.out; omega)) (by have := HL.out; omega)
        have HQ := Lib.hid hq
        clear hq
        refine wpAnyN_run 11 (some 37) (v := .slice (some ⟨w3.heap.size, 0, none⟩) 1 1) (w' := w3.alloc (.cells (u.1.map b8).toArray 28)) (by kernel_rfl) rfl rfl rfl (run_build_one w3 u.1 hul _ _ (.tmp 36) rfl rfl) ⟨fun _ _ => trivial, ?_⟩
        refine wpAnyN_append 12 (some 38) (.tmp 32) (.tmp 37) 32 32 (by kernel_rfl) rfl rfl rfl rfl 28 i0 (.agg zero32) 32 32 (by kernel_rfl) hi hz0 hz1 hz2 rfl (by decide) (O3.row.alloc _) rfl (src_one w3 u) rfl (by simp only [maxLen]; omega) (by omega) ?_
        intro v4 w4 hrow4 hg4 hv4
        have O4 := OwnH.push O3 _ hrow4 hg4 (by rw [alloc_size] at hv4; exact hv4)
        refine ⟨fun _ _ => trivial, ?_⟩
        clear hrow4 hg4 hv4 O3
        generalize w3.heap.size = gz
        refine wpAnyN_pureG 13 4 (v := ?_) rfl rfl (by kernel_rfl) (by kernel_rfl) (by kernel_rfl) (fun _ _ _ h => h) rfl (fun w => ?_) ?_
        rotate_left
        · go_simp
          try with_reducible rfl
        refine wpAnyN_done (by kernel_rfl) ?_
        simp only [Act.put, List.setIfInBounds_toArray, List.set_cons_succ, List.set_cons_zero]
        rw [HU.out, HQ.out, ← HT.out, HR.out] at O4
        go_wp2
        go_ret
        exact ⟨_, rfl, O4⟩
end Go.Proofs.YtbglblamoodocaaDoor
