/-
  The proof of the first ones of hashes: proof.proof.
-/
import Derived.Test.YtbglblamoodocaaDoorPath
namespace Go.Proofs.YtbglblamoodocaaDoor
open Go Go.RowKit
attribute [local irreducible] sha
def prfH (l : List Hs) (m : Nat) (whole : Bool) : List Hs := Tree.prf nodeH nilH l m whole
theorem prfH_len (l : List Hs) (m : Nat) (whole : Bool) (h1 : 1 ≤ m) (h : m ≤ l.length) : (prfH l m whole).length ≤ l.length + 1 := by
  unfold prfH; rw [Tree.prf_len nodeH nilH _ l m whole (Nat.le_refl _) h1 h]; exact Tree.deep2_le l.length m l.length whole h1 h (Nat.le_of_lt Nat.lt_two_pow_self)
set_option maxRecDepth 100000 in
set_option maxHeartbeats 4000000 in
theorem prf_aux (N : Nat) : ∀ (w : World) (ao : Option Addr) (cp : Nat) (l : List Hs) (m : Nat) (whole : Bool), l.length < N → 1 ≤ m → m ≤ l.length → Laid w → Hts w ao l → l.length ≤ cp → cp ≤ maxLen → l.length ≤ 1000000 →
    Calls Tryd.prog 46 #[.slice ao l.length cp, .int .i64 m, .bool whole] w fun e w' => ∃ v, e = .returned v ∧ OwnH w.heap.size w w' v (prfH l m whole) := by
  induction N with
  | zero => intro w ao cp l m whole hN; omega
  | succ N ih =>
    intro w ao cp l m whole hN hm1 hml hL hB hc hm hbig
    have hm0 : cp ≤ 9223372036854775807 := hm
    obtain ⟨i0, hi, hz0, hz1, hz2⟩ := info_parts infoHs
    obtain ⟨r, hr⟩ : ∃ r, r = w.heap.size := ⟨_, rfl⟩
    have HR := Lib.hid hr
    have hr0 : w.heap.size ≤ r := by omega
    have HR0 := Lib.hid hr0
    clear hr hr0
    by_cases h1 : m = l.length
    · have hd : ((m : Int) == (l.length : Int)) = true := by rw [beq_iff_eq]; omega
      have hp : prfH l m whole = if whole then [] else [rootH l] := Tree.prf_end nodeH nilH h1
      clear ih
      cases whole with
      | true =>
        have hp' : prfH l m true = [] := hp
        rw [hp']
        clear hp hp'
        subst h1
        go_enter Tryd.func46, Tryd.ntmps46
        go_wp2
        go_ret
        exact ⟨_, rfl, Own.nil _ _ _ rfl⟩
      | false =>
        have hp' : prfH l m false = [rootH l] := hp
        rw [hp']
        clear hp hp'
        subst h1
        have c2 := root_any w ao cp l hL hB hc hm
        obtain ⟨u, hu⟩ : ∃ u, u = rootH l := ⟨_, rfl⟩
        rw [← hu] at c2 ⊢
        have hul := u.2
        clear hu
        go_enter Tryd.func46, Tryd.ntmps46
        go_wp2_with fail
        refine c2.mono ?_
        rintro e w3 ⟨rfl, G3⟩
        clear c2
        have O4 : OwnH w.heap.size w (w3.alloc (.cells (u.1.map b8).toArray 28)) (.slice (some ⟨w3.heap.size, 0, none⟩) 1 1) [u] := by
          have h1 := Own.made G3 G3.size 28 32 1 (u.1.map b8) (by simp [hul]) (by decide)
          unfold OwnH
          rw [flat_one]; exact h1
        have HO := Lib.hid O4
        clear O4
        go_wp2_with (refine wpList_build_one rfl u.1 hul _ rfl rfl ?_)
        go_ret
        exact ⟨_, rfl, HO.out⟩
    · have hd : ((m : Int) == (l.length : Int)) = false := by rw [beq_eq_false_iff_ne]; omega
      have hk1 := Tree.split_lt (n := l.length) (by omega)
      have hk0 := Tree.split_pos (n := l.length) (by omega)
      have hsp := split_any w (l.length : Int) (by omega) (by omega)
      rw [Int.toNat_natCast] at hsp
      by_cases hmk : m ≤ Tree.split l.length
      · have hpath : prfH l m whole = prfH (l.take (Tree.split l.length)) m whole ++ [rootH (l.drop (Tree.split l.length))] := Tree.prf_lo nodeH nilH hm1 (by omega) hmk
        obtain ⟨k, hk⟩ : ∃ k, k = Tree.split l.length := ⟨_, rfl⟩
        rw [← hk] at hk1 hk0 hpath hsp hmk
        have hd2 : decide ((m : Int) ≤ (k : Int)) = true := by rw [decide_eq_true_eq]; omega
        obtain ⟨a6, hs6, -, ht6⟩ := run_upto_hts (P := Tryd.prog) (t := 32) (by kernel_rfl) hi ao l.length cp k (by omega)
        obtain ⟨a7, hs7, ht7⟩ := run_from_hts (P := Tryd.prog) (t := 32) (by kernel_rfl) hi hz1 ao l.length cp k (by omega) hc
        have hl1 : (l.take k).length = k := by rw [List.length_take]; omega
        have hl2 : (l.drop k).length = l.length - k := List.length_drop
        have HI := Lib.hid ih
        have HL := Lib.hid (And.intro hl1 hl2)
        have HT := Lib.hid hpath
        clear hl1 hl2 hpath ih hk h1
        go_enter Tryd.func46, Tryd.ntmps46
        go_wp2_with fail
        refine hsp.mono ?_
        rintro e w' ⟨rfl, hw'⟩
        rw [hw']
        clear hsp hw'
        clear w'
        go_upto_region 7 with (fail)
        refine wp_region_N (fun _ => True) [] (by kernel_rfl) ?_
        obtain ⟨wd, hwd⟩ : ∃ wd, wd = w.drew := ⟨_, rfl⟩
        have F1 : Below r w wd := by rw [hwd]; exact (Below.refl _ _).drew
        have hs1 : r ≤ wd.heap.size := by rw [hwd, HR.out]; exact Nat.le_refl _
        rw [← hwd]
        clear hwd
        refine wpAnyN_pureG 0 22 (v := ?_) rfl rfl (by kernel_rfl) (by kernel_rfl) (by kernel_rfl) (fun _ _ _ h => h) rfl (fun w => ?_) ?_
        rotate_left
        · go_simp
          try with_reducible rfl
        refine wpAnyN_pureG 1 23 (v := ?_) rfl rfl (by kernel_rfl) (by kernel_rfl) (by kernel_rfl) (fun _ _ _ h => h) rfl (fun w => ?_) ?_
        rotate_left
        · go_simp
          try with_reducible rfl
        refine wpAnyN_pureG 2 24 (v := ?_) rfl rfl (by kernel_rfl) (by kernel_rfl) (by kernel_rfl) (fun _ _ _ h => h) rfl (fun w => ?_) ?_
        rotate_left
        · go_simp
          try with_reducible rfl
        refine wpAnyN_pureG 3 25 (v := ?_) rfl rfl (by kernel_rfl) (by kernel_rfl) (by kernel_rfl) (fun _ _ _ h => h) rfl (fun w => ?_) ?_
        rotate_left
        · go_simp
          try with_reducible rfl
        refine wpAnyN_pureG 4 26 (v := ?_) rfl rfl (by kernel_rfl) (by kernel_rfl) (by kernel_rfl) (fun _ _ _ h => h) rfl (fun w => ?_) ?_
        rotate_left
        · go_simp
          try with_reducible rfl
        refine wpAnyN_pureG 6 28 (v := ?_) rfl rfl (by kernel_rfl) (by kernel_rfl) (by kernel_rfl) (fun _ _ _ h => h) rfl (fun w => ?_) ?_
        rotate_left
        · go_simp
          try with_reducible rfl
        refine wpAnyN_pureG 7 29 (v := ?_) rfl rfl (by kernel_rfl) (by kernel_rfl) (by kernel_rfl) (fun _ _ _ h => h) rfl (fun w => ?_) ?_
        rotate_left
        · go_simp
          try with_reducible rfl
        refine wpAnyN_pureG 8 30 (v := ?_) rfl rfl (by kernel_rfl) (by kernel_rfl) (by kernel_rfl) (fun _ _ _ h => h) rfl (fun w => ?_) ?_
        rotate_left
        · go_simp
          try with_reducible rfl
        have c1 := HI.out wd a6 cp (l.take k) m whole (by have := HL.out.1; omega) hm1 (by have := HL.out.1; omega) (hL.below F1 HR0.out) (ht6 wd l (hB.below F1 HR0.out)) (by have := HL.out.1; omega) hm (by have := HL.out.1; omega)
        rw [HL.out.1] at c1
        simp only [Act.put, List.setIfInBounds_toArray, List.set_cons_succ, List.set_cons_zero]
        refine wpAnyN_call 5 46 (some 27) [.tmp 24, .tmp 25, .tmp 26] [.slice a6 k cp, .int .i64 m, .bool whole] (by kernel_rfl) rfl rfl rfl rfl (by go_simp) Tryd.call46 ?_
        refine c1.mono ?_
        rintro e w2 ⟨v2, rfl, O2⟩
        replace O2 := O2.base F1 hs1
        refine ⟨_, rfl, fun _ _ => trivial, ?_⟩
        clear c1 F1 hs1
        clear wd
        have c2 := root_any w2 a7 (cp - k) (l.drop k) (hL.below O2.bel HR0.out) (ht7 w2 l rfl (hB.below O2.bel HR0.out)) (by have := HL.out; omega) (by simp only [maxLen]; omega)
        rw [HL.out.2] at c2
        refine wpAnyN_call 9 24 (some 31) [.tmp 30] [.slice a7 (l.length - k) (cp - k)] (by kernel_rfl) rfl rfl rfl rfl (by go_simp) Tryd.call24 ?_
        refine c2.mono ?_
        rintro e w3 ⟨rfl, G3⟩
        have O3 := Own.below O2 G3
        refine ⟨_, rfl, fun _ _ => trivial, ?_⟩
        clear c2 O2 G3
        clear w2
        obtain ⟨u, hu⟩ : ∃ u, u = rootH (l.drop k) := ⟨_, rfl⟩
        rw [← hu]
        have hul := u.2
        have HU := Lib.hid hu
        clear hu
        obtain ⟨q, hq⟩ : ∃ q, q = prfH (l.take k) m whole := ⟨_, rfl⟩
        rw [← hq] at O3
        have hql : q.length ≤ 1000000 := by rw [hq]; exact Nat.le_trans (prfH_len _ _ _ hm1 (by have := HL.out; omega)) (by have := HL.out; omega)
        have HQ := Lib.hid hq
        clear hq
        refine wpAnyN_run 10 (some 32) (v := .slice (some ⟨w3.heap.size, 0, none⟩) 1 1) (w' := w3.alloc (.cells (u.1.map b8).toArray 28)) (by kernel_rfl) rfl rfl rfl (run_build_one w3 u.1 hul _ _ (.tmp 31) rfl rfl) ⟨fun _ _ => trivial, ?_⟩
        refine wpAnyN_append 11 (some 33) (.tmp 27) (.tmp 32) 32 32 (by kernel_rfl) rfl rfl rfl rfl 28 i0 (.agg zero32) 32 32 (by kernel_rfl) hi hz0 hz1 hz2 rfl (by decide) (O3.row.alloc _) rfl (src_one w3 u) rfl (by simp only [maxLen]; omega) (by omega) ?_
        intro v4 w4 hrow4 hg4 hv4
        have O4 := OwnH.push O3 _ hrow4 hg4 (by rw [alloc_size] at hv4; exact hv4)
        refine ⟨fun _ _ => trivial, ?_⟩
        clear hrow4 hg4 hv4 O3
        generalize w3.heap.size = gz
        refine wpAnyN_pureG 12 6 (v := ?_) rfl rfl (by kernel_rfl) (by kernel_rfl) (by kernel_rfl) (fun _ _ _ h => h) rfl (fun w => ?_) ?_
        rotate_left
        · go_simp
          try with_reducible rfl
        refine wpAnyN_done (by kernel_rfl) ?_
        simp only [Act.put, List.setIfInBounds_toArray, List.set_cons_succ, List.set_cons_zero]
        rw [HU.out, HQ.out, ← HT.out, HR.out] at O4
        go_wp2
        go_ret
        exact ⟨_, rfl, O4⟩
      · have hpath : prfH l m whole = prfH (l.drop (Tree.split l.length)) (m - Tree.split l.length) false ++ [rootH (l.take (Tree.split l.length))] := Tree.prf_hi nodeH nilH hm1 (by omega) (by omega)
        obtain ⟨k, hk⟩ : ∃ k, k = Tree.split l.length := ⟨_, rfl⟩
        rw [← hk] at hk1 hk0 hpath hsp hmk
        have hd2 : decide ((m : Int) ≤ (k : Int)) = false := by rw [decide_eq_false_iff_not]; omega
        obtain ⟨d, hdd⟩ : ∃ d, d = m - k := ⟨_, rfl⟩
        have q1 : IntKind.i64.wrap ((m : Int) - k) = (d : Int) := by rw [show (m : Int) - k = d by omega]; exact IntWalk.i64_in _ (by omega)
        rw [← hdd] at hpath
        obtain ⟨a6, hs6, -, ht6⟩ := run_upto_hts (P := Tryd.prog) (t := 32) (by kernel_rfl) hi ao l.length cp k (by omega)
        obtain ⟨a7, hs7, ht7⟩ := run_from_hts (P := Tryd.prog) (t := 32) (by kernel_rfl) hi hz1 ao l.length cp k (by omega) hc
        have hl1 : (l.take k).length = k := by rw [List.length_take]; omega
        have hl2 : (l.drop k).length = l.length - k := List.length_drop
        have HI := Lib.hid ih
        have HL := Lib.hid (And.intro hl1 (And.intro hl2 hdd))
        have HT := Lib.hid hpath
        clear hl1 hl2 hpath ih hk h1 hdd
        go_enter Tryd.func46, Tryd.ntmps46
        go_wp2_with fail
        refine hsp.mono ?_
        rintro e w' ⟨rfl, hw'⟩
        rw [hw']
        clear hsp hw'
        clear w'
        go_upto_region 8 with (fail)
        refine wp_region_N (fun _ => True) [] (by kernel_rfl) ?_
        obtain ⟨wd, hwd⟩ : ∃ wd, wd = w.drew := ⟨_, rfl⟩
        have F1 : Below r w wd := by rw [hwd]; exact (Below.refl _ _).drew
        have hs1 : r ≤ wd.heap.size := by rw [hwd, HR.out]; exact Nat.le_refl _
        rw [← hwd]
        clear hwd
        refine wpAnyN_pureG 0 34 (v := ?_) rfl rfl (by kernel_rfl) (by kernel_rfl) (by kernel_rfl) (fun _ _ _ h => h) rfl (fun w => ?_) ?_
        rotate_left
        · go_simp
          try with_reducible rfl
        refine wpAnyN_pureG 1 35 (v := ?_) rfl rfl (by kernel_rfl) (by kernel_rfl) (by kernel_rfl) (fun _ _ _ h => h) rfl (fun w => ?_) ?_
        rotate_left
        · go_simp
          try with_reducible rfl
        refine wpAnyN_pureG 2 36 (v := ?_) rfl rfl (by kernel_rfl) (by kernel_rfl) (by kernel_rfl) (fun _ _ _ h => h) rfl (fun w => ?_) ?_
        rotate_left
        · go_simp
          try with_reducible rfl
        refine wpAnyN_pureG 3 37 (v := ?_) rfl rfl (by kernel_rfl) (by kernel_rfl) (by kernel_rfl) (fun _ _ _ h => h) rfl (fun w => ?_) ?_
        rotate_left
        · go_simp
          try with_reducible rfl
        refine wpAnyN_pureG 4 38 (v := ?_) rfl rfl (by kernel_rfl) (by kernel_rfl) (by kernel_rfl) (fun _ _ _ h => h) rfl (fun w => ?_) ?_
        rotate_left
        · go_simp
          try with_reducible rfl
        refine wpAnyN_pureG 5 39 (v := .int .i64 d) rfl rfl (by kernel_rfl) (by kernel_rfl) (by kernel_rfl) (fun _ _ _ h => h) rfl (fun w => ?_) ?_
        · go_simp
        refine wpAnyN_pureG 7 41 (v := ?_) rfl rfl (by kernel_rfl) (by kernel_rfl) (by kernel_rfl) (fun _ _ _ h => h) rfl (fun w => ?_) ?_
        rotate_left
        · go_simp
          try with_reducible rfl
        refine wpAnyN_pureG 8 42 (v := ?_) rfl rfl (by kernel_rfl) (by kernel_rfl) (by kernel_rfl) (fun _ _ _ h => h) rfl (fun w => ?_) ?_
        rotate_left
        · go_simp
          try with_reducible rfl
        refine wpAnyN_pureG 9 43 (v := ?_) rfl rfl (by kernel_rfl) (by kernel_rfl) (by kernel_rfl) (fun _ _ _ h => h) rfl (fun w => ?_) ?_
        rotate_left
        · go_simp
          try with_reducible rfl
        have c1 := HI.out wd a7 (cp - k) (l.drop k) d false (by have := HL.out; omega) (by have := HL.out; omega) (by have := HL.out; omega) (hL.below F1 HR0.out) (ht7 wd l rfl (hB.below F1 HR0.out)) (by have := HL.out; omega) (by simp only [maxLen]; omega) (by have := HL.out; omega)
        rw [HL.out.2.1] at c1
        simp only [Act.put, List.setIfInBounds_toArray, List.set_cons_succ, List.set_cons_zero]
        refine wpAnyN_call 6 46 (some 40) [.tmp 36, .tmp 39, .const (.bool false)] [.slice a7 (l.length - k) (cp - k), .int .i64 d, .bool false] (by kernel_rfl) rfl rfl rfl rfl (by go_simp) Tryd.call46 ?_
        refine c1.mono ?_
        rintro e w2 ⟨v2, rfl, O2⟩
        replace O2 := O2.base F1 hs1
        refine ⟨_, rfl, fun _ _ => trivial, ?_⟩
        clear c1 F1 hs1
        clear wd
        have c2 := root_any w2 a6 cp (l.take k) (hL.below O2.bel HR0.out) (ht6 w2 l (hB.below O2.bel HR0.out)) (by have := HL.out; omega) (by simp only [maxLen]; omega)
        rw [HL.out.1] at c2
        refine wpAnyN_call 10 24 (some 44) [.tmp 43] [.slice a6 k cp] (by kernel_rfl) rfl rfl rfl rfl (by go_simp) Tryd.call24 ?_
        refine c2.mono ?_
        rintro e w3 ⟨rfl, G3⟩
        have O3 := Own.below O2 G3
        refine ⟨_, rfl, fun _ _ => trivial, ?_⟩
        clear c2 O2 G3
        clear w2
        obtain ⟨u, hu⟩ : ∃ u, u = rootH (l.take k) := ⟨_, rfl⟩
        rw [← hu]
        have hul := u.2
        have HU := Lib.hid hu
        clear hu
        obtain ⟨q, hq⟩ : ∃ q, q = prfH (l.drop k) d false := ⟨_, rfl⟩
        rw [← hq] at O3
        have hql : q.length ≤ 1000000 := by rw [hq]; exact Nat.le_trans (prfH_len _ _ _ (by have := HL.out; omega) (by have := HL.out; omega)) (by have := HL.out; omega)
        have HQ := Lib.hid hq
        clear hq
        refine wpAnyN_run 11 (some 45) (v := .slice (some ⟨w3.heap.size, 0, none⟩) 1 1) (w' := w3.alloc (.cells (u.1.map b8).toArray 28)) (by kernel_rfl) rfl rfl rfl (run_build_one w3 u.1 hul _ _ (.tmp 44) rfl rfl) ⟨fun _ _ => trivial, ?_⟩
        refine wpAnyN_append 12 (some 46) (.tmp 40) (.tmp 45) 32 32 (by kernel_rfl) rfl rfl rfl rfl 28 i0 (.agg zero32) 32 32 (by kernel_rfl) hi hz0 hz1 hz2 rfl (by decide) (O3.row.alloc _) rfl (src_one w3 u) rfl (by simp only [maxLen]; omega) (by omega) ?_
        intro v4 w4 hrow4 hg4 hv4
        have O4 := OwnH.push O3 _ hrow4 hg4 (by rw [alloc_size] at hv4; exact hv4)
        refine ⟨fun _ _ => trivial, ?_⟩
        clear hrow4 hg4 hv4 O3
        generalize w3.heap.size = gz
        refine wpAnyN_pureG 13 6 (v := ?_) rfl rfl (by kernel_rfl) (by kernel_rfl) (by kernel_rfl) (fun _ _ _ h => h) rfl (fun w => ?_) ?_
        rotate_left
        · go_simp
          try with_reducible rfl
        refine wpAnyN_done (by kernel_rfl) ?_
        simp only [Act.put, List.setIfInBounds_toArray, List.set_cons_succ, List.set_cons_zero]
        rw [HU.out, HQ.out, ← HT.out, HR.out] at O4
        go_wp2
        go_ret
        exact ⟨_, rfl, O4⟩
end Go.Proofs.YtbglblamoodocaaDoor
