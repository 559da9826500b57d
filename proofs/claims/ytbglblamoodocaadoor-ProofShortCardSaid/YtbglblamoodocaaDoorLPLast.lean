/-
  The walk of the statement ProofLast.
-/
import Derived.Test.YtbglblamoodocaaDoorAwake18
import Derived.Test.YtbglblamoodocaaDoorRefRoot
namespace Go.Proofs.YtbglblamoodocaaDoor
open Go Go.RowKit
attribute [local irreducible] sha
theorem pathOut_nat (l : List Hs) (i : Nat) (h : i < l.length) : pathOut l (i : Int) = pathH l i := by
  unfold pathOut; rw [if_pos (by omega), Int.toNat_natCast]
set_option maxRecDepth 100000 in
set_option maxHeartbeats 4000000 in
theorem plast_any (w : World) (hL : Laid w) (ao : Option Addr) (cp : Nat) (l : List Hs) (hB : Hts w ao l) (hc : l.length ≤ cp) (hm : cp ≤ maxLen) (n : Int) (hn0 : 0 ≤ n) (hn1 : n ≤ 255) :
    Calls Tryd.prog 9 #[.slice ao l.length cp, .int .u8 n] w fun e w' => e = .returned (.bool true) ∧ Below w.heap.size w w' := by
  have hl9 : l.length ≤ 9223372036854775807 := Nat.le_trans hc hm
  have hm0 : cp ≤ 9223372036854775807 := hm
  by_cases hlen : l.length ≤ 80
  · have hd : decide ((80 : Int) < (l.length : Int)) = false := by rw [decide_eq_false_iff_not]; omega
    by_cases hl2 : l.length < 2
    · have hd1 : decide ((l.length : Int) < 2) = true := by rw [decide_eq_true_eq]; omega
      go_enter Tryd.func9, Tryd.ntmps9
      go_wp2_with fail
      refine (awake18_any w hL).mono ?_
      rintro e w1 ⟨rfl, F1⟩
      go_wp2_with fail
      refine (awake18_any w1 (hL.below F1 (Nat.le_refl _))).mono ?_
      rintro e w2 ⟨rfl, GF2⟩
      have F2 := Below.then F1 GF2
      go_wp2_with fail
      go_ret
      exact ⟨rfl, F2⟩
    · have hd1 : decide ((l.length : Int) < 2) = false := by rw [decide_eq_false_iff_not]; omega
      have q1 : IntKind.i64.wrap n = n := IntWalk.i64_in _ (by omega)
      obtain ⟨i, hiv, hil⟩ : ∃ i : Nat, n % (l.length : Int) = (i : Int) ∧ i < l.length := by
        have h1 := Int.emod_nonneg n (show (l.length : Int) ≠ 0 by omega)
        have h2 := Int.emod_lt_of_pos n (show 0 < (l.length : Int) by omega)
        exact ⟨(n % (l.length : Int)).toNat, by omega, by omega⟩
      have qi : IntKind.i64.wrap (i : Int) = i := IntWalk.i64_in _ (by omega)
      obtain ⟨i0, hi, hz0, hz1, hz2⟩ := info_parts infoHs
      have hk1 := Tree.split_lt (n := l.length) (by omega)
      have hk0 := Tree.split_pos (n := l.length) (by omega)
      obtain ⟨k, hk⟩ : ∃ k, k = Tree.split l.length := ⟨_, rfl⟩
      have HK := Lib.hid hk
      rw [← hk] at hk1 hk0
      clear hk
      obtain ⟨a6, hs6, -, ht6⟩ := run_upto_hts (P := Tryd.prog) (t := 32) (by kernel_rfl) hi ao l.length cp k (by omega)
      obtain ⟨a7, hs7, ht7⟩ := run_from_hts (P := Tryd.prog) (t := 32) (by kernel_rfl) hi hz1 ao l.length cp k (by omega) hc
      have hl1 : (l.take k).length = k := by rw [List.length_take]; omega
      have hl3 : (l.drop k).length = l.length - k := List.length_drop
      have HL := Lib.hid (And.intro hl1 hl3)
      clear hl1 hl3
      obtain ⟨q, hq⟩ : ∃ q, q = pathOut l (i : Int) := ⟨_, rfl⟩
      have hqp : q = pathH l i := by rw [hq]; exact pathOut_nat l i hil
      have hql : q.length ≤ 100 := by rw [hqp]; exact Nat.le_trans (pathH_len l i hil) (by omega)
      have HQ0 := Lib.hid (And.intro hq hqp)
      clear hq hqp
      go_enter Tryd.func9, Tryd.ntmps9
      go_wp2_with fail
      refine (awake18_any w hL).mono ?_
      rintro e w1 ⟨rfl, F1⟩
      have hsp := refsplit_any w1 (l.length : Int) (by omega) (by omega)
      rw [Int.toNat_natCast, ← HK.out] at hsp
      go_wp2_with fail
      refine hsp.mono ?_
      rintro e w2 ⟨rfl, hw2⟩
      rw [hw2]
      clear hsp hw2
      clear w2
      have c1 := paths_any w1 ao cp l (i : Int) (hL.below F1 (Nat.le_refl _)) (hB.below F1 (Nat.le_refl _)) hc hm (by omega)
      rw [← HQ0.out.1] at c1
      obtain ⟨E, hE⟩ : ∃ E, E = pathErr l (i : Int) := ⟨_, rfl⟩
      rw [← hE] at c1
      clear hE
      go_wp2_with fail
      refine c1.mono ?_
      rintro e w3 ⟨v3, rfl, O3⟩
      have F3 := Below.then F1 O3.bel
      have R3 := O3.row
      obtain ⟨a2, c2, rfl⟩ := R3.shape
      clear c1 O3 F1
      clear w1
      by_cases hik : i < k
      · have hd2 : decide ((i : Int) < (k : Int)) = true := by rw [decide_eq_true_eq]; omega
        obtain ⟨q2, hq2⟩ : ∃ q2, q2 = pathOut (l.take k) (i : Int) := ⟨_, rfl⟩
        have hq2p : q2 = pathH (l.take k) i := by rw [hq2]; exact pathOut_nat _ i (by rw [HL.out.1]; exact hik)
        have hql2 : q2.length ≤ 100 := by rw [hq2p]; exact Nat.le_trans (pathH_len _ i (by rw [HL.out.1]; exact hik)) (by have := HL.out.1; omega)
        have hqq : q = q2 ++ [rootH (l.drop k)] := by
          rw [HQ0.out.2, hq2p]
          have := Tree.path_lo nodeH nilH (l := l) (m := i) (by omega) (by rw [← HK.out]; exact hik)
          rw [← HK.out] at this; exact this
        have HQ := Lib.hid (And.intro trivial (And.intro hq2 hqq))
        clear hq2 hq2p hqq
        go_wp2_with fail
        have c3 := paths_any w3 a6 cp (l.take k) (i : Int) (hL.below F3 (Nat.le_refl _)) (ht6 w3 l (hB.below F3 (Nat.le_refl _))) (by have := HL.out; omega) hm (by have := HL.out; omega)
        rw [HL.out.1, ← HQ.out.2.1] at c3
        obtain ⟨E2, hE2⟩ : ∃ E2, E2 = pathErr (l.take k) (i : Int) := ⟨_, rfl⟩
        rw [← hE2] at c3
        clear hE2
        refine c3.mono ?_
        rintro e w4 ⟨v4, rfl, O4⟩
        have F4 := Below.then F3 O4.bel
        clear c3
        obtain ⟨a4, c4, rfl⟩ := O4.row.shape
        go_wp2_with fail
        have c5 := refroot_any w4 a7 (cp - k) (l.drop k) (hL.below F4 (Nat.le_refl _)) (ht7 w4 l rfl (hB.below F4 (Nat.le_refl _))) (by have := HL.out; omega) (by simp only [maxLen]; omega)
        rw [HL.out.2] at c5
        refine c5.mono ?_
        rintro e w5 ⟨rfl, G5⟩
        obtain ⟨u, hu⟩ : ∃ u, u = rootH (l.drop k) := ⟨_, rfl⟩
        rw [← hu]
        have hul := u.2
        have HU := Lib.hid hu
        have O5 := Own.below O4 G5
        have hn1 : q2.length + 1 ≤ maxLen := by simp only [maxLen]; omega
        have hn2 : (q2.length + 1) * 32 ≤ 140737488355328 := by omega
        clear c5 O4 G5 F4 hu
        clear w4
        go_wp2_with (first | (refine wpList_build_one rfl u.1 hul _ rfl rfl ?_) | (at_builtin; refine wpList_append_row rfl _ _ 32 32 rfl 28 i0 (.agg zero32) 32 32 (by kernel_rfl) hi hz0 hz1 hz2 rfl (by decide) (O5.row.alloc _) rfl (src_one w5 u) rfl hn1 hn2 ?_))
        intro v6 w6 hrow6 hg6 hv6
        obtain ⟨a6', c6', rfl⟩ := hrow6.shape
        obtain ⟨q3, hq3⟩ : ∃ q3, q3 = q2 ++ [u] := ⟨_, rfl⟩
        have hql3 : q3.length = q2.length + 1 := by rw [hq3]; simp
        have O6 : OwnH w3.heap.size w3 w6 (.slice a6' (q2.length + 1) c6') q3 := by
          have := OwnH.push O5 (.cells (u.1.map b8).toArray 28) hrow6 hg6 (by first | exact hv6 | (rw [alloc_size] at hv6; exact hv6))
          rw [hq3]; exact this
        have HQ3 := Lib.hid (And.intro hq3 hql3)
        have R6 := R3.below O6.bel (fun g e => R3.lt g e)
        have F6 := Below.then F3 O6.bel
        clear hrow6 hg6 hv6 O5 hq3 hql3
        obtain ⟨a7', c7', e7, -, -, -, hY6⟩ := O6.row.hts
        injection e7 with e71 e72 e73
        rw [← e71] at hY6
        clear e71 e72 e73
        obtain ⟨a8', c8', e8, -, -, -, hX6⟩ := R6.hts
        cases e8
        clear O6 R6 R3 F3
        go_wp2_with fail
        have c6 := same_any w6 a2 a6' c2 c6' q q3 hX6 hY6 (by omega) (by have := HQ3.out.2; omega)
        rw [show decide (q = q3) = true by rw [decide_eq_true_eq, HQ.out.2.2, HQ3.out.1, HU.out], HQ3.out.2] at c6
        refine c6.mono ?_
        rintro e w7 ⟨rfl, G7⟩
        have F7 := Below.then F6 G7
        clear c6 F6 G7 hX6 hY6
        clear w6
        go_wp2
        go_ret
        exact ⟨rfl, F7⟩
      · have hd2 : decide (i < k) = false := by rw [decide_eq_false_iff_not]; omega
        obtain ⟨d, hdd⟩ : ∃ d, d = i - k := ⟨_, rfl⟩
        have q2' : IntKind.i64.wrap ((i : Int) - k) = (d : Int) := by rw [show (i : Int) - k = d by omega]; exact IntWalk.i64_in _ (by omega)
        have hdl : d < (l.drop k).length := by rw [HL.out.2]; omega
        obtain ⟨q2, hq2⟩ : ∃ q2, q2 = pathOut (l.drop k) (d : Int) := ⟨_, rfl⟩
        have hq2p : q2 = pathH (l.drop k) d := by rw [hq2]; exact pathOut_nat _ d hdl
        have hql2 : q2.length ≤ 100 := by rw [hq2p]; exact Nat.le_trans (pathH_len _ d hdl) (by have := HL.out.2; omega)
        have hqq : q = q2 ++ [rootH (l.take k)] := by
          rw [HQ0.out.2, hq2p, hdd]
          have := Tree.path_hi nodeH nilH (l := l) (m := i) (by omega) (by rw [← HK.out]; omega)
          rw [← HK.out] at this; exact this
        have HQ := Lib.hid (And.intro hdd (And.intro hq2 hqq))
        clear hq2 hq2p hqq hdd hdl
        go_wp2_with fail
        have c3 := paths_any w3 a7 (cp - k) (l.drop k) (d : Int) (hL.below F3 (Nat.le_refl _)) (ht7 w3 l rfl (hB.below F3 (Nat.le_refl _))) (by have := HL.out; omega) (by simp only [maxLen]; omega) (by have := HL.out; omega)
        rw [HL.out.2, ← HQ.out.2.1] at c3
        obtain ⟨E2, hE2⟩ : ∃ E2, E2 = pathErr (l.drop k) (d : Int) := ⟨_, rfl⟩
        rw [← hE2] at c3
        clear hE2
        refine c3.mono ?_
        rintro e w4 ⟨v4, rfl, O4⟩
        have F4 := Below.then F3 O4.bel
        clear c3
        obtain ⟨a4, c4, rfl⟩ := O4.row.shape
        go_wp2_with fail
        have c5 := refroot_any w4 a6 cp (l.take k) (hL.below F4 (Nat.le_refl _)) (ht6 w4 l (hB.below F4 (Nat.le_refl _))) (by have := HL.out; omega) (by simp only [maxLen]; omega)
        rw [HL.out.1] at c5
        refine c5.mono ?_
        rintro e w5 ⟨rfl, G5⟩
        obtain ⟨u, hu⟩ : ∃ u, u = rootH (l.take k) := ⟨_, rfl⟩
        rw [← hu]
        have hul := u.2
        have HU := Lib.hid hu
        have O5 := Own.below O4 G5
        have hn1 : q2.length + 1 ≤ maxLen := by simp only [maxLen]; omega
        have hn2 : (q2.length + 1) * 32 ≤ 140737488355328 := by omega
        clear c5 O4 G5 F4 hu
        clear w4
        go_wp2_with (first | (refine wpList_build_one rfl u.1 hul _ rfl rfl ?_) | (at_builtin; refine wpList_append_row rfl _ _ 32 32 rfl 28 i0 (.agg zero32) 32 32 (by kernel_rfl) hi hz0 hz1 hz2 rfl (by decide) (O5.row.alloc _) rfl (src_one w5 u) rfl hn1 hn2 ?_))
        intro v6 w6 hrow6 hg6 hv6
        obtain ⟨a6', c6', rfl⟩ := hrow6.shape
        obtain ⟨q3, hq3⟩ : ∃ q3, q3 = q2 ++ [u] := ⟨_, rfl⟩
        have hql3 : q3.length = q2.length + 1 := by rw [hq3]; simp
        have O6 : OwnH w3.heap.size w3 w6 (.slice a6' (q2.length + 1) c6') q3 := by
          have := OwnH.push O5 (.cells (u.1.map b8).toArray 28) hrow6 hg6 (by first | exact hv6 | (rw [alloc_size] at hv6; exact hv6))
          rw [hq3]; exact this
        have HQ3 := Lib.hid (And.intro hq3 hql3)
        have R6 := R3.below O6.bel (fun g e => R3.lt g e)
        have F6 := Below.then F3 O6.bel
        clear hrow6 hg6 hv6 O5 hq3 hql3
        obtain ⟨a7', c7', e7, -, -, -, hY6⟩ := O6.row.hts
        injection e7 with e71 e72 e73
        rw [← e71] at hY6
        clear e71 e72 e73
        obtain ⟨a8', c8', e8, -, -, -, hX6⟩ := R6.hts
        cases e8
        clear O6 R6 R3 F3
        go_wp2_with fail
        have c6 := same_any w6 a2 a6' c2 c6' q q3 hX6 hY6 (by omega) (by have := HQ3.out.2; omega)
        rw [show decide (q = q3) = true by rw [decide_eq_true_eq, HQ.out.2.2, HQ3.out.1, HU.out], HQ3.out.2] at c6
        refine c6.mono ?_
        rintro e w7 ⟨rfl, G7⟩
        have F7 := Below.then F6 G7
        clear c6 F6 G7 hX6 hY6
        clear w6
        go_wp2
        go_ret
        exact ⟨rfl, F7⟩
  · have hd : decide ((80 : Int) < (l.length : Int)) = true := by rw [decide_eq_true_eq]; omega
    go_enter Tryd.func9, Tryd.ntmps9
    go_wp2_with fail
    refine (awake18_any w hL).mono ?_
    rintro e w1 ⟨rfl, F1⟩
    go_wp2_with fail
    refine (awake18_any w1 (hL.below F1 (Nat.le_refl _))).mono ?_
    rintro e w2 ⟨rfl, GF2⟩
    have F2 := Below.then F1 GF2
    go_wp2_with fail
    go_ret
    exact ⟨rfl, F2⟩
end Go.Proofs.YtbglblamoodocaaDoor
