/-
  The walk of the statement ProofShort.
-/
import Derived.Test.YtbglblamoodocaaDoorLPOwn
namespace Go.Proofs.YtbglblamoodocaaDoor
open Go Go.RowKit
attribute [local irreducible] sha
set_option maxRecDepth 100000 in
set_option maxHeartbeats 4000000 in
theorem pshort_any (w : World) (hL : Laid w) (ao : Option Addr) (cp : Nat) (l : List Hs) (hB : Hts w ao l) (hc : l.length ≤ cp) (hm : cp ≤ maxLen) (n : Int) (hn0 : 0 ≤ n) (hn1 : n ≤ 255) :
    Calls Tryd.prog 11 #[.slice ao l.length cp, .int .u8 n] w fun e w' => e = .returned (.bool true) ∧ Below w.heap.size w w' := by
  have hl9 : l.length ≤ 9223372036854775807 := Nat.le_trans hc hm
  have hm0 : cp ≤ 9223372036854775807 := hm
  by_cases hlen : l.length ≤ 80
  · have hd : decide ((80 : Int) < (l.length : Int)) = false := by rw [decide_eq_false_iff_not]; omega
    by_cases hl0 : l.length = 0
    · have hd1 : ((l.length : Int) == 0) = true := by rw [beq_iff_eq]; omega
      go_enter Tryd.func11, Tryd.ntmps11
      go_wp2_with fail
      refine (awake18_any w hL).mono ?_
      rintro e w1 ⟨rfl, F1⟩
      go_wp2_with fail
      refine (awake18_any w1 (hL.below F1 (Nat.le_refl _))).mono ?_
      rintro e w2 ⟨rfl, GF2⟩
      have F2 := Below.then F1 GF2
      go_wp2_with fail
      go_ret
      exact ⟨rfl, F2⟩
    · have hd1 : ((l.length : Int) == 0) = false := by rw [beq_eq_false_iff_ne]; omega
      obtain ⟨i0, hi, hz0, hz1, hz2⟩ := info_parts infoHs
      obtain ⟨r, hr⟩ : ∃ r, r = w.heap.size := ⟨_, rfl⟩
      have HR := Lib.hid hr
      have hr0 : w.heap.size ≤ r := by omega
      have HR0 := Lib.hid hr0
      clear hr hr0
      have q1 : IntKind.i64.wrap n = n := IntWalk.i64_in _ (by omega)
      have q2 : IntKind.i64.wrap ((l.length : Int) - 1) = ((l.length - 1 : Nat) : Int) := by rw [show (l.length : Int) - 1 = ((l.length - 1 : Nat) : Int) by omega]; exact IntWalk.i64_in _ (by omega)
      obtain ⟨M, hM⟩ : ∃ M, M = l.length - 1 := ⟨_, rfl⟩
      rw [← hM] at q2
      obtain ⟨k, hkv, hkl⟩ : ∃ k : Nat, n % (l.length : Int) = (k : Int) ∧ k < l.length := by
        have h1 := Int.emod_nonneg n (show (l.length : Int) ≠ 0 by omega)
        have h2 := Int.emod_lt_of_pos n (show 0 < (l.length : Int) by omega)
        exact ⟨(n % (l.length : Int)).toNat, by omega, by omega⟩
      have q3 : IntKind.i64.wrap (k : Int) = (k : Int) := IntWalk.i64_in _ (by omega)
      have q4 : IntKind.i64.wrap ((k : Int) + 1) = (k : Int) + 1 := IntWalk.i64_in _ (by omega)
      have HM := Lib.hid hM
      clear hM
      go_enter Tryd.func11, Tryd.ntmps11
      go_wp2_with fail
      refine (awake18_any w hL).mono ?_
      rintro e w1 ⟨rfl, F1⟩
      rw [← HR.out] at F1
      have hs1 := F1.size
      rw [← HR.out] at hs1
      have O1 : Own r w w1 28 32 (.slice none 0 0) 0 [] := Own.start _ _ F1 hs1
      have hsrc := (hB.below F1 HR0.out).src l.length cp rfl
      have hl1 : 0 + l.length ≤ maxLen := by simp only [maxLen]; omega
      have hl2 : (0 + l.length) * 32 ≤ 140737488355328 := by omega
      go_wp2_with (at_builtin; refine wpList_append_row rfl _ _ 32 32 rfl 28 i0 (.agg zero32) 32 32 (by kernel_rfl) hi hz0 hz1 hz2 rfl (by decide) O1.row rfl hsrc rfl hl1 hl2 ?_)
      intro v2 w2 hrow2 hg2 hv2
      have O2 : OwnH r w w2 v2 l := OwnH.app (l := []) (k := l) O1 (by simpa [flat_nil] using hrow2) hg2 hv2
      clear hrow2 hg2 hv2 O1 hsrc hl1 hl2 F1 hs1
      clear w1
      obtain ⟨a2, c2, rfl⟩ := O2.row.shape
      have HO2 := Lib.hid O2
      have hM80 : M ≤ 80 := by have := HM.out; omega
      clear O2
      go_wp2
      go_loopg [6, 7] M (fun g b x wr => ∃ (B N : Nat), b = .int .i64 B ∧ x = .int .i64 N ∧ N = M / 2 ^ B ∧ B + N ≤ 80 ∧ g = N ∧ wr = w2)
      case atStart => exact ⟨0, M, rfl, rfl, by simp, by omega, rfl, rfl⟩
      case round =>
        obtain ⟨B, N, rfl, rfl, hN, hBN, hg, hwr⟩ := hrel
        by_cases hq : 0 < N
        · have hdq : decide ((0 : Int) < (N : Int)) = true := by rw [decide_eq_true_eq]; omega
          have q5 : IntKind.i64.wrap ((B : Int) + 1) = (B : Int) + 1 := IntWalk.i64_in _ (by omega)
          have hN2 : N / 2 = M / 2 ^ (B + 1) := by rw [hN, Nat.div_div_eq_div_mul, Nat.pow_succ]
          have q6 : (N : Int) / 2 = ((N / 2 : Nat) : Int) := by omega
          have q7 : IntKind.i64.wrap ((N / 2 : Nat) : Int) = ((N / 2 : Nat) : Int) := IntWalk.i64_in _ (by omega)
          obtain ⟨N2, hN2'⟩ : ∃ N2, N2 = N / 2 := ⟨_, rfl⟩
          rw [← hN2'] at hN2 q6 q7
          have HN := Lib.hid (And.intro hN2 (And.intro hN2' (And.intro hg (And.intro hBN hq))))
          clear hN hN2 hN2' hg hBN hM80
          go_wp2
          go_roundg N2
          case measure => have := HN.out; omega
          case rel => exact ⟨B + 1, N2, by go_num, rfl, HN.out.1, by have := HN.out; omega, rfl, rfl⟩
        · have hN0 : N = 0 := by omega
          have hdq : decide (0 < N) = false := by rw [decide_eq_false_iff_not]; omega
          have hpow : l.length ≤ 2 ^ B := by
            have h1 : M / 2 ^ B = 0 := by omega
            have h2 := (Nat.div_eq_zero_iff).1 h1
            have h3 := Tree.two_pos B
            have h4 := HM.out
            omega
          obtain ⟨q, hqq⟩ : ∃ q, q = pathOut l (k : Int) := ⟨_, rfl⟩
          have hql : q.length ≤ B := by
            rw [hqq, pathOut_nat l k hkl]
            unfold pathH
            rw [Tree.path_len nodeH nilH _ l k (Nat.le_refl _) hkl]
            exact Tree.deep_le B k l.length hpow
          obtain ⟨p, hpp⟩ : ∃ p, p = prfOut l ((k : Int) + 1) := ⟨_, rfl⟩
          have hpl : p.length ≤ B + 1 := by
            rw [hpp]
            unfold prfOut
            rw [if_pos (by omega)]
            unfold prfH
            rw [show ((k : Int) + 1).toNat = k + 1 by omega, Tree.prf_len nodeH nilH _ l (k + 1) true (Nat.le_refl _) (by omega) (by omega)]
            exact Tree.deep2_le B (k + 1) l.length true (by omega) (by omega) hpow
          have hr1 : pathErr l (k : Int) = 0 := by unfold pathErr; rw [if_pos (by omega)]
          have hr2 : prfErr l ((k : Int) + 1) = 0 := by unfold prfErr; rw [if_pos (by omega)]
          have hr3 : prfErr l (l.length : Int) = 0 := by unfold prfErr; rw [if_pos (by omega)]
          have hr4 : prfOut l (l.length : Int) = [] := by
            unfold prfOut
            rw [if_pos (by omega), Int.toNat_natCast]
            exact Tree.prf_end nodeH nilH rfl
          have HQ := Lib.hid (And.intro hqq (And.intro hpp (And.intro hr1 (And.intro hr2 (And.intro hr3 hr4)))))
          clear hqq hpp hr1 hr2 hr3 hr4 hN hpow hM80 hg hq
          have hB80 : B ≤ 80 := by omega
          clear hBN
          rw [hwr]
          clear hwr
          clear wr
          subst hN0
          have O2 := HO2.out
          have F2 := O2.bel
          have hs2 := O2.le
          have R2 := O2.row
          clear O2
          have q8 : IntKind.i64.wrap ((B : Int) + 1) = (B : Int) + 1 := IntWalk.i64_in _ (by omega)
          go_wp2_with fail
          have k1 := paths_any w2 ao cp l (k : Int) (hL.below F2 HR0.out) (hB.below F2 HR0.out) hc hm (by omega)
          rw [← HQ.out.1, HQ.out.2.2.1] at k1
          refine k1.mono ?_
          rintro e w3 ⟨v3, rfl, O3⟩
          obtain ⟨a3, c3, rfl⟩ := O3.row.shape
          have R23 := R2.below O3.bel (fun g e => R2.lt g e)
          have F3 := F2.trans (O3.bel.mono hs2)
          have hs3 : r ≤ w3.heap.size := Nat.le_trans hs2 O3.bel.size
          clear k1 O3 R2 F2 hs2
          go_wp2_with fail
          have k2 := prfs_any w3 ao cp l ((k : Int) + 1) (hL.below F3 HR0.out) (hB.below F3 HR0.out) hc hm (by omega)
          rw [← HQ.out.2.1, HQ.out.2.2.2.1] at k2
          refine k2.mono ?_
          rintro e w4 ⟨v4, rfl, O4⟩
          obtain ⟨a4, c4, rfl⟩ := O4.row.shape
          have R24 := R23.below O4.bel (fun g e => R23.lt g e)
          have F4 := F3.trans (O4.bel.mono hs3)
          have hs4 : r ≤ w4.heap.size := Nat.le_trans hs3 O4.bel.size
          clear k2 O4 R23 F3 hs3
          clear w3
          go_wp2_with fail
          have k3 := prfs_any w4 ao cp l (l.length : Int) (hL.below F4 HR0.out) (hB.below F4 HR0.out) hc hm (by omega)
          rw [HQ.out.2.2.2.2.1, HQ.out.2.2.2.2.2] at k3
          refine k3.mono ?_
          rintro e w5 ⟨v5, rfl, O5⟩
          obtain ⟨a5, c5, rfl⟩ := O5.row.shape
          have R25 := R24.below O5.bel (fun g e => R24.lt g e)
          have F5 := F4.trans (O5.bel.mono hs4)
          have hs5 : r ≤ w5.heap.size := Nat.le_trans hs4 O5.bel.size
          clear k3 O5 R24 F4 hs4
          clear w4
          have d1 : decide ((q.length : Int) ≤ (B : Int)) = true := by rw [decide_eq_true_eq]; omega
          have d2 : decide ((p.length : Int) ≤ (B : Int) + 1) = true := by rw [decide_eq_true_eq]; omega
          obtain ⟨b1, b2, b3, -, -, -, hY⟩ := R25.hts
          cases b3
          go_wp2_with fail
          have k4 := same_any w5 a2 ao c2 cp l l hY (hB.below F5 HR0.out) (by omega) (by omega)
          rw [show decide (l = l) = true by simp] at k4
          refine k4.mono ?_
          rintro e w6 ⟨rfl, G6⟩
          have F6 := F5.trans (G6.mono hs5)
          rw [HR.out] at F6
          clear k4 R25 F5 hs5 hY G6
          clear w5
          go_wp2
          go_ret
          exact ⟨rfl, F6⟩
  · have hd : decide ((80 : Int) < (l.length : Int)) = true := by rw [decide_eq_true_eq]; omega
    go_enter Tryd.func11, Tryd.ntmps11
    go_wp2_with fail
    refine (awake18_any w hL).mono ?_
    rintro e w1 ⟨rfl, F1⟩
    go_wp2_with fail
    refine (awake18_any w1 (hL.below F1 (Nat.le_refl _))).mono ?_
    rintro e w2 ⟨rfl, GF2⟩
    have F2 := Below.then F1 GF2
    go_wp2_with fail
    go_ret
    exact ⟨rfl, F2⟩
end Go.Proofs.YtbglblamoodocaaDoor
