/-
  A claim with the root to which its path leads.
-/
import Derived.Test.YtadiijieldldhaaDoorFits
namespace Go.Proofs.YtadiijieldldhaaDoor
open Go Go.RowKit
attribute [local irreducible] sha
set_option maxRecDepth 100000 in
set_option maxHeartbeats 4000000 in
theorem fitsP_any (w : World) (M N : Int) (hM0 : -9223372036854775808 ≤ M) (hM1 : M ≤ 9223372036854775807) (hN0 : -9223372036854775808 ≤ N) (hN1 : N ≤ 9223372036854775807) (x : Hs) (ao : Option Addr) (cp : Nat) (p : List Hs) (hB : Hts w ao p) (hc : p.length ≤ cp) (hm : cp ≤ maxLen) (y : Hs) :
    Calls Tryd.prog 13 #[.agg (clmA M N x ao p.length cp y), .bool false] w fun e w' => e = .returned (.agg (clmA M N x ao p.length cp (fitP M N x p y))) ∧ Below w.heap.size w w' := by
  obtain ⟨fs, hfs⟩ := claimU
  obtain ⟨z, hz⟩ : ∃ z, z = fitP M N x p y := ⟨_, rfl⟩
  rw [← hz]
  have HZ := Lib.hid hz
  clear hz
  obtain ⟨r, hr⟩ : ∃ r, r = w.heap.size := ⟨_, rfl⟩
  obtain ⟨w1, hw1⟩ : ∃ w1, w1 = (w.alloc (.cells (clmA M N x ao p.length cp y) 26)).alloc (.cells zeroC 26) := ⟨_, rfl⟩
  have F1 : Below r w w1 := by rw [hw1, hr]; exact below_alloc2 _ _ _
  have hC1 : Blk w1 r 26 (clmA M N x ao p.length cp y) := by rw [hw1, hr]; exact (Blk.new w _ _).alloc _
  have hR1 : Blk w1 (r + 1) 26 zeroC := by rw [hw1, hr]; exact Blk.new1 w _ _ _
  have HR := Lib.hid (And.intro hw1 hr)
  have hr0 : w.heap.size ≤ r := by omega
  have HR0 := Lib.hid hr0
  clear hw1 hr hr0
  obtain ⟨c0, c1, c34⟩ := hC1.claim
  by_cases hin : 0 ≤ M ∧ M < N
  · have hd0 : decide (M < 0) = false := by rw [decide_eq_false_iff_not]; omega
    have hd1 : decide (N < M) = false := by rw [decide_eq_false_iff_not]; omega
    have hd2 : decide (N < 1) = false := by rw [decide_eq_false_iff_not]; omega
    have hd3 : (M == N) = false := by rw [beq_eq_false_iff_ne]; omega
    have hzf : z = (leadsH M.toNat N.toNat x p).1 := by rw [HZ.out]; unfold fitP; rw [if_pos hin]
    have k1 := refleads_any w1 M.toNat N.toNat x ao cp p (hB.below F1 HR0.out) hc hm (by omega) (by omega)
    rw [← hzf, Int.toNat_of_nonneg hin.1, Int.toNat_of_nonneg (show 0 ≤ N by omega)] at k1
    obtain ⟨o, ho⟩ : ∃ o, o = (leadsH M.toNat N.toNat x p).2 := ⟨_, rfl⟩
    rw [← ho] at k1
    clear ho hzf hin
    have hxl := x.2
    have hzl := z.2
    go_enter Tryd.func13, Tryd.ntmps13
    go_upto_region 1 with (fail)
    change Code.wp _ _ _ _ ((w.alloc (.cells (clmA M N x ao p.length cp y) 26)).alloc (.cells zeroC 26))
    rw [← HR.out.1, ← HR.out.2]
    replace HR := Lib.hid HR.out.2
    go_upto_region 8 with (fail)
    go_wp2_with (refine wpList_load_mid_blk rfl 23 (.tmp 69) rfl hC1 2 rfl (x.1.map b8) (fun j v hv => clm_hash _ _ _ _ _ j v hv) (.array 32 5) (by kernel_rfl) rfl 32 (by kernel_rfl) (by simp [hxl]) ?_)
    refine k1.mono ?_
    rintro e w2 ⟨rfl, G2⟩
    have hR2 := hR1.below G2 hR1.lt
    have hC2 := hC1.below G2 hC1.lt
    have F2 := F1.trans (G2.mono (by have := hR1.lt; omega))
    clear k1 hC1 hR1 F1 G2 c0 c1 c34
    clear w1
    go_wp2_with (refine wpList_store_blk rfl 23 _ _ rfl (Blk.new w2 zero32 23) (z.1.map b8).toArray rfl rfl 32 (by kernel_rfl) rfl (by simp [hzl]) (by rw [List.toList_toArray]; exact b8_one _) ?_)
    intro w3 hY3 hg3
    have hR3 := (hR2.alloc (.cells zero32 23)).grown hg3 (fun e => by have := Option.some.inj e; have := hR2.lt; omega)
    have hC3 := (hC2.alloc (.cells zero32 23)).grown hg3 (fun e => by have := Option.some.inj e; have := hC2.lt; omega)
    have hrr : r ≤ w2.heap.size := by have := hR2.lt; omega
    have F3 : Below r w w3 := below_upd (F2.alloc hrr (.cells zero32 23)) hg3 hrr (alloc_lt _ _)
    obtain ⟨b3, hb3⟩ : ∃ b3, b3 = w2.heap.size := ⟨_, rfl⟩
    have hr3 : r + 2 ≤ b3 := by have := hR2.lt; omega
    rw [← hb3] at hY3 ⊢
    clear hb3 hg3 hR2 hC2 F2 hrr
    clear w2
    go_wp2_with (first | (refine wpList_load_mid_blk rfl 23 (.tmp 8) rfl hY3 0 rfl (z.1.map b8) (fun j v hv => by rw [Nat.zero_add, List.getElem?_toArray]; exact hv) (.array 32 5) (by kernel_rfl) rfl 32 (by kernel_rfl) (by simp [hzl]) ?_) | (refine wpList_store_mid_blk rfl 23 _ _ rfl hC3 35 (z.1.map b8).toArray rfl rfl 32 (by kernel_rfl) (by simp [hzl]) (by rw [clmA_size]; decide) (by rw [List.toList_toArray]; exact b8_one _) (clmA M N x ao p.length cp z) (clm_set_root _ _ _ _ _ _) ?_))
    intro w4 hC4 hg4
    have hR4 := hR3.grown hg4 (fun e => by have := Option.some.inj e; omega)
    have F4 := below_upd F3 hg4 (Nat.le_refl _) hC3.lt
    clear hg4 hC3 hR3 F3 hY3
    clear w3
    go_wp2_with (first | (refine wpList_load_mid_blk rfl 26 (.tmp 2) rfl hC4 0 rfl (clm M N x (.slice ao p.length cp) z) (fun j v hv => by rw [Nat.zero_add, List.getElem?_toArray]; exact hv) (.struct fs) hfs rfl 67 (by kernel_rfl) (clm_len _ _ _ _ _) ?_) | (refine wpList_store_blk rfl 26 _ _ rfl hR4 (clmA M N x ao p.length cp z) rfl rfl 67 (by kernel_rfl) rfl (clmA_size _ _ _ _ _ _ _) (clm_one _ _ _ _ _ _ _) ?_))
    intro w5 hR5 hg5
    have F5 := below_upd F4 hg5 (by omega) hR4.lt
    rw [HR.out] at F5
    have HF := Lib.hid F5
    clear hg5 hR4 F4 F5 hC4
    go_wp2
    exact (ret_blk rfl hR5 rfl (.struct fs) hfs rfl 67 (by kernel_rfl) (clmA_size _ _ _ _ _ _ _) ⟨rfl, HF.out⟩).2
  · have hzf : z = y := by rw [HZ.out]; unfold fitP; rw [if_neg hin]
    have HFP := Lib.hid hzf
    clear hzf
    by_cases h0 : M < 0
    · have hd0 : decide (M < 0) = true := decide_eq_true h0
      go_enter Tryd.func13, Tryd.ntmps13
      go_upto_region 1 with (fail)
      change Code.wp _ _ _ _ ((w.alloc (.cells (clmA M N x ao p.length cp y) 26)).alloc (.cells zeroC 26))
      rw [← HR.out.1, ← HR.out.2]
      replace HR := Lib.hid HR.out.2
      go_wp2_with (first | (refine wpList_load_mid_blk rfl 26 (.tmp 2) rfl hC1 0 rfl (clm M N x (.slice ao p.length cp) y) (fun j v hv => by rw [Nat.zero_add, List.getElem?_toArray]; exact hv) (.struct fs) hfs rfl 67 (by kernel_rfl) (clm_len _ _ _ _ _) ?_) | (refine wpList_store_blk rfl 26 _ _ rfl hR1 (clmA M N x ao p.length cp y) rfl rfl 67 (by kernel_rfl) rfl (clmA_size _ _ _ _ _ _ _) (clm_one _ _ _ _ _ _ _) ?_))
      intro w3 hR3 hg3
      have F3 := below_upd F1 hg3 (by omega) hR1.lt
      rw [HR.out] at F3
      have HF := Lib.hid F3
      clear hg3 hR1 F1 F3
      go_wp2
      exact (ret_blk rfl hR3 rfl (.struct fs) hfs rfl 67 (by kernel_rfl) (clmA_size _ _ _ _ _ _ _) ⟨by rw [HFP.out], HF.out⟩).2
    · have hd0 : decide (M < 0) = false := decide_eq_false h0
      by_cases h1 : N < M
      · have hd1 : decide (N < M) = true := decide_eq_true h1
        go_enter Tryd.func13, Tryd.ntmps13
        go_upto_region 1 with (fail)
        change Code.wp _ _ _ _ ((w.alloc (.cells (clmA M N x ao p.length cp y) 26)).alloc (.cells zeroC 26))
        rw [← HR.out.1, ← HR.out.2]
        replace HR := Lib.hid HR.out.2
        go_wp2_with (first | (refine wpList_load_mid_blk rfl 26 (.tmp 2) rfl hC1 0 rfl (clm M N x (.slice ao p.length cp) y) (fun j v hv => by rw [Nat.zero_add, List.getElem?_toArray]; exact hv) (.struct fs) hfs rfl 67 (by kernel_rfl) (clm_len _ _ _ _ _) ?_) | (refine wpList_store_blk rfl 26 _ _ rfl hR1 (clmA M N x ao p.length cp y) rfl rfl 67 (by kernel_rfl) rfl (clmA_size _ _ _ _ _ _ _) (clm_one _ _ _ _ _ _ _) ?_))
        intro w3 hR3 hg3
        have F3 := below_upd F1 hg3 (by omega) hR1.lt
        rw [HR.out] at F3
        have HF := Lib.hid F3
        clear hg3 hR1 F1 F3
        go_wp2
        exact (ret_blk rfl hR3 rfl (.struct fs) hfs rfl 67 (by kernel_rfl) (clmA_size _ _ _ _ _ _ _) ⟨by rw [HFP.out], HF.out⟩).2
      · have hd1 : decide (N < M) = false := decide_eq_false h1
        by_cases h2 : N < 1
        · have hd2 : decide (N < 1) = true := decide_eq_true h2
          go_enter Tryd.func13, Tryd.ntmps13
          go_upto_region 1 with (fail)
          change Code.wp _ _ _ _ ((w.alloc (.cells (clmA M N x ao p.length cp y) 26)).alloc (.cells zeroC 26))
          rw [← HR.out.1, ← HR.out.2]
          replace HR := Lib.hid HR.out.2
          go_wp2_with (first | (refine wpList_load_mid_blk rfl 26 (.tmp 2) rfl hC1 0 rfl (clm M N x (.slice ao p.length cp) y) (fun j v hv => by rw [Nat.zero_add, List.getElem?_toArray]; exact hv) (.struct fs) hfs rfl 67 (by kernel_rfl) (clm_len _ _ _ _ _) ?_) | (refine wpList_store_blk rfl 26 _ _ rfl hR1 (clmA M N x ao p.length cp y) rfl rfl 67 (by kernel_rfl) rfl (clmA_size _ _ _ _ _ _ _) (clm_one _ _ _ _ _ _ _) ?_))
          intro w3 hR3 hg3
          have F3 := below_upd F1 hg3 (by omega) hR1.lt
          rw [HR.out] at F3
          have HF := Lib.hid F3
          clear hg3 hR1 F1 F3
          go_wp2
          exact (ret_blk rfl hR3 rfl (.struct fs) hfs rfl 67 (by kernel_rfl) (clmA_size _ _ _ _ _ _ _) ⟨by rw [HFP.out], HF.out⟩).2
        · have hd2 : decide (N < 1) = false := decide_eq_false h2
          have hd3 : (M == N) = true := by rw [beq_iff_eq]; omega
          go_enter Tryd.func13, Tryd.ntmps13
          go_upto_region 1 with (fail)
          change Code.wp _ _ _ _ ((w.alloc (.cells (clmA M N x ao p.length cp y) 26)).alloc (.cells zeroC 26))
          rw [← HR.out.1, ← HR.out.2]
          replace HR := Lib.hid HR.out.2
          go_wp2_with (first | (refine wpList_load_mid_blk rfl 26 (.tmp 2) rfl hC1 0 rfl (clm M N x (.slice ao p.length cp) y) (fun j v hv => by rw [Nat.zero_add, List.getElem?_toArray]; exact hv) (.struct fs) hfs rfl 67 (by kernel_rfl) (clm_len _ _ _ _ _) ?_) | (refine wpList_store_blk rfl 26 _ _ rfl hR1 (clmA M N x ao p.length cp y) rfl rfl 67 (by kernel_rfl) rfl (clmA_size _ _ _ _ _ _ _) (clm_one _ _ _ _ _ _ _) ?_))
          intro w3 hR3 hg3
          have F3 := below_upd F1 hg3 (by omega) hR1.lt
          rw [HR.out] at F3
          have HF := Lib.hid F3
          clear hg3 hR1 F1 F3
          go_wp2
          exact (ret_blk rfl hR3 rfl (.struct fs) hfs rfl 67 (by kernel_rfl) (clmA_size _ _ _ _ _ _ _) ⟨by rw [HFP.out], HF.out⟩).2
end Go.Proofs.YtadiijieldldhaaDoor
