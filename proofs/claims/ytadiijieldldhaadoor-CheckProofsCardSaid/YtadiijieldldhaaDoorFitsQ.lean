/-
  A claim with the roots to which its proof leads.
-/
import Derived.Test.YtadiijieldldhaaDoorFits
import Derived.Test.YtadiijieldldhaaDoorRefProof
namespace Go.Proofs.YtadiijieldldhaaDoor
open Go Go.RowKit
attribute [local irreducible] sha
def fitQ1 (M N : Int) (x : Hs) (p : List Hs) : Hs := if 1 ≤ M ∧ M ≤ N then (twoH M.toNat N.toNat true x p).1.1 else x
def fitQ2 (M N : Int) (x : Hs) (p : List Hs) (y : Hs) : Hs := if 1 ≤ M ∧ M ≤ N then (twoH M.toNat N.toNat true x p).1.2 else y
set_option maxRecDepth 100000 in
set_option maxHeartbeats 4000000 in
theorem fitsQ_any (w : World) (M N : Int) (hM0 : -9223372036854775808 ≤ M) (hM1 : M ≤ 9223372036854775807) (hN0 : -9223372036854775808 ≤ N) (hN1 : N ≤ 9223372036854775807) (x : Hs) (ao : Option Addr) (cp : Nat) (p : List Hs) (hB : Hts w ao p) (hc : p.length ≤ cp) (hm : cp ≤ maxLen) (y : Hs) :
    Calls Tryd.prog 13 #[.agg (clmA M N x ao p.length cp y), .bool true] w fun e w' => e = .returned (.agg (clmA M N (fitQ1 M N x p) ao p.length cp (fitQ2 M N x p y))) ∧ Below w.heap.size w w' := by
  obtain ⟨fs, hfs⟩ := claimU
  obtain ⟨x2, hx2⟩ : ∃ x2, x2 = fitQ1 M N x p := ⟨_, rfl⟩
  obtain ⟨y2, hy2⟩ : ∃ y2, y2 = fitQ2 M N x p y := ⟨_, rfl⟩
  rw [← hx2, ← hy2]
  have HZ := Lib.hid (And.intro hx2 hy2)
  clear hx2 hy2
  obtain ⟨r, hr⟩ : ∃ r, r = w.heap.size := ⟨_, rfl⟩
  obtain ⟨w1, hw1⟩ : ∃ w1, w1 = (w.alloc (.cells (clmA M N x ao p.length cp y) 26)).alloc (.cells zeroC 26) := ⟨_, rfl⟩
  have F1 : Below r w w1 := by rw [hw1, hr]; exact below_alloc2 _ _ _
  have hC1 : Blk w1 r 26 (clmA M N x ao p.length cp y) := by rw [hw1, hr]; exact (Blk.new w _ _).alloc _
  have hR1 : Blk w1 (r + 1) 26 zeroC := by rw [hw1, hr]; exact Blk.new1 w _ _ _
  have HR := Lib.hid (And.intro hw1 hr)
  have hr0 : w.heap.size ≤ r := by omega
  have HR0 := Lib.hid hr0
  clear hw1 hr hr0
  obtain ⟨c0, c1, c34⟩ := hC1.claim
  by_cases hin : 1 ≤ M ∧ M ≤ N
  · have hd0 : decide (M < 0) = false := by rw [decide_eq_false_iff_not]; omega
    have hd1 : decide (N < M) = false := by rw [decide_eq_false_iff_not]; omega
    have hd2 : decide (N < 1) = false := by rw [decide_eq_false_iff_not]; omega
    have hd3 : (M == 0) = false := by rw [beq_eq_false_iff_ne]; omega
    have hx2 : x2 = (twoH M.toNat N.toNat true x p).1.1 := by rw [HZ.out.1]; unfold fitQ1; rw [if_pos hin]
    have hy2 : y2 = (twoH M.toNat N.toNat true x p).1.2 := by rw [HZ.out.2]; unfold fitQ2; rw [if_pos hin]
    have k1 := reftwo_any w1 M.toNat N.toNat true x ao cp p (hB.below F1 HR0.out) hc hm (by omega) (by omega) (by omega)
    rw [← hx2, ← hy2, Int.toNat_of_nonneg (show 0 ≤ M by omega), Int.toNat_of_nonneg (show 0 ≤ N by omega)] at k1
    obtain ⟨o, ho⟩ : ∃ o, o = (twoH M.toNat N.toNat true x p).2 := ⟨_, rfl⟩
    rw [← ho] at k1
    clear ho hx2 hy2 hin
    have hxl := x.2
    have hx2l := x2.2
    have hy2l := y2.2
    go_enter Tryd.func13, Tryd.ntmps13
    go_upto_region 1 with (fail)
    change Code.wp _ _ _ _ ((w.alloc (.cells (clmA M N x ao p.length cp y) 26)).alloc (.cells zeroC 26))
    rw [← HR.out.1, ← HR.out.2]
    replace HR := Lib.hid HR.out.2
    go_upto_region 4 with (fail)
    go_wp2_with (refine wpList_load_mid_blk rfl 23 (.tmp 51) rfl hC1 2 rfl (x.1.map b8) (fun j v hv => clm_hash _ _ _ _ _ j v hv) (.array 32 5) (by kernel_rfl) rfl 32 (by kernel_rfl) (by simp [hxl]) ?_)
    refine k1.mono ?_
    rintro e w2 ⟨rfl, G2⟩
    have hR2 := hR1.below G2 hR1.lt
    have hC2 := hC1.below G2 hC1.lt
    have F2 := F1.trans (G2.mono (by have := hR1.lt; omega))
    clear k1 hC1 hR1 F1 G2 c0 c1 c34
    clear w1
    obtain ⟨w3, hw3⟩ : ∃ w3, w3 = (w2.alloc (.cells zero32 23)).alloc (.cells zero32 23) := ⟨_, rfl⟩
    obtain ⟨b3, hb3⟩ : ∃ b3, b3 = w2.heap.size := ⟨_, rfl⟩
    have hr3 : r + 2 ≤ b3 := by have := hR2.lt; omega
    have hY3 : Blk w3 b3 23 zero32 := by rw [hw3, hb3]; exact (Blk.new w2 _ _).alloc _
    have hU3 : Blk w3 (b3 + 1) 23 zero32 := by rw [hw3, hb3]; exact Blk.new1 w2 _ _ _
    have hC3 := (hC2.alloc (.cells zero32 23)).alloc (.cells zero32 23)
    have hR3 := (hR2.alloc (.cells zero32 23)).alloc (.cells zero32 23)
    rw [← hw3] at hC3 hR3
    have F3 : Below r w w3 := by rw [hw3]; exact (F2.alloc (by omega) _).alloc (by rw [alloc_size]; omega) _
    rw [hw3, hb3] at hY3
    clear hR2 hC2 F2
    go_wp2_with (refine wpList_store_blk rfl 23 _ _ rfl hY3 (x2.1.map b8).toArray rfl rfl 32 (by kernel_rfl) rfl (by simp [hx2l]) (by rw [List.toList_toArray]; exact b8_one _) ?_)
    intro w4 hY4 hg4
    rw [← hw3] at hg4
    rw [← hb3] at hY4 hg4 ⊢
    have hU4 := hU3.grown hg4 (fun e => by have := Option.some.inj e; omega)
    have hC4 := hC3.grown hg4 (fun e => by have := Option.some.inj e; omega)
    have hR4 := hR3.grown hg4 (fun e => by have := Option.some.inj e; omega)
    have F4 : Below r w w4 := below_upd F3 hg4 (by omega) (by have := hU3.lt; omega)
    clear hg4 hU3 hC3 hR3 F3 hY3 hw3 hb3
    clear w3
    clear w2
    go_wp2_with (refine wpList_store_blk rfl 23 _ _ rfl hU4 (y2.1.map b8).toArray rfl rfl 32 (by kernel_rfl) rfl (by simp [hy2l]) (by rw [List.toList_toArray]; exact b8_one _) ?_)
    intro w5 hU5 hg5
    have hY5 := hY4.grown hg5 (fun e => by have := Option.some.inj e; omega)
    have hC5 := hC4.grown hg5 (fun e => by have := Option.some.inj e; omega)
    have hR5 := hR4.grown hg5 (fun e => by have := Option.some.inj e; omega)
    have F5 : Below r w w5 := below_upd F4 hg5 (by omega) hU4.lt
    clear hg5 hU4 hY4 hC4 hR4 F4
    clear w4
    go_wp2_with (first | (refine wpList_load_mid_blk rfl 23 (.tmp 5) rfl hY5 0 rfl (x2.1.map b8) (fun j v hv => by rw [Nat.zero_add, List.getElem?_toArray]; exact hv) (.array 32 5) (by kernel_rfl) rfl 32 (by kernel_rfl) (by simp [hx2l]) ?_) | (refine wpList_store_mid_blk rfl 23 _ _ rfl hC5 2 (x2.1.map b8).toArray rfl rfl 32 (by kernel_rfl) (by simp [hx2l]) (by rw [clmA_size]; decide) (by rw [List.toList_toArray]; exact b8_one _) (clmA M N x2 ao p.length cp y) (clm_set_hash _ _ _ _ _ _) ?_))
    intro w6 hC6 hg6
    have hR6 := hR5.grown hg6 (fun e => by have := Option.some.inj e; omega)
    have hU6 := hU5.grown hg6 (fun e => by have := Option.some.inj e; omega)
    have F6 := below_upd F5 hg6 (Nat.le_refl _) hC5.lt
    clear hg6 hC5 hR5 hU5 F5 hY5
    clear w5
    go_wp2_with (first | (refine wpList_load_mid_blk rfl 23 (.tmp 6) rfl hU6 0 rfl (y2.1.map b8) (fun j v hv => by rw [Nat.zero_add, List.getElem?_toArray]; exact hv) (.array 32 5) (by kernel_rfl) rfl 32 (by kernel_rfl) (by simp [hy2l]) ?_) | (refine wpList_store_mid_blk rfl 23 _ _ rfl hC6 35 (y2.1.map b8).toArray rfl rfl 32 (by kernel_rfl) (by simp [hy2l]) (by rw [clmA_size]; decide) (by rw [List.toList_toArray]; exact b8_one _) (clmA M N x2 ao p.length cp y2) (clm_set_root _ _ _ _ _ _) ?_))
    intro w7 hC7 hg7
    have hR7 := hR6.grown hg7 (fun e => by have := Option.some.inj e; omega)
    have F7 := below_upd F6 hg7 (Nat.le_refl _) hC6.lt
    clear hg7 hC6 hR6 hU6 F6
    clear w6
    go_wp2_with (first | (refine wpList_load_mid_blk rfl 26 (.tmp 2) rfl hC7 0 rfl (clm M N x2 (.slice ao p.length cp) y2) (fun j v hv => by rw [Nat.zero_add, List.getElem?_toArray]; exact hv) (.struct fs) hfs rfl 67 (by kernel_rfl) (clm_len _ _ _ _ _) ?_) | (refine wpList_store_blk rfl 26 _ _ rfl hR7 (clmA M N x2 ao p.length cp y2) rfl rfl 67 (by kernel_rfl) rfl (clmA_size _ _ _ _ _ _ _) (clm_one _ _ _ _ _ _ _) ?_))
    intro w8 hR8 hg8
    have F8 := below_upd F7 hg8 (by omega) hR7.lt
    rw [HR.out] at F8
    have HF := Lib.hid F8
    clear hg8 hR7 F7 F8 hC7
    go_wp2
    exact (ret_blk rfl hR8 rfl (.struct fs) hfs rfl 67 (by kernel_rfl) (clmA_size _ _ _ _ _ _ _) ⟨rfl, HF.out⟩).2
  · have HFP := Lib.hid (And.intro (show x2 = x by rw [HZ.out.1]; unfold fitQ1; rw [if_neg hin]) (show y2 = y by rw [HZ.out.2]; unfold fitQ2; rw [if_neg hin]))
    by_cases h0 : M < 0
    · have hd0 : decide (M < 0) = true := decide_eq_true h0
      go_enter Tryd.func13, Tryd.ntmps13
      go_upto_region 1 with (fail)
      change Code.wp _ _ _ _ ((w.alloc (.cells (clmA M N x ao p.length cp y) 26)).alloc (.cells zeroC 26))
      rw [← HR.out.1, ← HR.out.2]
      replace HR := Lib.hid HR.out.2
      go_wp2_with (first | (refine wpList_load_mid_blk rfl 26 (.tmp 2) rfl hC1 0 rfl (clm M N x (.slice ao p.length cp) y) (fun j v hv => by rw [Nat.zero_add, List.getElem?_toArray]; exact hv) (.struct fs) hfs rfl 67 (by kernel_rfl) (clm_len _ _ _ _ _) ?_) | (refine wpList_store_blk rfl 26 _ _ rfl hR1 (clmA M N x ao p.length cp y) rfl rfl 67 (by kernel_rfl) rfl (clmA_size _ _ _ _ _ _ _) (clm_one _ _ _ _ _ _ _) ?_))
      intro w3 hR3 hg3
      have F3 := below_upd F1 hg3 (by omega) hR1.lt
      rw [HR.out] at F3
      have HF := Lib.hid F3
      clear hg3 hR1 F1 F3
      go_wp2
      exact (ret_blk rfl hR3 rfl (.struct fs) hfs rfl 67 (by kernel_rfl) (clmA_size _ _ _ _ _ _ _) ⟨by rw [HFP.out.1, HFP.out.2], HF.out⟩).2
    · have hd0 : decide (M < 0) = false := decide_eq_false h0
      by_cases h1 : N < M
      · have hd1 : decide (N < M) = true := decide_eq_true h1
        go_enter Tryd.func13, Tryd.ntmps13
        go_upto_region 1 with (fail)
        change Code.wp _ _ _ _ ((w.alloc (.cells (clmA M N x ao p.length cp y) 26)).alloc (.cells zeroC 26))
        rw [← HR.out.1, ← HR.out.2]
        replace HR := Lib.hid HR.out.2
        go_wp2_with (first | (refine wpList_load_mid_blk rfl 26 (.tmp 2) rfl hC1 0 rfl (clm M N x (.slice ao p.length cp) y) (fun j v hv => by rw [Nat.zero_add, List.getElem?_toArray]; exact hv) (.struct fs) hfs rfl 67 (by kernel_rfl) (clm_len _ _ _ _ _) ?_) | (refine wpList_store_blk rfl 26 _ _ rfl hR1 (clmA M N x ao p.length cp y) rfl rfl 67 (by kernel_rfl) rfl (clmA_size _ _ _ _ _ _ _) (clm_one _ _ _ _ _ _ _) ?_))
        intro w3 hR3 hg3
        have F3 := below_upd F1 hg3 (by omega) hR1.lt
        rw [HR.out] at F3
        have HF := Lib.hid F3
        clear hg3 hR1 F1 F3
        go_wp2
        exact (ret_blk rfl hR3 rfl (.struct fs) hfs rfl 67 (by kernel_rfl) (clmA_size _ _ _ _ _ _ _) ⟨by rw [HFP.out.1, HFP.out.2], HF.out⟩).2
      · have hd1 : decide (N < M) = false := decide_eq_false h1
        by_cases h2 : N < 1
        · have hd2 : decide (N < 1) = true := decide_eq_true h2
          go_enter Tryd.func13, Tryd.ntmps13
          go_upto_region 1 with (fail)
          change Code.wp _ _ _ _ ((w.alloc (.cells (clmA M N x ao p.length cp y) 26)).alloc (.cells zeroC 26))
          rw [← HR.out.1, ← HR.out.2]
          replace HR := Lib.hid HR.out.2
          go_wp2_with (first | (refine wpList_load_mid_blk rfl 26 (.tmp 2) rfl hC1 0 rfl (clm M N x (.slice ao p.length cp) y) (fun j v hv => by rw [Nat.zero_add, List.getElem?_toArray]; exact hv) (.struct fs) hfs rfl 67 (by kernel_rfl) (clm_len _ _ _ _ _) ?_) | (refine wpList_store_blk rfl 26 _ _ rfl hR1 (clmA M N x ao p.length cp y) rfl rfl 67 (by kernel_rfl) rfl (clmA_size _ _ _ _ _ _ _) (clm_one _ _ _ _ _ _ _) ?_))
          intro w3 hR3 hg3
          have F3 := below_upd F1 hg3 (by omega) hR1.lt
          rw [HR.out] at F3
          have HF := Lib.hid F3
          clear hg3 hR1 F1 F3
          go_wp2
          exact (ret_blk rfl hR3 rfl (.struct fs) hfs rfl 67 (by kernel_rfl) (clmA_size _ _ _ _ _ _ _) ⟨by rw [HFP.out.1, HFP.out.2], HF.out⟩).2
        · have hd2 : decide (N < 1) = false := decide_eq_false h2
          have hd3 : (M == 0) = true := by rw [beq_iff_eq]; omega
          go_enter Tryd.func13, Tryd.ntmps13
          go_upto_region 1 with (fail)
          change Code.wp _ _ _ _ ((w.alloc (.cells (clmA M N x ao p.length cp y) 26)).alloc (.cells zeroC 26))
          rw [← HR.out.1, ← HR.out.2]
          replace HR := Lib.hid HR.out.2
          go_wp2_with (first | (refine wpList_load_mid_blk rfl 26 (.tmp 2) rfl hC1 0 rfl (clm M N x (.slice ao p.length cp) y) (fun j v hv => by rw [Nat.zero_add, List.getElem?_toArray]; exact hv) (.struct fs) hfs rfl 67 (by kernel_rfl) (clm_len _ _ _ _ _) ?_) | (refine wpList_store_blk rfl 26 _ _ rfl hR1 (clmA M N x ao p.length cp y) rfl rfl 67 (by kernel_rfl) rfl (clmA_size _ _ _ _ _ _ _) (clm_one _ _ _ _ _ _ _) ?_))
          intro w3 hR3 hg3
          have F3 := below_upd F1 hg3 (by omega) hR1.lt
          rw [HR.out] at F3
          have HF := Lib.hid F3
          clear hg3 hR1 F1 F3
          go_wp2
          exact (ret_blk rfl hR3 rfl (.struct fs) hfs rfl 67 (by kernel_rfl) (clmA_size _ _ _ _ _ _ _) ⟨by rw [HFP.out.1, HFP.out.2], HF.out⟩).2
end Go.Proofs.YtadiijieldldhaaDoor
