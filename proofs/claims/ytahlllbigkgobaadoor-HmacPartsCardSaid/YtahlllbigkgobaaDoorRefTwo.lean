/-
  The reference's hash of two parts (layer 5).
-/
import Derived.Test.YtahlllbigkgobaaDoorRefSum
namespace Go.Proofs.YtahlllbigkgobaaDoor
open Go.RowKit
attribute [local irreducible] compress absorb
set_option maxRecDepth 100000 in
set_option maxHeartbeats 4000000 in
theorem two_any (ao ao2 : Option Addr) (cp cp2 : Nat) (bs cs : List B) (w : World) (hB : Bts w ao bs) (hC : Bts w ao2 cs) (hlen : bs.length + cs.length ≤ 1099511627776) :
    Calls Tryd.prog 28 #[.slice ao bs.length cp, .slice ao2 cs.length cp2] w fun e w' => e = .returned (hashv (sha (bs ++ cs))) ∧ Below w.heap.size w w' := by
  obtain ⟨i0, hi, hz0, hz1, hz2⟩ := info_parts infoU8
  obtain ⟨r, hr⟩ : ∃ r, r = w.heap.size := ⟨_, rfl⟩
  obtain ⟨w1, hw1⟩ : ∃ w1, w1 = w.alloc (.cells zero32 25) := ⟨_, rfl⟩
  have hr1 : Blk w1 r 25 zero32 := by rw [hw1, hr]; exact Blk.new w zero32 25
  have F1 : Below r w w1 := by rw [hw1, hr]; exact below_alloc1 _ _
  have O1 : OwnB (r + 1) w1 w1 (.slice none 0 0) [] := Own.nil w1 5 1 (by rw [hw1, alloc_size, hr])
  have hB1 : Bts w1 ao bs := hB.below F1 (by omega)
  have hC1 : Bts w1 ao2 cs := hC.below F1 (by omega)
  have hsrc := hB1.src (P := Tryd.prog) (tx := 22) (e' := 5) (by kernel_rfl) bs.length cp rfl
  have hl1 : 0 + bs.length ≤ maxLen := by simp only [maxLen]; omega
  have hl2 : (0 + bs.length) * 1 ≤ 140737488355328 := by omega
  obtain ⟨ts, hts⟩ : ∃ ts, ts = bs ++ cs := ⟨_, rfl⟩
  have htl : ts.length ≤ 1099511627776 := by rw [hts, List.length_append]; exact hlen
  rw [← hts]
  have HTS := Lib.hid (And.intro hts htl)
  clear hts htl
  have HW := Lib.hid hw1
  have HR := Lib.hid hr
  clear hr hw1
  go_enter Tryd.func28, Tryd.ntmps28
  go_upto_region 2 with (fail)
  change Code.wp _ _ _ _ (w.alloc (.cells zero32 25))
  rw [← HW.out, ← HR.out]
  go_wp2_with (at_builtin; refine wpList_append_row rfl _ _ 22 22 rfl 5 i0 (.int .u8 0) 1 1 (by kernel_rfl) hi hz0 hz1 hz2 rfl (by decide) (Row.nil _ _ _) rfl hsrc rfl hl1 hl2 ?_)
  intro v2 w2 hrow2 hg2 hv2
  have O2 : OwnB (r + 1) w1 w2 v2 bs := OwnB.app (ts := []) (us := bs) O1 (by simpa using hrow2) hg2 hv2
  clear hrow2 hg2 hv2 O1 hsrc hl1 hl2 hB1
  obtain ⟨a2, c2, rfl, -, -, -, -⟩ := O2.row.bts
  have hC2 := hC1.below (O2.bel.mono (show w1.heap.size ≤ r + 1 by rw [HW.out, alloc_size, HR.out]; exact Nat.le_refl _)) (Nat.le_refl _)
  have hsrc := hC2.src (P := Tryd.prog) (tx := 22) (e' := 5) (by kernel_rfl) cs.length cp2 rfl
  have hl1 : bs.length + cs.length ≤ maxLen := by simp only [maxLen]; omega
  have hl2 : (bs.length + cs.length) * 1 ≤ 140737488355328 := by omega
  go_wp2_with (at_builtin; refine wpList_append_row rfl _ _ 22 22 rfl 5 i0 (.int .u8 0) 1 1 (by kernel_rfl) hi hz0 hz1 hz2 rfl (by decide) O2.row rfl hsrc rfl hl1 hl2 ?_)
  intro v3 w3 hrow3 hg3 hv3
  have O3 := OwnB.app (us := cs) O2 (by simpa using hrow3) hg3 hv3
  clear hrow3 hg3 hv3 O2 hsrc hl1 hl2 hC2 hC1
  rw [← HTS.out.1] at O3
  obtain ⟨a3, c3, rfl, -, -, -, hY⟩ := O3.row.bts
  have hr3 := hr1.below O3.bel (Nat.lt_succ_self _)
  have F3 := F1.trans (O3.bel.mono (Nat.le_succ _))
  go_wp2_with fail
  refine (refsum_any a3 c3 ts w3 hY HTS.out.2).mono ?_
  rintro e w4 ⟨rfl, hb4⟩
  have hr4 := hr3.below hb4 hr3.lt
  have F4 := F3.trans (hb4.mono (by have := hr3.lt; omega))
  go_wp2_with (refine wpList_store_blk rfl 25 _ _ rfl hr4 _ rfl rfl 32 (by kernel_rfl) rfl (by simp [sha_len]) (by rw [List.toList_toArray]; exact b8_one _) ?_)
  intro w9 hr9 hg9
  have F9 := below_upd F4 hg9 (Nat.le_refl _) hr4.lt
  rw [HR.out] at F9
  go_wp2
  exact (ret_blk rfl hr9 rfl (.array 32 5) (by kernel_rfl) rfl 32 (by kernel_rfl) (by simp [sha_len]) ⟨rfl, F9⟩).2
end Go.Proofs.YtahlllbigkgobaaDoor
