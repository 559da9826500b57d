/-
  The walk of the statement ClashPlaces.
-/
import Derived.Test.YtadiijieldldhaaDoorSaid
namespace Go.Proofs.YtadiijieldldhaaDoor
open Go Go.RowKit
attribute [local irreducible] sha
theorem clashP_out (l : List Hs) (m : Int) (x : Hs) (q : List Hs) (h : ¬ (0 ≤ m ∧ m < l.length)) : clashP l m x q = none := by
  unfold clashP foolsP
  cases hq : checkP m l.length x q (rootH l) with
  | false => rfl
  | true => exact absurd (checkP_in hq) h
theorem clashQ_out (l : List Hs) (m : Int) (x : Hs) (q : List Hs) (h : ¬ (1 ≤ m ∧ m ≤ l.length)) : clashQ l m x q = none := by
  unfold clashQ foolsQ
  cases hq : proofP m l.length x q (rootH l) with
  | false => rfl
  | true => exact absurd (proofP_in hq) h
theorem FoundR.ret {o : Option Stp} {e : Ending} {w' : World} (h : FoundR o e w') : ∃ v, e = .returned v := by
  cases o with
  | none => exact ⟨_, h⟩
  | some s => obtain ⟨_, _, _, _, h, -, -⟩ := h; exact ⟨_, h⟩
set_option maxRecDepth 100000 in
set_option maxHeartbeats 8000000 in
theorem clplaces_any (w : World) (hL : Laid w) (ao : Option Addr) (cp : Nat) (l : List Hs) (M : Int) (x : Hs) (hM : -9223372036854775808 ≤ M ∧ M ≤ 9223372036854775807) (hA : Hts w ao l) (hc : l.length ≤ cp) (hm : cp ≤ maxLen) (bo : Option Addr) (cq : Nat) (p : List Hs) (hB : Hts w bo p) (hcq : p.length ≤ cq) (hmq : cq ≤ maxLen) :
    Calls Tryd.prog 5 #[.agg (sdA ao l.length cp M x), .slice bo p.length cq] w fun e w' => e = .returned (.bool true) ∧ Below w.heap.size w w' := by
  obtain ⟨fs, hfs⟩ := saidU
  obtain ⟨hM0, hM1⟩ := hM
  have hl9 : l.length ≤ 9223372036854775807 := Nat.le_trans hc hm
  have hp9 : p.length ≤ 9223372036854775807 := Nat.le_trans hcq hmq
  have hxl := x.2
  obtain ⟨r, hr⟩ : ∃ r, r = w.heap.size := ⟨_, rfl⟩
  obtain ⟨w1, hw1⟩ : ∃ w1, w1 = w.alloc (.cells (sdA ao l.length cp M x) 40) := ⟨_, rfl⟩
  have F1 : Below r w w1 := by rw [hw1, hr]; exact below_alloc1 _ _
  have hC1 : Blk w1 r 40 (sdA ao l.length cp M x) := by rw [hw1, hr]; exact Blk.new w _ _
  have HR := Lib.hid (And.intro hw1 hr)
  have hr0 : w.heap.size ≤ r := by omega
  have HR0 := Lib.hid hr0
  clear hw1 hr hr0
  go_enter Tryd.func5, Tryd.ntmps5
  go_upto_region 1 with (fail)
  change Code.wp _ _ _ _ (w.alloc (.cells (sdA ao l.length cp M x) 40))
  rw [← HR.out.1, ← HR.out.2]
  replace HR := Lib.hid HR.out.2
  have k1 := awake20_any w1 (hL.below F1 HR0.out)
  go_wp2_with fail
  refine k1.mono ?_
  rintro e w2 ⟨rfl, G2⟩
  have hC2 := hC1.below G2 hC1.lt
  have F2 := F1.trans (G2.mono (by have := hC1.lt; omega))
  clear k1 hC1 F1 G2
  clear w1
  obtain ⟨c0, c1⟩ := hC2.said
  by_cases hlen : l.length ≤ 60 ∧ p.length ≤ 70
  · have hd : decide ((60 : Int) < (l.length : Int)) = false := by rw [decide_eq_false_iff_not]; omega
    have hd1 : decide ((70 : Int) < (p.length : Int)) = false := by rw [decide_eq_false_iff_not]; omega
    obtain ⟨i0, hi, hz0, hz1, hz2⟩ := info_parts infoHs
    have hrs : r ≤ w2.heap.size := Nat.le_of_lt hC2.lt
    have O1 : Own r w w2 23 32 (.slice none 0 0) 0 [] := Own.start _ _ F2 hrs
    have hsrc := (hA.below F2 HR0.out).src l.length cp rfl
    have hl1 : 0 + l.length ≤ maxLen := by simp only [maxLen]; omega
    have hl2 : (0 + l.length) * 32 ≤ 140737488355328 := by omega
    go_wp2_with (at_builtin; refine wpList_append_row rfl _ _ 24 24 rfl 23 i0 (.agg zero32) 32 32 (by kernel_rfl) hi hz0 hz1 hz2 rfl (by decide) O1.row rfl hsrc rfl hl1 hl2 ?_)
    intro v3 w3 hrow3 hg3 hv3
    have O3 : OwnH w2.heap.size w2 w3 v3 l := OwnH.app (l := []) (k := l) (Own.nil w2 _ _ rfl) (by simpa [flat_nil] using hrow3) hg3 hv3
    have hC3 := hC2.below O3.bel hC2.lt
    have F3 := F2.trans (O3.bel.mono hrs)
    obtain ⟨a3, n3, rfl, -, -, -, hX3⟩ := O3.row.hts
    clear hrow3 hg3 hv3 O1 O3 hsrc hl1 hl2 hC2 F2 hrs c0 c1
    clear w2
    have hrs : r ≤ w3.heap.size := Nat.le_of_lt hC3.lt
    have O1 : Own r w w3 23 32 (.slice none 0 0) 0 [] := Own.start _ _ F3 hrs
    have hsrc := (hB.below F3 HR0.out).src p.length cq rfl
    have hl1 : 0 + p.length ≤ maxLen := by simp only [maxLen]; omega
    have hl2 : (0 + p.length) * 32 ≤ 140737488355328 := by omega
    go_wp2_with (at_builtin; refine wpList_append_row rfl _ _ 24 24 rfl 23 i0 (.agg zero32) 32 32 (by kernel_rfl) hi hz0 hz1 hz2 rfl (by decide) O1.row rfl hsrc rfl hl1 hl2 ?_)
    intro v4 w4 hrow4 hg4 hv4
    have O4 : OwnH w3.heap.size w3 w4 v4 p := OwnH.app (l := []) (k := p) (Own.nil w3 _ _ rfl) (by simpa [flat_nil] using hrow4) hg4 hv4
    have hC4 := hC3.below O4.bel hC3.lt
    have F4 := F3.trans (O4.bel.mono hrs)
    have hX4 := hX3.below O4.bel (Nat.le_refl _)
    obtain ⟨a4, n4, rfl, -, -, -, hY4⟩ := O4.row.hts
    clear hrow4 hg4 hv4 O1 O4 hsrc hl1 hl2 hC3 F3 hrs hX3
    clear w3
    have cP : ∀ (m : Int) W, ¬ (0 ≤ m ∧ m < l.length) → -9223372036854775808 ≤ m → m ≤ 9223372036854775807 → Below r w W → Calls Tryd.prog 19 #[.slice ao l.length cp, .int .i64 m, hval x, .slice bo p.length cq] W fun e w' => e = .returned (.tuple #[.slice none 0 0, .slice none 0 0, .bool false]) ∧ Below W.heap.size W w' := fun m W hmo h1 h2 hW => by
      have := clPath_any W (hL.below hW HR0.out) ao cp l m x bo cq p h1 h2 (hA.below hW HR0.out) hc hm (by omega) (hB.below hW HR0.out) hcq hmq (by omega)
      rw [clashP_out l m x p hmo] at this
      exact this
    have cQ : ∀ (m : Int) W, ¬ (1 ≤ m ∧ m ≤ l.length) → -9223372036854775808 ≤ m → m ≤ 9223372036854775807 → Below r w W → Calls Tryd.prog 20 #[.slice ao l.length cp, .int .i64 m, hval x, .slice bo p.length cq] W fun e w' => e = .returned (.tuple #[.slice none 0 0, .slice none 0 0, .bool false]) ∧ Below W.heap.size W w' := fun m W hmo h1 h2 hW => by
      have := clProof_any W (hL.below hW HR0.out) ao cp l m x bo cq p h1 h2 (hA.below hW HR0.out) hc hm (by omega) (hB.below hW HR0.out) hcq hmq (by omega)
      rw [clashQ_out l m x p hmo] at this
      exact this
    have cP2 : ∀ W, Below r w W → Calls Tryd.prog 19 #[.slice ao l.length cp, .int .i64 M, hval x, .slice bo p.length cq] W fun e w' => (∃ v, e = .returned v) ∧ Below W.heap.size W w' := fun W hW =>
      (clPath_any W (hL.below hW HR0.out) ao cp l M x bo cq p hM0 hM1 (hA.below hW HR0.out) hc hm (by omega) (hB.below hW HR0.out) hcq hmq (by omega)).mono fun e w' ⟨h1, h2⟩ => ⟨h1.ret, h2⟩
    have cQ2 : ∀ W, Below r w W → Calls Tryd.prog 20 #[.slice ao l.length cp, .int .i64 M, hval x, .slice bo p.length cq] W fun e w' => (∃ v, e = .returned v) ∧ Below W.heap.size W w' := fun W hW =>
      (clProof_any W (hL.below hW HR0.out) ao cp l M x bo cq p hM0 hM1 (hA.below hW HR0.out) hc hm (by omega) (hB.below hW HR0.out) hcq hmq (by omega)).mono fun e w' ⟨h1, h2⟩ => ⟨h1.ret, h2⟩
    have cS : ∀ W, Below r w W → Hts W a3 l → Calls Tryd.prog 22 #[.slice a3 l.length n3, .slice ao l.length cp] W fun e w' => e = .returned (.bool true) ∧ Below W.heap.size W w' := fun W hW hX => by
      have := same_any W a3 ao n3 cp l l hX (hA.below hW HR0.out) (by omega) (by omega)
      rw [show decide (l = l) = true by simp] at this
      exact this
    have cT : ∀ W, Below r w W → Hts W a4 p → Calls Tryd.prog 22 #[.slice a4 p.length n4, .slice bo p.length cq] W fun e w' => e = .returned (.bool true) ∧ Below W.heap.size W w' := fun W hW hX => by
      have := same_any W a4 bo n4 cq p p hX (hB.below hW HR0.out) (by omega) (by omega)
      rw [show decide (p = p) = true by simp] at this
      exact this
    replace cP := Lib.hid cP
    replace cQ := Lib.hid cQ
    replace cP2 := Lib.hid cP2
    replace cQ2 := Lib.hid cQ2
    replace cS := Lib.hid cS
    replace cT := Lib.hid cT
    have qj : IntKind.i64.wrap ((l.length : Int) + 1) = (l.length : Int) + 1 := IntWalk.i64_in _ (by omega)
    clear hA hB
    obtain ⟨c0, c1⟩ := hC4.said
    have cc := cP.out (-1) w4 (by omega) (by omega) (by omega) F4
    go_wp2_with (refine wpList_load_mid_blk rfl 23 (.tmp 43) rfl hC4 2 rfl (x.1.map b8) (sd_hash ao l.length cp M x) (.array 32 5) (by kernel_rfl) rfl 32 (by kernel_rfl) (by simp [hxl]) ?_)
    refine cc.mono ?_
    rintro e w5 ⟨rfl, G5⟩
    have hC5 := hC4.below G5 hC4.lt
    have hX5 := hX4.below G5 (Nat.le_refl _)
    have hY5 := hY4.below G5 (Nat.le_refl _)
    have F5 := F4.trans (G5.mono (by have := hC4.lt; omega))
    clear cc c0 c1 hC4 hX4 hY4 F4 G5
    clear w4
    obtain ⟨c0, c1⟩ := hC5.said
    have cc := cP.out (l.length : Int) w5 (by omega) (by omega) (by omega) F5
    go_wp2_with (refine wpList_load_mid_blk rfl 23 (.tmp 56) rfl hC5 2 rfl (x.1.map b8) (sd_hash ao l.length cp M x) (.array 32 5) (by kernel_rfl) rfl 32 (by kernel_rfl) (by simp [hxl]) ?_)
    refine cc.mono ?_
    rintro e w6 ⟨rfl, G6⟩
    have hC6 := hC5.below G6 hC5.lt
    have hX6 := hX5.below G6 (Nat.le_refl _)
    have hY6 := hY5.below G6 (Nat.le_refl _)
    have F6 := F5.trans (G6.mono (by have := hC5.lt; omega))
    clear cc c0 c1 hC5 hX5 hY5 F5 G6
    clear w5
    obtain ⟨c0, c1⟩ := hC6.said
    have cc := cQ.out 0 w6 (by omega) (by omega) (by omega) F6
    go_wp2_with (refine wpList_load_mid_blk rfl 23 (.tmp 66) rfl hC6 2 rfl (x.1.map b8) (sd_hash ao l.length cp M x) (.array 32 5) (by kernel_rfl) rfl 32 (by kernel_rfl) (by simp [hxl]) ?_)
    refine cc.mono ?_
    rintro e w7 ⟨rfl, G7⟩
    have hC7 := hC6.below G7 hC6.lt
    have hX7 := hX6.below G7 (Nat.le_refl _)
    have hY7 := hY6.below G7 (Nat.le_refl _)
    have F7 := F6.trans (G7.mono (by have := hC6.lt; omega))
    clear cc c0 c1 hC6 hX6 hY6 F6 G7
    clear w6
    obtain ⟨c0, c1⟩ := hC7.said
    have cc := cQ.out ((l.length : Int) + 1) w7 (by omega) (by omega) (by omega) F7
    go_wp2_with (refine wpList_load_mid_blk rfl 23 (.tmp 80) rfl hC7 2 rfl (x.1.map b8) (sd_hash ao l.length cp M x) (.array 32 5) (by kernel_rfl) rfl 32 (by kernel_rfl) (by simp [hxl]) ?_)
    refine cc.mono ?_
    rintro e w8 ⟨rfl, G8⟩
    have hC8 := hC7.below G8 hC7.lt
    have hX8 := hX7.below G8 (Nat.le_refl _)
    have hY8 := hY7.below G8 (Nat.le_refl _)
    have F8 := F7.trans (G8.mono (by have := hC7.lt; omega))
    clear cc c0 c1 hC7 hX7 hY7 F7 G8
    clear w7
    obtain ⟨c0, c1⟩ := hC8.said
    have cc := cP2.out w8 F8
    go_wp2_with (refine wpList_load_mid_blk rfl 23 (.tmp 91) rfl hC8 2 rfl (x.1.map b8) (sd_hash ao l.length cp M x) (.array 32 5) (by kernel_rfl) rfl 32 (by kernel_rfl) (by simp [hxl]) ?_)
    refine cc.mono ?_
    rintro e w9 ⟨⟨v, rfl⟩, G9⟩
    have hC9 := hC8.below G9 hC8.lt
    have hX9 := hX8.below G9 (Nat.le_refl _)
    have hY9 := hY8.below G9 (Nat.le_refl _)
    have F9 := F8.trans (G9.mono (by have := hC8.lt; omega))
    clear cc c0 c1 hC8 hX8 hY8 F8 G9
    clear w8
    obtain ⟨c0, c1⟩ := hC9.said
    have cc := cQ2.out w9 F9
    go_wp2_with (refine wpList_load_mid_blk rfl 23 (.tmp 99) rfl hC9 2 rfl (x.1.map b8) (sd_hash ao l.length cp M x) (.array 32 5) (by kernel_rfl) rfl 32 (by kernel_rfl) (by simp [hxl]) ?_)
    refine cc.mono ?_
    rintro e w10 ⟨⟨v, rfl⟩, G10⟩
    have hC10 := hC9.below G10 hC9.lt
    have hX10 := hX9.below G10 (Nat.le_refl _)
    have hY10 := hY9.below G10 (Nat.le_refl _)
    have F10 := F9.trans (G10.mono (by have := hC9.lt; omega))
    clear cc c0 c1 hC9 hX9 hY9 F9 G10
    clear w9
    obtain ⟨c0, c1⟩ := hC10.said
    have cc := cS.out w10 F10 hX10
    go_wp2_with fail
    refine cc.mono ?_
    rintro e w11 ⟨rfl, G11⟩
    have F11 := F10.trans (G11.mono (by have := hC10.lt; omega))
    have hY11 := hY10.below G11 (Nat.le_refl _)
    have hs11 : r ≤ w11.heap.size := by have := hC10.lt; have := G11.size; omega
    have cd := cT.out w11 F11 hY11
    clear cc c0 c1 hC10 hX10 hY10 F10 G11 hY11
    clear w10
    go_wp2_with fail
    refine cd.mono ?_
    rintro e w12 ⟨rfl, G12⟩
    have F12 := F11.trans (G12.mono hs11)
    rw [HR.out] at F12
    clear cd F11 G12
    go_wp2
    go_ret
    exact ⟨rfl, F12⟩
  · have k2 := awake20_any w2 (hL.below F2 HR0.out)
    by_cases hl : l.length ≤ 60
    · have hd : decide ((60 : Int) < (l.length : Int)) = false := by rw [decide_eq_false_iff_not]; omega
      have hd1 : decide ((70 : Int) < (p.length : Int)) = true := by rw [decide_eq_true_eq]; omega
      go_wp2_with fail
      refine k2.mono ?_
      rintro e w5 ⟨rfl, G5⟩
      have F5 := F2.trans (G5.mono (by have := hC2.lt; omega))
      rw [HR.out] at F5
      clear k2 c0 c1 hC2 F2 G5
      go_wp2
      go_ret
      exact ⟨rfl, F5⟩
    · have hd : decide ((60 : Int) < (l.length : Int)) = true := by rw [decide_eq_true_eq]; omega
      go_wp2_with fail
      refine k2.mono ?_
      rintro e w5 ⟨rfl, G5⟩
      have F5 := F2.trans (G5.mono (by have := hC2.lt; omega))
      rw [HR.out] at F5
      clear k2 c0 c1 hC2 F2 G5
      go_wp2
      go_ret
      exact ⟨rfl, F5⟩
end Go.Proofs.YtadiijieldldhaaDoor
