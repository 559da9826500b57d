/-
  The walk of the statement CheckAll.
-/
import Derived.Test.YtadiijieldldhaaDoorRef19
import Derived.Test.YtadiijieldldhaaDoorProof
namespace Go.Proofs.YtadiijieldldhaaDoor
open Go Go.RowKit
attribute [local irreducible] sha
theorem proofP_all (k : Int) (hk : 1 ≤ k) (x y : Hs) (l : List Hs) : proofP k k x l y = (decide (l.length = 0) && x.1 == y.1) := by
  unfold proofP; rw [if_pos ⟨hk, Int.le_refl _⟩, if_pos rfl]
theorem checkP_one (x y : Hs) (l : List Hs) : checkP 0 1 x l y = (decide (l.length = 0) && x.1 == y.1) := by
  unfold checkP
  rw [if_pos (by decide)]
  cases l with
  | nil =>
    rw [show runP (0 : Int).toNat (1 - 1 : Int).toNat x [] = some x from rfl, Bool.eq_iff_iff, decide_eq_true_eq, Bool.and_eq_true, beq_iff_eq]
    exact ⟨fun e => ⟨rfl, by rw [Option.some.inj e]⟩, fun e => by rw [Subtype.ext e.2]⟩
  | cons u r =>
    rw [show runP (0 : Int).toNat (1 - 1 : Int).toNat x (u :: r) = none from runP_zero _ _ _ _]
    simp
abbrev twoA (x y : Hs) : Array Value := (x.1.map b8 ++ y.1.map b8).toArray
theorem twoA_one (x y : Hs) (j : Nat) (v : Value) (h : (x.1.map b8)[j]? = some v) : (twoA x y)[0 + j]? = some v := by
  have hj := (List.getElem?_eq_some_iff.1 h).1
  rw [List.getElem?_toArray, Nat.zero_add, List.getElem?_append_left hj, h]
theorem twoA_two (x y : Hs) (j : Nat) (v : Value) (h : (y.1.map b8)[j]? = some v) : (twoA x y)[32 + j]? = some v := by
  have hx : (x.1.map b8).length = 32 := by rw [List.length_map, x.2]
  rw [List.getElem?_toArray, List.getElem?_append_right (by omega), hx, Nat.add_sub_cancel_left, h]
set_option maxRecDepth 100000 in
set_option maxHeartbeats 8000000 in
theorem call_any (w : World) (hL : Laid w) (n : Int) (hn0 : 0 ≤ n) (hn1 : n ≤ 4294967295) (x y : Hs) (ao : Option Addr) (cp : Nat) (l : List Hs) (hB : Hts w ao l) (hc : l.length ≤ cp) (hm : cp ≤ maxLen) :
    Calls Tryd.prog 9 #[.int .u32 n, .agg (twoA x y), .slice ao l.length cp] w fun e w' => e = .returned (.bool true) ∧ Below w.heap.size w w' := by
  have hl9 : l.length ≤ 9223372036854775807 := Nat.le_trans hc hm
  have hxl := x.2
  have hyl := y.2
  obtain ⟨r, hr⟩ : ∃ r, r = w.heap.size := ⟨_, rfl⟩
  obtain ⟨w1, hw1⟩ : ∃ w1, w1 = w.alloc (.cells (twoA x y) 45) := ⟨_, rfl⟩
  have F1 : Below r w w1 := by rw [hw1, hr]; exact below_alloc1 _ _
  have hC1 : Blk w1 r 45 (twoA x y) := by rw [hw1, hr]; exact Blk.new w _ _
  have HR := Lib.hid (And.intro hw1 hr)
  have hr0 : w.heap.size ≤ r := by omega
  have HR0 := Lib.hid hr0
  clear hw1 hr hr0
  go_enter Tryd.func9, Tryd.ntmps9
  go_upto_region 1 with (fail)
  change Code.wp _ _ _ _ (w.alloc (.cells (twoA x y) 45))
  rw [← HR.out.1, ← HR.out.2]
  replace HR := Lib.hid HR.out.2
  refine wp_region_N (fun w' => Blk w' r 45 (twoA x y)) [] (by kernel_rfl) ?_
  obtain ⟨wd, hwd⟩ : ∃ wd, wd = w1.drew := ⟨_, rfl⟩
  replace hC1 : Blk wd r 45 (twoA x y) := by rw [hwd]; exact hC1
  replace F1 : Below r w wd := by rw [hwd]; exact F1.drew
  rw [← hwd]
  clear hwd
  clear w1
  refine wpAnyN_pureG 0 10 (v := .pointer (some ⟨r, 0, none⟩)) rfl rfl (by kernel_rfl) (by kernel_rfl) (by kernel_rfl) (fun _ _ _ h => h) rfl (fun w => ?_) ?_
  · go_simp
  refine wpAnyN_pureG 2 12 (v := .pointer (some ⟨r, 32, none⟩)) rfl rfl (by kernel_rfl) (by kernel_rfl) (by kernel_rfl) (fun _ _ _ h => h) rfl (fun w => ?_) ?_
  · go_simp
  simp only [Act.put, List.setIfInBounds_toArray, List.set_cons_succ, List.set_cons_zero]
  refine wpAnyN_takeG 1 11 (v := hval x) rfl rfl (by kernel_rfl) (by kernel_rfl) (by kernel_rfl) (by kernel_rfl) (fun _ _ _ h => h) hC1 rfl (fun w hS => ?_) ?_
  · exact run_load_mid_blk 23 (.tmp 10) rfl hS 0 (by go_simp) (x.1.map b8) (twoA_one x y) (.array 32 5) (by kernel_rfl) rfl 32 (by kernel_rfl) (by simp [hxl])
  refine wpAnyN_takeG 3 13 (v := hval y) rfl rfl (by kernel_rfl) (by kernel_rfl) (by kernel_rfl) (by kernel_rfl) (fun _ _ _ h => h) hC1 rfl (fun w hS => ?_) ?_
  · exact run_load_mid_blk 23 (.tmp 12) rfl hS 32 (by go_simp) (y.1.map b8) (twoA_two x y) (.array 32 5) (by kernel_rfl) rfl 32 (by kernel_rfl) (by simp [hyl])
  simp only [Act.put, List.setIfInBounds_toArray, List.set_cons_succ, List.set_cons_zero]
  have hsz : r + 1 ≤ wd.heap.size := hC1.lt
  refine wpAnyN_dag2 [4, 5] (fun i => match i with | 4 => some 7 | 5 => some 8 | _ => none) (fun _ => []) (fun i v w => match i with
    | 4 => PtrC 23 zero32 v w
    | 5 => PtrC 23 zero32 v w
    | _ => True) (fun i => i == 4 || i == 5) (g := 2) (by kernel_rfl) (by kernel_rfl) rfl
    ⟨fun _ _ _ hb h => PtrC.below hb h, fun _ _ _ hb h => PtrC.below hb h, trivial⟩
    (fun w w' hb h => h.below hb h.lt) ⟨?_, ?_, trivial⟩ ?_
  · intro vs w hb _ o ho
    cases ho
    simp only [putsD]
    refine vwp_run rfl (v := .pointer (some ⟨w.heap.size, 0, none⟩)) (w' := w.alloc (.cells zero32 23)) ?_ ⟨below_alloc1 _ _, ⟨_, rfl, Blk.new _ _ _⟩, fun _ => ⟨_, rfl, Nat.le_refl _, alloc_lt _ _⟩⟩
    go_simp
  · intro vs w hb _ o ho
    cases ho
    simp only [putsD]
    refine vwp_run rfl (v := .pointer (some ⟨w.heap.size, 0, none⟩)) (w' := w.alloc (.cells zero32 23)) ?_ ⟨below_alloc1 _ _, ⟨_, rfl, Blk.new _ _ _⟩, fun _ => ⟨_, rfl, Nat.le_refl _, alloc_lt _ _⟩⟩
    go_simp
  intro vs w2 hb hR hne hfr
  obtain ⟨⟨b7, h12, hk2⟩, ⟨b8', h13, hk3⟩, -⟩ := hR
  have hne2 := hne 4 (by simp) 5 (by simp) (by decide) rfl rfl
  rw [h12, h13] at hne2
  have hb78 : b7 ≠ b8' := fun e => hne2 (by rw [e])
  obtain ⟨x1, hx1, hx1', -⟩ := hfr 4 (by simp) rfl
  rw [h12] at hx1
  obtain rfl : b7 = x1 := Option.some.inj hx1
  obtain ⟨x2, hx2, hx2', -⟩ := hfr 5 (by simp) rfl
  rw [h13] at hx2
  obtain rfl : b8' = x2 := Option.some.inj hx2
  have hr2 : r + 1 ≤ b7 := by omega
  have hr3 : r + 1 ≤ b8' := by omega
  have F2 : Below r w w2 := F1.trans (hb.mono (by omega))
  simp only [putsD]
  rw [h12, h13]
  clear hne hfr hne2 hx1 hx1' hx2 hx2' h12 h13 hb hC1 F1 hsz
  clear wd
  simp only [Act.put, List.setIfInBounds_toArray, List.set_cons_succ, List.set_cons_zero]
  refine wpAnyN_store_blk 6 23 (.tmp 7) (.tmp 11) (by kernel_rfl) rfl rfl rfl rfl hk2 0 (x.1.map b8).toArray (by go_simp) (by go_simp) 32 (by kernel_rfl) (by simp [hxl]) (by simp) (by rw [List.toList_toArray]; exact b8_one _) (x.1.map b8).toArray (by simp) ?_
  intro w3 hA3 hg3
  have hk3' := hk3.grown hg3 (fun e => hb78 (Option.some.inj e).symm)
  have F3 := below_upd F2 hg3 (by omega) hk2.lt
  refine ⟨fun _ h => h.grown hg3 (fun e => by have := Option.some.inj e; omega), ?_⟩
  clear hg3 hk2 hk3 F2
  clear w2
  refine wpAnyN_store_blk 7 23 (.tmp 8) (.tmp 13) (by kernel_rfl) rfl rfl rfl rfl hk3' 0 (y.1.map b8).toArray (by go_simp) (by go_simp) 32 (by kernel_rfl) (by simp [hyl]) (by simp) (by rw [List.toList_toArray]; exact b8_one _) (y.1.map b8).toArray (by simp) ?_
  intro w4 hB4 hg4
  have hA4 := hA3.grown hg4 (fun e => hb78 (Option.some.inj e))
  have F4 := below_upd F3 hg4 (by omega) hk3'.lt
  refine ⟨fun _ h => h.grown hg4 (fun e => by have := Option.some.inj e; omega), wpAnyN_done (by kernel_rfl) ?_⟩
  clear hg4 hk3' hA3 F3
  clear w3
  have c1 := awake19_any w4 (hL.below F4 HR0.out)
  go_wp2_with fail
  refine c1.mono ?_
  rintro e w5 ⟨rfl, G5⟩
  have hA5 := hA4.below G5 hA4.lt
  have hB5 := hB4.below G5 hB4.lt
  have F5 := F4.trans (G5.mono (by have := hA4.lt; omega))
  clear c1 hA4 hB4 F4 G5
  clear w4
  by_cases hlen : l.length ≤ 70
  · have hd : decide ((70 : Int) < (l.length : Int)) = false := by rw [decide_eq_false_iff_not]; omega
    have q1 : IntKind.i64.wrap n = n := IntWalk.i64_in _ (by omega)
    obtain ⟨k, hk⟩ : ∃ k, k = 1 + n := ⟨_, rfl⟩
    have q2 : IntKind.i64.wrap (1 + n) = k := by rw [hk]; exact IntWalk.i64_in _ (by omega)
    obtain ⟨q, hq⟩ : ∃ q, q = (x.1 == y.1) := ⟨_, rfl⟩
    obtain ⟨q2, hq2⟩ : ∃ q2, q2 = decide (l.length = 0) := ⟨_, rfl⟩
    have hq0 : ((l.length : Int) == 0) = q2 := by rw [hq2, Bool.eq_iff_iff, beq_iff_eq, decide_eq_true_eq]; omega
    go_upto_region 5 with (fail)
    refine wp_region_N (fun w' => Blk w' b7 23 (x.1.map b8).toArray ∧ Blk w' b8' 23 (y.1.map b8).toArray) [] (by kernel_rfl) ?_
    obtain ⟨wn, hwd⟩ : ∃ wn, wn = w5.drew := ⟨_, rfl⟩
    have hS : Blk wn b7 23 (x.1.map b8).toArray ∧ Blk wn b8' 23 (y.1.map b8).toArray := by rw [hwd]; exact ⟨hA5, hB5⟩
    have FB0 : Below r w wn := by rw [hwd]; exact F5.drew
    rw [← hwd]
    clear hwd hA5 hB5 F5
    clear w5
    have FB := Lib.hid (And.intro FB0 (show r < b7 by omega))
    have k1 : ∀ W, Below r w W → Calls Tryd.prog 23 #[.int .i64 k, .int .i64 k, hval x, .slice none 0 0, hval y] W fun e w' => e = .returned (.bool q) ∧ Below W.heap.size W w' := fun W h => by
      have := proof_any W (hL.below h HR0.out) k k (by omega) (by omega) (by omega) (by omega) x none 0 [] (Hts.nil _ _) (by decide) (by decide) (by decide) y
      rw [proofP_all k (by omega)] at this
      rw [hq]; exact this
    have k2 : ∀ W, Below r w W → Calls Tryd.prog 23 #[.int .i64 k, .int .i64 k, hval x, .slice ao l.length cp, hval x] W fun e w' => e = .returned (.bool q2) ∧ Below W.heap.size W w' := fun W h => by
      have := proof_any W (hL.below h HR0.out) k k (by omega) (by omega) (by omega) (by omega) x ao cp l (hB.below h HR0.out) hc hm (by omega) x
      rw [proofP_all k (by omega), beq_self_eq_true, Bool.and_true] at this
      rw [hq2]; exact this
    have k3 : ∀ W, Below r w W → Calls Tryd.prog 14 #[.int .i64 0, .int .i64 1, hval x, .slice none 0 0, hval y] W fun e w' => e = .returned (.bool q) ∧ Below W.heap.size W w' := fun W h => by
      have := check_any W (hL.below h HR0.out) 0 1 (by decide) (by decide) (by decide) (by decide) x none 0 [] (Hts.nil _ _) (by decide) y
      rw [checkP_one] at this
      rw [hq]; exact this
    have k4 : ∀ W, Below r w W → Calls Tryd.prog 14 #[.int .i64 0, .int .i64 1, hval x, .slice ao l.length cp, hval x] W fun e w' => e = .returned (.bool q2) ∧ Below W.heap.size W w' := fun W h => by
      have := check_any W (hL.below h HR0.out) 0 1 (by decide) (by decide) (by decide) (by decide) x ao cp l (hB.below h HR0.out) (by omega) x
      rw [checkP_one, beq_self_eq_true, Bool.and_true] at this
      rw [hq2]; exact this
    replace k1 := Lib.hid k1
    replace k2 := Lib.hid k2
    replace k3 := Lib.hid k3
    replace k4 := Lib.hid k4
    have HQ := Lib.hid hq
    have HK := Lib.hid hk.symm
    clear hq hq2 hk FB0 hL hB hlen
    refine wpAnyN_pureG 0 25 (v := ?_) rfl rfl (by kernel_rfl) (by kernel_rfl) (by kernel_rfl) (fun _ _ _ h => h) rfl (fun w => ?_) ?_
    rotate_left
    · go_simp
      try with_reducible rfl
    refine wpAnyN_pureG 1 26 (v := ?_) rfl rfl (by kernel_rfl) (by kernel_rfl) (by kernel_rfl) (fun _ _ _ h => h) rfl (fun w => ?_) ?_
    rotate_left
    · go_simp
      try with_reducible rfl
    simp only [Act.put, List.setIfInBounds_toArray, List.set_cons_succ, List.set_cons_zero]
    refine wpAnyN_takeG 2 27 (v := hval x) rfl rfl (by kernel_rfl) (by kernel_rfl) (by kernel_rfl) (by kernel_rfl) (fun _ _ _ h => h) hS rfl (fun w hS => ?_) ?_
    · exact run_load_mid_blk 23 (.tmp 7) rfl hS.1 0 (by go_simp) (x.1.map b8) (fun j v h => by rw [Nat.zero_add, List.getElem?_toArray]; exact h) (.array 32 5) (by kernel_rfl) rfl 32 (by kernel_rfl) (by simp [hxl])
    refine wpAnyN_takeG 3 28 (v := hval y) rfl rfl (by kernel_rfl) (by kernel_rfl) (by kernel_rfl) (by kernel_rfl) (fun _ _ _ h => h) hS rfl (fun w hS => ?_) ?_
    · exact run_load_mid_blk 23 (.tmp 8) rfl hS.2 0 (by go_simp) (y.1.map b8) (fun j v h => by rw [Nat.zero_add, List.getElem?_toArray]; exact h) (.array 32 5) (by kernel_rfl) rfl 32 (by kernel_rfl) (by simp [hyl])
    refine wpAnyN_takeG 5 30 (v := hval x) rfl rfl (by kernel_rfl) (by kernel_rfl) (by kernel_rfl) (by kernel_rfl) (fun _ _ _ h => h) hS rfl (fun w hS => ?_) ?_
    · exact run_load_mid_blk 23 (.tmp 7) rfl hS.1 0 (by go_simp) (x.1.map b8) (fun j v h => by rw [Nat.zero_add, List.getElem?_toArray]; exact h) (.array 32 5) (by kernel_rfl) rfl 32 (by kernel_rfl) (by simp [hxl])
    refine wpAnyN_takeG 6 31 (v := hval y) rfl rfl (by kernel_rfl) (by kernel_rfl) (by kernel_rfl) (by kernel_rfl) (fun _ _ _ h => h) hS rfl (fun w hS => ?_) ?_
    · exact run_load_mid_blk 23 (.tmp 8) rfl hS.2 0 (by go_simp) (y.1.map b8) (fun j v h => by rw [Nat.zero_add, List.getElem?_toArray]; exact h) (.array 32 5) (by kernel_rfl) rfl 32 (by kernel_rfl) (by simp [hyl])
    simp only [Act.put, List.setIfInBounds_toArray, List.set_cons_succ, List.set_cons_zero]
    refine wpAnyN_pureG 7 32 (v := .bool q) rfl rfl (by kernel_rfl) (by kernel_rfl) (by kernel_rfl) (fun _ _ _ h => h) rfl (fun w => ?_) ?_
    · rw [HQ.out]; go_simp
    simp only [Act.put, List.setIfInBounds_toArray, List.set_cons_succ, List.set_cons_zero]
    refine wpAnyN_call 4 23 (some 29) [.tmp 25, .tmp 26, .tmp 27, .const (.slice none 0 0), .tmp 28] [.int .i64 k, .int .i64 k, hval x, .slice none 0 0, hval y] (by kernel_rfl) rfl rfl rfl rfl (by go_simp; try exact HK.out) Tryd.call23 ?_
    refine (k1.out wn (FB.out.1) ).mono ?_
    rintro e wm ⟨rfl, G⟩
    refine ⟨_, rfl, fun _ h => ⟨h.1.below G h.1.lt, h.2.below G h.2.lt⟩, ?_⟩
    have hS' : Blk wm b7 23 (x.1.map b8).toArray ∧ Blk wm b8' 23 (y.1.map b8).toArray := ⟨hS.1.below G hS.1.lt, hS.2.below G hS.2.lt⟩
    have FB' := Lib.hid (And.intro (FB.out.1.trans (G.mono (Nat.le_of_lt (Nat.lt_of_lt_of_le FB.out.2 (Nat.le_of_lt hS.1.lt))))) FB.out.2)
    clear G hS FB
    clear wn
    obtain ⟨wn, rfl⟩ : ∃ wn, wn = wm := ⟨_, rfl⟩
    have hS := hS'
    have FB := FB'
    clear hS' FB'
    simp only [Act.put, List.setIfInBounds_toArray, List.set_cons_succ, List.set_cons_zero]
    refine wpAnyN_pureG 8 33 (v := .bool true) rfl rfl (by kernel_rfl) (by kernel_rfl) (by kernel_rfl) (fun _ _ _ h => h) rfl (fun w => ?_) ?_
    · go_simp
    simp only [Act.put, List.setIfInBounds_toArray, List.set_cons_succ, List.set_cons_zero]
    refine wpAnyN_pureG 9 34 (v := .bool true) rfl rfl (by kernel_rfl) (by kernel_rfl) (by kernel_rfl) (fun _ _ _ h => h) rfl (fun w => ?_) ?_
    · go_simp
    simp only [Act.put, List.setIfInBounds_toArray, List.set_cons_succ, List.set_cons_zero]
    refine wpAnyN_pure 10 35 (v := ?_) rfl rfl (by kernel_rfl) (by kernel_rfl) (by kernel_rfl) (fun _ _ _ h => h) (by go_simp) (fun w => ?_) ?_
    rotate_left
    · go_simp
      try with_reducible rfl
    refine wpAnyN_pure 11 36 (v := ?_) rfl rfl (by kernel_rfl) (by kernel_rfl) (by kernel_rfl) (fun _ _ _ h => h) (by go_simp) (fun w => ?_) ?_
    rotate_left
    · go_simp
      try with_reducible rfl
    simp only [Act.put, List.setIfInBounds_toArray, List.set_cons_succ, List.set_cons_zero]
    refine wpAnyN_take 12 37 (v := hval x) rfl rfl (by kernel_rfl) (by kernel_rfl) (by kernel_rfl) (by kernel_rfl) (fun _ _ _ h => h) hS (by go_simp) (fun w hS => ?_) ?_
    · exact run_load_mid_blk 23 (.tmp 7) rfl hS.1 0 (by go_simp) (x.1.map b8) (fun j v h => by rw [Nat.zero_add, List.getElem?_toArray]; exact h) (.array 32 5) (by kernel_rfl) rfl 32 (by kernel_rfl) (by simp [hxl])
    refine wpAnyN_pure 13 38 (v := ?_) rfl rfl (by kernel_rfl) (by kernel_rfl) (by kernel_rfl) (fun _ _ _ h => h) (by go_simp) (fun w => ?_) ?_
    rotate_left
    · go_simp
      try with_reducible rfl
    simp only [Act.put, List.setIfInBounds_toArray, List.set_cons_succ, List.set_cons_zero]
    refine wpAnyN_take 14 39 (v := hval x) rfl rfl (by kernel_rfl) (by kernel_rfl) (by kernel_rfl) (by kernel_rfl) (fun _ _ _ h => h) hS (by go_simp) (fun w hS => ?_) ?_
    · exact run_load_mid_blk 23 (.tmp 7) rfl hS.1 0 (by go_simp) (x.1.map b8) (fun j v h => by rw [Nat.zero_add, List.getElem?_toArray]; exact h) (.array 32 5) (by kernel_rfl) rfl 32 (by kernel_rfl) (by simp [hxl])
    refine wpAnyN_pure 16 41 (v := ?_) rfl rfl (by kernel_rfl) (by kernel_rfl) (by kernel_rfl) (fun _ _ _ h => h) (by go_simp) (fun w => ?_) ?_
    rotate_left
    · go_simp
      try with_reducible rfl
    simp only [Act.put, List.setIfInBounds_toArray, List.set_cons_succ, List.set_cons_zero]
    refine wpAnyN_pure 17 42 (v := ?_) rfl rfl (by kernel_rfl) (by kernel_rfl) (by kernel_rfl) (fun _ _ _ h => h) (by go_simp) (fun w => ?_) ?_
    rotate_left
    · go_simp
      try with_reducible rfl
    simp only [Act.put, List.setIfInBounds_toArray, List.set_cons_succ, List.set_cons_zero]
    refine wpAnyN_pure 18 43 (v := .bool q2) rfl rfl (by kernel_rfl) (by kernel_rfl) (by kernel_rfl) (fun _ _ _ h => h) (by go_simp) (fun w => ?_) ?_
    · go_simp
    simp only [Act.put, List.setIfInBounds_toArray, List.set_cons_succ, List.set_cons_zero]
    refine wpAnyN_callW 15 23 (some 40) [.tmp 35, .tmp 36, .tmp 37, .tmp 38, .tmp 39] [.int .i64 k, .int .i64 k, hval x, .slice ao l.length cp, hval x] (by kernel_rfl) rfl rfl rfl (by go_simp) (by go_simp; try exact HK.out) Tryd.call23 ?_
    refine (k2.out wn (FB.out.1) ).mono ?_
    rintro e wm ⟨rfl, G⟩
    refine ⟨_, rfl, fun _ h => ⟨h.1.below G h.1.lt, h.2.below G h.2.lt⟩, ?_⟩
    have hS' : Blk wm b7 23 (x.1.map b8).toArray ∧ Blk wm b8' 23 (y.1.map b8).toArray := ⟨hS.1.below G hS.1.lt, hS.2.below G hS.2.lt⟩
    have FB' := Lib.hid (And.intro (FB.out.1.trans (G.mono (Nat.le_of_lt (Nat.lt_of_lt_of_le FB.out.2 (Nat.le_of_lt hS.1.lt))))) FB.out.2)
    clear G hS FB
    clear wn
    obtain ⟨wn, rfl⟩ : ∃ wn, wn = wm := ⟨_, rfl⟩
    have hS := hS'
    have FB := FB'
    clear hS' FB'
    simp only [Act.put, List.setIfInBounds_toArray, List.set_cons_succ, List.set_cons_zero]
    refine wpAnyN_pure 19 44 (v := .bool true) rfl rfl (by kernel_rfl) (by kernel_rfl) (by kernel_rfl) (fun _ _ _ h => h) (by go_simp) (fun w => ?_) ?_
    · go_simp
    simp only [Act.put, List.setIfInBounds_toArray, List.set_cons_succ, List.set_cons_zero]
    refine wpAnyN_pureG 20 45 (v := .bool true) rfl rfl (by kernel_rfl) (by kernel_rfl) (by kernel_rfl) (fun _ _ _ h => h) rfl (fun w => ?_) ?_
    · go_simp
    simp only [Act.put, List.setIfInBounds_toArray, List.set_cons_succ, List.set_cons_zero]
    refine wpAnyN_pureG 21 46 (v := .bool true) rfl rfl (by kernel_rfl) (by kernel_rfl) (by kernel_rfl) (fun _ _ _ h => h) rfl (fun w => ?_) ?_
    · go_simp
    simp only [Act.put, List.setIfInBounds_toArray, List.set_cons_succ, List.set_cons_zero]
    refine wpAnyN_take 22 47 (v := hval x) rfl rfl (by kernel_rfl) (by kernel_rfl) (by kernel_rfl) (by kernel_rfl) (fun _ _ _ h => h) hS (by go_simp) (fun w hS => ?_) ?_
    · exact run_load_mid_blk 23 (.tmp 7) rfl hS.1 0 (by go_simp) (x.1.map b8) (fun j v h => by rw [Nat.zero_add, List.getElem?_toArray]; exact h) (.array 32 5) (by kernel_rfl) rfl 32 (by kernel_rfl) (by simp [hxl])
    refine wpAnyN_take 23 48 (v := hval y) rfl rfl (by kernel_rfl) (by kernel_rfl) (by kernel_rfl) (by kernel_rfl) (fun _ _ _ h => h) hS (by go_simp) (fun w hS => ?_) ?_
    · exact run_load_mid_blk 23 (.tmp 8) rfl hS.2 0 (by go_simp) (y.1.map b8) (fun j v h => by rw [Nat.zero_add, List.getElem?_toArray]; exact h) (.array 32 5) (by kernel_rfl) rfl 32 (by kernel_rfl) (by simp [hyl])
    simp only [Act.put, List.setIfInBounds_toArray, List.set_cons_succ, List.set_cons_zero]
    refine wpAnyN_take 25 50 (v := hval x) rfl rfl (by kernel_rfl) (by kernel_rfl) (by kernel_rfl) (by kernel_rfl) (fun _ _ _ h => h) hS (by go_simp) (fun w hS => ?_) ?_
    · exact run_load_mid_blk 23 (.tmp 7) rfl hS.1 0 (by go_simp) (x.1.map b8) (fun j v h => by rw [Nat.zero_add, List.getElem?_toArray]; exact h) (.array 32 5) (by kernel_rfl) rfl 32 (by kernel_rfl) (by simp [hxl])
    refine wpAnyN_take 26 51 (v := hval y) rfl rfl (by kernel_rfl) (by kernel_rfl) (by kernel_rfl) (by kernel_rfl) (fun _ _ _ h => h) hS (by go_simp) (fun w hS => ?_) ?_
    · exact run_load_mid_blk 23 (.tmp 8) rfl hS.2 0 (by go_simp) (y.1.map b8) (fun j v h => by rw [Nat.zero_add, List.getElem?_toArray]; exact h) (.array 32 5) (by kernel_rfl) rfl 32 (by kernel_rfl) (by simp [hyl])
    simp only [Act.put, List.setIfInBounds_toArray, List.set_cons_succ, List.set_cons_zero]
    refine wpAnyN_pure 27 52 (v := .bool q) rfl rfl (by kernel_rfl) (by kernel_rfl) (by kernel_rfl) (fun _ _ _ h => h) (by go_simp) (fun w => ?_) ?_
    · rw [HQ.out]; go_simp
    simp only [Act.put, List.setIfInBounds_toArray, List.set_cons_succ, List.set_cons_zero]
    refine wpAnyN_callW 24 14 (some 49) [.const (.int .i64 0), .const (.int .i64 1), .tmp 47, .const (.slice none 0 0), .tmp 48] [.int .i64 0, .int .i64 1, hval x, .slice none 0 0, hval y] (by kernel_rfl) rfl rfl rfl (by go_simp) (by go_simp; try exact HK.out) Tryd.call14 ?_
    refine (k3.out wn (FB.out.1) ).mono ?_
    rintro e wm ⟨rfl, G⟩
    refine ⟨_, rfl, fun _ h => ⟨h.1.below G h.1.lt, h.2.below G h.2.lt⟩, ?_⟩
    have hS' : Blk wm b7 23 (x.1.map b8).toArray ∧ Blk wm b8' 23 (y.1.map b8).toArray := ⟨hS.1.below G hS.1.lt, hS.2.below G hS.2.lt⟩
    have FB' := Lib.hid (And.intro (FB.out.1.trans (G.mono (Nat.le_of_lt (Nat.lt_of_lt_of_le FB.out.2 (Nat.le_of_lt hS.1.lt))))) FB.out.2)
    clear G hS FB
    clear wn
    obtain ⟨wn, rfl⟩ : ∃ wn, wn = wm := ⟨_, rfl⟩
    have hS := hS'
    have FB := FB'
    clear hS' FB'
    simp only [Act.put, List.setIfInBounds_toArray, List.set_cons_succ, List.set_cons_zero]
    refine wpAnyN_pure 28 53 (v := .bool true) rfl rfl (by kernel_rfl) (by kernel_rfl) (by kernel_rfl) (fun _ _ _ h => h) (by go_simp) (fun w => ?_) ?_
    · go_simp
    simp only [Act.put, List.setIfInBounds_toArray, List.set_cons_succ, List.set_cons_zero]
    refine wpAnyN_pureG 29 54 (v := .bool true) rfl rfl (by kernel_rfl) (by kernel_rfl) (by kernel_rfl) (fun _ _ _ h => h) rfl (fun w => ?_) ?_
    · go_simp
    simp only [Act.put, List.setIfInBounds_toArray, List.set_cons_succ, List.set_cons_zero]
    refine wpAnyN_pureG 30 55 (v := .bool true) rfl rfl (by kernel_rfl) (by kernel_rfl) (by kernel_rfl) (fun _ _ _ h => h) rfl (fun w => ?_) ?_
    · go_simp
    simp only [Act.put, List.setIfInBounds_toArray, List.set_cons_succ, List.set_cons_zero]
    refine wpAnyN_take 31 56 (v := hval x) rfl rfl (by kernel_rfl) (by kernel_rfl) (by kernel_rfl) (by kernel_rfl) (fun _ _ _ h => h) hS (by go_simp) (fun w hS => ?_) ?_
    · exact run_load_mid_blk 23 (.tmp 7) rfl hS.1 0 (by go_simp) (x.1.map b8) (fun j v h => by rw [Nat.zero_add, List.getElem?_toArray]; exact h) (.array 32 5) (by kernel_rfl) rfl 32 (by kernel_rfl) (by simp [hxl])
    refine wpAnyN_pure 32 57 (v := ?_) rfl rfl (by kernel_rfl) (by kernel_rfl) (by kernel_rfl) (fun _ _ _ h => h) (by go_simp) (fun w => ?_) ?_
    rotate_left
    · go_simp
      try with_reducible rfl
    simp only [Act.put, List.setIfInBounds_toArray, List.set_cons_succ, List.set_cons_zero]
    refine wpAnyN_take 33 58 (v := hval x) rfl rfl (by kernel_rfl) (by kernel_rfl) (by kernel_rfl) (by kernel_rfl) (fun _ _ _ h => h) hS (by go_simp) (fun w hS => ?_) ?_
    · exact run_load_mid_blk 23 (.tmp 7) rfl hS.1 0 (by go_simp) (x.1.map b8) (fun j v h => by rw [Nat.zero_add, List.getElem?_toArray]; exact h) (.array 32 5) (by kernel_rfl) rfl 32 (by kernel_rfl) (by simp [hxl])
    refine wpAnyN_pure 35 60 (v := ?_) rfl rfl (by kernel_rfl) (by kernel_rfl) (by kernel_rfl) (fun _ _ _ h => h) (by go_simp) (fun w => ?_) ?_
    rotate_left
    · go_simp
      try with_reducible rfl
    simp only [Act.put, List.setIfInBounds_toArray, List.set_cons_succ, List.set_cons_zero]
    refine wpAnyN_pure 36 61 (v := ?_) rfl rfl (by kernel_rfl) (by kernel_rfl) (by kernel_rfl) (fun _ _ _ h => h) (by go_simp) (fun w => ?_) ?_
    rotate_left
    · go_simp
      try with_reducible rfl
    simp only [Act.put, List.setIfInBounds_toArray, List.set_cons_succ, List.set_cons_zero]
    refine wpAnyN_pure 37 62 (v := .bool q2) rfl rfl (by kernel_rfl) (by kernel_rfl) (by kernel_rfl) (fun _ _ _ h => h) (by go_simp) (fun w => ?_) ?_
    · go_simp
    simp only [Act.put, List.setIfInBounds_toArray, List.set_cons_succ, List.set_cons_zero]
    refine wpAnyN_callW 34 14 (some 59) [.const (.int .i64 0), .const (.int .i64 1), .tmp 56, .tmp 57, .tmp 58] [.int .i64 0, .int .i64 1, hval x, .slice ao l.length cp, hval x] (by kernel_rfl) rfl rfl rfl (by go_simp) (by go_simp; try exact HK.out) Tryd.call14 ?_
    refine (k4.out wn (FB.out.1) ).mono ?_
    rintro e wm ⟨rfl, G⟩
    refine ⟨_, rfl, fun _ h => ⟨h.1.below G h.1.lt, h.2.below G h.2.lt⟩, ?_⟩
    have hS' : Blk wm b7 23 (x.1.map b8).toArray ∧ Blk wm b8' 23 (y.1.map b8).toArray := ⟨hS.1.below G hS.1.lt, hS.2.below G hS.2.lt⟩
    have FB' := Lib.hid (And.intro (FB.out.1.trans (G.mono (Nat.le_of_lt (Nat.lt_of_lt_of_le FB.out.2 (Nat.le_of_lt hS.1.lt))))) FB.out.2)
    clear G hS FB
    clear wn
    obtain ⟨wn, rfl⟩ : ∃ wn, wn = wm := ⟨_, rfl⟩
    have hS := hS'
    have FB := FB'
    clear hS' FB'
    simp only [Act.put, List.setIfInBounds_toArray, List.set_cons_succ, List.set_cons_zero]
    refine wpAnyN_pure 38 63 (v := .bool true) rfl rfl (by kernel_rfl) (by kernel_rfl) (by kernel_rfl) (fun _ _ _ h => h) (by go_simp) (fun w => ?_) ?_
    · go_simp
    simp only [Act.put, List.setIfInBounds_toArray, List.set_cons_succ, List.set_cons_zero]
    refine wpAnyN_pureG 39 64 (v := .bool true) rfl rfl (by kernel_rfl) (by kernel_rfl) (by kernel_rfl) (fun _ _ _ h => h) rfl (fun w => ?_) ?_
    · go_simp
    simp only [Act.put, List.setIfInBounds_toArray, List.set_cons_succ, List.set_cons_zero]
    refine wpAnyN_pureG 40 6 (v := .bool true) rfl rfl (by kernel_rfl) (by kernel_rfl) (by kernel_rfl) (fun _ _ _ h => h) rfl (fun w => ?_) ?_
    · go_simp
    simp only [Act.put, List.setIfInBounds_toArray, List.set_cons_succ, List.set_cons_zero]
    refine wpAnyN_done (by kernel_rfl) ?_
    have HF := Lib.hid (show Below w.heap.size w wn by rw [← HR.out]; exact FB.out.1)
    clear FB hS
    go_wp2
    go_ret
    exact ⟨by first | rfl | simp, HF.out⟩
  · have hd : decide ((70 : Int) < (l.length : Int)) = true := by rw [decide_eq_true_eq]; omega
    have k2 := awake19_any w5 (hL.below F5 HR0.out)
    go_wp2_with fail
    refine k2.mono ?_
    rintro e w6 ⟨rfl, G6⟩
    have F6 := F5.trans (G6.mono (by have := hA5.lt; omega))
    rw [HR.out] at F6
    have HF := Lib.hid F6
    clear k2 hA5 hB5 F5 G6 F6
    go_wp2
    go_ret
    exact ⟨rfl, HF.out⟩
end Go.Proofs.YtadiijieldldhaaDoor
