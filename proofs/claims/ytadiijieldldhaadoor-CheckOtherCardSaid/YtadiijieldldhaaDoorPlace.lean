/-
  A place in a tree: check's up, left and ends.
-/
import Derived.Test.YtadiijieldldhaaDoorRefRoot
namespace Go.Proofs.YtadiijieldldhaaDoor
open Go Go.RowKit
attribute [local irreducible] sha
def pl (a l : Nat) : Value := .agg #[.int .i64 a, .int .i64 l]
abbrev zeroP : Array Value := #[.int .i64 0, .int .i64 0]
abbrev plc (a l : Int) : Array Value := #[.int .i64 a, .int .i64 l]
def isStruct : Option TypeDesc → Bool
  | some (.struct _) => true
  | _ => false
theorem isStruct_spec {o : Option TypeDesc} (h : isStruct o = true) : ∃ fs, o = some (.struct fs) := by
  cases o with
  | none => cases h
  | some d => cases d <;> first | exact ⟨_, rfl⟩ | cases h
theorem placeU : ∃ fs, Tryd.prog.underlying 54 = some (.struct fs) := isStruct_spec (by kernel_rfl)
theorem plc_one (a l : Int) : ∀ v ∈ (plc a l).toList, v.oneCell' = true := by
  intro v hv
  simp at hv
  rcases hv with rfl | rfl <;> rfl
theorem half_cast (a : Nat) : (a : Int) / 2 = ((a / 2 : Nat) : Int) := by omega
set_option maxRecDepth 100000 in
set_option maxHeartbeats 4000000 in
theorem up_any (w : World) (a l : Nat) (ha : a ≤ 9223372036854775807) (hl : l ≤ 9223372036854775807) :
    Calls Tryd.prog 33 #[pl a l] w fun e w' => e = .returned (pl (a / 2) (l / 2)) ∧ Below w.heap.size w w' := by
  obtain ⟨r, hr⟩ : ∃ r, r = w.heap.size := ⟨_, rfl⟩
  obtain ⟨w1, hw1⟩ : ∃ w1, w1 = (w.alloc (.cells (plc a l) 54)).alloc (.cells zeroP 54) := ⟨_, rfl⟩
  have F1 : Below r w w1 := by rw [hw1, hr]; exact below_alloc2 _ _ _
  have hB1 : Blk w1 r 54 (plc a l) := by rw [hw1, hr]; exact (Blk.new w _ _).alloc _
  have hR1 : Blk w1 (r + 1) 54 zeroP := by rw [hw1, hr]; exact Blk.new1 w _ _ _
  have c0 : w1.cell? ⟨r, 0, none⟩ = some (.int .i64 a) := hB1.cell 0
  have c1 : w1.cell? ⟨r, 1, none⟩ = some (.int .i64 l) := hB1.cell 1
  have HR := Lib.hid (And.intro hw1 hr)
  have h1 := half_cast a
  have h2 := half_cast l
  rw [show pl (a / 2) (l / 2) = .agg (plc ((a : Int) / 2) ((l : Int) / 2)) by rw [h1, h2]; rfl, show pl a l = .agg (plc a l) from rfl]
  clear hw1 hr hB1 h1 h2
  go_enter Tryd.func33, Tryd.ntmps33
  go_upto_region 1 with (fail)
  change Code.wp _ _ _ _ ((w.alloc (.cells (plc a l) 54)).alloc (.cells zeroP 54))
  rw [← HR.out.1, ← HR.out.2]
  replace HR := Lib.hid HR.out.2
  go_wp2_with (refine wpList_store_blk rfl 54 _ _ rfl hR1 (plc ((a : Int) / 2) ((l : Int) / 2)) rfl rfl 2 (by kernel_rfl) rfl rfl (plc_one _ _) ?_)
  intro w3 hR3 hg3
  have F3 : Below r w w3 := below_upd F1 hg3 (by omega) hR1.lt
  rw [HR.out] at F3
  clear hg3 hR1 F1 c0 c1
  go_wp2
  obtain ⟨fs, hfs⟩ := placeU
  exact (ret_blk rfl hR3 rfl (.struct fs) hfs rfl 2 (by kernel_rfl) rfl ⟨rfl, F3⟩).2
set_option maxRecDepth 100000 in
set_option maxHeartbeats 4000000 in
theorem left_any (w : World) (a l : Nat) (ha : a ≤ 9223372036854775807) :
    Calls Tryd.prog 30 #[pl a l] w fun e w' => e = .returned (.bool (decide (a % 2 = 1 ∨ a = l))) ∧ Below w.heap.size w w' := by
  obtain ⟨r, hr⟩ : ∃ r, r = w.heap.size := ⟨_, rfl⟩
  obtain ⟨w1, hw1⟩ : ∃ w1, w1 = w.alloc (.cells (plc a l) 54) := ⟨_, rfl⟩
  have F1 : Below r w w1 := by rw [hw1, hr]; exact below_alloc1 _ _
  have hB1 : Blk w1 r 54 (plc a l) := by rw [hw1, hr]; exact Blk.new w _ _
  have c0 : w1.cell? ⟨r, 0, none⟩ = some (.int .i64 a) := hB1.cell 0
  have c1 : w1.cell? ⟨r, 1, none⟩ = some (.int .i64 l) := hB1.cell 1
  have HR := Lib.hid (And.intro hw1 hr)
  have HF := Lib.hid (show Below w.heap.size w w1 by rw [← hr]; exact F1)
  rw [show pl a l = .agg (plc a l) from rfl]
  obtain ⟨q, hq⟩ : ∃ q, q = decide (a % 2 = 1 ∨ a = l) := ⟨_, rfl⟩
  rw [← hq]
  have HQ := Lib.hid hq
  clear hw1 hr hB1 F1 hq
  by_cases h1 : a % 2 = 1
  · have d1 : (((a : Int) % 2) == 1) = true := by rw [beq_iff_eq]; omega
    have hqt : q = true := by rw [HQ.out, decide_eq_true_eq]; exact .inl h1
    go_enter Tryd.func30, Tryd.ntmps30
    go_upto_region 1 with (fail)
    change Code.wp _ _ _ _ (w.alloc (.cells (plc a l) 54))
    rw [← HR.out.1, ← HR.out.2]
    go_wp2
    go_ret
    exact ⟨by rw [hqt]; rfl, HF.out⟩
  · have d1 : (((a : Int) % 2) == 1) = false := by rw [beq_eq_false_iff_ne]; omega
    by_cases h2 : a = l
    · have d2 : ((a : Int) == (l : Int)) = true := by rw [beq_iff_eq]; omega
      have hqt : q = true := by rw [HQ.out, decide_eq_true_eq]; exact .inr h2
      clear h2
      go_enter Tryd.func30, Tryd.ntmps30
      go_upto_region 1 with (fail)
      change Code.wp _ _ _ _ (w.alloc (.cells (plc a l) 54))
      rw [← HR.out.1, ← HR.out.2]
      go_wp2
      go_ret
      exact ⟨by rw [hqt]; rfl, HF.out⟩
    · have d2 : ((a : Int) == (l : Int)) = false := by rw [beq_eq_false_iff_ne]; omega
      have hqf : q = false := by rw [HQ.out, decide_eq_false_iff_not]; exact fun h => h.elim h1 h2
      go_enter Tryd.func30, Tryd.ntmps30
      go_upto_region 1 with (fail)
      change Code.wp _ _ _ _ (w.alloc (.cells (plc a l) 54))
      rw [← HR.out.1, ← HR.out.2]
      go_wp2
      go_ret
      exact ⟨by rw [hqf]; rfl, HF.out⟩
set_option maxRecDepth 100000 in
set_option maxHeartbeats 4000000 in
theorem ends_any (w : World) (a0 l0 : Nat) (ha : a0 ≤ 9223372036854775807) (hl : l0 ≤ 9223372036854775807) :
    Calls Tryd.prog 32 #[pl a0 l0] w fun e w' => e = .returned (pl (Tree.ends a0 l0).1 (Tree.ends a0 l0).2) ∧ Below w.heap.size w w' := by
  obtain ⟨r, hr⟩ : ∃ r, r = w.heap.size := ⟨_, rfl⟩
  obtain ⟨w1, hw1⟩ : ∃ w1, w1 = (w.alloc (.cells (plc a0 l0) 54)).alloc (.cells zeroP 54) := ⟨_, rfl⟩
  have F1 : Below r w w1 := by rw [hw1, hr]; exact below_alloc2 _ _ _
  have hB1 : Blk w1 r 54 (plc a0 l0) := by rw [hw1, hr]; exact (Blk.new w _ _).alloc _
  have hR1 : Blk w1 (r + 1) 54 zeroP := by rw [hw1, hr]; exact Blk.new1 w _ _ _
  have HR := Lib.hid (And.intro hw1 hr)
  obtain ⟨fs, hfs⟩ := placeU
  rw [show pl a0 l0 = .agg (plc a0 l0) from rfl]
  obtain ⟨E, hE⟩ : ∃ E, E = Tree.ends a0 l0 := ⟨_, rfl⟩
  rw [← hE]
  have HE := Lib.hid hE
  clear hw1 hr hE
  go_enter Tryd.func32, Tryd.ntmps32
  go_upto_region 1 with (fail)
  change Code.wp _ _ _ _ ((w.alloc (.cells (plc a0 l0) 54)).alloc (.cells zeroP 54))
  rw [← HR.out.1, ← HR.out.2]
  replace HR := Lib.hid HR.out.2
  go_loopg [13] a0 (fun g _ wr => ∃ (a l : Nat), a ≤ 9223372036854775807 ∧ l ≤ 9223372036854775807 ∧ E = Tree.ends a l ∧ g = a ∧ Blk wr r 54 (plc a l) ∧ Blk wr (r + 1) 54 zeroP ∧ Below r w wr)
  case atStart => exact ⟨a0, l0, ha, hl, HE.out, rfl, hB1, hR1, F1⟩
  case round =>
    clear hB1 hR1 F1 HE ha hl
    obtain ⟨a, l, ha, hl, hE, hg, hB, hR, F⟩ := hrel
    have c0 : wr.cell? ⟨r, 0, none⟩ = some (.int .i64 a) := hB.cell 0
    by_cases h1 : a % 2 = 0
    · have d1 : (((a : Int) % 2) == 0) = true := by rw [beq_iff_eq]; omega
      by_cases h2 : a = 0
      · have d2 : ((a : Int) != 0) = false := by rw [h2]; rfl
        have hE2 : E = (a, l) := by rw [hE, h2]; exact Tree.ends_zero l
        clear hE h2
        go_wp2_with (first | (refine wpList_load_blk rfl 54 _ rfl hB rfl (.struct fs) hfs rfl 2 (by kernel_rfl) rfl ?_) | (refine wpList_store_blk rfl 54 _ _ rfl hR (plc a l) rfl rfl 2 (by kernel_rfl) rfl rfl (plc_one _ _) ?_))
        intro w3 hR3 hg3
        have F3 : Below r w w3 := below_upd F hg3 (by omega) hR.lt
        rw [HR.out] at F3
        clear hg3 hR F c0
        go_wp2
        exact (ret_blk rfl hR3 rfl (.struct fs) hfs rfl 2 (by kernel_rfl) rfl ⟨by rw [hE2]; rfl, F3⟩).2
      · have d2 : ((a : Int) != 0) = true := by rw [bne_iff_ne]; omega
        have hE2 : E = Tree.ends (a / 2) (l / 2) := by rw [hE]; exact Tree.ends_even h1 h2
        have cu := up_any wr a l ha hl
        rw [show pl a l = .agg (plc a l) from rfl, show pl (a / 2) (l / 2) = .agg (plc ((a / 2 : Nat) : Int) ((l / 2 : Nat) : Int)) from rfl] at cu
        have HU := Lib.hid (And.intro hE2 (And.intro hg (And.intro (show a / 2 < a by omega) (And.intro (show a / 2 ≤ 9223372036854775807 by omega) (show l / 2 ≤ 9223372036854775807 by omega)))))
        clear hE hE2 hg
        go_wp2_with (refine wpList_load_blk rfl 54 _ rfl hB rfl (.struct fs) hfs rfl 2 (by kernel_rfl) rfl ?_)
        refine cu.mono ?_
        rintro e w2 ⟨rfl, G2⟩
        have hB2 := hB.below G2 hB.lt
        have hR2 := hR.below G2 hR.lt
        have F2 := F.trans (G2.mono (Nat.le_of_lt hB.lt))
        clear cu hB hR F G2 c0
        clear wr
        go_wp2_with (refine wpList_store_blk rfl 54 _ _ rfl hB2 (plc ((a / 2 : Nat) : Int) ((l / 2 : Nat) : Int)) rfl rfl 2 (by kernel_rfl) rfl rfl (plc_one _ _) ?_)
        intro w3 hB3 hg3
        have hR3 := hR2.grown hg3 (fun e => by have := Option.some.inj e; omega)
        have F3 : Below r w w3 := below_upd F2 hg3 (Nat.le_refl _) hB2.lt
        have HT := Lib.hid (And.intro hB3 (And.intro hR3 F3))
        clear hg3 hB2 hR2 F2 hB3 hR3 F3
        go_wp2
        go_roundg (a / 2)
        case measure => have := HU.out; omega
        case rel => exact ⟨a / 2, l / 2, HU.out.2.2.2.1, HU.out.2.2.2.2, HU.out.1, rfl, HT.out.1, HT.out.2.1, HT.out.2.2⟩
    · have d1 : (((a : Int) % 2) == 0) = false := by rw [beq_eq_false_iff_ne]; omega
      have hE2 : E = (a, l) := by rw [hE]; exact Tree.ends_odd (by omega)
      clear hE
      go_wp2_with (first | (refine wpList_load_blk rfl 54 _ rfl hB rfl (.struct fs) hfs rfl 2 (by kernel_rfl) rfl ?_) | (refine wpList_store_blk rfl 54 _ _ rfl hR (plc a l) rfl rfl 2 (by kernel_rfl) rfl rfl (plc_one _ _) ?_))
      intro w3 hR3 hg3
      have F3 : Below r w w3 := below_upd F hg3 (by omega) hR.lt
      rw [HR.out] at F3
      clear hg3 hR F c0
      go_wp2
      exact (ret_blk rfl hR3 rfl (.struct fs) hfs rfl 2 (by kernel_rfl) rfl ⟨by rw [hE2]; rfl, F3⟩).2
end Go.Proofs.YtadiijieldldhaaDoor

