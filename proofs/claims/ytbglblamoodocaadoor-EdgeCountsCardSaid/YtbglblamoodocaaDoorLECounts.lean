/-
  The walk of the statement EdgeCounts.
-/
import Derived.Test.YtbglblamoodocaaDoorTreeO
namespace Go.Proofs.YtbglblamoodocaaDoor
open Go Go.RowKit
attribute [local irreducible] sha
set_option maxRecDepth 100000 in
set_option maxHeartbeats 4000000 in
theorem ecounts_any (w : World) (hL : Laid w) (n : Int) (hn0 : 0 ≤ n) (hn1 : n ≤ 255) (x : Hs) :
    Calls Tryd.prog 14 #[.int .u8 n, hval x] w fun e w' => e = .returned (.bool true) ∧ Below w.heap.size w w' := by
  obtain ⟨r, hr⟩ : ∃ r, r = w.heap.size := ⟨_, rfl⟩
  obtain ⟨w1, hw1⟩ : ∃ w1, w1 = w.alloc (.cells (x.1.map b8).toArray 28) := ⟨_, rfl⟩
  have F1 : Below r w w1 := by rw [hw1, hr]; exact below_alloc1 _ _
  have hX1 : Blk w1 r 28 (x.1.map b8).toArray := by rw [hw1, hr]; exact Blk.new w _ _
  have hs1 : w1.heap.size = r + 1 := by rw [hw1, alloc_size, hr]
  have hL1 : Laid w1 := hL.below F1 (by omega)
  have hT1 := TreeO.new (r := r + 1) (Below.refl (r + 1) w1) (by omega)
  rw [hs1] at hT1
  have HR := Lib.hid (And.intro hw1 (And.intro hr F1))
  have hr0 : w1.heap.size ≤ r + 1 := by omega
  have HR0 := Lib.hid hr0
  have hxl := x.2
  obtain ⟨k, hk, hk200⟩ : ∃ k : Nat, n % 200 = (k : Int) ∧ k < 200 := ⟨(n % 200).toNat, by omega, by omega⟩
  have q1 : IntKind.u8.wrap (k : Int) = k := by rw [IntKind.wrap_u8]; omega
  have q2 : IntKind.i64.wrap (k : Int) = k := IntWalk.i64_in _ (by omega)
  have hzt := fun w => run_zeroT w
  clear hw1 hr F1 hr0
  go_enter Tryd.func14, Tryd.ntmps14
  go_upto_region 1 with (fail)
  change Code.wp _ _ _ _ (w.alloc (.cells (x.1.map b8).toArray 28))
  rw [← HR.out.1, ← HR.out.2.1]
  replace HR := Lib.hid HR.out.2
  have HT1 := Lib.hid hT1
  clear hT1
  go_wp2
  try rw [hk]
  clear hk q1 q2
  go_loopg [7] k (fun g i wr => ∃ (m : Nat) (v : Value), i = .int .i64 m ∧ m + g = k ∧ TreeO (r + 1) w1 wr (r + 1) v (List.replicate m x))
  case atStart => exact ⟨0, .slice none 0 0, rfl, by omega, HT1.out⟩
  case round =>
    clear HT1
    obtain ⟨m, v, rfl, hmk, hT⟩ := hrel
    by_cases hq : m < k
    · have hd : decide ((m : Int) < (k : Int)) = true := by rw [decide_eq_true_eq]; omega
      have hX := hX1.below hT.bel (by omega)
      have cp := hT.push hL1 HR0.out x (by simp; omega)
      have HU := Lib.hid (show gk - 1 < gk ∧ m + 1 + (gk - 1) = k by omega)
      clear hmk hT
      go_wp2_with (refine wpList_load_mid_blk rfl 28 _ rfl hX 0 rfl (x.1.map b8) (fun j v hv => by rw [Nat.zero_add, List.getElem?_toArray]; exact hv) (.array 32 5) (by kernel_rfl) rfl 32 (by kernel_rfl) (by simp [hxl]) ?_)
      refine cp.mono ?_
      rintro e w2 ⟨rfl, v2, hT2, -, -⟩
      have HT := Lib.hid hT2
      clear cp hX hT2
      go_wp2
      go_roundg (gk - 1)
      case measure => exact HU.out.1
      case rel => exact ⟨m + 1, v2, by go_num, HU.out.2, by rw [List.replicate_succ']; exact HT.out⟩
    · have hd : decide (m < k) = false := by rw [decide_eq_false_iff_not]; omega
      obtain rfl : m = k := by omega
      obtain ⟨W, hW⟩ : ∃ W, W = wr := ⟨_, rfl⟩
      rw [← hW] at hT ⊢
      clear hW hmk hq
      clear wr
      have HT := Lib.hid hT
      clear hT
      go_wp2
      go_loopg [8, 9] m (fun g a y wr => ∃ (A Y : Nat), a = .int .i64 A ∧ y = .int .i64 Y ∧ A + Tree.bits1 Y = Tree.bits1 m ∧ A + Y ≤ 200 ∧ g = Y ∧ wr = W)
      case atStart => exact ⟨0, m, rfl, rfl, by omega, by omega, rfl, rfl⟩
      case round =>
        obtain ⟨A, Y, rfl, rfl, hA, hAY, hg, hwr⟩ := hrel
        rw [hwr]
        clear hwr
        clear wr
        by_cases hq : 0 < Y
        · have hd2 : decide ((0 : Int) < (Y : Int)) = true := by rw [decide_eq_true_eq]; omega
          have hb := Tree.bits1_step (n := Y) (by omega)
          have q5 : IntKind.i64.wrap ((A : Int) + (Y : Int) % 2) = ((A + Y % 2 : Nat) : Int) := by rw [show (A : Int) + (Y : Int) % 2 = ((A + Y % 2 : Nat) : Int) by omega]; exact IntWalk.i64_in _ (by omega)
          have q6 : IntKind.i64.wrap ((Y : Int) / 2) = ((Y / 2 : Nat) : Int) := by rw [show (Y : Int) / 2 = ((Y / 2 : Nat) : Int) by omega]; exact IntWalk.i64_in _ (by omega)
          have HU := Lib.hid (And.intro hA (And.intro hb (And.intro hg hAY)))
          clear hA hb hg hAY
          go_wp2
          go_roundg (Y / 2)
          case measure => have := HU.out; omega
          case rel => exact ⟨A + Y % 2, Y / 2, by go_num, by go_num, by have := HU.out; omega, by have := HU.out; omega, rfl, rfl⟩
        · have hd2 : decide (0 < Y) = false := by rw [decide_eq_false_iff_not]; omega
          obtain rfl : Y = 0 := by omega
          rw [Tree.bits1_zero, Nat.add_zero] at hA
          obtain ⟨B, hB⟩ : ∃ B, B = Tree.bits1 m := ⟨_, rfl⟩
          have HB := Lib.hid hB
          rw [← hB] at hA
          clear hB
          subst hA
          have hT := HT.out
          clear hg hAY hq
          go_wp2_with fail
          refine (awake17_any W (hL1.below hT.bel HR0.out)).mono ?_
          rintro e w3 ⟨rfl, G3⟩
          have hT3 := hT.below G3
          clear hT G3
          go_wp2_with fail
          refine (tedge_any w3 (r + 1) v (List.replicate m x) hT3.tree (by simp; omega)).mono ?_
          rintro e w4 ⟨v4, rfl, O4⟩
          have hT4 := hT3.below O4.bel
          have hel : (edgeH (List.replicate m x)).length = A := by rw [edgeH_len, List.length_replicate, ← HB.out]
          obtain ⟨a4, c4, rfl⟩ := O4.row.shape
          rw [hel]
          clear hT3 O4 hel
          have hml : (List.replicate m x).length = m := List.length_replicate
          go_wp2_with fail
          have cl := tlen_any w4 (r + 1) v (List.replicate m x) hT4.tree
          rw [hml] at cl
          refine cl.mono ?_
          rintro e w5 ⟨rfl, hw5⟩
          rw [hw5]
          have F4 := hT4.bel
          have F5 : Below w.heap.size w w4 := by rw [← HR.out.1]; exact HR.out.2.trans (F4.mono (by omega))
          clear hw5 cl hT4 F4
          clear w5
          go_wp2
          go_ret
          exact ⟨rfl, F5⟩
end Go.Proofs.YtbglblamoodocaaDoor
