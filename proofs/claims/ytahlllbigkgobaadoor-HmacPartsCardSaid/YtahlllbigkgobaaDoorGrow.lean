/-
  The walks of slices.Grow (of nil) and slices.Concat, at []byte.
-/
import Derived.Test.YtahlllbigkgobaaDoorSums
import Derived.Test.YtahlllbigkgobaaDoorOwn
import Derived.Lib.AppendZerosOnto
namespace Go.Proofs.YtahlllbigkgobaaDoor
open Go.RowKit

set_option maxRecDepth 100000 in
set_option maxHeartbeats 4000000 in
theorem grow_any (n : Nat) (hn : n ≤ 1099511627776) (w : World) :
    Calls Tryd.prog 37 #[.slice none 0 0, .int .i64 n] w fun e w' => ∃ v, e = .returned v ∧ OwnB w.heap.size w w' v [] := by
  obtain ⟨i0, hi, hz0, hz1, hz2⟩ := info_parts infoU8
  have h1 : ¬ ((n : Int) < 0) := by omega
  have h2 : wrap64 (n : Int) = (n : Int) := by unfold wrap64; omega
  by_cases h0 : n = 0
  · subst h0
    go_enter Tryd.func37, Tryd.ntmps37
    go_wp2
    go_ret
    exact ⟨_, rfl, Own.nil w _ _ rfl⟩
  · have h4 : (n : Int) > 0 := by omega
    have hrz : ∀ ty, (Builtin.append_ #[22, 3] ty #[.slice none 0 0, .int .i64 (n : Int)]).run Tryd.prog w =
        .ok (.slice (some ⟨w.heap.size, 0, none⟩) n (grownCap w n 0 5)) (w.drew.alloc (.cells (([] : List Value).toArray ++ Builtin.zeroCells (Value.int .u8 0).cells n ++ Builtin.zeroCells (Value.int .u8 0).cells (grownCap w n 0 5 - n)) 5)) := fun ty => by
      have h := Lib.run_append_grow_zeros (P := Tryd.prog) w 22 3 ty 5 i0 (.int .u8 0) .i64 .i64 (by kernel_rfl) (by kernel_rfl) hi hz0 none 0 0 [] (run_firstCells_none w.drew i0.size 0 0 0) n (by omega) (by omega) (by omega) (by omega) (by rw [hz2]; omega) (growslice_fits (by omega) (by rw [hz2]; omega))
      rw [Nat.zero_add] at h
      exact h
    have hGn : n ≤ grownCap w n 0 5 := grownCap_ge w _ _ _
    have hcm := grownCap_le_maxLen w n 0 5 (by unfold maxLen; omega)
    obtain ⟨G, hG⟩ : ∃ G, G = grownCap w n 0 5 := ⟨_, rfl⟩
    rw [← hG] at hrz hGn hcm
    have hG63 : G ≤ 9223372036854775807 := by unfold maxLen at hcm; omega
    have hO : OwnB w.heap.size w (w.drew.alloc (.cells (([] : List Value).toArray ++ Builtin.zeroCells (Value.int .u8 0).cells n ++ Builtin.zeroCells (Value.int .u8 0).cells (G - n)) 5)) (.slice (some ⟨w.heap.size, 0, none⟩) 0 G) [] := by
      refine ⟨⟨rfl, .inr ⟨w.heap.size, 0, G, _, rfl, heap_alloc_new w.drew _, Nat.zero_le _, hcm, ?_, fun j hj => absurd hj (by simp)⟩⟩, fun g e => by cases e; exact Nat.le_refl _, ?_, by rw [alloc_size]; exact Nat.le_succ _⟩
      · have hs : (Value.int .u8 0).cells.size = 1 := rfl
        simp only [Array.size_append, size_zeroCells, hs]
        simp; omega
      · have := (below_drewN w.heap.size w 1).alloc (o := .cells (([] : List Value).toArray ++ Builtin.zeroCells (Value.int .u8 0).cells n ++ Builtin.zeroCells (Value.int .u8 0).cells (G - n)) 5) (Nat.le_refl _)
        exact this
    obtain ⟨wn, hwn⟩ : ∃ wn, wn = w.drew.alloc (.cells (([] : List Value).toArray ++ Builtin.zeroCells (Value.int .u8 0).cells n ++ Builtin.zeroCells (Value.int .u8 0).cells (G - n)) 5) := ⟨_, rfl⟩
    rw [← hwn] at hO hrz
    have HO := Lib.hid hO
    clear hO hG hwn
    go_enter Tryd.func37, Tryd.ntmps37
    go_wp2_with (at_builtin; refine Lib.wpList_append_run _ rfl _ _ _ _ rfl _ _ rfl rfl _ _ (hrz _) ?_)
    all_goals (go_ret; exact ⟨_, rfl, HO.out⟩)
end Go.Proofs.YtahlllbigkgobaaDoor
