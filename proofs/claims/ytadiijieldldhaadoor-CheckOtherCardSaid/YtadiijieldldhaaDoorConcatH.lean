/-
  The walks of slices.Grow (of nil) and slices.Concat, at []api.Hash.
-/
import Derived.Test.YtadiijieldldhaaDoorHs
import Derived.Test.YtadiijieldldhaaDoorRoot
import Derived.Lib.AppendZerosOnto
import Derived.Deep.AppendSrc
namespace Go.Proofs.YtadiijieldldhaaDoor
open Go Go.RowKit
/-- lists of hashes in a list -/
structure PartsH (w : World) (ao : Option Addr) (L : List (Option Addr × Nat × List Hs)) : Prop where
  cells : L = [] ∨ ∃ b off, ao = some ⟨b, off, none⟩ ∧ ∀ m (h : m < L.length), w.cell? ⟨b, off + m, none⟩ = some (.slice (L[m]).1 (L[m]).2.2.length (L[m]).2.1)
  each : ∀ p ∈ L, Hts w p.1 p.2.2
abbrev catH (L : List (Option Addr × Nat × List Hs)) : List Hs := (L.map (·.2.2)).flatten
theorem catH_snoc (L : List (Option Addr × Nat × List Hs)) (m : Nat) (h : m < L.length) : catH (L.take (m + 1)) = catH (L.take m) ++ L[m].2.2 := by
  unfold catH; rw [List.take_succ_eq_append_getElem h, List.map_append, List.flatten_append]; simp
theorem catH_le (L : List (Option Addr × Nat × List Hs)) (m : Nat) (h : m < L.length) : (catH (L.take m)).length + L[m].2.2.length ≤ (catH L).length := by
  rw [← List.length_append, ← catH_snoc L m h]
  have : catH L = catH (L.take (m + 1)) ++ catH (L.drop (m + 1)) := by unfold catH; rw [← List.flatten_append, ← List.map_append, List.take_append_drop]
  rw [this, List.length_append]; omega
set_option maxRecDepth 100000 in
set_option maxHeartbeats 4000000 in
theorem growH_any (n : Nat) (hn : n ≤ 1000001) (w : World) :
    Calls Tryd.prog 55 #[.slice none 0 0, .int .i64 n] w fun e w' => ∃ v, e = .returned v ∧ OwnH w.heap.size w w' v [] := by
  obtain ⟨i0, hi, hz0, hz1, hz2⟩ := info_parts infoHs
  have h1 : ¬ ((n : Int) < 0) := by omega
  have h2 : wrap64 (n : Int) = (n : Int) := by unfold wrap64; omega
  by_cases h0 : n = 0
  · subst h0
    go_enter Tryd.func55, Tryd.ntmps55
    go_wp2
    go_ret
    exact ⟨_, rfl, Own.nil w _ _ rfl⟩
  · have h4 : (n : Int) > 0 := by omega
    have hrz : ∀ ty, (Builtin.append_ #[24, 3] ty #[.slice none 0 0, .int .i64 (n : Int)]).run Tryd.prog w =
        .ok (.slice (some ⟨w.heap.size, 0, none⟩) n (grownCap w n 0 23)) (w.drew.alloc (.cells (([] : List Value).toArray ++ Builtin.zeroCells (Value.agg zero32).cells n ++ Builtin.zeroCells (Value.agg zero32).cells (grownCap w n 0 23 - n)) 23)) := fun ty => by
      have h := Lib.run_append_grow_zeros (P := Tryd.prog) w 24 3 ty 23 i0 (.agg zero32) .i64 .i64 (by kernel_rfl) (by kernel_rfl) hi hz0 none 0 0 [] (run_firstCells_none w.drew i0.size 0 0 0) n (by omega) (by omega) (by omega) (by omega) (by rw [hz2]; omega) (growslice_fits (by omega) (by rw [hz2]; omega))
      rw [Nat.zero_add] at h
      exact h
    have hGn : n ≤ grownCap w n 0 23 := grownCap_ge w _ _ _
    have hcm := grownCap_le_maxLen w n 0 23 (by unfold maxLen; omega)
    obtain ⟨G, hG⟩ : ∃ G, G = grownCap w n 0 23 := ⟨_, rfl⟩
    rw [← hG] at hrz hGn hcm
    have hG63 : G ≤ 9223372036854775807 := by unfold maxLen at hcm; omega
    have hO : OwnH w.heap.size w (w.drew.alloc (.cells (([] : List Value).toArray ++ Builtin.zeroCells (Value.agg zero32).cells n ++ Builtin.zeroCells (Value.agg zero32).cells (G - n)) 23)) (.slice (some ⟨w.heap.size, 0, none⟩) 0 G) [] := by
      refine ⟨⟨rfl, .inr ⟨w.heap.size, 0, G, _, rfl, heap_alloc_new w.drew _, Nat.zero_le _, hcm, ?_, fun j hj => absurd (show j < 0 * 32 from hj) (by omega)⟩⟩, fun g e => by cases e; exact Nat.le_refl _, ?_, by rw [alloc_size]; exact Nat.le_succ _⟩
      · have hs : (Value.agg zero32).cells.size = 32 := rfl
        simp only [Array.size_append, size_zeroCells, hs]
        simp; omega
      · have := (below_drewN w.heap.size w 1).alloc (o := .cells (([] : List Value).toArray ++ Builtin.zeroCells (Value.agg zero32).cells n ++ Builtin.zeroCells (Value.agg zero32).cells (G - n)) 23) (Nat.le_refl _)
        exact this
    obtain ⟨wn, hwn⟩ : ∃ wn, wn = w.drew.alloc (.cells (([] : List Value).toArray ++ Builtin.zeroCells (Value.agg zero32).cells n ++ Builtin.zeroCells (Value.agg zero32).cells (G - n)) 23) := ⟨_, rfl⟩
    rw [← hwn] at hO hrz
    have HO := Lib.hid hO
    clear hO hG hwn
    go_enter Tryd.func55, Tryd.ntmps55
    go_wp2_with (at_builtin; refine Lib.wpList_append_run _ rfl _ _ _ _ rfl _ _ rfl rfl _ _ (hrz _) ?_)
    all_goals (go_ret; exact ⟨_, rfl, HO.out⟩)
theorem wrap_addH {u v n : Nat} (h : u + v ≤ n) (hn : n ≤ 1000001) : wrap64 ((u : Int) + (v : Int)) = ((u + v : Nat) : Int) ∧ decide (((u + v : Nat) : Int) < 0) = false := by
  refine ⟨by unfold wrap64; omega, by rw [decide_eq_false_iff_not]; omega⟩
set_option maxRecDepth 100000 in
set_option maxHeartbeats 4000000 in
theorem concatH_any (ao : Option Addr) (cp : Nat) (L : List (Option Addr × Nat × List Hs)) (w : World) (hP : PartsH w ao L) (hlen : (catH L).length ≤ 1000001) (hll : L.length ≤ 9223372036854775807) :
    Calls Tryd.prog 44 #[.slice ao L.length cp] w fun e w' => ∃ v, e = .returned v ∧ OwnH w.heap.size w w' v (catH L) := by
  obtain ⟨i0, hi, hz0, hz1, hz2⟩ := info_parts infoHs
  go_enter Tryd.func44, Tryd.ntmps44
  go_wp2
  obtain ⟨r, hr⟩ : ∃ r, r = w.heap.size := ⟨_, rfl⟩
  have O0 : OwnH r w w (.slice none 0 0) [] := Own.nil w _ _ hr
  have HR := Lib.hid hr
  clear hr
  go_loopg [3, 5, 11] L.length (fun k x y i wr => ∃ (m : Nat), i = .int .i64 m ∧ x = .int .i64 ((catH (L.take m)).length : Nat) ∧ m + k = L.length ∧ wr = w)
  case atStart => exact ⟨0, rfl, rfl, by omega, rfl⟩
  case round =>
    obtain ⟨m, rfl, rfl, hm, hw⟩ := hrel
    have hw := hw.symm
    subst hw
    by_cases hq : m < L.length
    · have hd : decide ((m : Int) < (L.length : Int)) = true := by rw [decide_eq_true_eq]; omega
      obtain ⟨b, off, rfl, hc⟩ := hP.cells.resolve_left (by rintro rfl; simp at hq)
      have c0 := hc m hq
      have hle := catH_le L m hq
      have hsn := catH_snoc L m hq
      obtain ⟨p, hp⟩ : ∃ p, p = L[m] := ⟨_, rfl⟩
      rw [← hp] at c0 hle hsn
      have hsl : (catH (L.take (m + 1))).length = (catH (L.take m)).length + p.2.2.length := by rw [hsn, List.length_append]
      have HM := Lib.hid (And.intro hm hsl)
      obtain ⟨u, hu⟩ : ∃ u, u = (catH (L.take m)).length := ⟨_, rfl⟩
      rw [← hu] at hle ⊢
      obtain ⟨h1, h2⟩ := wrap_addH hle hlen
      have HU := Lib.hid hu
      clear hc hm hsn hsl hp hu
      go_wp2
      go_roundg (gk - 1)
      case measure => have := HM.out.1; omega
      case rel =>
        refine ⟨m + 1, by go_num, ?_, by have := HM.out.1; omega, rfl⟩
        rw [HM.out.2, ← HU.out, Int.natCast_add]
    · have hd : decide ((m : Int) < (L.length : Int)) = false := by rw [decide_eq_false_iff_not]; omega
      obtain rfl : m = L.length := by omega
      rw [List.take_length]
      clear hq hm
      obtain ⟨u, hu⟩ : ∃ u, u = (catH L).length := ⟨_, rfl⟩
      rw [← hu] at hlen ⊢
      have HU := Lib.hid hu
      clear hu
      go_wp2_with fail
      refine (growH_any u hlen w).mono ?_
      rintro e w1 ⟨v, rfl, O1⟩
      rw [← HR.out] at O1
      go_wp2
      go_loopg [6, 8, 27] L.length (fun k x y i wr => ∃ (m : Nat), i = .int .i64 m ∧ m + k = L.length ∧ OwnH r w wr x (catH (L.take m)))
      case atStart => exact ⟨0, rfl, by omega, O1⟩
      case round =>
        clear O1
        obtain ⟨m, rfl, hm, O⟩ := hrel
        by_cases hq : m < L.length
        · have hd : decide ((m : Int) < (L.length : Int)) = true := by rw [decide_eq_true_eq]; omega
          obtain ⟨b, off, rfl, hc⟩ := hP.cells.resolve_left (by rintro rfl; simp at hq)
          have c0 := hc m hq
          have hbr : b < w.heap.size := World.block_lt_of_cell? w _ c0
          replace c0 := (O.bel.cell (p := ⟨b, off + m, none⟩) (by rw [HR.out]; exact hbr)).trans c0
          have hY := (hP.each _ (List.getElem_mem hq)).below O.bel (by rw [HR.out]; exact Nat.le_refl _)
          have hle := catH_le L m hq
          have hsn := catH_snoc L m hq
          obtain ⟨p, hp⟩ : ∃ p, p = L[m] := ⟨_, rfl⟩
          rw [← hp] at c0 hle hsn hY
          obtain ⟨ts, hts⟩ : ∃ ts, ts = catH (L.take m) := ⟨_, rfl⟩
          rw [← hts] at O hle hsn
          have h1 : ts.length + p.2.2.length ≤ maxLen := by simp only [maxLen]; have := HU.out; omega
          have h2 : (ts.length + p.2.2.length) * 32 ≤ 140737488355328 := by have := HU.out; omega
          have HM := Lib.hid (And.intro hm hsn)
          obtain ⟨a1, c1, rfl, -, -, -, -⟩ := O.row.hts
          clear hc hm hsn hp hts hle
          go_wp2_with (at_builtin; refine wpList_append_row rfl _ _ 24 24 rfl 23 i0 (.agg zero32) 32 32 (by kernel_rfl) hi hz0 hz1 hz2 rfl (by decide) O.row rfl (Hts.src hY p.2.2.length p.2.1 rfl) rfl h1 h2 ?_)
          intro v2 w2 hrow2 hg2 hv2
          have O2 := OwnH.app O hrow2 hg2 hv2
          clear hrow2 hg2 hv2 O
          rw [← HM.out.2] at O2
          go_wp2
          go_roundg (gk - 1)
          case measure => have := HM.out.1; omega
          case rel => exact ⟨m + 1, by go_num, by have := HM.out.1; omega, O2⟩
        · have hd : decide ((m : Int) < (L.length : Int)) = false := by rw [decide_eq_false_iff_not]; omega
          obtain rfl : m = L.length := by omega
          rw [List.take_length, HR.out] at O
          clear hq hm
          obtain ⟨a1, c1, rfl, -, -, -, -⟩ := O.row.hts
          go_wp2
          go_ret
          exact ⟨_, rfl, O⟩
end Go.Proofs.YtadiijieldldhaaDoor
