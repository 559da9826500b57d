/-
  The walks of the statements of layer 5.
-/
import Derived.Test.YtahlllbigkgobaaDoorHash
import Derived.Lib.SlBytesConst
namespace Go.Proofs.YtahlllbigkgobaaDoor
open Go.RowKit
attribute [local irreducible] sha

theorem cell_mark (w : World) (C : Array Value) (e : TypeId) (m : Nat × Nat) (i : Nat) : (w.alloc (.cells C e m)).cell? ⟨w.heap.size, i, none⟩ = C[i]? := by
  have : (w.alloc (.cells C e m)).heap[w.heap.size]? = some (.cells C e m) := heap_alloc_new w _
  unfold World.cell?; rw [this]; simp
theorem below_mark (w : World) (o : Obj) : Below w.heap.size w (w.alloc o) := below_alloc1 w o
set_option maxRecDepth 100000 in
set_option maxHeartbeats 4000000 in
theorem awake05_any (w : World) (hL : Laid w) : Calls Tryd.prog 13 #[] w fun e w' => e = .returned (.bool true) ∧ Below w.heap.size w w' := by
  have kc := fun (w : World) (C : Array Value) (n c : Nat) => Lib.run_convert_bytes_const (P := Tryd.prog) w 22 5 C n c (by kernel_rfl) (by kernel_rfl)
  go_enter Tryd.func13, Tryd.ntmps13
  go_wp2_with fail
  obtain ⟨r, hr⟩ : ∃ r, r = w.heap.size := ⟨_, rfl⟩
  obtain ⟨w1, hw1⟩ : ∃ w1, w1 = (w.alloc (.cells #[Value.int .u8 97, Value.int .u8 98, Value.int .u8 99] 5 (3, 4))).alloc (.cells #[.slice (some ⟨w.heap.size, 0, none⟩) 3 3] 22) := ⟨_, rfl⟩
  have F1 : Below r w w1 := by rw [hw1, hr]; exact below_alloc2 _ _ _
  have hc : w1.cell? ⟨r + 1, 0, none⟩ = some (.slice (some ⟨r, 0, none⟩) 3 3) := by
    rw [hw1, hr]; exact (Blk.new1 w _ #[.slice (some ⟨w.heap.size, 0, none⟩) 3 3] 22).cell 0
  have hb : Bts w1 (some ⟨r, 0, none⟩) [97, 98, 99] := by
    have h0 : Bts (w.alloc (.cells #[Value.int .u8 97, Value.int .u8 98, Value.int .u8 99] 5 (3, 4))) (some ⟨r, 0, none⟩) [97, 98, 99] := Bts.of fun j hj => by
      rw [hr, cell_mark]
      have : j = 0 ∨ j = 1 ∨ j = 2 := by simp at hj; omega
      rcases this with rfl | rfl | rfl <;> rfl
    rw [hw1]; exact h0.below ((Below.refl _ _).alloc (Nat.le_refl _) _) (Nat.le_refl _)
  have hs1 : r + 2 ≤ w1.heap.size := by rw [hw1, alloc_size, alloc_size, hr]; exact Nat.le_refl _
  change Calls _ _ _ ((w.alloc (.cells #[Value.int .u8 97, Value.int .u8 98, Value.int .u8 99] 5 (3, 4))).alloc (.cells #[.slice (some ⟨w.heap.size, 0, none⟩) 3 3] 22)) _
  rw [← hw1, ← hr]
  refine (sums_any (some ⟨r + 1, 0, none⟩) 1 [(some ⟨r, 0, none⟩, 3, [97, 98, 99])] w1 (hL.below F1 (by omega)) (Parts.one rfl hc hb) (by simp) (by simp)).mono ?_
  rintro e w2 ⟨rfl, hb2⟩
  have F2 := F1.trans (hb2.mono (by omega))
  have hr2 : r + 2 ≤ w2.heap.size := Nat.le_trans hs1 hb2.size
  obtain ⟨zs, hzs⟩ : ∃ zs, zs = sha (cat [(some ⟨r, 0, none⟩, 3, [97, 98, 99])]) := ⟨_, rfl⟩
  rw [← hzs]
  have hzl : zs.length = 32 := by rw [hzs]; exact sha_len _
  have hz4 : zs.take 4 = [186, 120, 22, 191] := by rw [hzs]; exact sha_abc
  have HZ := Lib.hid (And.intro hzl hz4)
  clear hzs hzl hz4
  have HR := Lib.hid hr
  clear hc hb hs1 hb2 F1 kc hw1 hr
  clear w1
  go_wp2_with (refine wpList_store_blk rfl 25 _ _ rfl (Blk.new w2 zero32 25) (zs.map b8).toArray rfl rfl 32 (by kernel_rfl) rfl (by simp [HZ.out.1]) (by rw [List.toList_toArray]; exact b8_one _) ?_)
  intro w3 hb3 hg3
  have F3 : Below r w w3 := below_upd (F2.alloc (by omega) _) hg3 (by omega) (by rw [alloc_size]; omega)
  have hx : ∀ i, i < 4 → zs[i]? = ([186, 120, 22, 191] : List B)[i]? := fun i hi => by
    rw [← HZ.out.2, List.getElem?_take_of_lt hi]
  have c0 := hb3.cell 0
  have c1 := hb3.cell 1
  have c2 := hb3.cell 2
  have c3 := hb3.cell 3
  rw [List.getElem?_toArray, List.getElem?_map, hx _ (by omega)] at c0 c1 c2 c3
  replace c0 : w3.cell? ⟨w2.heap.size, 0, none⟩ = some (.int .u8 186) := c0
  replace c1 : w3.cell? ⟨w2.heap.size, 1, none⟩ = some (.int .u8 120) := c1
  replace c2 : w3.cell? ⟨w2.heap.size, 2, none⟩ = some (.int .u8 22) := c2
  replace c3 : w3.cell? ⟨w2.heap.size, 3, none⟩ = some (.int .u8 191) := c3
  rw [HR.out] at F3
  clear hx hg3 hb3 F2
  go_wp2
  go_ret
  exact ⟨rfl, F3⟩

set_option maxRecDepth 100000 in
set_option maxHeartbeats 4000000 in
theorem sums05_any (w : World) (hL : Laid w) (ao : Option Addr) (cp : Nat) (bs : List B) (hB : Bts w ao bs) (hc : bs.length ≤ cp) (hm : cp ≤ maxLen) :
    Calls Tryd.prog 3 #[.slice ao bs.length cp] w fun e w' => e = .returned (.bool true) ∧ Below w.heap.size w w' := by
  replace hm : bs.length ≤ 9223372036854775807 := Nat.le_trans hc hm
  by_cases hlen : bs.length ≤ 2000
  · have hd : decide ((2000 : Int) < (bs.length : Int)) = false := by rw [decide_eq_false_iff_not]; omega
    go_enter Tryd.func3, Tryd.ntmps3
    go_wp2_with fail
    refine (awake05_any w hL).mono ?_
    rintro e w1 ⟨rfl, F1⟩
    go_wp2_with fail
    refine (sum_one_any w1 (hL.below F1 (Nat.le_refl _)) (hB.below F1 (Nat.le_refl _)) (by omega)).mono ?_
    rintro e w2 ⟨rfl, F2⟩
    replace F2 := F1.trans (F2.mono F1.size)
    go_wp2_with fail
    refine (refsum_any ao cp bs w2 (hB.below F2 (Nat.le_refl _)) (by omega)).mono ?_
    rintro e w3 ⟨rfl, F3⟩
    replace F3 := F2.trans (F3.mono F2.size)
    go_wp2
    go_ret
    exact ⟨rfl, F3⟩
  · have hd : decide ((2000 : Int) < (bs.length : Int)) = true := by rw [decide_eq_true_eq]; omega
    go_enter Tryd.func3, Tryd.ntmps3
    go_wp2_with fail
    refine (awake05_any w hL).mono ?_
    rintro e w1 ⟨rfl, F1⟩
    go_wp2_with fail
    refine (awake05_any w1 (hL.below F1 (Nat.le_refl _))).mono ?_
    rintro e w2 ⟨rfl, F2⟩
    go_wp2
    go_ret
    exact ⟨rfl, F1.trans (F2.mono F1.size)⟩
end Go.Proofs.YtahlllbigkgobaaDoor
