/-
  The walk of sha256.Sum: the hash of parts.
-/
import Derived.Test.YtahlllbigkgobaaDoorSum
namespace Go.Proofs.YtahlllbigkgobaaDoor
open Go.RowKit

/-- a slice of slices of bytes that is only read: address, capacity and bytes of each -/
structure Parts (w : World) (ao : Option Addr) (L : List (Option Addr × Nat × List B)) : Prop where
  cells : L = [] ∨ ∃ b off, ao = some ⟨b, off, none⟩ ∧ ∀ i (h : i < L.length), w.cell? ⟨b, off + i, none⟩ = some (.slice L[i].1 L[i].2.2.length L[i].2.1)
  each : ∀ p ∈ L, Bts w p.1 p.2.2
abbrev cat (L : List (Option Addr × Nat × List B)) : List B := (L.map (·.2.2)).flatten
theorem cat_snoc (L : List (Option Addr × Nat × List B)) (m : Nat) (h : m < L.length) : cat (L.take (m + 1)) = cat (L.take m) ++ L[m].2.2 := by
  unfold cat; rw [List.take_succ_eq_append_getElem h, List.map_append, List.flatten_append]; simp
theorem cat_le (L : List (Option Addr × Nat × List B)) (m : Nat) (h : m < L.length) : (cat (L.take m)).length + L[m].2.2.length ≤ (cat L).length := by
  rw [← List.length_append, ← cat_snoc L m h]
  have : cat L = cat (L.take (m + 1)) ++ cat (L.drop (m + 1)) := by unfold cat; rw [← List.flatten_append, ← List.map_append, List.take_append_drop]
  rw [this, List.length_append]; omega
theorem Below.fr {S : Nat → Prop} {r : Nat} {w a b : World} (h : Below r w a) (k : Fr S a b) (hr : r ≤ a.heap.size) (hS : ∀ x, S x → r ≤ x) : Below r w b :=
  ⟨k.os.trans h.os, k.tape.trans h.tape, k.output.trans h.output, Nat.le_trans h.size k.size, fun x hx => (k.block x (by omega) (fun s => by have := hS x s; omega)).trans (h.block x hx)⟩
theorem zeroD_eq : zeroD = dcells ⟨0, 0, 0, 0, 0, 0, 0, 0⟩ (.slice none 0 0) 0 := rfl
theorem Laid.lt {w : World} (h : Laid w) : 0 < w.heap.size ∧ 1 < w.heap.size :=
  ⟨World.block_lt_of_cell? w _ (h.1 0 (by omega)), World.block_lt_of_cell? w _ (h.2 0 (by omega))⟩
theorem Dig.new {w : World} {b : Nat} (h : Blk w b 36 zeroD) (h1 : b ≠ 0) (h2 : b ≠ 1) : Dig w b (.slice none 0 0) [] :=
  ⟨⟨⟨0, 0, 0, 0, 0, 0, 0, 0⟩, h, fun h => absurd rfl h⟩, Row.nil _ _ _, (fun _ e => by cases e), h1, h2⟩
set_option maxRecDepth 100000 in
set_option maxHeartbeats 4000000 in
theorem sums_any (ao : Option Addr) (cp : Nat) (L : List (Option Addr × Nat × List B)) (w : World) (hL : Laid w) (hP : Parts w ao L) (hlen : (cat L).length ≤ 1099511627776) (hll : L.length ≤ 9223372036854775807) :
    Calls Tryd.prog 14 #[.slice ao L.length cp] w fun e w' => e = .returned (hashv (sha (cat L))) ∧ Below w.heap.size w w' := by
  go_enter Tryd.func14, Tryd.ntmps14
  go_wp2
  obtain ⟨r, hr⟩ : ∃ r, r = w.heap.size := ⟨_, rfl⟩
  obtain ⟨w1, hw1⟩ : ∃ w1, w1 = (w.alloc (.cells zero32 25)).alloc (.cells zeroD 36) := ⟨_, rfl⟩
  have hl := hL.lt
  have e1 : r + 2 ≤ w1.heap.size := by rw [hw1, alloc_size, alloc_size, ← hr]; omega
  have hr1 : Blk w1 r 25 zero32 := by rw [hw1, hr]; exact (Blk.new w zero32 25).alloc _
  have hd1 : Dig w1 (r + 1) (.slice none 0 0) [] := by rw [hw1, hr]; exact Dig.new (Blk.new1 w _ _ _) (by omega) (by omega)
  have F1 : Below r w w1 := by rw [hw1, hr]; exact below_alloc2 _ _ _
  change Code.wp _ _ _ _ ((w.alloc (.cells zero32 25)).alloc (.cells zeroD 36))
  rw [← hw1, ← hr]
  have HR := Lib.hid hr
  clear hw1 hr
  go_loopg [5, 8] L.length (fun k _ i wr => ∃ (m : Nat) (v : Value), i = .int .i64 m ∧ m + k = L.length ∧ Dig wr (r + 1) v (cat (L.take m)) ∧ Blk wr r 25 zero32 ∧ Below r w wr ∧ (∀ g, v.ownBlock = some g → r + 2 ≤ g) ∧ r + 2 ≤ wr.heap.size)
  case atStart => exact ⟨0, _, rfl, by omega, hd1, hr1, F1, (fun _ e => by cases e), e1⟩
  case round =>
    clear e1 hr1 hd1 F1
    obtain ⟨m, v, rfl, hm, hD, hB, F, hv, hs⟩ := hrel
    by_cases hq : m < L.length
    · have hd : decide ((m : Int) < (L.length : Int)) = true := by rw [decide_eq_true_eq]; omega
      obtain ⟨b, off, rfl, hc⟩ := hP.cells.resolve_left (by rintro rfl; simp at hq)
      have c0 := hc m hq
      have hbr : b < w.heap.size := World.block_lt_of_cell? w _ c0
      replace c0 := (F.cell (p := ⟨b, off + m, none⟩) (by rw [HR.out]; exact hbr)).trans c0
      have hY := (hP.each _ (List.getElem_mem hq)).below F (by rw [HR.out]; exact Nat.le_refl _)
      have hle := cat_le L m hq
      have hsn := cat_snoc L m hq
      have hlt : ∀ (k off : Nat), L[m].2.2 ≠ [] → L[m].1 = some ⟨k, off, none⟩ → k < r := by
        intro k off hz e
        rcases hP.each _ (List.getElem_mem hq) with h | ⟨k', off', e', h⟩
        · exact absurd h hz
        · obtain ⟨rfl, rfl⟩ : k' = k ∧ off' = off := by rw [e] at e'; simpa using e'.symm
          rw [HR.out]
          exact World.block_lt_of_cell? w _ (h 0 (List.length_pos_iff.2 hz))
      obtain ⟨p, hp⟩ : ∃ p, p = L[m] := ⟨_, rfl⟩
      rw [← hp] at c0 hY hle hsn hlt
      have HM := Lib.hid (And.intro hm hsn)
      clear hc hm hsn hp
      go_wp2_with fail
      refine (write_any (r + 1) v _ p.2.2 p.1 p.2.1 wr (hL.below F (by rw [HR.out]; exact Nat.le_refl _)) hD hY (fun hz k off e => by have := hlt k off hz e; omega) (by omega)).mono ?_
      rintro e w' ⟨rfl, v', hD', hF, hv'⟩
      have hs' := hF.size
      have hvr : some r ≠ v.ownBlock := fun e => by have := hv r e.symm; omega
      have hB' := hB.fr hF (by rintro (h | h); omega; exact hvr h)
      have F' := Below.fr F hF (by omega) (by rintro x (h | h); omega; have := hv x h.symm; omega)
      go_wp2
      go_roundg (gk - 1)
      case measure => have := HM.out.1; omega
      case rel =>
        refine ⟨m + 1, v', by go_num, by have := HM.out.1; omega, by rw [HM.out.2]; exact hD', hB', F', fun g hg => ?_, by omega⟩
        rcases hv' with h | ⟨g', h, hg'⟩
        · exact hv g (h ▸ hg)
        · obtain rfl : g' = g := Option.some.inj (h.symm.trans hg)
          omega
    · have hd : decide ((m : Int) < (L.length : Int)) = false := by rw [decide_eq_false_iff_not]; omega
      obtain rfl : m = L.length := by omega
      rw [List.take_length] at hD
      clear hq hm
      go_wp2_with fail
      refine (sum_any (r + 1) v _ wr (hL.below F (by rw [HR.out]; exact Nat.le_refl _)) hD hlen).mono ?_
      rintro e w' ⟨rfl, hF⟩
      have hB' := hB.below hF hB.lt
      have F' := F.trans (hF.mono (by omega))
      go_wp2_with (refine wpList_store_blk rfl 25 _ _ rfl hB' _ rfl rfl 32 (by kernel_rfl) rfl (by simp [sha_len]) (by rw [List.toList_toArray]; exact b8_one _) ?_)
      intro w9 hr9 hg9
      have F9 := below_upd F' hg9 (Nat.le_refl _) hB'.lt
      rw [HR.out] at F9
      go_wp2
      exact (ret_blk rfl hr9 rfl (.array 32 5) (by kernel_rfl) rfl 32 (by kernel_rfl) (by simp [sha_len]) ⟨rfl, F9⟩).2
end Go.Proofs.YtahlllbigkgobaaDoor
