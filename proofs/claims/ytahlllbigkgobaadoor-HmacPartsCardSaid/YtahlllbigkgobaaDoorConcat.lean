/-
  The walk of slices.Concat, at []byte.
-/
import Derived.Test.YtahlllbigkgobaaDoorGrow
namespace Go.Proofs.YtahlllbigkgobaaDoor
open Go.RowKit

theorem wrap_add {u v n : Nat} (h : u + v ≤ n) (hn : n ≤ 1099511627776) : wrap64 ((u : Int) + (v : Int)) = ((u + v : Nat) : Int) ∧ decide (((u + v : Nat) : Int) < 0) = false := by
  refine ⟨by unfold wrap64; omega, by rw [decide_eq_false_iff_not]; omega⟩
set_option maxRecDepth 100000 in
set_option maxHeartbeats 4000000 in
theorem concat_any (ao : Option Addr) (cp : Nat) (L : List (Option Addr × Nat × List B)) (w : World) (hP : Parts w ao L) (hlen : (cat L).length ≤ 1099511627776) (hll : L.length ≤ 9223372036854775807) :
    Calls Tryd.prog 29 #[.slice ao L.length cp] w fun e w' => ∃ v, e = .returned v ∧ OwnB w.heap.size w w' v (cat L) := by
  obtain ⟨i0, hi, hz0, hz1, hz2⟩ := info_parts infoU8
  go_enter Tryd.func29, Tryd.ntmps29
  go_wp2
  obtain ⟨r, hr⟩ : ∃ r, r = w.heap.size := ⟨_, rfl⟩
  have O0 : OwnB r w w (.slice none 0 0) [] := Own.nil w _ _ hr
  have HR := Lib.hid hr
  clear hr
  go_loopg [3, 5, 11] L.length (fun k x y i wr => ∃ (m : Nat), i = .int .i64 m ∧ x = .int .i64 ((cat (L.take m)).length : Nat) ∧ m + k = L.length ∧ wr = w)
  case atStart => exact ⟨0, rfl, rfl, by omega, rfl⟩
  case round =>
    obtain ⟨m, rfl, rfl, hm, hw⟩ := hrel
    have hw := hw.symm
    subst hw
    by_cases hq : m < L.length
    · have hd : decide ((m : Int) < (L.length : Int)) = true := by rw [decide_eq_true_eq]; omega
      obtain ⟨b, off, rfl, hc⟩ := hP.cells.resolve_left (by rintro rfl; simp at hq)
      have c0 := hc m hq
      have hle := cat_le L m hq
      have hsn := cat_snoc L m hq
      obtain ⟨p, hp⟩ : ∃ p, p = L[m] := ⟨_, rfl⟩
      rw [← hp] at c0 hle hsn
      have hsl : (cat (L.take (m + 1))).length = (cat (L.take m)).length + p.2.2.length := by rw [hsn, List.length_append]
      have HM := Lib.hid (And.intro hm hsl)
      obtain ⟨u, hu⟩ : ∃ u, u = (cat (L.take m)).length := ⟨_, rfl⟩
      rw [← hu] at hle ⊢
      obtain ⟨h1, h2⟩ := wrap_add hle hlen
      have HU := Lib.hid hu
      clear hc hm hsn hsl hp hu
      go_wp2
      go_roundg (gk - 1)
      case measure => have := HM.out.1; omega
      case rel =>
        refine ⟨m + 1, by go_num, ?_, by have := HM.out.1; omega, rfl⟩
        rw [HM.out.2, ← HU.out, Int.natCast_add]
    · have hd : decide ((m : Int) < (L.length : Int)) = false := by rw [decide_eq_false_iff_not]; omega
      obtain rfl : m = L.length := by omega
      rw [List.take_length]
      clear hq hm
      obtain ⟨u, hu⟩ : ∃ u, u = (cat L).length := ⟨_, rfl⟩
      rw [← hu] at hlen ⊢
      have HU := Lib.hid hu
      clear hu
      go_wp2_with fail
      refine (grow_any u hlen w).mono ?_
      rintro e w1 ⟨v, rfl, O1⟩
      rw [← HR.out] at O1
      go_wp2
      go_loopg [6, 8, 27] L.length (fun k x y i wr => ∃ (m : Nat), i = .int .i64 m ∧ m + k = L.length ∧ OwnB r w wr x (cat (L.take m)))
      case atStart => exact ⟨0, rfl, by omega, O1⟩
      case round =>
        clear O1
        obtain ⟨m, rfl, hm, O⟩ := hrel
        by_cases hq : m < L.length
        · have hd : decide ((m : Int) < (L.length : Int)) = true := by rw [decide_eq_true_eq]; omega
          obtain ⟨b, off, rfl, hc⟩ := hP.cells.resolve_left (by rintro rfl; simp at hq)
          have c0 := hc m hq
          have hbr : b < w.heap.size := World.block_lt_of_cell? w _ c0
          replace c0 := (O.bel.cell (p := ⟨b, off + m, none⟩) (by rw [HR.out]; exact hbr)).trans c0
          have hY := (hP.each _ (List.getElem_mem hq)).below O.bel (by rw [HR.out]; exact Nat.le_refl _)
          have hle := cat_le L m hq
          have hsn := cat_snoc L m hq
          obtain ⟨p, hp⟩ : ∃ p, p = L[m] := ⟨_, rfl⟩
          rw [← hp] at c0 hle hsn hY
          obtain ⟨ts, hts⟩ : ∃ ts, ts = cat (L.take m) := ⟨_, rfl⟩
          rw [← hts] at O hle hsn
          have h1 : ts.length + p.2.2.length ≤ maxLen := by simp only [maxLen]; have := HU.out; omega
          have h2 : (ts.length + p.2.2.length) * 1 ≤ 140737488355328 := by have := HU.out; omega
          have HM := Lib.hid (And.intro hm hsn)
          obtain ⟨a1, c1, rfl, -, -, -, -⟩ := O.row.bts
          clear hc hm hsn hp hts hle
          go_wp2_with (at_builtin; refine wpList_append_row rfl _ _ 22 22 rfl 5 i0 (.int .u8 0) 1 1 (by kernel_rfl) hi hz0 hz1 hz2 rfl (by decide) O.row rfl (hY.src (e' := 5) (by kernel_rfl) p.2.2.length p.2.1 rfl) rfl h1 h2 ?_)
          intro v2 w2 hrow2 hg2 hv2
          have O2 := OwnB.app O hrow2 hg2 hv2
          clear hrow2 hg2 hv2 O
          rw [← HM.out.2] at O2
          go_wp2
          go_roundg (gk - 1)
          case measure => have := HM.out.1; omega
          case rel => exact ⟨m + 1, by go_num, by have := HM.out.1; omega, O2⟩
        · have hd : decide ((m : Int) < (L.length : Int)) = false := by rw [decide_eq_false_iff_not]; omega
          obtain rfl : m = L.length := by omega
          rw [List.take_length, HR.out] at O
          clear hq hm
          obtain ⟨a1, c1, rfl, -, -, -, -⟩ := O.row.bts
          go_wp2
          go_ret
          exact ⟨_, rfl, O⟩
end Go.Proofs.YtahlllbigkgobaaDoor
