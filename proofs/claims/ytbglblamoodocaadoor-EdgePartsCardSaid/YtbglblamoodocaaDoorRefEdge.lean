/-
  The reference's edge (layer 17).
-/
import Derived.Test.YtbglblamoodocaaDoorEdge2
import Derived.Test.YtbglblamoodocaaDoorRefRoot
namespace Go.Proofs.YtbglblamoodocaaDoor
open Go Go.RowKit
attribute [local irreducible] sha
set_option maxRecDepth 100000 in
set_option maxHeartbeats 4000000 in
theorem refedge_any (w : World) (ao : Option Addr) (cp : Nat) (l : List Hs) (hL : Laid w) (hB : Hts w ao l) (hc : l.length ≤ cp) (hm : cp ≤ maxLen) (hbig : l.length ≤ 1000000) :
    Calls Tryd.prog 36 #[.slice ao l.length cp] w fun e w' => ∃ v, e = .returned v ∧ OwnH w.heap.size w w' v (edgeH l) := by
  obtain ⟨Q, hQ⟩ : ∃ Q, Q = edgeH l := ⟨_, rfl⟩
  rw [← hQ]
  have HQ := Lib.hid hQ
  clear hQ
  obtain ⟨i0, hi, hz0, hz1, hz2⟩ := info_parts infoHs
  obtain ⟨r, hr⟩ : ∃ r, r = w.heap.size := ⟨_, rfl⟩
  have HR := Lib.hid hr
  have hr0 : w.heap.size ≤ r := by omega
  have HR0 := Lib.hid hr0
  have O0 : Own r w w 28 32 (.slice none 0 0) 0 ((flat []).map b8) := Own.nil _ _ _ hr
  have HB : ∀ w', Below r w w' → Hts w' ao l := fun w' h => hB.below h hr0
  clear hr hr0
  go_enter Tryd.func36, Tryd.ntmps36
  go_wp2
  go_loopg [0, 3, 4] l.length (fun g x0 x3 x4 wr => ∃ (l' : List Hs) (ao' : Option Addr) (cp' : Nat) (out : List Hs) (a : Option Addr) (n c : Nat), l'.length = g ∧ x0 = .slice ao' l'.length cp' ∧ x3 = .slice a n c ∧ l'.length ≤ cp' ∧ cp' ≤ maxLen ∧
    n = out.length ∧ n + l'.length ≤ 1000000 ∧ Q = out ++ edgeH l' ∧ (∀ w', Below r w w' → Hts w' ao' l') ∧ Own r w wr 28 32 (.slice a n c) n ((flat out).map b8))
  case atStart => exact ⟨l, ao, cp, [], none, 0, 0, rfl, rfl, rfl, hc, hm, rfl, by omega, by rw [HQ.out]; rfl, HB, O0⟩
  case round =>
    clear O0 HB hB hc hm hbig HQ
    obtain ⟨l, ao, cp, out, a, n, c, hg, rfl, rfl, hc, hm, hn, hbig, hQ, HH, O⟩ := hrel
    replace HH := Lib.hid HH
    have hm0 : cp ≤ 9223372036854775807 := hm
    obtain ⟨G, hG⟩ : ∃ G, G = gk := ⟨_, rfl⟩
    rw [← hG] at hg
    obtain ⟨W, hW⟩ : ∃ W, W = wr := ⟨_, rfl⟩
    rw [← hW] at O ⊢
    clear hW
    clear wr
    by_cases h2 : 0 < l.length
    · have hd : decide ((0 : Int) < (l.length : Int)) = true := by rw [decide_eq_true_eq]; omega
      go_wp2
      go_loopg [4] (l.length - 1) (fun g x wr => ∃ (i p : Nat), x = .int .i64 p ∧ p = 2 ^ i ∧ p ≤ l.length ∧ 1 ≤ p ∧ g = l.length - p ∧ wr = W)
      case atStart => exact ⟨0, 1, rfl, rfl, by omega, by omega, rfl, rfl⟩
      case round =>
        obtain ⟨i, p, rfl, hp, hpl, hp1, hgp, hwr⟩ := hrel
        rw [hwr]
        clear hwr
        clear wr
        have q1 : IntKind.i64.wrap (2 * (p : Int)) = 2 * p := IntWalk.i64_in _ (by omega)
        by_cases hq : 2 * p ≤ l.length
        · have hd1 : decide (2 * (p : Int) ≤ (l.length : Int)) = true := by rw [decide_eq_true_eq]; omega
          have HP := Lib.hid (And.intro hp hgp)
          clear hp hgp
          go_wp2
          go_roundg (l.length - 2 * p)
          case measure => have := HP.out.2; omega
          case rel => exact ⟨i + 1, 2 * p, by go_num, by rw [Tree.two_succ, ← HP.out.1], hq, by omega, rfl, rfl⟩
        · have hd1 : decide (2 * p ≤ l.length) = false := by rw [decide_eq_false_iff_not]; omega
          have hfit : Tree.fit l.length = p := by rw [hp]; exact Tree.fit_eq (by omega) (by rw [Tree.two_succ]; omega)
          have hQ2 : edgeH l = rootH (l.take p) :: edgeH (l.drop p) := by
            unfold edgeH
            rw [Tree.edge_cons nodeH nilH (show l.length ≠ 0 by omega), hfit]; rfl
          obtain ⟨a6, hs6, -, ht6⟩ := run_upto_hts (P := Tryd.prog) (t := 32) (by kernel_rfl) hi ao l.length cp p (by omega)
          obtain ⟨a7, hs7, ht7⟩ := run_from_hts (P := Tryd.prog) (t := 32) (by kernel_rfl) hi hz1 ao l.length cp p (by omega) hc
          have hl1 : (l.take p).length = p := by rw [List.length_take]; omega
          have hl2 : (l.drop p).length = l.length - p := List.length_drop
          rw [hQ2] at hQ
          have HL := Lib.hid (And.intro hl1 (And.intro hl2 (And.intro hg (And.intro hn hG))))
          have HT := Lib.hid hQ
          clear hl1 hl2 hQ2 hQ hfit hp hgp hg hn hG
          go_wp2_with fail
          have c2 := refroot_any W a6 cp (l.take p) (hL.below O.bel HR0.out) (ht6 W l (HH.out W O.bel)) (by have := HL.out; omega) hm
          rw [HL.out.1] at c2
          refine c2.mono ?_
          rintro e w3 ⟨rfl, G3⟩
          have O3 := Own.below O G3
          obtain ⟨u, hu⟩ : ∃ u, u = rootH (l.take p) := ⟨_, rfl⟩
          rw [← hu]
          have hul := u.2
          have HU := Lib.hid hu
          have hn1 : n + 1 ≤ maxLen := by simp only [maxLen]; omega
          have hn2 : (n + 1) * 32 ≤ 140737488355328 := by omega
          clear hu c2 O G3
          go_wp2_with (first | (refine wpList_build_one rfl u.1 hul _ rfl rfl ?_) | (at_builtin; refine wpList_append_row rfl _ _ 32 32 rfl 28 i0 (.agg zero32) 32 32 (by kernel_rfl) hi hz0 hz1 hz2 rfl (by decide) (O3.row.alloc _) rfl (src_one w3 u) rfl hn1 hn2 ?_))
          intro v4 w4 hrow4 hg4 hv4
          obtain ⟨a4, c4, rfl⟩ := hrow4.shape
          have O4 : Own r w w4 28 32 (.slice a4 (n + 1) c4) (n + 1) ((flat (out ++ [u])).map b8) := by
            have := Own.push O3 (.cells (u.1.map b8).toArray 28) hrow4 hg4 (by first | exact hv4 | (rw [alloc_size] at hv4; exact hv4))
            rw [flat_append, flat_one, List.map_append]; exact this
          have HO := Lib.hid O4
          clear hrow4 hg4 hv4 O3 O4
          go_wp2
          go_roundg (l.length - p)
          case measure => have := HL.out; omega
          case rel =>
            refine ⟨l.drop p, a7, cp - p, out ++ [u], a4, n + 1, c4, HL.out.2.1, by rw [HL.out.2.1], rfl, by rw [HL.out.2.1]; omega, by simp only [maxLen]; omega, by have := HL.out; simp; omega, by rw [HL.out.2.1]; omega, ?_, fun w' h => ht7 w' l rfl (HH.out w' h), HO.out⟩
            rw [HT.out, HU.out]; simp
    · have hd : decide (0 < l.length) = false := by rw [decide_eq_false_iff_not]; omega
      obtain rfl := List.eq_nil_of_length_eq_zero (show l.length = 0 by omega)
      have hQ2 : Q = out := by rw [hQ]; unfold edgeH; rw [Tree.edge_nil]; simp
      rw [← hQ2] at O
      have O2 : OwnH r w W (.slice a n c) Q := by rw [hn, ← hQ2] at O ⊢; exact O
      rw [HR.out] at O2
      clear O hQ hQ2
      go_wp2
      go_ret
      exact ⟨_, rfl, O2⟩
end Go.Proofs.YtbglblamoodocaaDoor
