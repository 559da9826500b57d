/-
  The walk of the statement ClashNone.
-/
import Derived.Test.YtadiijieldldhaaDoorSaid
import Derived.Test.YtadiijieldldhaaDoorRefPrf
namespace Go.Proofs.YtadiijieldldhaaDoor
open Go Go.RowKit
attribute [local irreducible] sha
theorem pathOut_len (l : List Hs) (i : Nat) (h : i < l.length) : (pathOut l (i : Int)).length ≤ l.length := by
  unfold pathOut; rw [if_pos (by omega), Int.toNat_natCast]; exact pathH_len l i h
theorem prfOut_len (l : List Hs) (i : Nat) (h1 : 1 ≤ i) (h : i ≤ l.length) : (prfOut l (i : Int)).length ≤ l.length + 1 := by
  unfold prfOut; rw [if_pos (by omega), Int.toNat_natCast]; exact prfH_len l i true h1 h
theorem clashP_own (l : List Hs) (i : Nat) (x : Hs) (q : List Hs) (h : l.getD i nilH = x) : clashP l (i : Int) x q = none := by
  unfold clashP foolsP; rw [Int.toNat_natCast, h, beq_self_eq_true, Bool.not_true, Bool.and_false]; rfl
theorem clashQ_own (l : List Hs) (i : Nat) (q : List Hs) : clashQ l (i : Int) (rootH (l.take i)) q = none := by
  unfold clashQ foolsQ; rw [Int.toNat_natCast, beq_self_eq_true, Bool.not_true, Bool.and_false]; rfl
set_option maxRecDepth 100000 in
set_option maxHeartbeats 8000000 in
theorem clnone_any (w : World) (hL : Laid w) (ao : Option Addr) (cp : Nat) (l : List Hs) (hB : Hts w ao l) (hc : l.length ≤ cp) (hm : cp ≤ maxLen) (n : Int) (hn0 : 0 ≤ n) (hn1 : n ≤ 255) :
    Calls Tryd.prog 4 #[.slice ao l.length cp, .int .u8 n] w fun e w' => e = .returned (.bool true) ∧ Below w.heap.size w w' := by
  have hl9 : l.length ≤ 9223372036854775807 := Nat.le_trans hc hm
  have hm0 : cp ≤ 9223372036854775807 := hm
  by_cases hlen : l.length ≤ 60
  · have hd : decide ((60 : Int) < (l.length : Int)) = false := by rw [decide_eq_false_iff_not]; omega
    by_cases hl0 : l.length = 0
    · have hd1 : ((l.length : Int) == 0) = true := by rw [beq_iff_eq]; omega
      go_enter Tryd.func4, Tryd.ntmps4
      go_wp2_with fail
      refine (awake20_any w hL).mono ?_
      rintro e w1 ⟨rfl, F1⟩
      go_wp2_with fail
      refine (awake20_any w1 (hL.below F1 (Nat.le_refl _))).mono ?_
      rintro e w2 ⟨rfl, GF2⟩
      have F2 := Below.then F1 GF2
      go_wp2_with fail
      go_ret
      exact ⟨rfl, F2⟩
    · have hd1 : ((l.length : Int) == 0) = false := by rw [beq_eq_false_iff_ne]; omega
      have q1 : IntKind.i64.wrap n = n := IntWalk.i64_in _ (by omega)
      obtain ⟨i, hiv, hil⟩ : ∃ i : Nat, n % (l.length : Int) = (i : Int) ∧ i < l.length := by
        have h1 := Int.emod_nonneg n (show (l.length : Int) ≠ 0 by omega)
        have h2 := Int.emod_lt_of_pos n (show 0 < (l.length : Int) by omega)
        exact ⟨(n % (l.length : Int)).toNat, by omega, by omega⟩
      have qi : IntKind.i64.wrap (i : Int) = i := IntWalk.i64_in _ (by omega)
      obtain ⟨i1, hi1⟩ : ∃ i1 : Nat, i1 = i + 1 := ⟨_, rfl⟩
      have qj : IntKind.i64.wrap ((i : Int) + 1) = (i1 : Int) := by rw [show (i : Int) + 1 = i1 by omega]; exact IntWalk.i64_in _ (by omega)
      obtain ⟨i0, hi, hz0, hz1, hz2⟩ := info_parts infoHs
      obtain ⟨a6, hs6, -, ht6⟩ := run_upto_hts (P := Tryd.prog) (t := 24) (by kernel_rfl) hi ao l.length cp i1 (by omega)
      have hl1 : (l.take i1).length = i1 := by rw [List.length_take]; omega
      have hgd : l.getD i nilH = l[i] := by simp [List.getD, hil]
      have e1 := clashP_own l i l[i] (pathOut l (i : Int)) hgd
      have e2 := clashQ_own l i1 (prfOut l (i1 : Int))
      have hp1 := pathOut_len l i hil
      have hp2 := prfOut_len l i1 (by omega) (by omega)
      obtain ⟨x, hx⟩ : ∃ x, x = l[i] := ⟨_, rfl⟩
      obtain ⟨rt, hrt⟩ : ∃ rt, rt = rootH (l.take i1) := ⟨_, rfl⟩
      obtain ⟨p, hp⟩ : ∃ p, p = pathOut l (i : Int) := ⟨_, rfl⟩
      obtain ⟨q, hq⟩ : ∃ q, q = prfOut l (i1 : Int) := ⟨_, rfl⟩
      have c1 : ∀ W, Below w.heap.size w W → Calls Tryd.prog 17 #[.slice ao l.length cp, .int .i64 i] W fun e w' => ∃ v, e = .returned (.tuple #[v, .int .i64 (pathErr l i)]) ∧ OwnH W.heap.size W w' v p := fun W hW => by
        rw [hp]; exact refpath_any W ao cp l (i : Int) (hL.below hW (Nat.le_refl _)) (hB.below hW (Nat.le_refl _)) hc hm (by omega)
      have c2 : ∀ W, Below w.heap.size w W → Calls Tryd.prog 18 #[.slice ao l.length cp, .int .i64 i1] W fun e w' => ∃ v, e = .returned (.tuple #[v, .int .i64 (prfErr l i1)]) ∧ OwnH W.heap.size W w' v q := fun W hW => by
        rw [hq]; exact refprf_any W ao cp l (i1 : Int) (hL.below hW (Nat.le_refl _)) (hB.below hW (Nat.le_refl _)) hc hm (by omega)
      have c3 : ∀ W (b : Option Addr) (c : Nat), Below w.heap.size w W → Hts W b p → p.length ≤ c → c ≤ maxLen → Calls Tryd.prog 19 #[.slice ao l.length cp, .int .i64 i, hval x, .slice b p.length c] W fun e w' => e = .returned (.tuple #[.slice none 0 0, .slice none 0 0, .bool false]) ∧ Below W.heap.size W w' := fun W b c hW hb h1 h2 => by
        have := clPath_any W (hL.below hW (Nat.le_refl _)) ao cp l (i : Int) x b c p (by omega) (by omega) (hB.below hW (Nat.le_refl _)) hc hm (by omega) hb h1 h2 (by rw [hp]; omega)
        rw [hx, hp, e1] at this
        rw [hx, hp]; exact this
      have c4 : ∀ W, Below w.heap.size w W → Calls Tryd.prog 21 #[.slice a6 i1 cp] W fun e w' => e = .returned (hval rt) ∧ Below W.heap.size W w' := fun W hW => by
        have := refroot_any W a6 cp (l.take i1) (hL.below hW (Nat.le_refl _)) (ht6 W l (hB.below hW (Nat.le_refl _))) (by omega) hm
        rw [hl1, ← hrt] at this; exact this
      have c5 : ∀ W (b : Option Addr) (c : Nat), Below w.heap.size w W → Hts W b q → q.length ≤ c → c ≤ maxLen → Calls Tryd.prog 20 #[.slice ao l.length cp, .int .i64 i1, hval rt, .slice b q.length c] W fun e w' => e = .returned (.tuple #[.slice none 0 0, .slice none 0 0, .bool false]) ∧ Below W.heap.size W w' := fun W b c hW hb h1 h2 => by
        have := clProof_any W (hL.below hW (Nat.le_refl _)) ao cp l (i1 : Int) rt b c q (by omega) (by omega) (hB.below hW (Nat.le_refl _)) hc hm (by omega) hb h1 h2 (by rw [hq]; omega)
        rw [hrt, hq, e2] at this
        rw [hrt, hq]; exact this
      generalize pathErr l (i : Int) = E1 at c1
      generalize prfErr l (i1 : Int) = E2 at c2
      obtain ⟨g, off, rfl, hg, hra⟩ := hB.place (by omega)
      have hy := hra i hil
      rw [← hx] at hy
      have HY := Lib.hid (And.intro hy hg)
      have hxl := x.2
      replace c1 := Lib.hid c1
      replace c2 := Lib.hid c2
      replace c3 := Lib.hid c3
      replace c4 := Lib.hid c4
      replace c5 := Lib.hid c5
      clear hy hg hra hgd hx hrt hp hq e1 e2 hp1 hp2 hl1 ht6 hB hi1
      go_enter Tryd.func4, Tryd.ntmps4
      go_wp2_with fail
      refine (awake20_any w hL).mono ?_
      rintro e w1 ⟨rfl, F1⟩
      go_wp2_with fail
      refine (c1.out w1 F1).mono ?_
      rintro e w2 ⟨v2, rfl, O2⟩
      have F2 := Below.then F1 O2.bel
      obtain ⟨b2, n2, rfl, -, hn2, hn2', hP2⟩ := O2.row.hts
      clear O2 F1 c1
      clear w1
      go_wp2_with fail
      refine (c2.out w2 F2).mono ?_
      rintro e w3 ⟨v3, rfl, O3⟩
      have F3 := Below.then F2 O3.bel
      have hP3 := hP2.below O3.bel (Nat.le_refl _)
      obtain ⟨b3, n3, rfl, -, hn3, hn3', hQ3⟩ := O3.row.hts
      clear O3 F2 c2 hP2
      clear w2
      have hy := range_below HY.out.1 F3 HY.out.2
      have c6 := c3.out w3 b2 n2 F3 hP3 hn2 hn2'
      go_wp2_with (refine wpList_load_mid rfl 23 _ rfl g (off + i * 32) rfl (x.1.map b8) (.array 32 5) hy (by kernel_rfl) rfl (by rw [List.length_map, hxl]; kernel_rfl) ?_)
      refine c6.mono ?_
      rintro e w4 ⟨rfl, G4⟩
      have F4 := Below.then F3 G4
      have hQ4 := hQ3.below G4 (Nat.le_refl _)
      clear c3 c6 hy hQ3 F3 G4 hP3
      clear w3
      go_wp2_with fail
      refine (c4.out w4 F4).mono ?_
      rintro e w5 ⟨rfl, G5⟩
      have F5 := Below.then F4 G5
      have hQ5 := hQ4.below G5 (Nat.le_refl _)
      have c7 := c5.out w5 b3 n3 F5 hQ5 hn3 hn3'
      clear c4 c5 hQ4 F4 G5 hQ5
      clear w4
      go_wp2_with fail
      refine c7.mono ?_
      rintro e w6 ⟨rfl, G6⟩
      have F6 := Below.then F5 G6
      clear c7 F5 G6
      go_wp2
      go_ret
      exact ⟨rfl, F6⟩
  · have hd : decide ((60 : Int) < (l.length : Int)) = true := by rw [decide_eq_true_eq]; omega
    go_enter Tryd.func4, Tryd.ntmps4
    go_wp2_with fail
    refine (awake20_any w hL).mono ?_
    rintro e w1 ⟨rfl, F1⟩
    go_wp2_with fail
    refine (awake20_any w1 (hL.below F1 (Nat.le_refl _))).mono ?_
    rintro e w2 ⟨rfl, GF2⟩
    have F2 := Below.then F1 GF2
    go_wp2_with fail
    go_ret
    exact ⟨rfl, F2⟩
end Go.Proofs.YtadiijieldldhaaDoor
