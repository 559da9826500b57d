/-
  The walk of the statement CheckRight.
-/
import Derived.Test.YtadiijieldldhaaDoorRef19
import Derived.Test.YtadiijieldldhaaDoorRefProof
import Derived.Test.YtadiijieldldhaaDoorProof
import Derived.Test.YtadiijieldldhaaDoorRefPrf
namespace Go.Proofs.YtadiijieldldhaaDoor
open Go Go.RowKit
attribute [local irreducible] sha
theorem pathOut_nat (l : List Hs) (i : Nat) (h : i < l.length) : pathOut l (i : Int) = pathH l i := by
  unfold pathOut; rw [if_pos (by omega), Int.toNat_natCast]
theorem prfOut_nat (l : List Hs) (i : Nat) (h1 : 1 ≤ i) (h : i ≤ l.length) : prfOut l (i : Int) = prfH l i true := by
  unfold prfOut; rw [if_pos (by omega), Int.toNat_natCast]
theorem path_right (l : List Hs) (i : Nat) (h : i < l.length) : checkP i l.length l[i] (pathOut l (i : Int)) (rootH l) = true := by
  have e : leadsH i l.length l[i] (pathOut l (i : Int)) = (rootH l, true) := by
    rw [pathOut_nat l i h]
    exact Tree.leads_path nodeH nilH zeroH l.length l i l[i] (Nat.le_refl _) (List.getElem?_eq_getElem h)
  rw [checkP_leads _ _ _ h, e]; simp
theorem proof_right (l : List Hs) (i : Nat) (h1 : 1 ≤ i) (h : i ≤ l.length) : proofP i l.length (rootH (l.take i)) (prfOut l (i : Int)) (rootH l) = true := by
  have e : twoH i l.length true (rootH (l.take i)) (prfOut l (i : Int)) = ((rootH (l.take i), rootH l), true) := by
    rw [prfOut_nat l i h1 h]
    exact Tree.two_prf nodeH nilH l.length l i true (Nat.le_refl _) h1 h _ (fun _ => rfl)
  rw [proofP_two _ _ _ h1 h, e]; simp
set_option maxRecDepth 100000 in
set_option maxHeartbeats 8000000 in
theorem cright_any (w : World) (hL : Laid w) (ao : Option Addr) (cp : Nat) (l : List Hs) (hB : Hts w ao l) (hc : l.length ≤ cp) (hm : cp ≤ maxLen) (n : Int) (hn0 : 0 ≤ n) (hn1 : n ≤ 255) :
    Calls Tryd.prog 7 #[.slice ao l.length cp, .int .u8 n] w fun e w' => e = .returned (.bool true) ∧ Below w.heap.size w w' := by
  have hl9 : l.length ≤ 9223372036854775807 := Nat.le_trans hc hm
  have hm0 : cp ≤ 9223372036854775807 := hm
  by_cases hlen : l.length ≤ 60
  · have hd : decide ((60 : Int) < (l.length : Int)) = false := by rw [decide_eq_false_iff_not]; omega
    by_cases hl0 : l.length = 0
    · have hd1 : ((l.length : Int) == 0) = true := by rw [beq_iff_eq]; omega
      go_enter Tryd.func7, Tryd.ntmps7
      go_wp2_with fail
      refine (awake19_any w hL).mono ?_
      rintro e w1 ⟨rfl, F1⟩
      go_wp2_with fail
      refine (awake19_any w1 (hL.below F1 (Nat.le_refl _))).mono ?_
      rintro e w2 ⟨rfl, GF2⟩
      have F2 := Below.then F1 GF2
      go_wp2_with fail
      go_ret
      exact ⟨rfl, F2⟩
    · have hd1 : ((l.length : Int) == 0) = false := by rw [beq_eq_false_iff_ne]; omega
      have q1 : IntKind.i64.wrap n = n := IntWalk.i64_in _ (by omega)
      obtain ⟨i, hiv, hil⟩ : ∃ i : Nat, n % (l.length : Int) = (i : Int) ∧ i < l.length := by
        have h1 := Int.emod_nonneg n (show (l.length : Int) ≠ 0 by omega)
        have h2 := Int.emod_lt_of_pos n (show 0 < (l.length : Int) by omega)
        exact ⟨(n % (l.length : Int)).toNat, by omega, by omega⟩
      have qi : IntKind.i64.wrap (i : Int) = i := IntWalk.i64_in _ (by omega)
      obtain ⟨i1, hi1⟩ : ∃ i1 : Nat, i1 = i + 1 := ⟨_, rfl⟩
      have qj : IntKind.i64.wrap ((i : Int) + 1) = (i1 : Int) := by rw [show (i : Int) + 1 = i1 by omega]; exact IntWalk.i64_in _ (by omega)
      obtain ⟨i0, hi, hz0, hz1, hz2⟩ := info_parts infoHs
      obtain ⟨a6, hs6, -, ht6⟩ := run_upto_hts (P := Tryd.prog) (t := 24) (by kernel_rfl) hi ao l.length cp i1 (by omega)
      have hl1 : (l.take i1).length = i1 := by rw [List.length_take]; omega
      have e1 := path_right l i hil
      have e2 := proof_right l i1 (by omega) (by omega)
      have hp1 : (pathOut l (i : Int)).length ≤ 1000 := by rw [pathOut_nat l i hil]; exact Nat.le_trans (pathH_len l i hil) (by omega)
      have hp2 : (prfOut l (i1 : Int)).length ≤ 1000 := by rw [prfOut_nat l i1 (by omega) (by omega)]; exact Nat.le_trans (prfH_len l i1 true (by omega) (by omega)) (by omega)
      obtain ⟨x, hx⟩ : ∃ x, x = l[i] := ⟨_, rfl⟩
      obtain ⟨rt, hrt⟩ : ∃ rt, rt = rootH l := ⟨_, rfl⟩
      obtain ⟨ro, hro⟩ : ∃ ro, ro = rootH (l.take i1) := ⟨_, rfl⟩
      obtain ⟨p, hp⟩ : ∃ p, p = pathOut l (i : Int) := ⟨_, rfl⟩
      obtain ⟨q, hq⟩ : ∃ q, q = prfOut l (i1 : Int) := ⟨_, rfl⟩
      obtain ⟨r, hr⟩ : ∃ r, r = w.heap.size := ⟨_, rfl⟩
      have HR := Lib.hid hr
      have hr0 : w.heap.size ≤ r := by omega
      rw [← hx, ← hp, ← hrt] at e1
      rw [← hro, ← hq, ← hrt] at e2
      rw [← hp] at hp1
      rw [← hq] at hp2
      have c0 : ∀ W, Below r w W → Calls Tryd.prog 21 #[.slice ao l.length cp] W fun e w' => e = .returned (hval rt) ∧ Below W.heap.size W w' := fun W hW => by
        rw [hrt]; exact refroot_any W ao cp l (hL.below hW hr0) (hB.below hW hr0) hc hm
      have c1 : ∀ W, Below r w W → Calls Tryd.prog 17 #[.slice ao l.length cp, .int .i64 i] W fun e w' => ∃ v, e = .returned (.tuple #[v, .int .i64 (pathErr l i)]) ∧ OwnH W.heap.size W w' v p := fun W hW => by
        rw [hp]; exact refpath_any W ao cp l (i : Int) (hL.below hW hr0) (hB.below hW hr0) hc hm (by omega)
      have c2 : ∀ W, Below r w W → Calls Tryd.prog 18 #[.slice ao l.length cp, .int .i64 i1] W fun e w' => ∃ v, e = .returned (.tuple #[v, .int .i64 (prfErr l i1)]) ∧ OwnH W.heap.size W w' v q := fun W hW => by
        rw [hq]; exact refprf_any W ao cp l (i1 : Int) (hL.below hW hr0) (hB.below hW hr0) hc hm (by omega)
      have c3 : ∀ W (b : Option Addr) (c : Nat), Below r w W → Hts W b p → p.length ≤ c → c ≤ maxLen → Calls Tryd.prog 14 #[.int .i64 i, .int .i64 l.length, hval x, .slice b p.length c, hval rt] W fun e w' => e = .returned (.bool true) ∧ Below W.heap.size W w' := fun W b c hW hb h1 h2 => by
        have := check_any W (hL.below hW hr0) (i : Int) l.length (by omega) (by omega) (by omega) (by omega) x b c p hb (by omega) rt
        rw [e1] at this
        exact this
      have c4 : ∀ W, Below r w W → Calls Tryd.prog 21 #[.slice a6 i1 cp] W fun e w' => e = .returned (hval ro) ∧ Below W.heap.size W w' := fun W hW => by
        have := refroot_any W a6 cp (l.take i1) (hL.below hW hr0) (ht6 W l (hB.below hW hr0)) (by omega) hm
        rw [hl1, ← hro] at this; exact this
      have c5 : ∀ W (b : Option Addr) (c : Nat), Below r w W → Hts W b q → q.length ≤ c → c ≤ maxLen → Calls Tryd.prog 23 #[.int .i64 i1, .int .i64 l.length, hval ro, .slice b q.length c, hval rt] W fun e w' => e = .returned (.bool true) ∧ Below W.heap.size W w' := fun W b c hW hb h1 h2 => by
        have := proof_any W (hL.below hW hr0) (i1 : Int) l.length (by omega) (by omega) (by omega) (by omega) ro b c q hb h1 h2 (by omega) rt
        rw [e2] at this
        exact this
      have hAw : ∀ W, Below r w W → Calls Tryd.prog 12 #[] W fun e w' => e = .returned (.bool true) ∧ Below W.heap.size W w' := fun W hW => awake19_any W (hL.below hW hr0)
      generalize pathErr l (i : Int) = E1 at c1
      generalize prfErr l (i1 : Int) = E2 at c2
      obtain ⟨g, off, rfl, hg, hra⟩ := hB.place (by omega)
      have hy := hra i hil
      rw [← hx] at hy
      have HY := Lib.hid (And.intro hy (show g < r by omega))
      have hxl := x.2
      have hrl := rt.2
      replace c0 := Lib.hid c0
      replace c1 := Lib.hid c1
      replace c2 := Lib.hid c2
      replace c3 := Lib.hid c3
      replace c4 := Lib.hid c4
      replace c5 := Lib.hid c5
      replace hAw := Lib.hid hAw
      clear hy hg hra hx hrt hro hp hq e1 e2 hp1 hp2 hl1 ht6 hB hi1 hr0
      go_enter Tryd.func7, Tryd.ntmps7
      go_wp2_with fail
      refine (hAw.out w (Below.refl _ _)).mono ?_
      rintro e w1 ⟨rfl, F1⟩
      rw [← hr] at F1
      have hs1 : r ≤ w1.heap.size := by have := F1.size; omega
      go_wp2_with fail
      refine (c0.out w1 F1).mono ?_
      rintro e w2 ⟨rfl, G2⟩
      have F2 := F1.trans (G2.mono hs1)
      have hs2 : r ≤ w2.heap.size := Nat.le_trans hs1 G2.size
      clear c0 hAw F1 hs1 G2 hr
      clear w1
      have hK := Blk.new w2 zero32 23
      go_wp2_with (refine wpList_store_blk rfl 23 _ _ rfl hK (rt.1.map b8).toArray rfl rfl 32 (by kernel_rfl) rfl (by simp [hrl]) (by rw [List.toList_toArray]; exact b8_one _) ?_)
      intro w3 hR3 hg3
      have F3 : Below r w w3 := below_upd (F2.alloc hs2 _) hg3 hs2 (alloc_lt _ _)
      obtain ⟨b, hb⟩ : ∃ b, b = w2.heap.size := ⟨_, rfl⟩
      rw [← hb] at hR3 ⊢
      have hrb : r ≤ b := by omega
      clear hK hg3 F2 hs2 hb
      clear w2
      go_wp2_with fail
      refine (c1.out w3 F3).mono ?_
      rintro e w4 ⟨v4, rfl, O4⟩
      have F4 := F3.trans (O4.bel.mono (by have := hR3.lt; omega))
      have hR4 := hR3.below O4.bel hR3.lt
      obtain ⟨b4, n4, rfl, -, hn4, hn4', hP4⟩ := O4.row.hts
      clear O4 F3 c1 hR3
      clear w3
      go_wp2_with fail
      refine (c2.out w4 F4).mono ?_
      rintro e w5 ⟨v5, rfl, O5⟩
      have F5 := F4.trans (O5.bel.mono (by have := hR4.lt; omega))
      have hR5 := hR4.below O5.bel hR4.lt
      have hP5 := hP4.below O5.bel (Nat.le_refl _)
      obtain ⟨b5, n5, rfl, -, hn5, hn5', hQ5⟩ := O5.row.hts
      clear O5 F4 c2 hP4 hR4
      clear w4
      go_upto_region 7 with (fail)
      refine wp_region_N (fun w' => Blk w' b 23 (rt.1.map b8).toArray ∧ w'.rangeAt g (off + i * 32) (x.1.map b8)) [] (by kernel_rfl) ?_
      obtain ⟨wd, hwd⟩ : ∃ wd, wd = w5.drew := ⟨_, rfl⟩
      replace hR5 : Blk wd b 23 (rt.1.map b8).toArray := by rw [hwd]; exact hR5
      replace F5 : Below r w wd := by rw [hwd]; exact F5.drew
      replace hP5 : Hts wd b4 p := by rw [hwd]; exact hP5
      replace hQ5 : Hts wd b5 q := by rw [hwd]; exact hQ5
      rw [← hwd]
      clear hwd
      clear w5
      have hX5 := range_below HY.out.1 F5 HY.out.2
      refine wpAnyN_pureG 0 44 (v := ?_) rfl rfl (by kernel_rfl) (by kernel_rfl) (by kernel_rfl) (fun _ _ _ h => h) rfl (fun w => ?_) ?_
      rotate_left
      · go_simp
        try with_reducible rfl
      refine wpAnyN_pureG 1 45 (v := ?_) rfl rfl (by kernel_rfl) (by kernel_rfl) (by kernel_rfl) (fun _ _ _ h => h) rfl (fun w => ?_) ?_
      rotate_left
      · go_simp
        try with_reducible rfl
      refine wpAnyN_pureG 3 47 (v := ?_) rfl rfl (by kernel_rfl) (by kernel_rfl) (by kernel_rfl) (fun _ _ _ h => h) rfl (fun w => ?_) ?_
      rotate_left
      · go_simp
        try with_reducible rfl
      refine wpAnyN_pureG 4 48 (v := ?_) rfl rfl (by kernel_rfl) (by kernel_rfl) (by kernel_rfl) (fun _ _ _ h => h) rfl (fun w => ?_) ?_
      rotate_left
      · go_simp
        try with_reducible rfl
      refine wpAnyN_pureG 7 51 (v := ?_) rfl rfl (by kernel_rfl) (by kernel_rfl) (by kernel_rfl) (fun _ _ _ h => h) rfl (fun w => ?_) ?_
      rotate_left
      · go_simp
        try with_reducible rfl
      simp only [Act.put, List.setIfInBounds_toArray, List.set_cons_succ, List.set_cons_zero]
      refine wpAnyN_pureG 2 46 (v := ?_) rfl rfl (by kernel_rfl) (by kernel_rfl) (by kernel_rfl) (fun _ _ _ h => h) rfl (fun w => ?_) ?_
      rotate_left
      · go_simp
        try with_reducible rfl
      refine wpAnyN_pureG 5 49 (v := .pointer (some ⟨g, off + i * 32, none⟩)) rfl rfl (by kernel_rfl) (by kernel_rfl) (by kernel_rfl) (fun _ _ _ h => h) rfl (fun w => ?_) ?_
      · go_simp
        try (intro h; omega)
      simp only [Act.put, List.setIfInBounds_toArray, List.set_cons_succ, List.set_cons_zero]
      refine wpAnyN_takeG 6 50 (v := hval x) rfl rfl (by kernel_rfl) (by kernel_rfl) (by kernel_rfl) (by kernel_rfl) (fun _ _ _ h => h) ⟨hR5, hX5⟩ rfl (fun w hS => ?_) ?_
      · exact run_load_range 23 _ rfl hS.2 (by go_simp) (.array 32 5) (by kernel_rfl) rfl 32 (by kernel_rfl) (by simp [hxl])
      refine wpAnyN_takeG 8 52 (v := hval rt) rfl rfl (by kernel_rfl) (by kernel_rfl) (by kernel_rfl) (by kernel_rfl) (fun _ _ _ h => h) ⟨hR5, hX5⟩ rfl (fun w hS => ?_) ?_
      · exact run_load_mid_blk 23 (.tmp 6) rfl hS.1 0 (by go_simp) (rt.1.map b8) (fun j v h => by rw [Nat.zero_add, List.getElem?_toArray]; exact h) (.array 32 5) (by kernel_rfl) rfl 32 (by kernel_rfl) (by simp [hrl])
      simp only [Act.put, List.setIfInBounds_toArray, List.set_cons_succ, List.set_cons_zero]
      refine wpAnyN_call 9 14 (some 53) [.tmp 44, .tmp 46, .tmp 50, .tmp 51, .tmp 52] [.int .i64 i, .int .i64 l.length, hval x, .slice b4 p.length n4, hval rt] (by kernel_rfl) rfl rfl rfl rfl (by go_simp) Tryd.call14 ?_
      refine (c3.out wd b4 n4 F5 hP5 hn4 hn4').mono ?_
      rintro e w6 ⟨rfl, G6⟩
      refine ⟨_, rfl, fun _ h => ⟨h.1.below G6 h.1.lt, hash_below x h.2 G6⟩, ?_⟩
      have F6 := F5.trans (G6.mono (by have := hR5.lt; omega))
      have hR6 := hR5.below G6 hR5.lt
      have hQ6 := hQ5.below G6 (Nat.le_refl _)
      clear c3 F5 hR5 hP5 hQ5 hX5 G6
      clear wd
      simp only [Act.put, List.setIfInBounds_toArray, List.set_cons_succ, List.set_cons_zero]
      refine wpAnyN_pureG 10 54 (v := ?_) rfl rfl (by kernel_rfl) (by kernel_rfl) (by kernel_rfl) (fun _ _ _ h => h) rfl (fun w => ?_) ?_
      rotate_left
      · go_simp
        try with_reducible rfl
      simp only [Act.put, List.setIfInBounds_toArray, List.set_cons_succ, List.set_cons_zero]
      refine wpAnyN_pure 11 55 (v := ?_) rfl rfl (by kernel_rfl) (by kernel_rfl) (by kernel_rfl) (fun _ _ _ h => h) (by go_simp) (fun w => ?_) ?_
      rotate_left
      · go_simp
        try with_reducible rfl
      refine wpAnyN_pure 13 57 (v := ?_) rfl rfl (by kernel_rfl) (by kernel_rfl) (by kernel_rfl) (fun _ _ _ h => h) (by go_simp) (fun w => ?_) ?_
      rotate_left
      · go_simp
        try with_reducible rfl
      refine wpAnyN_pure 15 59 (v := ?_) rfl rfl (by kernel_rfl) (by kernel_rfl) (by kernel_rfl) (fun _ _ _ h => h) (by go_simp) (fun w => ?_) ?_
      rotate_left
      · go_simp
        try with_reducible rfl
      refine wpAnyN_pure 16 60 (v := ?_) rfl rfl (by kernel_rfl) (by kernel_rfl) (by kernel_rfl) (fun _ _ _ h => h) (by go_simp) (fun w => ?_) ?_
      rotate_left
      · go_simp
        try with_reducible rfl
      refine wpAnyN_pure 20 64 (v := ?_) rfl rfl (by kernel_rfl) (by kernel_rfl) (by kernel_rfl) (fun _ _ _ h => h) (by go_simp) (fun w => ?_) ?_
      rotate_left
      · go_simp
        try with_reducible rfl
      simp only [Act.put, List.setIfInBounds_toArray, List.set_cons_succ, List.set_cons_zero]
      refine wpAnyN_pure 12 56 (v := ?_) rfl rfl (by kernel_rfl) (by kernel_rfl) (by kernel_rfl) (fun _ _ _ h => h) (by go_simp) (fun w => ?_) ?_
      rotate_left
      · go_simp
        try with_reducible rfl
      refine wpAnyN_pure 14 58 (v := ?_) rfl rfl (by kernel_rfl) (by kernel_rfl) (by kernel_rfl) (fun _ _ _ h => h) (by go_simp) (fun w => ?_) ?_
      rotate_left
      · go_simp
        try with_reducible rfl
      refine wpAnyN_pure 17 61 (v := ?_) rfl rfl (by kernel_rfl) (by kernel_rfl) (by kernel_rfl) (fun _ _ _ h => h) (by go_simp) (fun w => ?_) ?_
      rotate_left
      · go_simp
        try with_reducible rfl
      simp only [Act.put, List.setIfInBounds_toArray, List.set_cons_succ, List.set_cons_zero]
      refine wpAnyN_pure 18 62 (v := ?_) rfl rfl (by kernel_rfl) (by kernel_rfl) (by kernel_rfl) (fun _ _ _ h => h) (by go_simp) (fun w => ?_) ?_
      rotate_left
      · go_simp
        try with_reducible rfl
      simp only [Act.put, List.setIfInBounds_toArray, List.set_cons_succ, List.set_cons_zero]
      have hX6 := range_below HY.out.1 F6 HY.out.2
      refine wpAnyN_take 21 65 (v := hval rt) rfl rfl (by kernel_rfl) (by kernel_rfl) (by kernel_rfl) (by kernel_rfl) (fun _ _ _ h => h) ⟨hR6, hX6⟩ (by go_simp) (fun w hS => ?_) ?_
      · exact run_load_mid_blk 23 (.tmp 6) rfl hS.1 0 (by go_simp) (rt.1.map b8) (fun j v h => by rw [Nat.zero_add, List.getElem?_toArray]; exact h) (.array 32 5) (by kernel_rfl) rfl 32 (by kernel_rfl) (by simp [hrl])
      simp only [Act.put, List.setIfInBounds_toArray, List.set_cons_succ, List.set_cons_zero]
      refine wpAnyN_callW 19 21 (some 63) [.tmp 62] [.slice a6 i1 cp] (by kernel_rfl) rfl rfl rfl (by go_simp) (by go_simp) Tryd.call21 ?_
      refine (c4.out w6 F6).mono ?_
      rintro e w7 ⟨rfl, G7⟩
      refine ⟨_, rfl, fun _ h => ⟨h.1.below G7 h.1.lt, hash_below x h.2 G7⟩, ?_⟩
      have F7 := F6.trans (G7.mono (by have := hR6.lt; omega))
      have hR7 := hR6.below G7 hR6.lt
      have hQ7 := hQ6.below G7 (Nat.le_refl _)
      clear c4 F6 hR6 hQ6 hX6 G7
      clear w6
      simp only [Act.put, List.setIfInBounds_toArray, List.set_cons_succ, List.set_cons_zero]
      refine wpAnyN_callW 22 23 (some 66) [.tmp 56, .tmp 58, .tmp 63, .tmp 64, .tmp 65] [.int .i64 i1, .int .i64 l.length, hval ro, .slice b5 q.length n5, hval rt] (by kernel_rfl) rfl rfl rfl (by go_simp) (by go_simp) Tryd.call23 ?_
      refine (c5.out w7 b5 n5 F7 hQ7 hn5 hn5').mono ?_
      rintro e w8 ⟨rfl, G8⟩
      refine ⟨_, rfl, fun _ h => ⟨h.1.below G8 h.1.lt, hash_below x h.2 G8⟩, ?_⟩
      have F8 := F7.trans (G8.mono (by have := hR7.lt; omega))
      clear c5 F7 hR7 hQ7 G8
      clear w7
      simp only [Act.put, List.setIfInBounds_toArray, List.set_cons_succ, List.set_cons_zero]
      refine wpAnyN_pureG 23 67 (v := ?_) rfl rfl (by kernel_rfl) (by kernel_rfl) (by kernel_rfl) (fun _ _ _ h => h) rfl (fun w => ?_) ?_
      rotate_left
      · go_simp
        try with_reducible rfl
      simp only [Act.put, List.setIfInBounds_toArray, List.set_cons_succ, List.set_cons_zero]
      refine wpAnyN_pureG 24 4 (v := ?_) rfl rfl (by kernel_rfl) (by kernel_rfl) (by kernel_rfl) (fun _ _ _ h => h) rfl (fun w => ?_) ?_
      rotate_left
      · go_simp
        try with_reducible rfl
      refine wpAnyN_done (by kernel_rfl) ?_
      simp only [Act.put, List.setIfInBounds_toArray, List.set_cons_succ, List.set_cons_zero]
      rw [HR.out] at F8
      go_wp2
      go_ret
      exact ⟨rfl, F8⟩
  · have hd : decide ((60 : Int) < (l.length : Int)) = true := by rw [decide_eq_true_eq]; omega
    go_enter Tryd.func7, Tryd.ntmps7
    go_wp2_with fail
    refine (awake19_any w hL).mono ?_
    rintro e w1 ⟨rfl, F1⟩
    go_wp2_with fail
    refine (awake19_any w1 (hL.below F1 (Nat.le_refl _))).mono ?_
    rintro e w2 ⟨rfl, GF2⟩
    have F2 := Below.then F1 GF2
    go_wp2_with fail
    go_ret
    exact ⟨rfl, F2⟩
end Go.Proofs.YtadiijieldldhaaDoor
