/-
  The walk of the statement Sha256Bytes.
-/
import Derived.Test.YtahlllbigkgobaaDoorLSame
namespace Go.Proofs.YtahlllbigkgobaaDoor
open Go.RowKit
attribute [local irreducible] sha
theorem take_snoc (bs : List B) (m : Nat) (h : m < bs.length) : bs.take m ++ (bs.drop m).take 1 = bs.take (m + 1) := by
  rw [List.take_succ_eq_append_getElem h, List.drop_eq_getElem_cons h]; rfl
set_option maxRecDepth 100000 in
set_option maxHeartbeats 4000000 in
theorem bytes05_any (w : World) (hL : Laid w) (ao : Option Addr) (cp : Nat) (bs : List B) (hB : Bts w ao bs) (hc : bs.length ≤ cp) (hm : cp ≤ maxLen) (n : Int) (hn0 : 0 ≤ n) (hn1 : n ≤ 255) :
    Calls Tryd.prog 7 #[.slice ao bs.length cp, .int .u8 n] w fun e w' => e = .returned (.bool true) ∧ Below w.heap.size w w' := by
  have hm0 : cp ≤ 9223372036854775807 := hm
  replace hm : bs.length ≤ 9223372036854775807 := Nat.le_trans hc hm
  by_cases hlen : bs.length ≤ 500
  · have hd : decide ((500 : Int) < (bs.length : Int)) = false := by rw [decide_eq_false_iff_not]; omega
    obtain ⟨i0, hi, hz0, hz1, hz2⟩ := info_parts infoU8
    go_enter Tryd.func7, Tryd.ntmps7
    go_wp2_with fail
    refine (awake05_any w hL).mono ?_
    rintro e w1 ⟨rfl, F1⟩
    go_wp2
    obtain ⟨b, hb⟩ : ∃ b, b = w1.heap.size := ⟨_, rfl⟩
    obtain ⟨wA, hwA⟩ : ∃ wA, wA = w1.alloc (.cells zeroD 36) := ⟨_, rfl⟩
    have hLt := hL.lt
    have hbw : w.heap.size ≤ b := by rw [hb]; exact F1.size
    have hDA : Dig wA b (.slice none 0 0) [] := by rw [hwA, hb]; exact Dig.new (Blk.new w1 zeroD 36) (by have := F1.size; omega) (by have := F1.size; omega)
    have FA : Below w.heap.size w wA := by rw [hwA]; exact F1.alloc F1.size _
    change Code.wp _ _ _ _ (w1.alloc (.cells zeroD 36))
    rw [← hwA, ← hb]
    clear hwA hb F1
    clear w1
    have hLA : ∀ wx, Below w.heap.size w wx → Laid wx := fun wx h => hL.below h (Nat.le_refl _)
    have hBA : ∀ wx, Below w.heap.size w wx → Bts wx ao bs := fun wx h => hB.below h (Nat.le_refl _)
    have HA := Lib.hid (And.intro hLA hBA)
    clear hLA hBA
    go_loopg [6] bs.length (fun k i wr => ∃ (m : Nat) (v : Value), i = .int .i64 m ∧ m + k = bs.length ∧ Dig wr b v (bs.take m) ∧ (∀ g, v.ownBlock = some g → w.heap.size ≤ g) ∧ Below w.heap.size w wr)
    case atStart => exact ⟨0, _, rfl, by omega, by simpa using hDA, (fun _ e => by cases e), FA⟩
    case round =>
      clear hDA FA
      obtain ⟨m, v, rfl, hmk, hD, hv, F⟩ := hrel
      by_cases hq : m < bs.length
      · have hdl : decide ((m : Int) < (bs.length : Int)) = true := by rw [decide_eq_true_eq]; omega
        obtain ⟨bb, off, rfl, hbb⟩ : ∃ bb off, ao = some ⟨bb, off, none⟩ ∧ bb < w.heap.size := by
          rcases hB with rfl | ⟨bb, off, e, h'⟩
          · simp at hq
          · exact ⟨bb, off, e, World.block_lt_of_cell? w _ (h' m hq)⟩
        go_upto_region 7 with (fail)
        refine wp_region_N (fun _ => True) [] (by kernel_rfl) ?_
        obtain ⟨wd, hwd⟩ : ∃ wd, wd = wr.drew := ⟨_, rfl⟩
        have hDz : Dig wd b v (bs.take m) := by rw [hwd]; exact hD.below (Below.refl _ _).drew (Nat.le_refl _)
        have Fz : Below w.heap.size w wd := by rw [hwd]; exact F.drew
        rw [← hwd]
        have HD := Lib.hid (And.intro hDz (And.intro Fz (And.intro hv hmk)))
        clear hwd hD F hDz Fz hv hmk
        clear wr
        by_cases h0 : n = 0
        · subst h0
          refine wpAnyN_pureG 0 23 (v := ?_) rfl rfl (by kernel_rfl) (by kernel_rfl) (by kernel_rfl) (fun _ _ _ h => h) rfl (fun w => ?_) ?_
          rotate_left
          · go_simp
            try with_reducible rfl
          refine wpAnyN_pureG 1 24 (v := ?_) rfl rfl (by kernel_rfl) (by kernel_rfl) (by kernel_rfl) (fun _ _ _ h => h) rfl (fun w => ?_) ?_
          rotate_left
          · go_simp
            try with_reducible rfl
          refine wpAnyN_pureG 2 25 (v := ?_) rfl rfl (by kernel_rfl) (by kernel_rfl) (by kernel_rfl) (fun _ _ _ h => h) rfl (fun w => ?_) ?_
          rotate_left
          · go_simp
            try with_reducible rfl
          refine wpAnyN_skipD 3 26 rfl rfl (by kernel_rfl) (by kernel_rfl) (by kernel_rfl) (fun _ _ _ h => h) (by go_simp) ?_
          refine wpAnyN_skipD 4 27 rfl rfl (by kernel_rfl) (by kernel_rfl) (by kernel_rfl) (fun _ _ _ h => h) (by go_simp) ?_
          refine wpAnyN_skipD 5 28 rfl rfl (by kernel_rfl) (by kernel_rfl) (by kernel_rfl) (fun _ _ _ h => h) (by go_simp) ?_
          refine wpAnyN_skipD 6 29 rfl rfl (by kernel_rfl) (by kernel_rfl) (by kernel_rfl) (fun _ _ _ h => h) (by go_simp) ?_
          refine wpAnyN_skipD 7 30 rfl rfl (by kernel_rfl) (by kernel_rfl) (by kernel_rfl) (fun _ _ _ h => h) (by go_simp) ?_
          refine wpAnyN_pureG 8 31 (v := ?_) rfl rfl (by kernel_rfl) (by kernel_rfl) (by kernel_rfl) (fun _ _ _ h => h) rfl (fun w => ?_) ?_
          rotate_left
          · go_simp
            try with_reducible rfl
          refine wpAnyN_pureG 9 32 (v := ?_) rfl rfl (by kernel_rfl) (by kernel_rfl) (by kernel_rfl) (fun _ _ _ h => h) rfl (fun w => ?_) ?_
          rotate_left
          · go_simp
            try with_reducible rfl
          refine wpAnyN_skipD 10 33 rfl rfl (by kernel_rfl) (by kernel_rfl) (by kernel_rfl) (fun _ _ _ h => h) (by go_simp) ?_
          refine wpAnyN_skipD 11 34 rfl rfl (by kernel_rfl) (by kernel_rfl) (by kernel_rfl) (fun _ _ _ h => h) (by go_simp) ?_
          refine wpAnyN_skipD 12 35 rfl rfl (by kernel_rfl) (by kernel_rfl) (by kernel_rfl) (fun _ _ _ h => h) (by go_simp) ?_
          refine wpAnyN_skipD 13 36 rfl rfl (by kernel_rfl) (by kernel_rfl) (by kernel_rfl) (fun _ _ _ h => h) (by go_simp) ?_
          refine wpAnyN_skipD 14 37 rfl rfl (by kernel_rfl) (by kernel_rfl) (by kernel_rfl) (fun _ _ _ h => h) (by go_simp) ?_
          refine wpAnyN_skipD 15 38 rfl rfl (by kernel_rfl) (by kernel_rfl) (by kernel_rfl) (fun _ _ _ h => h) (by go_simp) ?_
          refine wpAnyN_skipD 16 39 rfl rfl (by kernel_rfl) (by kernel_rfl) (by kernel_rfl) (fun _ _ _ h => h) (by go_simp) ?_
          refine wpAnyN_skipD 17 40 rfl rfl (by kernel_rfl) (by kernel_rfl) (by kernel_rfl) (fun _ _ _ h => h) (by go_simp) ?_
          refine wpAnyN_pureG 18 41 (v := ?_) rfl rfl (by kernel_rfl) (by kernel_rfl) (by kernel_rfl) (fun _ _ _ h => h) rfl (fun w => ?_) ?_
          rotate_left
          · go_simp
            try with_reducible rfl
          refine wpAnyN_done (by kernel_rfl) ?_
          obtain ⟨wz, HZ⟩ : ∃ wz, Hid (Dig wz b v (bs.take m) ∧ Below w.heap.size w wz ∧ (∀ g, v.ownBlock = some g → w.heap.size ≤ g) ∧ m + gk = bs.length) ∧ wz = wd := ⟨wd, HD, rfl⟩
          obtain ⟨HZ, hwz⟩ := HZ
          rw [← hwz]
          clear hwz HD
          simp only [Act.put, List.setIfInBounds_toArray, List.set_cons_succ, List.set_cons_zero]
          obtain ⟨hDz, Fz, hv, hmk⟩ := HZ.out
          have hcc : ∀ j, j < bs.length → wz.cell? ⟨bb, off + j, none⟩ = some (b8 (bs.getD j 0)) := by
            rcases HA.out.2 wz Fz with h | ⟨b2, o2, e2, h2⟩
            · intro j hj; rw [h] at hj; simp at hj
            · obtain ⟨rfl, rfl⟩ : b2 = bb ∧ o2 = off := by simpa using e2.symm
              exact h2
          obtain ⟨u, hu⟩ : ∃ u, u = bs.getD m 0 := ⟨_, rfl⟩
          have hY : Bts wz (some ⟨bb, off + m, none⟩) [u] := Bts.of fun j hj => by
            obtain rfl : j = 0 := by simpa using hj
            rw [Nat.add_zero, hcc m hq, hu]; rfl
          have hsl : ∀ W : World, (Instr.slice 22 (.slice (some ⟨bb, off, none⟩) bs.length cp) (some (.int .i64 (m : Nat))) (some (.int .i64 ((m : Int) + 1))) none).run Tryd.prog W = .ok (.slice (some ⟨bb, off + m, none⟩) 1 (cp - m)) W := fun W => by
            have := run_mid_row (P := Tryd.prog) (t := 22) (by kernel_rfl) hi hz1 bb off bs.length cp m (m + 1) (by omega) (by omega) (by omega) W
            rw [Nat.mul_one, show m + 1 - m = 1 by omega, show (((m + 1 : Nat)) : Int) = (m : Int) + 1 by omega] at this
            exact this
          have hsn : bs.take m ++ [u] = bs.take (m + 1) := by
            rw [hu, List.take_succ_eq_append_getElem hq]; simp [List.getD, hq]
          have hli : (bs.take m).length ≤ bs.length := by rw [List.length_take]; omega
          have hq1 : (m : Int) + 1 ≤ (cp : Int) := by omega
          have HM := Lib.hid (And.intro hsn (And.intro hmk hv))
          clear hu hsn hmk hcc HZ
          go_wp2_with fail
          have hsz := hDz.st
          refine (write_any b v _ [u] (some ⟨bb, off + m, none⟩) (cp - m) wz (HA.out.1 wz Fz) hDz hY (fun _ k o e => by have e2 := Option.some.inj e; injection e2 with e3; omega) (by simp; omega)).mono ?_
          rintro e w5 ⟨rfl, v5, hD5, hF5, hv5⟩
          have F5 := Below.fr Fz hF5 Fz.size (by rintro x (h | h); omega; exact HM.out.2.2 x h.symm)
          rw [HM.out.1] at hD5
          have hv5' : ∀ g, v5.ownBlock = some g → w.heap.size ≤ g := fun g hg => by
            rcases hv5 with h | ⟨g', h, hg'⟩
            · exact HM.out.2.2 g (h ▸ hg)
            · obtain rfl : g' = g := Option.some.inj (h.symm.trans hg)
              exact Nat.le_trans Fz.size hg'
          have HV := Lib.hid hv5'
          clear hv5 hv5' hF5 hDz hsz hY hsl
          go_wp2_with fail
          refine (write_any b v5 _ [] none 0 w5 (HA.out.1 w5 F5) hD5 (.inl rfl) (fun h => absurd rfl h) (by rw [List.length_take]; simp; omega)).mono ?_
          rintro e w6 ⟨rfl, v6, hD6, hF6, hv6⟩
          have F6 := Below.fr F5 hF6 F5.size (by rintro x (h | h); omega; exact HV.out x h.symm)
          rw [List.append_nil] at hD6
          have hv6' : ∀ g, v6.ownBlock = some g → w.heap.size ≤ g := fun g hg => by
            rcases hv6 with h | ⟨g', h, hg'⟩
            · exact HV.out g (h ▸ hg)
            · obtain rfl : g' = g := Option.some.inj (h.symm.trans hg)
              exact Nat.le_trans F5.size hg'
          have HV6 := Lib.hid hv6'
          clear hv6 hv6' hF6 hD5
          go_wp2
          go_roundg (gk - 1)
          case measure => have := HM.out.2.1; omega
          case rel => exact ⟨m + 1, v6, by go_num, by have := HM.out.2.1; omega, hD6, HV6.out, F6⟩
        · have g1 : decide (0 < n) = true := by rw [decide_eq_true_eq]; omega
          have g2 : n ≠ 0 := h0
          have g4 : IntKind.i64.wrap n = n := IntWalk.i64_in _ (by omega)
          refine wpAnyN_pureG 0 23 (v := ?_) rfl rfl (by kernel_rfl) (by kernel_rfl) (by kernel_rfl) (fun _ _ _ h => h) rfl (fun w => ?_) ?_
          rotate_left
          · go_simp
            try with_reducible rfl
          refine wpAnyN_pureG 1 24 (v := ?_) rfl rfl (by kernel_rfl) (by kernel_rfl) (by kernel_rfl) (fun _ _ _ h => h) rfl (fun w => ?_) ?_
          rotate_left
          · go_simp
            try with_reducible rfl
          refine wpAnyN_pureG 2 25 (v := ?_) rfl rfl (by kernel_rfl) (by kernel_rfl) (by kernel_rfl) (fun _ _ _ h => h) rfl (fun w => ?_) ?_
          rotate_left
          · go_simp
            try with_reducible rfl
          refine wpAnyN_pure 3 26 (v := ?_) rfl rfl (by kernel_rfl) (by kernel_rfl) (by kernel_rfl) (fun _ _ _ h => h) (by go_simp) (fun w => ?_) ?_
          rotate_left
          · go_simp
            try with_reducible rfl
          refine wpAnyN_pure 4 27 (v := ?_) rfl rfl (by kernel_rfl) (by kernel_rfl) (by kernel_rfl) (fun _ _ _ h => h) (by go_simp) (fun w => ?_) ?_
          rotate_left
          · go_simp
            try with_reducible rfl
          refine wpAnyN_pure 5 28 (v := ?_) rfl rfl (by kernel_rfl) (by kernel_rfl) (by kernel_rfl) (fun _ _ _ h => h) (by go_simp) (fun w => ?_) ?_
          rotate_left
          · go_simp
            try with_reducible rfl
          refine wpAnyN_pure 6 29 (v := ?_) rfl rfl (by kernel_rfl) (by kernel_rfl) (by kernel_rfl) (fun _ _ _ h => h) (by go_simp) (fun w => ?_) ?_
          rotate_left
          · go_simp
            try with_reducible rfl
          by_cases h1 : (m : Int).tmod n = 0
          · have g5 : ((m : Int).tmod n == 0) = true := by rw [beq_iff_eq]; exact h1
            refine wpAnyN_pure 7 30 (v := ?_) rfl rfl (by kernel_rfl) (by kernel_rfl) (by kernel_rfl) (fun _ _ _ h => h) (by go_simp) (fun w => ?_) ?_
            rotate_left
            · go_simp
              try with_reducible rfl
            refine wpAnyN_pureG 8 31 (v := ?_) rfl rfl (by kernel_rfl) (by kernel_rfl) (by kernel_rfl) (fun _ _ _ h => h) rfl (fun w => ?_) ?_
            rotate_left
            · go_simp
              try with_reducible rfl
            refine wpAnyN_pureG 9 32 (v := ?_) rfl rfl (by kernel_rfl) (by kernel_rfl) (by kernel_rfl) (fun _ _ _ h => h) rfl (fun w => ?_) ?_
            rotate_left
            · go_simp
              try with_reducible rfl
            refine wpAnyN_pure 10 33 (v := ?_) rfl rfl (by kernel_rfl) (by kernel_rfl) (by kernel_rfl) (fun _ _ _ h => h) (by go_simp) (fun w => ?_) ?_
            rotate_left
            · go_simp
              try with_reducible rfl
            refine wpAnyN_pure 12 35 (v := ?_) rfl rfl (by kernel_rfl) (by kernel_rfl) (by kernel_rfl) (fun _ _ _ h => h) (by go_simp) (fun w => ?_) ?_
            rotate_left
            · go_simp
              try with_reducible rfl
            refine wpAnyN_pure 13 36 (v := ?_) rfl rfl (by kernel_rfl) (by kernel_rfl) (by kernel_rfl) (fun _ _ _ h => h) (by go_simp) (fun w => ?_) ?_
            rotate_left
            · go_simp
              try with_reducible rfl
            obtain ⟨a6, hs6, ht6⟩ := run_upto_bts (P := Tryd.prog) (t := 22) (by kernel_rfl) hi (some ⟨bb, off, none⟩) bs.length cp m (by omega)
            refine wpAnyN_pure 14 37 (v := ?_) rfl rfl (by kernel_rfl) (by kernel_rfl) (by kernel_rfl) (fun _ _ _ h => h) (by go_simp) (fun w => ?_) ?_
            rotate_left
            · go_simp
              try with_reducible rfl
            obtain ⟨hDd, Fd, hv, hmk⟩ := HD.out
            have htl : (bs.take m).length = m := by rw [List.length_take]; omega
            have HK := Lib.hid (And.intro hDd (And.intro Fd (And.intro hv (And.intro hmk (And.intro htl ht6)))))
            clear hDd Fd hv hmk htl ht6 HD g1 g2 g4 g5 h1
            refine wpAnyN_dag2 [11, 15, 16] (fun i => match i with | 11 => some 34 | 15 => some 38 | 16 => some 39 | _ => none) (fun i => match i with | 16 => [11, 15] | _ => []) (fun i v w => match i with
              | 11 => v = hashv (sha (bs.take m))
              | 15 => NewS 22 #[.slice a6 m cp] v w
              | 16 => v = hashv (sha (bs.take m))
              | _ => True) (fun _ => false) (g := 2) (by kernel_rfl) (by kernel_rfl) rfl
              ⟨fun _ _ _ _ h => h, fun _ _ _ hb h => NewS.below hb h, fun _ _ _ _ h => h, trivial⟩ (fun _ _ _ _ => trivial) ⟨?_, ?_, ?_, trivial⟩ ?_
            · intro vs w hb _ o ho
              cases ho
              simp only [putsD]
              obtain ⟨hDd, Fd, hv, hmk, htl, ht6⟩ := HK.out
              refine vwp_callW 17 [.tmp 33] [.pointer (some ⟨b, 0, none⟩)] (by go_simp) rfl ?_ Tryd.call17 ?_
              · go_simp
              · refine (sum_any b v _ w (HA.out.1 w (Below.then Fd hb)) (hDd.below hb (Nat.le_refl _)) (by omega)).mono ?_
                rintro e w' ⟨rfl, G⟩
                exact ⟨_, rfl, G, rfl, fun h => by cases h⟩
            · intro vs w hb _ o ho
              cases ho
              simp only [putsD]
              refine vwp_runW (by go_simp) (v := .slice (some ⟨w.heap.size, 0, none⟩) 1 1) (w' := w.alloc (.cells #[.slice a6 m cp] 22)) ?_ ⟨below_alloc1 _ _, ⟨_, rfl, Blk.new _ _ _⟩, fun h => by cases h⟩
              go_simp
            · intro vs w hb hd o ho
              cases ho
              obtain ⟨-, ⟨b5, hv5, hbk⟩, -⟩ := hd
              simp only [putsD]
              obtain ⟨hDd, Fd, hv, hmk, htl, ht6⟩ := HK.out
              have hBw := ht6 w bs (HA.out.2 w (Below.then Fd hb))
              rw [show Value.slice a6 m cp = .slice a6 (bs.take m).length cp by rw [htl]] at hbk
              have hc2 := sum_one_at w (HA.out.1 w (Below.then Fd hb)) hbk hBw (by omega)
              clear htl hmk
              refine vwp_callW 14 [.tmp 38] [.slice (some ⟨b5, 0, none⟩) 1 1] (by go_simp) rfl ?_ Tryd.call14 ?_
              · go_simp
              · refine (hc2).mono ?_
                rintro e w' ⟨rfl, G⟩
                exact ⟨_, rfl, G, rfl, fun h => by cases h⟩
            · intro vs wz hb hR hne hfr
              obtain ⟨h11, -, h16, -⟩ := hR
              simp only [putsD]
              rw [h11, h16]
              clear h11 h16 hne hfr
              refine wpAnyN_pure 17 40 (v := ?_) rfl rfl (by kernel_rfl) (by kernel_rfl) (by kernel_rfl) (fun _ _ _ h => h) (by go_simp) (fun w => ?_) ?_
              rotate_left
              · go_simp
                try with_reducible rfl
              refine wpAnyN_pureG 18 41 (v := ?_) rfl rfl (by kernel_rfl) (by kernel_rfl) (by kernel_rfl) (fun _ _ _ h => h) rfl (fun w => ?_) ?_
              rotate_left
              · go_simp
                try with_reducible rfl
              refine wpAnyN_done (by kernel_rfl) ?_
              obtain ⟨hDd, Fd, hv, hmk, -, -⟩ := HK.out
              have HZ := Lib.hid (And.intro (hDd.below hb (Nat.le_refl _)) (And.intro (Below.then Fd hb) (And.intro hv hmk)))
              clear hDd Fd hv hmk HK hb hs6
              simp only [Act.put, List.setIfInBounds_toArray, List.set_cons_succ, List.set_cons_zero]
              obtain ⟨hDz, Fz, hv, hmk⟩ := HZ.out
              have hcc : ∀ j, j < bs.length → wz.cell? ⟨bb, off + j, none⟩ = some (b8 (bs.getD j 0)) := by
                rcases HA.out.2 wz Fz with h | ⟨b2, o2, e2, h2⟩
                · intro j hj; rw [h] at hj; simp at hj
                · obtain ⟨rfl, rfl⟩ : b2 = bb ∧ o2 = off := by simpa using e2.symm
                  exact h2
              obtain ⟨u, hu⟩ : ∃ u, u = bs.getD m 0 := ⟨_, rfl⟩
              have hY : Bts wz (some ⟨bb, off + m, none⟩) [u] := Bts.of fun j hj => by
                obtain rfl : j = 0 := by simpa using hj
                rw [Nat.add_zero, hcc m hq, hu]; rfl
              have hsl : ∀ W : World, (Instr.slice 22 (.slice (some ⟨bb, off, none⟩) bs.length cp) (some (.int .i64 (m : Nat))) (some (.int .i64 ((m : Int) + 1))) none).run Tryd.prog W = .ok (.slice (some ⟨bb, off + m, none⟩) 1 (cp - m)) W := fun W => by
                have := run_mid_row (P := Tryd.prog) (t := 22) (by kernel_rfl) hi hz1 bb off bs.length cp m (m + 1) (by omega) (by omega) (by omega) W
                rw [Nat.mul_one, show m + 1 - m = 1 by omega, show (((m + 1 : Nat)) : Int) = (m : Int) + 1 by omega] at this
                exact this
              have hsn : bs.take m ++ [u] = bs.take (m + 1) := by
                rw [hu, List.take_succ_eq_append_getElem hq]; simp [List.getD, hq]
              have hli : (bs.take m).length ≤ bs.length := by rw [List.length_take]; omega
              have hq1 : (m : Int) + 1 ≤ (cp : Int) := by omega
              have HM := Lib.hid (And.intro hsn (And.intro hmk hv))
              clear hu hsn hmk hcc HZ
              go_wp2_with fail
              have hsz := hDz.st
              refine (write_any b v _ [u] (some ⟨bb, off + m, none⟩) (cp - m) wz (HA.out.1 wz Fz) hDz hY (fun _ k o e => by have e2 := Option.some.inj e; injection e2 with e3; omega) (by simp; omega)).mono ?_
              rintro e w5 ⟨rfl, v5, hD5, hF5, hv5⟩
              have F5 := Below.fr Fz hF5 Fz.size (by rintro x (h | h); omega; exact HM.out.2.2 x h.symm)
              rw [HM.out.1] at hD5
              have hv5' : ∀ g, v5.ownBlock = some g → w.heap.size ≤ g := fun g hg => by
                rcases hv5 with h | ⟨g', h, hg'⟩
                · exact HM.out.2.2 g (h ▸ hg)
                · obtain rfl : g' = g := Option.some.inj (h.symm.trans hg)
                  exact Nat.le_trans Fz.size hg'
              have HV := Lib.hid hv5'
              clear hv5 hv5' hF5 hDz hsz hY hsl
              go_wp2_with fail
              refine (write_any b v5 _ [] none 0 w5 (HA.out.1 w5 F5) hD5 (.inl rfl) (fun h => absurd rfl h) (by rw [List.length_take]; simp; omega)).mono ?_
              rintro e w6 ⟨rfl, v6, hD6, hF6, hv6⟩
              have F6 := Below.fr F5 hF6 F5.size (by rintro x (h | h); omega; exact HV.out x h.symm)
              rw [List.append_nil] at hD6
              have hv6' : ∀ g, v6.ownBlock = some g → w.heap.size ≤ g := fun g hg => by
                rcases hv6 with h | ⟨g', h, hg'⟩
                · exact HV.out g (h ▸ hg)
                · obtain rfl : g' = g := Option.some.inj (h.symm.trans hg)
                  exact Nat.le_trans F5.size hg'
              have HV6 := Lib.hid hv6'
              clear hv6 hv6' hF6 hD5
              go_wp2
              go_roundg (gk - 1)
              case measure => have := HM.out.2.1; omega
              case rel => exact ⟨m + 1, v6, by go_num, by have := HM.out.2.1; omega, hD6, HV6.out, F6⟩
          · have g5 : ((m : Int).tmod n == 0) = false := by rw [beq_eq_false_iff_ne]; exact h1
            refine wpAnyN_pure 7 30 (v := ?_) rfl rfl (by kernel_rfl) (by kernel_rfl) (by kernel_rfl) (fun _ _ _ h => h) (by go_simp) (fun w => ?_) ?_
            rotate_left
            · go_simp
              try with_reducible rfl
            refine wpAnyN_pureG 8 31 (v := ?_) rfl rfl (by kernel_rfl) (by kernel_rfl) (by kernel_rfl) (fun _ _ _ h => h) rfl (fun w => ?_) ?_
            rotate_left
            · go_simp
              try with_reducible rfl
            refine wpAnyN_pureG 9 32 (v := ?_) rfl rfl (by kernel_rfl) (by kernel_rfl) (by kernel_rfl) (fun _ _ _ h => h) rfl (fun w => ?_) ?_
            rotate_left
            · go_simp
              try with_reducible rfl
            refine wpAnyN_skipD 10 33 rfl rfl (by kernel_rfl) (by kernel_rfl) (by kernel_rfl) (fun _ _ _ h => h) (by go_simp) ?_
            refine wpAnyN_skipD 11 34 rfl rfl (by kernel_rfl) (by kernel_rfl) (by kernel_rfl) (fun _ _ _ h => h) (by go_simp) ?_
            refine wpAnyN_skipD 12 35 rfl rfl (by kernel_rfl) (by kernel_rfl) (by kernel_rfl) (fun _ _ _ h => h) (by go_simp) ?_
            refine wpAnyN_skipD 13 36 rfl rfl (by kernel_rfl) (by kernel_rfl) (by kernel_rfl) (fun _ _ _ h => h) (by go_simp) ?_
            refine wpAnyN_skipD 14 37 rfl rfl (by kernel_rfl) (by kernel_rfl) (by kernel_rfl) (fun _ _ _ h => h) (by go_simp) ?_
            refine wpAnyN_skipD 15 38 rfl rfl (by kernel_rfl) (by kernel_rfl) (by kernel_rfl) (fun _ _ _ h => h) (by go_simp) ?_
            refine wpAnyN_skipD 16 39 rfl rfl (by kernel_rfl) (by kernel_rfl) (by kernel_rfl) (fun _ _ _ h => h) (by go_simp) ?_
            refine wpAnyN_skipD 17 40 rfl rfl (by kernel_rfl) (by kernel_rfl) (by kernel_rfl) (fun _ _ _ h => h) (by go_simp) ?_
            refine wpAnyN_pureG 18 41 (v := ?_) rfl rfl (by kernel_rfl) (by kernel_rfl) (by kernel_rfl) (fun _ _ _ h => h) rfl (fun w => ?_) ?_
            rotate_left
            · go_simp
              try with_reducible rfl
            refine wpAnyN_done (by kernel_rfl) ?_
            obtain ⟨wz, HZ⟩ : ∃ wz, Hid (Dig wz b v (bs.take m) ∧ Below w.heap.size w wz ∧ (∀ g, v.ownBlock = some g → w.heap.size ≤ g) ∧ m + gk = bs.length) ∧ wz = wd := ⟨wd, HD, rfl⟩
            obtain ⟨HZ, hwz⟩ := HZ
            rw [← hwz]
            clear hwz HD
            simp only [Act.put, List.setIfInBounds_toArray, List.set_cons_succ, List.set_cons_zero]
            obtain ⟨hDz, Fz, hv, hmk⟩ := HZ.out
            have hcc : ∀ j, j < bs.length → wz.cell? ⟨bb, off + j, none⟩ = some (b8 (bs.getD j 0)) := by
              rcases HA.out.2 wz Fz with h | ⟨b2, o2, e2, h2⟩
              · intro j hj; rw [h] at hj; simp at hj
              · obtain ⟨rfl, rfl⟩ : b2 = bb ∧ o2 = off := by simpa using e2.symm
                exact h2
            obtain ⟨u, hu⟩ : ∃ u, u = bs.getD m 0 := ⟨_, rfl⟩
            have hY : Bts wz (some ⟨bb, off + m, none⟩) [u] := Bts.of fun j hj => by
              obtain rfl : j = 0 := by simpa using hj
              rw [Nat.add_zero, hcc m hq, hu]; rfl
            have hsl : ∀ W : World, (Instr.slice 22 (.slice (some ⟨bb, off, none⟩) bs.length cp) (some (.int .i64 (m : Nat))) (some (.int .i64 ((m : Int) + 1))) none).run Tryd.prog W = .ok (.slice (some ⟨bb, off + m, none⟩) 1 (cp - m)) W := fun W => by
              have := run_mid_row (P := Tryd.prog) (t := 22) (by kernel_rfl) hi hz1 bb off bs.length cp m (m + 1) (by omega) (by omega) (by omega) W
              rw [Nat.mul_one, show m + 1 - m = 1 by omega, show (((m + 1 : Nat)) : Int) = (m : Int) + 1 by omega] at this
              exact this
            have hsn : bs.take m ++ [u] = bs.take (m + 1) := by
              rw [hu, List.take_succ_eq_append_getElem hq]; simp [List.getD, hq]
            have hli : (bs.take m).length ≤ bs.length := by rw [List.length_take]; omega
            have hq1 : (m : Int) + 1 ≤ (cp : Int) := by omega
            have HM := Lib.hid (And.intro hsn (And.intro hmk hv))
            clear hu hsn hmk hcc HZ
            go_wp2_with fail
            have hsz := hDz.st
            refine (write_any b v _ [u] (some ⟨bb, off + m, none⟩) (cp - m) wz (HA.out.1 wz Fz) hDz hY (fun _ k o e => by have e2 := Option.some.inj e; injection e2 with e3; omega) (by simp; omega)).mono ?_
            rintro e w5 ⟨rfl, v5, hD5, hF5, hv5⟩
            have F5 := Below.fr Fz hF5 Fz.size (by rintro x (h | h); omega; exact HM.out.2.2 x h.symm)
            rw [HM.out.1] at hD5
            have hv5' : ∀ g, v5.ownBlock = some g → w.heap.size ≤ g := fun g hg => by
              rcases hv5 with h | ⟨g', h, hg'⟩
              · exact HM.out.2.2 g (h ▸ hg)
              · obtain rfl : g' = g := Option.some.inj (h.symm.trans hg)
                exact Nat.le_trans Fz.size hg'
            have HV := Lib.hid hv5'
            clear hv5 hv5' hF5 hDz hsz hY hsl
            go_wp2_with fail
            refine (write_any b v5 _ [] none 0 w5 (HA.out.1 w5 F5) hD5 (.inl rfl) (fun h => absurd rfl h) (by rw [List.length_take]; simp; omega)).mono ?_
            rintro e w6 ⟨rfl, v6, hD6, hF6, hv6⟩
            have F6 := Below.fr F5 hF6 F5.size (by rintro x (h | h); omega; exact HV.out x h.symm)
            rw [List.append_nil] at hD6
            have hv6' : ∀ g, v6.ownBlock = some g → w.heap.size ≤ g := fun g hg => by
              rcases hv6 with h | ⟨g', h, hg'⟩
              · exact HV.out g (h ▸ hg)
              · obtain rfl : g' = g := Option.some.inj (h.symm.trans hg)
                exact Nat.le_trans F5.size hg'
            have HV6 := Lib.hid hv6'
            clear hv6 hv6' hF6 hD5
            go_wp2
            go_roundg (gk - 1)
            case measure => have := HM.out.2.1; omega
            case rel => exact ⟨m + 1, v6, by go_num, by have := HM.out.2.1; omega, hD6, HV6.out, F6⟩
      · have hdl : decide (m < bs.length) = false := by rw [decide_eq_false_iff_not]; omega
        obtain rfl : m = bs.length := by omega
        rw [List.take_length] at hD
        clear hq hmk hdl
        go_wp2_with fail
        refine (sum_any b _ _ wr (HA.out.1 wr F) hD (by omega)).mono ?_
        rintro e w5 ⟨rfl, GF5⟩
        have F5 := Below.then F GF5
        go_wp2_with fail
        refine (sum_one_any w5 (HA.out.1 w5 F5) (HA.out.2 w5 F5) (by omega)).mono ?_
        rintro e w6 ⟨rfl, GF6⟩
        have F6 := Below.then F5 GF6
        go_wp2_with fail
        have hD6 := (hD.below GF5 (Nat.le_refl _)).below GF6 (Nat.le_refl _)
        refine (sum_any b _ _ w6 (HA.out.1 w6 F6) hD6 (by omega)).mono ?_
        rintro e w7 ⟨rfl, GF7⟩
        have F7 := Below.then F6 GF7
        go_wp2_with fail
        refine (sum_one_any w7 (HA.out.1 w7 F7) (HA.out.2 w7 F7) (by omega)).mono ?_
        rintro e w8 ⟨rfl, GF8⟩
        have F8 := Below.then F7 GF8
        go_wp2_with fail
        go_ret
        exact ⟨rfl, F8⟩
  · have hd : decide ((500 : Int) < (bs.length : Int)) = true := by rw [decide_eq_true_eq]; omega
    go_enter Tryd.func7, Tryd.ntmps7
    go_wp2_with fail
    refine (awake05_any w hL).mono ?_
    rintro e w1 ⟨rfl, F1⟩
    go_wp2_with fail
    refine (awake05_any w1 (hL.below F1 (Nat.le_refl _))).mono ?_
    rintro e w2 ⟨rfl, F2⟩
    go_wp2
    go_ret
    exact ⟨rfl, F1.trans (F2.mono F1.size)⟩
end Go.Proofs.YtahlllbigkgobaaDoor
