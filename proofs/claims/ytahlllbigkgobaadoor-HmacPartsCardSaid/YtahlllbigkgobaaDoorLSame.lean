/-
  The walk of the statement Sha256Same.
-/
import Derived.Test.YtahlllbigkgobaaDoorLaws05
import Derived.Test.YtahlllbigkgobaaDoorDag
namespace Go.Proofs.YtahlllbigkgobaaDoor
open Go.RowKit
attribute [local irreducible] sha
/-- a new block of one kind of cells behind a pointer -/
def PtrB (T : TypeId) (cs : Array Value) (v : Value) (w : World) : Prop := ∃ b, v = .pointer (some ⟨b, 0, none⟩) ∧ Blk w b T cs
/-- a list that has just been made -/
def NewS (T : TypeId) (cs : Array Value) (v : Value) (w : World) : Prop := ∃ b, v = .slice (some ⟨b, 0, none⟩) cs.size cs.size ∧ Blk w b T cs
theorem PtrB.below {T : TypeId} {cs : Array Value} {v : Value} {w w' : World} (hb : Below w.heap.size w w') (h : PtrB T cs v w) : PtrB T cs v w' := by
  obtain ⟨b, e, h⟩ := h; exact ⟨b, e, h.below hb h.lt⟩
theorem NewS.below {T : TypeId} {cs : Array Value} {v : Value} {w w' : World} (hb : Below w.heap.size w w') (h : NewS T cs v w) : NewS T cs v w' := by
  obtain ⟨b, e, h⟩ := h; exact ⟨b, e, h.below hb h.lt⟩
set_option maxRecDepth 100000 in
set_option maxHeartbeats 4000000 in
theorem same05_any (w : World) (hL : Laid w) (ao : Option Addr) (cp : Nat) (bs : List B) (hB : Bts w ao bs) (hc : bs.length ≤ cp) (hm : cp ≤ maxLen) (n : Int) (hn0 : 0 ≤ n) (hn1 : n ≤ 65535) :
    Calls Tryd.prog 5 #[.slice ao bs.length cp, .int .u16 n] w fun e w' => e = .returned (.bool true) ∧ Below w.heap.size w w' := by
  have hm0 : cp ≤ 9223372036854775807 := hm
  replace hm : bs.length ≤ 9223372036854775807 := Nat.le_trans hc hm
  by_cases hlen : bs.length ≤ 2000
  · have hd : decide ((2000 : Int) < (bs.length : Int)) = false := by rw [decide_eq_false_iff_not]; omega
    obtain ⟨i0, hi, hz0, hz1, hz2⟩ := info_parts infoU8
    go_enter Tryd.func5, Tryd.ntmps5
    go_wp2_with fail
    refine (awake05_any w hL).mono ?_
    rintro e w1 ⟨rfl, F1⟩
    have O1 : Own w.heap.size w w1 5 1 (.slice none 0 0) 0 [] := Own.start _ _ F1 F1.size
    have hB1 := hB.below F1 (Nat.le_refl _)
    have hsrc := hB1.src (P := Tryd.prog) (tx := 22) (e' := 5) (by kernel_rfl) bs.length cp rfl
    have hl1 : 0 + bs.length ≤ maxLen := by simp only [maxLen]; omega
    have hl2 : (0 + bs.length) * 1 ≤ 140737488355328 := by omega
    go_wp2_with (at_builtin; refine wpList_append_row rfl _ _ 22 22 rfl 5 i0 (.int .u8 0) 1 1 (by kernel_rfl) hi hz0 hz1 hz2 rfl (by decide) (Row.nil _ _ _) rfl hsrc rfl hl1 hl2 ?_)
    intro v2 w2 hrow2 hg2 hv2
    have O2 : OwnB w.heap.size w w2 v2 bs := OwnB.app (ts := []) (us := bs) O1 (by simpa using hrow2) hg2 hv2
    clear hrow2 hg2 hv2 O1 hsrc hl1 hl2 hB1
    obtain ⟨a2, c2, rfl, -, -, -, -⟩ := O2.row.bts
    have F2 := O2.bel
    have q1 : IntKind.i64.wrap n = n := IntWalk.i64_in _ (by omega)
    obtain ⟨k, hk, hkn⟩ : ∃ k : Nat, n % ((bs.length : Int) + 1) = (k : Int) ∧ k ≤ bs.length := by
      have h1 := Int.emod_nonneg n (show (bs.length : Int) + 1 ≠ 0 by omega)
      have h2 := Int.emod_lt_of_pos n (show 0 < (bs.length : Int) + 1 by omega)
      exact ⟨(n % ((bs.length : Int) + 1)).toNat, by omega, by omega⟩
    go_upto_region 6 with (fail)
    rw [hk]
    clear q1 hk
    obtain ⟨a6, hs6, ht6⟩ := run_upto_bts (P := Tryd.prog) (t := 22) (by kernel_rfl) hi ao bs.length cp k (by omega)
    obtain ⟨a7, hs7, ht7⟩ := run_from_bts (P := Tryd.prog) (t := 22) (by kernel_rfl) hi hz1 ao bs.length cp k hkn hc
    have hLA : ∀ wx, Below w.heap.size w wx → Laid wx := fun wx h => hL.below h (Nat.le_refl _)
    have hBA : ∀ wx, Below w.heap.size w wx → Bts wx ao bs := fun wx h => hB.below h (Nat.le_refl _)
    refine wp_region_N (fun w' => Below w2.drew.heap.size w2.drew w') [13, 14] (by kernel_rfl) ?_
    have FD : Below w.heap.size w w2.drew := F2.drew
    have OD : OwnB w.heap.size w w2.drew (.slice a2 bs.length c2) bs := O2.drewN 1
    generalize w2.drew = wd at FD OD ⊢
    have hSw : Below wd.heap.size wd wd := Below.refl _ _
    have HO := Lib.hid (And.intro FD (And.intro OD (And.intro hLA hBA)))
    clear FD OD hLA hBA O2 F2
    refine wpAnyN_pureG 0 27 (v := ?_) rfl rfl (by kernel_rfl) (by kernel_rfl) (by kernel_rfl) (fun _ _ _ h => h) rfl (fun w => ?_) ?_
    rotate_left
    · go_simp
      try with_reducible rfl
    refine wpAnyN_pureG 3 30 (v := ?_) rfl rfl (by kernel_rfl) (by kernel_rfl) (by kernel_rfl) (fun _ _ _ h => h) rfl (fun w => ?_) ?_
    rotate_left
    · go_simp
      try with_reducible rfl
    refine wpAnyN_pureG 4 31 (v := ?_) rfl rfl (by kernel_rfl) (by kernel_rfl) (by kernel_rfl) (fun _ _ _ h => h) rfl (fun w => ?_) ?_
    rotate_left
    · go_simp
      try with_reducible rfl
    refine wpAnyN_pureG 5 32 (v := ?_) rfl rfl (by kernel_rfl) (by kernel_rfl) (by kernel_rfl) (fun _ _ _ h => h) rfl (fun w => ?_) ?_
    rotate_left
    · go_simp
      try with_reducible rfl
    refine wpAnyN_pureG 6 33 (v := ?_) rfl rfl (by kernel_rfl) (by kernel_rfl) (by kernel_rfl) (fun _ _ _ h => h) rfl (fun w => ?_) ?_
    rotate_left
    · go_simp
      try with_reducible rfl
    refine wpAnyN_pureG 7 34 (v := ?_) rfl rfl (by kernel_rfl) (by kernel_rfl) (by kernel_rfl) (fun _ _ _ h => h) rfl (fun w => ?_) ?_
    rotate_left
    · go_simp
      try with_reducible rfl
    refine wpAnyN_pureG 8 35 (v := ?_) rfl rfl (by kernel_rfl) (by kernel_rfl) (by kernel_rfl) (fun _ _ _ h => h) rfl (fun w => ?_) ?_
    rotate_left
    · go_simp
      try with_reducible rfl
    refine wpAnyN_dag2 [1, 2, 9, 10, 11, 12] (fun i => match i with | 1 => some 28 | 2 => some 29 | 9 => some 36 | 10 => some 37 | 11 => some 7 | 12 => some 8 | _ => none) (fun i => match i with | 2 => [1] | 10 => [2, 9] | _ => []) (fun i v w => match i with
      | 1 => NewS 22 #[.slice ao bs.length cp] v w
      | 2 => v = hashv (sha bs)
      | 9 => NewS 22 #[.slice a6 k cp, .slice a7 (bs.length - k) (cp - k)] v w
      | 10 => v = hashv (sha bs)
      | 11 => PtrB 25 zero32 v w
      | 12 => PtrB 25 zero32 v w
      | _ => True) (fun i => i == 11 || i == 12) (g := 2) (by kernel_rfl) (by kernel_rfl) rfl
      ⟨fun _ _ _ hb h => NewS.below hb h, fun _ _ _ _ h => h, fun _ _ _ hb h => NewS.below hb h, fun _ _ _ _ h => h, fun _ _ _ hb h => PtrB.below hb h, fun _ _ _ hb h => PtrB.below hb h, trivial⟩
      (fun w w' hb h => h.trans (hb.mono h.size)) ⟨?_, ?_, ?_, ?_, ?_, ?_, trivial⟩ ?_
    · intro vs w hb _ o ho
      cases ho
      simp only [putsD]
      refine vwp_run rfl (v := .slice (some ⟨w.heap.size, 0, none⟩) 1 1) (w' := w.alloc (.cells #[.slice ao bs.length cp] 22)) ?_ ⟨below_alloc1 _ _, ⟨_, rfl, Blk.new _ _ _⟩, fun h => by cases h⟩
      go_simp
    · intro vs w hb hd o ho
      cases ho
      obtain ⟨⟨b, hv, hbk⟩, -⟩ := hd
      simp only [putsD]
      refine vwp_call 14 [.tmp 28] [.slice (some ⟨b, 0, none⟩) 1 1] rfl rfl ?_ Tryd.call14 ?_
      · go_simp
      · refine (sum_one_at w (HO.out.2.2.1 w (Below.then HO.out.1 hb)) hbk (HO.out.2.2.2 w (Below.then HO.out.1 hb)) (by omega)).mono ?_
        rintro e w' ⟨rfl, G⟩
        exact ⟨_, rfl, G, rfl, fun h => by cases h⟩
    · intro vs w hb _ o ho
      cases ho
      simp only [putsD]
      refine vwp_run rfl (v := .slice (some ⟨w.heap.size, 0, none⟩) 2 2) (w' := w.alloc (.cells #[.slice a6 k cp, .slice a7 (bs.length - k) (cp - k)] 22)) ?_ ⟨below_alloc1 _ _, ⟨_, rfl, Blk.new _ _ _⟩, fun h => by cases h⟩
      go_simp
    · intro vs w hb hd o ho
      cases ho
      obtain ⟨-, ⟨b, hv, hbk⟩, -⟩ := hd
      simp only [putsD]
      have hBw := HO.out.2.2.2 w (Below.then HO.out.1 hb)
      have hl1 : (bs.take k).length = k := by rw [List.length_take]; omega
      have hl2 : (bs.drop k).length = bs.length - k := List.length_drop
      rw [← hl2] at hbk
      rw [show Value.slice a6 k cp = .slice a6 (bs.take k).length cp by rw [hl1]] at hbk
      have hc2 := sum_two_at w (HO.out.2.2.1 w (Below.then HO.out.1 hb)) hbk (ht6 w bs hBw) (ht7 w bs rfl hBw) (by omega)
      rw [List.take_append_drop] at hc2
      clear hl1 hl2
      refine vwp_call 14 [.tmp 36] [.slice (some ⟨b, 0, none⟩) 2 2] rfl rfl ?_ Tryd.call14 ?_
      · go_simp
      · refine (hc2).mono ?_
        rintro e w' ⟨rfl, G⟩
        exact ⟨_, rfl, G, rfl, fun h => by cases h⟩
    · intro vs w hb _ o ho
      cases ho
      simp only [putsD]
      refine vwp_run rfl (v := .pointer (some ⟨w.heap.size, 0, none⟩)) (w' := w.alloc (.cells zero32 25)) ?_ ⟨below_alloc1 _ _, ⟨_, rfl, Blk.new _ _ _⟩, fun _ => ⟨_, rfl, Nat.le_refl _, alloc_lt _ _⟩⟩
      go_simp
    · intro vs w hb _ o ho
      cases ho
      simp only [putsD]
      refine vwp_run rfl (v := .pointer (some ⟨w.heap.size, 0, none⟩)) (w' := w.alloc (.cells zero32 25)) ?_ ⟨below_alloc1 _ _, ⟨_, rfl, Blk.new _ _ _⟩, fun _ => ⟨_, rfl, Nat.le_refl _, alloc_lt _ _⟩⟩
      go_simp
    · intro vs w9 hb hR hne hfr
      obtain ⟨-, h2, -, h10, ⟨b1, h11, hk1⟩, ⟨b2, h12, hk2⟩, -⟩ := hR
      have hne2 := hne 11 (by simp) 12 (by simp) (by decide) rfl rfl
      rw [h11, h12] at hne2
      have hb12 : b1 ≠ b2 := fun e => hne2 (by rw [e])
      obtain ⟨q1, hq1, hq1', -⟩ := hfr 11 (by simp) rfl
      rw [h11] at hq1
      obtain rfl : b1 = q1 := Option.some.inj hq1
      obtain ⟨q2, hq2, hq2', -⟩ := hfr 12 (by simp) rfl
      rw [h12] at hq2
      obtain rfl : b2 = q2 := Option.some.inj hq2
      simp only [putsD]
      rw [h2, h10, h11, h12]
      refine wpAnyN_store_blk 13 25 (.tmp 7) (.tmp 29) (by kernel_rfl) rfl rfl rfl rfl hk1 0 ((sha bs).map b8).toArray (by go_simp) (by go_simp) 32 (by kernel_rfl) (by simp [sha_len]) (by simp) (by rw [List.toList_toArray]; exact b8_one _) ((sha bs).map b8).toArray (by simp) ?_
      intro wa hka hga
      have hkb := hk2.grown hga (fun e => hb12 (Option.some.inj e).symm)
      refine ⟨fun h => absurd (by simp) h, ?_⟩
      refine wpAnyN_store_blk 14 25 (.tmp 8) (.tmp 37) (by kernel_rfl) rfl rfl rfl rfl hkb 0 ((sha bs).map b8).toArray (by go_simp) (by go_simp) 32 (by kernel_rfl) (by simp [sha_len]) (by simp) (by rw [List.toList_toArray]; exact b8_one _) ((sha bs).map b8).toArray (by simp) ?_
      intro wb hkc hgb
      have hkd := hka.grown hgb (fun e => hb12 (Option.some.inj e))
      refine ⟨fun h => absurd (by simp) h, wpAnyN_done (by kernel_rfl) ?_⟩
      obtain ⟨FD, OD, hLA, hBA⟩ := HO.out
      have hg0 : ∀ g, (Value.slice a2 bs.length c2).ownBlock = some g → g < wd.heap.size := fun g e => OD.row.lt g e
      have O9 := OD.below hb
      have Oa := O9.upd hga (Nat.le_trans FD.size hq1') hk1.lt (fun g e => by have := hg0 g e; omega)
      have Ob := Oa.upd hgb (Nat.le_trans FD.size hq2') hkb.lt (fun g e => by have := hg0 g e; omega)
      have FB := Ob.bel
      have hLB := hLA wb FB
      have hBB := hBA wb FB
      have hOB := Ob.row.bts
      clear hne hfr hne2 h2 h10 h11 h12 hk1 hk2 HO hSw hs6 hs7 ht6 ht7 hg0 O9 Oa OD FD hga hgb hka hkb hq1 hq2 hq1' hq2' hb hb12 hi hz0 hz1 hz2
      obtain ⟨a2', c2', he2, -, -, -, hO⟩ := hOB
      obtain ⟨rfl, rfl⟩ : a2 = a2' ∧ c2 = c2' := by injection he2 with h1 _ h3; exact ⟨h1, h3⟩
      clear he2 Ob
      clear wd w9 wa
      go_wp2
      go_loopg [9] bs.length (fun k i wr => ∃ m nn : Nat, i = .int .i64 m ∧ m + k = bs.length ∧ wr = wb.drewN nn)
      case atStart => exact ⟨0, 0, rfl, by omega, rfl⟩
      case round =>
        obtain ⟨m, nn, rfl, hm, rfl⟩ := hrel
        by_cases hq : m < bs.length
        · have hd : decide ((m : Int) < (bs.length : Int)) = true := by rw [decide_eq_true_eq]; omega
          have hne : bs ≠ [] := by rintro rfl; simp at hq
          obtain ⟨b3, off3, rfl, h3⟩ := hBB.resolve_left hne
          obtain ⟨b4, off4, rfl, h4⟩ := hO.resolve_left hne
          obtain ⟨u, hu⟩ : ∃ u, u = bs.getD m 0 := ⟨_, rfl⟩
          have g3 := h3 m hq
          have g4 := h4 m hq
          rw [← hu] at g3 g4
          have hi1 : (m : Int) < (bs.length : Int) := by omega
          have hi0 : (0 : Int) ≤ (m : Int) := by omega
          have HM := Lib.hid (show gk - 1 < gk ∧ m + 1 + (gk - 1) = bs.length by omega)
          clear h3 h4 hm hne hkn hu hLA hBA hLB
          obtain ⟨wq, hwq⟩ : ∃ wq, wq = wb.drewN nn := ⟨_, rfl⟩
          replace g3 : wq.cell? ⟨b3, off3 + m, none⟩ = some (b8 u) := by rw [hwq]; exact g3
          replace g4 : wq.cell? ⟨b4, off4 + m, none⟩ = some (b8 u) := by rw [hwq]; exact g4
          rw [← hwq]
          have HQ := Lib.hid hwq
          clear hwq hBB hO
          go_upto_region 10 with (fail)
          refine wp_region_N (fun w' => w'.cell? ⟨b3, off3 + m, none⟩ = some (b8 u) ∧ w'.cell? ⟨b4, off4 + m, none⟩ = some (b8 u)) [] (by kernel_rfl) ?_
          have hSw : wq.drew.cell? ⟨b3, off3 + m, none⟩ = some (b8 u) ∧ wq.drew.cell? ⟨b4, off4 + m, none⟩ = some (b8 u) := ⟨g3, g4⟩
          clear g3 g4
          refine wpAnyN_pureG 0 44 (v := ?_) rfl rfl (by kernel_rfl) (by kernel_rfl) (by kernel_rfl) (fun _ _ _ h => h) rfl (fun w => ?_) ?_
          rotate_left
          · go_simp
            try with_reducible rfl
          refine wpAnyN_pureG 1 45 (v := ?_) rfl rfl (by kernel_rfl) (by kernel_rfl) (by kernel_rfl) (fun _ _ _ h => h) rfl (fun w => ?_) ?_
          rotate_left
          · go_simp
            try with_reducible rfl
          refine wpAnyN_pureG 2 46 (v := ?_) rfl rfl (by kernel_rfl) (by kernel_rfl) (by kernel_rfl) (fun _ _ _ h => h) rfl (fun w => ?_) ?_
          rotate_left
          · go_simp
            try with_reducible rfl
          refine wpAnyN_takeG 3 47 (v := ?_) rfl rfl (by kernel_rfl) (by kernel_rfl) (by kernel_rfl) (by kernel_rfl) (fun _ _ _ h => h) (by assumption) rfl (fun w hS => ?_) ?_
          rotate_left
          · (obtain ⟨g3, g4⟩ := hS; go_simp; try with_reducible rfl)
          refine wpAnyN_pureG 4 48 (v := ?_) rfl rfl (by kernel_rfl) (by kernel_rfl) (by kernel_rfl) (fun _ _ _ h => h) rfl (fun w => ?_) ?_
          rotate_left
          · go_simp
            try with_reducible rfl
          refine wpAnyN_pureG 5 49 (v := ?_) rfl rfl (by kernel_rfl) (by kernel_rfl) (by kernel_rfl) (fun _ _ _ h => h) rfl (fun w => ?_) ?_
          rotate_left
          · go_simp
            try with_reducible rfl
          refine wpAnyN_pureG 6 50 (v := ?_) rfl rfl (by kernel_rfl) (by kernel_rfl) (by kernel_rfl) (fun _ _ _ h => h) rfl (fun w => ?_) ?_
          rotate_left
          · go_simp
            try with_reducible rfl
          refine wpAnyN_takeG 7 51 (v := ?_) rfl rfl (by kernel_rfl) (by kernel_rfl) (by kernel_rfl) (by kernel_rfl) (fun _ _ _ h => h) (by assumption) rfl (fun w hS => ?_) ?_
          rotate_left
          · (obtain ⟨g3, g4⟩ := hS; go_simp; try with_reducible rfl)
          refine wpAnyN_pureG 8 52 (v := ?_) rfl rfl (by kernel_rfl) (by kernel_rfl) (by kernel_rfl) (fun _ _ _ h => h) rfl (fun w => ?_) ?_
          rotate_left
          · go_simp
            try with_reducible rfl
          refine wpAnyN_done (by kernel_rfl) ?_
          clear hSw hkc hkd
          simp only [Act.put, List.setIfInBounds_toArray, List.set_cons_succ, List.set_cons_zero]
          go_wp2
          go_roundg (gk - 1)
          case measure => exact HM.out.1
          case rel => exact ⟨m + 1, nn + 1, by go_num, HM.out.2, by rw [HQ.out]; rfl⟩
        · have hd : decide (m < bs.length) = false := by rw [decide_eq_false_iff_not]; omega
          clear hq hm hBB hO
          obtain ⟨wc, hwc⟩ : ∃ wc, wc = wb.drewN nn := ⟨_, rfl⟩
          rw [← hwc]
          have hc1 : Blk wc b1 25 ((sha bs).map b8).toArray := by rw [hwc]; exact hkd.drewN nn
          have hc2 : Blk wc b2 25 ((sha bs).map b8).toArray := by rw [hwc]; exact hkc.drewN nn
          have FC : Below w.heap.size w wc := by rw [hwc]; exact FB.trans (below_drewN _ _ _)
          clear hwc hkd hkc FB hLB
          go_wp2_with (first | (refine wpList_load_blk rfl 25 _ rfl hc1 rfl (.array 32 5) (by kernel_rfl) rfl 32 (by kernel_rfl) (by simp [sha_len]) ?_) | (refine wpList_load_blk rfl 25 _ rfl hc2 rfl (.array 32 5) (by kernel_rfl) rfl 32 (by kernel_rfl) (by simp [sha_len]) ?_))
          refine (sum_none_any wc (hL.below FC (Nat.le_refl _))).mono ?_
          rintro e w5 ⟨rfl, GF5⟩
          have F5 := Below.then FC GF5
          go_wp2_with fail
          refine (sum_two_any (ao := none) (ao2 := none) (cp := 0) (cp2 := 0) (bs := []) (cs := []) w5 (hL.below F5 (Nat.le_refl _)) (.inl rfl) (.inl rfl) (by simp)).mono ?_
          rintro e w6 ⟨rfl, GF6⟩
          have F6 := Below.then F5 GF6
          go_wp2_with fail
          go_ret
          exact ⟨rfl, F6⟩
  · have hd : decide ((2000 : Int) < (bs.length : Int)) = true := by rw [decide_eq_true_eq]; omega
    go_enter Tryd.func5, Tryd.ntmps5
    go_wp2_with fail
    refine (awake05_any w hL).mono ?_
    rintro e w1 ⟨rfl, F1⟩
    go_wp2_with fail
    refine (awake05_any w1 (hL.below F1 (Nat.le_refl _))).mono ?_
    rintro e w2 ⟨rfl, F2⟩
    go_wp2
    go_ret
    exact ⟨rfl, F1.trans (F2.mono F1.size)⟩
end Go.Proofs.YtahlllbigkgobaaDoor
