/-
  The walk of the statement EdgeParts.
-/
import Derived.Test.YtbglblamoodocaaDoorLEOwn
namespace Go.Proofs.YtbglblamoodocaaDoor
open Go Go.RowKit
attribute [local irreducible] sha
theorem bits1_two : Tree.bits1 2 = 1 := by rw [Tree.bits1_step (by omega), show (2 / 2 : Nat) = 1 from rfl, Tree.bits1_step (by omega), show (1 / 2 : Nat) = 0 from rfl, Tree.bits1_zero]
theorem edgeH_pow (l : List Hs) (j : Nat) (h : l.length = 2 ^ j) : edgeH l = [rootH l] := Tree.edge_pow nodeH nilH h
theorem edgeH_two (l : List Hs) (x : Hs) (j : Nat) (h : l.length = 2 ^ (j + 1)) : edgeH (l ++ [x]) = [rootH l, x] := by
  rw [← pushH_edge, edgeH_pow l _ h]
  unfold pushH
  have := Tree.two_succ j
  rw [Tree.push_even nodeH nilH (by omega)]; rfl
theorem edgeH_step (P : List Hs) (y z : Hs) (p j : Nat) (hp : p = 2 ^ j) (hPl : P.length = p) (hz : z = rootH P) : (p = 1 ∧ (edgeH (P ++ [y])).length = 1) ∨ (p ≠ 1 ∧ edgeH (P ++ [y]) = [z, y]) := by
  rcases j with _ | j
  · left
    have h1 : p = 1 := hp
    refine ⟨h1, ?_⟩
    rw [edgeH_len, List.length_append, hPl, h1]; exact bits1_two
  · right
    have h2 := Tree.two_succ j
    have h3 := Tree.two_pos j
    refine ⟨by omega, ?_⟩
    rw [hz]; exact edgeH_two P y j (by rw [hPl]; exact hp)
set_option maxRecDepth 100000 in
set_option maxHeartbeats 4000000 in
theorem eparts_any (w : World) (hL : Laid w) (ao : Option Addr) (cp : Nat) (l : List Hs) (hB : Hts w ao l) (hc : l.length ≤ cp) (hm : cp ≤ maxLen) (n : Int) (hn0 : 0 ≤ n) (hn1 : n ≤ 255) :
    Calls Tryd.prog 17 #[.slice ao l.length cp, .int .u8 n] w fun e w' => e = .returned (.bool true) ∧ Below w.heap.size w w' := by
  have hl9 : l.length ≤ 9223372036854775807 := Nat.le_trans hc hm
  have hm0 : cp ≤ 9223372036854775807 := hm
  obtain ⟨j, hj, hj6⟩ : ∃ j : Nat, n % 6 = (j : Int) ∧ j ≤ 5 := ⟨(n % 6).toNat, by omega, by omega⟩
  have q1 : IntKind.u8.wrap (j : Int) = j := by rw [IntKind.wrap_u8]; omega
  have q2 : IntKind.i64.wrap (j : Int) = j := IntWalk.i64_in _ (by omega)
  have q3 := wrap_two j (by omega)
  have hp64 : 2 ^ j ≤ 2 ^ 5 := Nat.pow_le_pow_right (by omega) hj6
  have hp1 := Tree.two_pos j
  obtain ⟨p, hp⟩ : ∃ p, p = 2 ^ j := ⟨_, rfl⟩
  rw [← hp] at q3 hp64 hp1
  have HP := Lib.hid hp
  clear hp
  replace hp64 : p ≤ 32 := hp64
  have q4 : IntKind.i64.wrap ((p : Int) + 1) = p + 1 := IntWalk.i64_in _ (by omega)
  by_cases hlen : l.length ≤ 64
  · have hd : decide ((64 : Int) < (l.length : Int)) = false := by rw [decide_eq_false_iff_not]; omega
    by_cases hlp : l.length < p + 1
    · have hd1 : decide ((l.length : Int) < (p : Int) + 1) = true := by rw [decide_eq_true_eq]; omega
      go_enter Tryd.func17, Tryd.ntmps17
      go_wp2_with fail
      refine (awake17_any w hL).mono ?_
      rintro e w1 ⟨rfl, F1⟩
      go_wp2_with fail
      refine (awake17_any w1 (hL.below F1 (Nat.le_refl _))).mono ?_
      rintro e w2 ⟨rfl, GF2⟩
      have F2 := Below.then F1 GF2
      go_wp2_with fail
      go_ret
      exact ⟨rfl, F2⟩
    · have hd1 : decide ((l.length : Int) < (p : Int) + 1) = false := by rw [decide_eq_false_iff_not]; omega
      obtain ⟨i0, hi, hz0, hz1, hz2⟩ := info_parts infoHs
      obtain ⟨r, hr⟩ : ∃ r, r = w.heap.size := ⟨_, rfl⟩
      have HR := Lib.hid hr
      have hr0 : w.heap.size ≤ r := by omega
      have HR0 := Lib.hid hr0
      have hzt := fun w => run_zeroT w
      have hpl : p < l.length := by omega
      obtain ⟨y, hy⟩ : ∃ y : Hs, y = l[p] := ⟨_, rfl⟩
      have hyl := y.2
      have hts := take_succ_eq l p hpl
      rw [← hy] at hts
      obtain ⟨P, hP⟩ : ∃ P, P = l.take p := ⟨_, rfl⟩
      have hPl : P.length = p := by rw [hP, List.length_take]; omega
      rw [← hP] at hts
      obtain ⟨z, hz⟩ : ∃ z, z = rootH P := ⟨_, rfl⟩
      have hzl := z.2
      have hE1 : edgeH P = [z] := by rw [hz]; exact edgeH_pow P j (by rw [hPl]; exact HP.out)
      have hE2 := edgeH_step P y z p j HP.out hPl hz
      have hly : ∀ w', Below r w w' → ∃ g off, ao = some ⟨g, off, none⟩ ∧ w'.rangeAt g (off + p * 32) (y.1.map b8) := fun w' h => by
        obtain ⟨g, off, e, -, hrg⟩ := (hB.below h hr0).place (by omega)
        exact ⟨g, off, e, by rw [hy]; exact hrg p hpl⟩
      obtain ⟨a6, hs6, -, ht6⟩ := run_upto_hts (P := Tryd.prog) (t := 32) (by kernel_rfl) hi ao l.length cp p (by omega)
      have hHP : ∀ w', Below r w w' → Hts w' a6 P := fun w' h => by rw [hP]; exact ht6 w' l (hB.below h hr0)
      have HB := Lib.hid (And.intro (fun (w' : World) (h : Below r w w') => (hB.below h hr0 : Hts w' ao l)) (And.intro hHP (And.intro hly (And.intro hts (And.intro hP (And.intro hPl (And.intro hE1 (And.intro hE2 hz))))))))
      clear hr hr0 hHP hly hts hP hPl hE1 hE2 hz hy ht6
      go_enter Tryd.func17, Tryd.ntmps17
      go_wp2_with fail
      refine (awake17_any w hL).mono ?_
      rintro e w1 ⟨rfl, F1⟩
      rw [← HR.out] at F1
      have hs1 := F1.size
      rw [← HR.out] at hs1
      obtain ⟨t, ht⟩ : ∃ t, t = w1.heap.size := ⟨_, rfl⟩
      have hT0 : TreeO r w (w1.alloc (.cells zeroT 46)) t (.slice none 0 0) [] := by rw [ht]; exact TreeO.new F1 hs1
      have HT0 := Lib.hid (And.intro hT0 ht)
      clear hT0 ht hs1 F1
      go_wp2
      rw [← HT0.out.2]
      try rw [hj]
      clear hj q1 q2 q3
      go_loopg [7] p (fun g i wr => ∃ (m : Nat) (v : Value), i = .int .i64 m ∧ m + g = p ∧ TreeO r w wr t v (l.take m))
      case atStart => exact ⟨0, .slice none 0 0, rfl, by omega, by rw [List.take_zero]; exact HT0.out.1⟩
      case round =>
        clear HT0
        obtain ⟨m, v, rfl, hmk, hT⟩ := hrel
        by_cases hml : m < p
        · have hd2 : decide ((m : Int) < (p : Int)) = true := by rw [decide_eq_true_eq]; omega
          have hml2 : m < l.length := by omega
          obtain ⟨g, off, rfl, hg, hrg⟩ := (HB.out.1 wr hT.bel).place (by omega)
          have hts := take_succ_eq l m hml2
          have hy0 := hrg m hml2
          obtain ⟨x, hx⟩ : ∃ x : Hs, x = l[m] := ⟨_, rfl⟩
          rw [← hx] at hts hy0
          have hxl := x.2
          have HU := Lib.hid (And.intro hts (show m + 1 + (gk - 1) = p ∧ gk - 1 < gk by omega))
          have hPl : (l.take m).length ≤ 1000000 := by rw [List.length_take]; omega
          have cp2 := hT.push hL HR0.out x hPl
          have hmi : (m : Int) < (l.length : Int) := by omega
          clear hrg hg hx hts hT hPl hmk
          go_wp2_with (refine wpList_load_mid rfl 28 _ rfl g (off + m * 32) rfl (x.1.map b8) (.array 32 5) hy0 (by kernel_rfl) rfl (by rw [List.length_map, hxl]; kernel_rfl) ?_)
          refine cp2.mono ?_
          rintro e w7 ⟨rfl, v7, hT7, -, -⟩
          rw [← HU.out.1] at hT7
          have HT7 := Lib.hid hT7
          clear cp2 hT7 hy0
          clear wr
          go_wp2
          go_roundg (gk - 1)
          case measure => exact HU.out.2.2
          case rel => exact ⟨m + 1, v7, by go_num, HU.out.2.1, HT7.out⟩
        · have hd2 : decide (m < p) = false := by rw [decide_eq_false_iff_not]; omega
          obtain rfl : m = p := by omega
          rw [← HB.out.2.2.2.2.1] at hT
          have HT := Lib.hid hT
          clear hT hmk hml
          have c1 := tedge_any wr t v P HT.out.tree (by have := HB.out.2.2.2.2.2.1; omega)
          rw [HB.out.2.2.2.2.2.2.1] at c1
          go_wp2_with fail
          refine c1.mono ?_
          rintro e w2 ⟨v2, rfl, O2⟩
          have hT2 := HT.out.below O2.bel
          have R2 := O2.row
          have hsep : ∀ g, v2.ownBlock = some g → g ≠ t ∧ v.ownBlock ≠ some g := fun g e => by
            have h1 := O2.own g e
            have h2 := HT.out.lt
            refine ⟨by omega, fun e2 => ?_⟩
            have := HT.out.rlt g e2; omega
          obtain ⟨a2, c2, rfl⟩ := R2.shape
          clear c1 O2 HT
          clear wr
          obtain ⟨g, off, rfl, hy0⟩ := HB.out.2.2.1 w2 hT2.bel
          have HT2 := Lib.hid (And.intro hT2 (And.intro R2 hsep))
          have cp2 := hT2.push hL HR0.out y (by have := HB.out.2.2.2.2.2.1; omega)
          clear hT2 R2 hsep
          go_wp2_with (refine wpList_load_mid rfl 28 _ rfl g (off + m * 32) rfl (y.1.map b8) (.array 32 5) hy0 (by kernel_rfl) rfl (by rw [List.length_map, hyl]; kernel_rfl) ?_)
          refine cp2.mono ?_
          rintro e w3 ⟨rfl, v3, hT3, hF3, -⟩
          have R3 := HT2.out.2.1.fr hF3 (fun x e => by
            intro h
            rcases h with h | h
            · exact (HT2.out.2.2 x e).1 h
            · exact (HT2.out.2.2 x e).2 h)
          clear cp2 hF3 hy0 HT2
          clear w2
          have HT3 := Lib.hid (And.intro hT3 R3)
          obtain ⟨q, hq⟩ : ∃ q, q = edgeH (P ++ [y]) := ⟨_, rfl⟩
          have c3 := tedge_any w3 t v3 (P ++ [y]) hT3.tree (by rw [List.length_append, HB.out.2.2.2.2.2.1]; simp; omega)
          rw [← hq] at c3
          have hq2 : (m = 1 ∧ q.length = 1) ∨ (m ≠ 1 ∧ q = [z, y]) := by rw [hq]; exact HB.out.2.2.2.2.2.2.2.1
          clear hT3 R3 hq
          have HQ2 := Lib.hid hq2
          clear hq2
          go_wp2_with fail
          refine c3.mono ?_
          rintro e w4 ⟨v4, rfl, O4⟩
          have hbel := (HT3.out.1.below O4.bel).bel
          have hle := (HT3.out.1.below O4.bel).le
          have R4 := HT3.out.2.below O4.bel (fun g e => HT3.out.2.lt g e)
          have RB := O4.row
          obtain ⟨a4, c4, rfl⟩ := RB.shape
          clear c3 O4 HT3
          clear w3
          obtain ⟨b1, b2, b3, -, -, -, hXa⟩ := R4.hts
          cases b3
          obtain ⟨ga, offa, rfl, -, hra⟩ := hXa.place (by simp)
          have ra0 := hra 0 (by simp)
          rw [Nat.zero_mul, Nat.add_zero] at ra0
          replace ra0 : w4.rangeAt ga offa (z.1.map b8) := ra0
          clear hra hXa
          have hz := HB.out.2.2.2.2.2.2.2.2
          have HZ := Lib.hid hz
          clear hz
          go_upto_region 12 with (fail)
          refine wp_region_N (fun w' => w'.rangeAt ga offa (z.1.map b8)) [] (by kernel_rfl) ?_
          obtain ⟨wd, hwd⟩ : ∃ wd, wd = w4.drew := ⟨_, rfl⟩
          replace hbel : Below r w wd := by rw [hwd]; exact hbel.drew
          replace hle : r ≤ wd.heap.size := by rw [hwd]; exact hle
          replace ra0 : wd.rangeAt ga offa (z.1.map b8) := by rw [hwd]; exact ra0
          replace RB : Row wd (.slice a4 q.length c4) 28 32 q.length ((flat q).map b8) := by rw [hwd]; exact RB
          have hga : ga < wd.heap.size := by rw [hwd]; exact R4.lt ga rfl
          rw [← hwd]
          clear hwd R4
          clear w4
          refine wpAnyN_pureG 0 52 (v := ?_) rfl rfl (by kernel_rfl) (by kernel_rfl) (by kernel_rfl) (fun _ _ _ h => h) rfl (fun w => ?_) ?_
          rotate_left
          · go_simp
            try with_reducible rfl
          refine wpAnyN_pureG 1 53 (v := ?_) rfl rfl (by kernel_rfl) (by kernel_rfl) (by kernel_rfl) (fun _ _ _ h => h) rfl (fun w => ?_) ?_
          rotate_left
          · go_simp
            try with_reducible rfl
          refine wpAnyN_pureG 2 54 (v := ?_) rfl rfl (by kernel_rfl) (by kernel_rfl) (by kernel_rfl) (fun _ _ _ h => h) rfl (fun w => ?_) ?_
          rotate_left
          · go_simp
            try with_reducible rfl
          refine wpAnyN_pureG 3 55 (v := ?_) rfl rfl (by kernel_rfl) (by kernel_rfl) (by kernel_rfl) (fun _ _ _ h => h) rfl (fun w => ?_) ?_
          rotate_left
          · go_simp
            try with_reducible rfl
          simp only [Act.put, List.setIfInBounds_toArray, List.set_cons_succ, List.set_cons_zero]
          refine wpAnyN_pure 4 56 (v := ?_) rfl rfl (by kernel_rfl) (by kernel_rfl) (by kernel_rfl) (fun _ _ _ h => h) (by go_simp) (fun w => ?_) ?_
          rotate_left
          · go_simp
            try with_reducible rfl
          refine wpAnyN_pure 5 57 (v := .pointer (some ⟨ga, offa, none⟩)) rfl rfl (by kernel_rfl) (by kernel_rfl) (by kernel_rfl) (fun _ _ _ h => h) (by go_simp) (fun w => ?_) ?_
          · go_simp
          simp only [Act.put, List.setIfInBounds_toArray, List.set_cons_succ, List.set_cons_zero]
          refine wpAnyN_take 6 58 (v := hval z) rfl rfl (by kernel_rfl) (by kernel_rfl) (by kernel_rfl) (by kernel_rfl) (fun _ _ _ h => h) ra0 (by go_simp) (fun w hS => ?_) ?_
          · exact run_load_range 28 _ rfl hS (by go_simp) (.array 32 5) (by kernel_rfl) rfl 32 (by kernel_rfl) (by simp [hzl])
          refine wpAnyN_pure 7 59 (v := ?_) rfl rfl (by kernel_rfl) (by kernel_rfl) (by kernel_rfl) (fun _ _ _ h => h) (by go_simp) (fun w => ?_) ?_
          rotate_left
          · go_simp
            try with_reducible rfl
          refine wpAnyN_pure 8 60 (v := ?_) rfl rfl (by kernel_rfl) (by kernel_rfl) (by kernel_rfl) (fun _ _ _ h => h) (by go_simp) (fun w => ?_) ?_
          rotate_left
          · go_simp
            try with_reducible rfl
          refine wpAnyN_pure 9 61 (v := ?_) rfl rfl (by kernel_rfl) (by kernel_rfl) (by kernel_rfl) (fun _ _ _ h => h) (by go_simp) (fun w => ?_) ?_
          rotate_left
          · go_simp
            try with_reducible rfl
          simp only [Act.put, List.setIfInBounds_toArray, List.set_cons_succ, List.set_cons_zero]
          have c5 := refroot_any wd a6 cp P (hL.below hbel HR0.out) (HB.out.2.1 wd hbel) (by have := HB.out.2.2.2.2.2.1; omega) hm
          rw [← HZ.out, HB.out.2.2.2.2.2.1] at c5
          refine wpAnyN_callW 10 25 (some 62) [.tmp 61] [.slice a6 m cp] (by kernel_rfl) rfl rfl rfl (by go_simp) (by go_simp) Tryd.call25 ?_
          refine c5.mono ?_
          rintro e w5 ⟨rfl, G5⟩
          have hbel5 := hbel.trans (G5.mono hle)
          have ra5 : w5.rangeAt ga offa (z.1.map b8) := fun j v hv => (G5.cell (p := ⟨ga, offa + j, none⟩) hga).trans (ra0 j v hv)
          have RB5 := RB.below G5 (fun g e => RB.lt g e)
          obtain ⟨g', off', e', hy5⟩ := HB.out.2.2.1 w5 hbel5
          cases e'
          refine ⟨_, rfl, fun _ h j v hv => (G5.cell (p := ⟨ga, offa + j, none⟩) hga).trans (h j v hv), ?_⟩
          clear c5 hbel hle ra0 RB hga G5
          clear wd
          simp only [Act.put, List.setIfInBounds_toArray, List.set_cons_succ, List.set_cons_zero]
          refine wpAnyN_pure 11 63 (v := ?_) rfl rfl (by kernel_rfl) (by kernel_rfl) (by kernel_rfl) (fun _ _ _ h => h) (by go_simp) (fun w => ?_) ?_
          rotate_left
          · go_simp
            try with_reducible rfl
          refine wpAnyN_pureG 12 64 (v := ?_) rfl rfl (by kernel_rfl) (by kernel_rfl) (by kernel_rfl) (fun _ _ _ h => h) rfl (fun w => ?_) ?_
          rotate_left
          · go_simp
            try with_reducible rfl
          refine wpAnyN_done (by kernel_rfl) ?_
          simp only [Act.put, List.setIfInBounds_toArray, List.set_cons_succ, List.set_cons_zero]
          rw [HR.out] at hbel5
          obtain ⟨b1, b2, b3, -, -, -, hXb⟩ := RB5.hts
          cases b3
          rcases HQ2.out with ⟨h1, hql⟩ | ⟨h1, hqe⟩
          · subst h1
            rw [hql]
            clear RB5 hXb hql
            go_upto_region 14 with (fail)
            refine wp_region_N (fun w' => True) [] (by kernel_rfl) ?_
            have F9 := hbel5.drew
            generalize w5.drew = wf at F9 ⊢
            refine wpAnyN_pureG 0 65 (v := ?_) rfl rfl (by kernel_rfl) (by kernel_rfl) (by kernel_rfl) (fun _ _ _ h => h) rfl (fun w => ?_) ?_
            rotate_left
            · go_simp
              try with_reducible rfl
            refine wpAnyN_pureG 1 66 (v := ?_) rfl rfl (by kernel_rfl) (by kernel_rfl) (by kernel_rfl) (fun _ _ _ h => h) rfl (fun w => ?_) ?_
            rotate_left
            · go_simp
              try with_reducible rfl
            refine wpAnyN_pureG 2 67 (v := ?_) rfl rfl (by kernel_rfl) (by kernel_rfl) (by kernel_rfl) (fun _ _ _ h => h) rfl (fun w => ?_) ?_
            rotate_left
            · go_simp
              try with_reducible rfl
            refine wpAnyN_pure 3 68 (v := ?_) rfl rfl (by kernel_rfl) (by kernel_rfl) (by kernel_rfl) (fun _ _ _ h => h) (by go_simp) (fun w => ?_) ?_
            rotate_left
            · go_simp
              try with_reducible rfl
            refine wpAnyN_pure 4 69 (v := ?_) rfl rfl (by kernel_rfl) (by kernel_rfl) (by kernel_rfl) (fun _ _ _ h => h) (by go_simp) (fun w => ?_) ?_
            rotate_left
            · go_simp
              try with_reducible rfl
            refine wpAnyN_pure 5 70 (v := ?_) rfl rfl (by kernel_rfl) (by kernel_rfl) (by kernel_rfl) (fun _ _ _ h => h) (by go_simp) (fun w => ?_) ?_
            rotate_left
            · go_simp
              try with_reducible rfl
            refine wpAnyN_pureG 6 71 (v := ?_) rfl rfl (by kernel_rfl) (by kernel_rfl) (by kernel_rfl) (fun _ _ _ h => h) rfl (fun w => ?_) ?_
            rotate_left
            · go_simp
              try with_reducible rfl
            refine wpAnyN_pureG 7 72 (v := ?_) rfl rfl (by kernel_rfl) (by kernel_rfl) (by kernel_rfl) (fun _ _ _ h => h) rfl (fun w => ?_) ?_
            rotate_left
            · go_simp
              try with_reducible rfl
            simp only [Act.put, List.setIfInBounds_toArray, List.set_cons_succ, List.set_cons_zero]
            refine wpAnyN_skipD 8 73 rfl rfl (by kernel_rfl) (by kernel_rfl) (by kernel_rfl) (fun _ _ _ h => h) (by (go_simp; try (unfold undef; simp))) ?_
            refine wpAnyN_skipD 9 74 rfl rfl (by kernel_rfl) (by kernel_rfl) (by kernel_rfl) (fun _ _ _ h => h) (by (go_simp; try (unfold undef; simp))) ?_
            refine wpAnyN_skipD 10 75 rfl rfl (by kernel_rfl) (by kernel_rfl) (by kernel_rfl) (fun _ _ _ h => h) (by (go_simp; try (unfold undef; simp))) ?_
            refine wpAnyN_skipD 11 76 rfl rfl (by kernel_rfl) (by kernel_rfl) (by kernel_rfl) (fun _ _ _ h => h) (by (go_simp; try (unfold undef; simp))) ?_
            refine wpAnyN_skipD 12 77 rfl rfl (by kernel_rfl) (by kernel_rfl) (by kernel_rfl) (fun _ _ _ h => h) (by (go_simp; try (unfold undef; simp))) ?_
            refine wpAnyN_skipD 13 78 rfl rfl (by kernel_rfl) (by kernel_rfl) (by kernel_rfl) (fun _ _ _ h => h) (by (go_simp; try (unfold undef; simp))) ?_
            refine wpAnyN_skipD 14 79 rfl rfl (by kernel_rfl) (by kernel_rfl) (by kernel_rfl) (fun _ _ _ h => h) (by (go_simp; try (unfold undef; simp))) ?_
            refine wpAnyN_skipD 15 80 rfl rfl (by kernel_rfl) (by kernel_rfl) (by kernel_rfl) (fun _ _ _ h => h) (by (go_simp; try (unfold undef; simp))) ?_
            refine wpAnyN_skipD 16 81 rfl rfl (by kernel_rfl) (by kernel_rfl) (by kernel_rfl) (fun _ _ _ h => h) (by (go_simp; try (unfold undef; simp))) ?_
            refine wpAnyN_skipD 17 82 rfl rfl (by kernel_rfl) (by kernel_rfl) (by kernel_rfl) (fun _ _ _ h => h) (by (go_simp; try (unfold undef; simp))) ?_
            refine wpAnyN_skipD 18 83 rfl rfl (by kernel_rfl) (by kernel_rfl) (by kernel_rfl) (fun _ _ _ h => h) (by (go_simp; try (unfold undef; simp))) ?_
            refine wpAnyN_skipD 19 84 rfl rfl (by kernel_rfl) (by kernel_rfl) (by kernel_rfl) (fun _ _ _ h => h) (by (go_simp; try (unfold undef; simp))) ?_
            refine wpAnyN_skipD 20 85 rfl rfl (by kernel_rfl) (by kernel_rfl) (by kernel_rfl) (fun _ _ _ h => h) (by (go_simp; try (unfold undef; simp))) ?_
            refine wpAnyN_skipD 21 86 rfl rfl (by kernel_rfl) (by kernel_rfl) (by kernel_rfl) (fun _ _ _ h => h) (by (go_simp; try (unfold undef; simp))) ?_
            refine wpAnyN_skipD 22 87 rfl rfl (by kernel_rfl) (by kernel_rfl) (by kernel_rfl) (fun _ _ _ h => h) (by (go_simp; try (unfold undef; simp))) ?_
            refine wpAnyN_skipD 23 88 rfl rfl (by kernel_rfl) (by kernel_rfl) (by kernel_rfl) (fun _ _ _ h => h) (by (go_simp; try (unfold undef; simp))) ?_
            refine wpAnyN_skipD 24 89 rfl rfl (by kernel_rfl) (by kernel_rfl) (by kernel_rfl) (fun _ _ _ h => h) (by (go_simp; try (unfold undef; simp))) ?_
            refine wpAnyN_skipD 25 90 rfl rfl (by kernel_rfl) (by kernel_rfl) (by kernel_rfl) (fun _ _ _ h => h) (by (go_simp; try (unfold undef; simp))) ?_
            refine wpAnyN_skipD 26 91 rfl rfl (by kernel_rfl) (by kernel_rfl) (by kernel_rfl) (fun _ _ _ h => h) (by (go_simp; try (unfold undef; simp))) ?_
            refine wpAnyN_skipD 27 92 rfl rfl (by kernel_rfl) (by kernel_rfl) (by kernel_rfl) (fun _ _ _ h => h) (by (go_simp; try (unfold undef; simp))) ?_
            refine wpAnyN_skipD 28 93 rfl rfl (by kernel_rfl) (by kernel_rfl) (by kernel_rfl) (fun _ _ _ h => h) (by (go_simp; try (unfold undef; simp))) ?_
            refine wpAnyN_skipD 29 94 rfl rfl (by kernel_rfl) (by kernel_rfl) (by kernel_rfl) (fun _ _ _ h => h) (by (go_simp; try (unfold undef; simp))) ?_
            refine wpAnyN_pureG 30 95 (v := ?_) rfl rfl (by kernel_rfl) (by kernel_rfl) (by kernel_rfl) (fun _ _ _ h => h) rfl (fun w => ?_) ?_
            rotate_left
            · go_simp
              try with_reducible rfl
            refine wpAnyN_pureG 31 4 (v := ?_) rfl rfl (by kernel_rfl) (by kernel_rfl) (by kernel_rfl) (fun _ _ _ h => h) rfl (fun w => ?_) ?_
            rotate_left
            · go_simp
              try with_reducible rfl
            refine wpAnyN_done (by kernel_rfl) ?_
            simp only [Act.put, List.setIfInBounds_toArray, List.set_cons_succ, List.set_cons_zero]
            go_wp2
            go_ret
            exact ⟨rfl, F9⟩
          · subst hqe
            have hdn : ((m : Int) == 1) = false := by rw [beq_eq_false_iff_ne]; omega
            obtain ⟨gb, offb, rfl, -, hrb⟩ := hXb.place (by simp)
            have rb0 := hrb 0 (by simp)
            have rb1 := hrb 1 (by simp)
            rw [Nat.zero_mul, Nat.add_zero] at rb0
            replace rb0 : w5.rangeAt gb offb (z.1.map b8) := rb0
            replace rb1 : w5.rangeAt gb (offb + 32) (y.1.map b8) := rb1
            have hmi : (m : Int) < (l.length : Int) := by omega
            clear hrb hXb RB5
            go_upto_region 14 with (fail)
            refine wp_region_N (fun w' => w'.rangeAt ga offa (z.1.map b8) ∧ w'.rangeAt gb offb (z.1.map b8) ∧ w'.rangeAt gb (offb + 32) (y.1.map b8) ∧ w'.rangeAt g (off + m * 32) (y.1.map b8)) [] (by kernel_rfl) ?_
            have hS0 : w5.drew.rangeAt ga offa (z.1.map b8) ∧ w5.drew.rangeAt gb offb (z.1.map b8) ∧ w5.drew.rangeAt gb (offb + 32) (y.1.map b8) ∧ w5.drew.rangeAt g (off + m * 32) (y.1.map b8) := ⟨ra5, rb0, rb1, hy5⟩
            have F9 := hbel5.drew
            generalize w5.drew = wf at F9 hS0 ⊢
            refine wpAnyN_pureG 0 65 (v := ?_) rfl rfl (by kernel_rfl) (by kernel_rfl) (by kernel_rfl) (fun _ _ _ h => h) rfl (fun w => ?_) ?_
            rotate_left
            · go_simp
              try with_reducible rfl
            refine wpAnyN_pureG 1 66 (v := ?_) rfl rfl (by kernel_rfl) (by kernel_rfl) (by kernel_rfl) (fun _ _ _ h => h) rfl (fun w => ?_) ?_
            rotate_left
            · go_simp
              try with_reducible rfl
            refine wpAnyN_pureG 2 67 (v := ?_) rfl rfl (by kernel_rfl) (by kernel_rfl) (by kernel_rfl) (fun _ _ _ h => h) rfl (fun w => ?_) ?_
            rotate_left
            · go_simp
              try with_reducible rfl
            refine wpAnyN_skipD 3 68 rfl rfl (by kernel_rfl) (by kernel_rfl) (by kernel_rfl) (fun _ _ _ h => h) (by (go_simp; try (unfold undef; simp))) ?_
            refine wpAnyN_skipD 4 69 rfl rfl (by kernel_rfl) (by kernel_rfl) (by kernel_rfl) (fun _ _ _ h => h) (by (go_simp; try (unfold undef; simp))) ?_
            refine wpAnyN_skipD 5 70 rfl rfl (by kernel_rfl) (by kernel_rfl) (by kernel_rfl) (fun _ _ _ h => h) (by (go_simp; try (unfold undef; simp))) ?_
            refine wpAnyN_pureG 6 71 (v := ?_) rfl rfl (by kernel_rfl) (by kernel_rfl) (by kernel_rfl) (fun _ _ _ h => h) rfl (fun w => ?_) ?_
            rotate_left
            · go_simp
              try with_reducible rfl
            refine wpAnyN_pureG 7 72 (v := ?_) rfl rfl (by kernel_rfl) (by kernel_rfl) (by kernel_rfl) (fun _ _ _ h => h) rfl (fun w => ?_) ?_
            rotate_left
            · go_simp
              try with_reducible rfl
            simp only [Act.put, List.setIfInBounds_toArray, List.set_cons_succ, List.set_cons_zero]
            refine wpAnyN_pure 8 73 (v := ?_) rfl rfl (by kernel_rfl) (by kernel_rfl) (by kernel_rfl) (fun _ _ _ h => h) (by go_simp) (fun w => ?_) ?_
            rotate_left
            · go_simp
              try with_reducible rfl
            refine wpAnyN_pure 9 74 (v := ?_) rfl rfl (by kernel_rfl) (by kernel_rfl) (by kernel_rfl) (fun _ _ _ h => h) (by go_simp) (fun w => ?_) ?_
            rotate_left
            · go_simp
              try with_reducible rfl
            refine wpAnyN_pure 10 75 (v := ?_) rfl rfl (by kernel_rfl) (by kernel_rfl) (by kernel_rfl) (fun _ _ _ h => h) (by go_simp) (fun w => ?_) ?_
            rotate_left
            · go_simp
              try with_reducible rfl
            refine wpAnyN_pure 11 76 (v := ?_) rfl rfl (by kernel_rfl) (by kernel_rfl) (by kernel_rfl) (fun _ _ _ h => h) (by go_simp) (fun w => ?_) ?_
            rotate_left
            · go_simp
              try with_reducible rfl
            simp only [Act.put, List.setIfInBounds_toArray, List.set_cons_succ, List.set_cons_zero]
            refine wpAnyN_pure 12 77 (v := ?_) rfl rfl (by kernel_rfl) (by kernel_rfl) (by kernel_rfl) (fun _ _ _ h => h) (by go_simp) (fun w => ?_) ?_
            rotate_left
            · go_simp
              try with_reducible rfl
            refine wpAnyN_pure 13 78 (v := .pointer (some ⟨gb, offb, none⟩)) rfl rfl (by kernel_rfl) (by kernel_rfl) (by kernel_rfl) (fun _ _ _ h => h) (by go_simp) (fun w => ?_) ?_
            · go_simp
            simp only [Act.put, List.setIfInBounds_toArray, List.set_cons_succ, List.set_cons_zero]
            refine wpAnyN_take 14 79 (v := hval z) rfl rfl (by kernel_rfl) (by kernel_rfl) (by kernel_rfl) (by kernel_rfl) (fun _ _ _ h => h) hS0 (by go_simp) (fun w hS => ?_) ?_
            · exact run_load_range 28 _ rfl hS.2.1 (by go_simp) (.array 32 5) (by kernel_rfl) rfl 32 (by kernel_rfl) (by simp [hzl])
            refine wpAnyN_pure 15 80 (v := ?_) rfl rfl (by kernel_rfl) (by kernel_rfl) (by kernel_rfl) (fun _ _ _ h => h) (by go_simp) (fun w => ?_) ?_
            rotate_left
            · go_simp
              try with_reducible rfl
            refine wpAnyN_pure 16 81 (v := .pointer (some ⟨ga, offa, none⟩)) rfl rfl (by kernel_rfl) (by kernel_rfl) (by kernel_rfl) (fun _ _ _ h => h) (by go_simp) (fun w => ?_) ?_
            · go_simp
            simp only [Act.put, List.setIfInBounds_toArray, List.set_cons_succ, List.set_cons_zero]
            refine wpAnyN_take 17 82 (v := hval z) rfl rfl (by kernel_rfl) (by kernel_rfl) (by kernel_rfl) (by kernel_rfl) (fun _ _ _ h => h) hS0 (by go_simp) (fun w hS => ?_) ?_
            · exact run_load_range 28 _ rfl hS.1 (by go_simp) (.array 32 5) (by kernel_rfl) rfl 32 (by kernel_rfl) (by simp [hzl])
            refine wpAnyN_pure 18 83 (v := ?_) rfl rfl (by kernel_rfl) (by kernel_rfl) (by kernel_rfl) (fun _ _ _ h => h) (by go_simp) (fun w => ?_) ?_
            rotate_left
            · go_simp
              try with_reducible rfl
            refine wpAnyN_pure 19 84 (v := ?_) rfl rfl (by kernel_rfl) (by kernel_rfl) (by kernel_rfl) (fun _ _ _ h => h) (by go_simp) (fun w => ?_) ?_
            rotate_left
            · go_simp
              try with_reducible rfl
            refine wpAnyN_pure 20 85 (v := ?_) rfl rfl (by kernel_rfl) (by kernel_rfl) (by kernel_rfl) (fun _ _ _ h => h) (by go_simp) (fun w => ?_) ?_
            rotate_left
            · go_simp
              try with_reducible rfl
            simp only [Act.put, List.setIfInBounds_toArray, List.set_cons_succ, List.set_cons_zero]
            refine wpAnyN_pure 21 86 (v := ?_) rfl rfl (by kernel_rfl) (by kernel_rfl) (by kernel_rfl) (fun _ _ _ h => h) (by go_simp) (fun w => ?_) ?_
            rotate_left
            · go_simp
              try with_reducible rfl
            refine wpAnyN_pure 22 87 (v := .pointer (some ⟨gb, offb + 32, none⟩)) rfl rfl (by kernel_rfl) (by kernel_rfl) (by kernel_rfl) (fun _ _ _ h => h) (by go_simp) (fun w => ?_) ?_
            · go_simp
            simp only [Act.put, List.setIfInBounds_toArray, List.set_cons_succ, List.set_cons_zero]
            refine wpAnyN_take 23 88 (v := hval y) rfl rfl (by kernel_rfl) (by kernel_rfl) (by kernel_rfl) (by kernel_rfl) (fun _ _ _ h => h) hS0 (by go_simp) (fun w hS => ?_) ?_
            · exact run_load_range 28 _ rfl hS.2.2.1 (by go_simp) (.array 32 5) (by kernel_rfl) rfl 32 (by kernel_rfl) (by simp [hyl])
            refine wpAnyN_pure 24 89 (v := ?_) rfl rfl (by kernel_rfl) (by kernel_rfl) (by kernel_rfl) (fun _ _ _ h => h) (by go_simp) (fun w => ?_) ?_
            rotate_left
            · go_simp
              try with_reducible rfl
            refine wpAnyN_pure 25 90 (v := ?_) rfl rfl (by kernel_rfl) (by kernel_rfl) (by kernel_rfl) (fun _ _ _ h => h) (by go_simp) (fun w => ?_) ?_
            rotate_left
            · go_simp
              try with_reducible rfl
            refine wpAnyN_pure 26 91 (v := .pointer (some ⟨g, off + m * 32, none⟩)) rfl rfl (by kernel_rfl) (by kernel_rfl) (by kernel_rfl) (fun _ _ _ h => h) (by go_simp) (fun w => ?_) ?_
            · go_simp
            simp only [Act.put, List.setIfInBounds_toArray, List.set_cons_succ, List.set_cons_zero]
            refine wpAnyN_take 27 92 (v := hval y) rfl rfl (by kernel_rfl) (by kernel_rfl) (by kernel_rfl) (by kernel_rfl) (fun _ _ _ h => h) hS0 (by go_simp) (fun w hS => ?_) ?_
            · exact run_load_range 28 _ rfl hS.2.2.2 (by go_simp) (.array 32 5) (by kernel_rfl) rfl 32 (by kernel_rfl) (by simp [hyl])
            refine wpAnyN_pure 28 93 (v := ?_) rfl rfl (by kernel_rfl) (by kernel_rfl) (by kernel_rfl) (fun _ _ _ h => h) (by go_simp) (fun w => ?_) ?_
            rotate_left
            · go_simp
              try with_reducible rfl
            refine wpAnyN_pure 29 94 (v := ?_) rfl rfl (by kernel_rfl) (by kernel_rfl) (by kernel_rfl) (fun _ _ _ h => h) (by go_simp) (fun w => ?_) ?_
            rotate_left
            · go_simp
              try with_reducible rfl
            simp only [Act.put, List.setIfInBounds_toArray, List.set_cons_succ, List.set_cons_zero]
            refine wpAnyN_pureG 30 95 (v := ?_) rfl rfl (by kernel_rfl) (by kernel_rfl) (by kernel_rfl) (fun _ _ _ h => h) rfl (fun w => ?_) ?_
            rotate_left
            · go_simp
              try with_reducible rfl
            refine wpAnyN_pureG 31 4 (v := ?_) rfl rfl (by kernel_rfl) (by kernel_rfl) (by kernel_rfl) (fun _ _ _ h => h) rfl (fun w => ?_) ?_
            rotate_left
            · go_simp
              try with_reducible rfl
            refine wpAnyN_done (by kernel_rfl) ?_
            simp only [Act.put, List.setIfInBounds_toArray, List.set_cons_succ, List.set_cons_zero]
            go_wp2
            go_ret
            exact ⟨rfl, F9⟩
  · have hd : decide ((64 : Int) < (l.length : Int)) = true := by rw [decide_eq_true_eq]; omega
    go_enter Tryd.func17, Tryd.ntmps17
    go_wp2_with fail
    refine (awake17_any w hL).mono ?_
    rintro e w1 ⟨rfl, F1⟩
    go_wp2_with fail
    refine (awake17_any w1 (hL.below F1 (Nat.le_refl _))).mono ?_
    rintro e w2 ⟨rfl, GF2⟩
    have F2 := Below.then F1 GF2
    go_wp2_with fail
    go_ret
    exact ⟨rfl, F2⟩
end Go.Proofs.YtbglblamoodocaaDoor
