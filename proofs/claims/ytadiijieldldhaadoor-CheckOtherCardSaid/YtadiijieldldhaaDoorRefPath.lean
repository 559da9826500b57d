/-
  The reference's path of one of hashes (layer 18).
-/
import Derived.Test.YtadiijieldldhaaDoorTurned
namespace Go.Proofs.YtadiijieldldhaaDoor
open Go Go.RowKit
attribute [local irreducible] sha
set_option maxRecDepth 100000 in
set_option maxHeartbeats 4000000 in
theorem refpath_any (w : World) (ao : Option Addr) (cp : Nat) (l : List Hs) (m : Int) (hL : Laid w) (hB : Hts w ao l) (hc : l.length ≤ cp) (hm : cp ≤ maxLen) (hbig : l.length ≤ 1000000) :
    Calls Tryd.prog 17 #[.slice ao l.length cp, .int .i64 m] w fun e w' => ∃ v, e = .returned (.tuple #[v, .int .i64 (pathErr l m)]) ∧ OwnH w.heap.size w w' v (pathOut l m) := by
  by_cases h0 : m < 0
  · have hd : decide (m < 0) = true := decide_eq_true h0
    have e1 : pathErr l m = 3 := by unfold pathErr; rw [if_neg (by omega)]
    have e2 : pathOut l m = [] := by unfold pathOut; rw [if_neg (by omega)]
    rw [e1, e2]
    go_enter Tryd.func17, Tryd.ntmps17
    go_wp2
    go_ret2
    exact ⟨_, rfl, Own.nil _ _ _ rfl⟩
  · have hd : decide (m < 0) = false := decide_eq_false h0
    by_cases h1 : (l.length : Int) ≤ m
    · have hd1 : decide ((l.length : Int) ≤ m) = true := decide_eq_true h1
      have e1 : pathErr l m = 3 := by unfold pathErr; rw [if_neg (by omega)]
      have e2 : pathOut l m = [] := by unfold pathOut; rw [if_neg (by omega)]
      rw [e1, e2]
      go_enter Tryd.func17, Tryd.ntmps17
      go_wp2
      go_ret2
      exact ⟨_, rfl, Own.nil _ _ _ rfl⟩
    · have hd1 : decide ((l.length : Int) ≤ m) = false := decide_eq_false h1
      have e1 : pathErr l m = 0 := by unfold pathErr; rw [if_pos (by omega)]
      have e2 : pathOut l m = pathH l m.toNat := by unfold pathOut; rw [if_pos (by omega)]
      rw [e1, e2]
      clear e1 e2
      obtain ⟨M, rfl⟩ : ∃ M : Nat, m = M := ⟨m.toNat, by omega⟩
      rw [Int.toNat_natCast]
      obtain ⟨Q, hQ⟩ : ∃ Q, Q = pathH l M := ⟨_, rfl⟩
      rw [← hQ]
      have HQ := Lib.hid hQ
      clear hQ
      obtain ⟨i0, hi, hz0, hz1, hz2⟩ := info_parts infoHs
      obtain ⟨r, hr⟩ : ∃ r, r = w.heap.size := ⟨_, rfl⟩
      have HR := Lib.hid hr
      have hr0 : w.heap.size ≤ r := by omega
      have HR0 := Lib.hid hr0
      have O0 : Own r w w 23 32 (.slice none 0 0) 0 ((flat []).map b8) := Own.nil _ _ _ hr
      have HB : ∀ w', Below r w w' → Hts w' ao l := fun w' h => hB.below h hr0
      clear hr hr0
      go_enter Tryd.func17, Tryd.ntmps17
      go_wp2
      go_loopg [0, 1, 6, 7] l.length (fun g x0 x1 x6 x7 wr => ∃ (l' : List Hs) (ao' : Option Addr) (cp' M' : Nat) (out : List Hs) (a : Option Addr) (n c : Nat), l'.length = g ∧ x0 = .slice ao' l'.length cp' ∧ x1 = .int .i64 M' ∧ x6 = .slice a n c ∧ l'.length ≤ cp' ∧ cp' ≤ maxLen ∧ M' < l'.length ∧
        n = out.length ∧ n + l'.length ≤ 1000001 ∧ Q = pathH l' M' ++ out.reverse ∧ (∀ w', Below r w w' → Hts w' ao' l') ∧ Own r w wr 23 32 (.slice a n c) n ((flat out).map b8))
      case atStart => exact ⟨l, ao, cp, M, [], none, 0, 0, rfl, rfl, rfl, rfl, hc, hm, by omega, rfl, by omega, by rw [HQ.out]; simp, HB, O0⟩
      case round =>
        clear O0 HB hB hc hm hbig h1 hd1 h0 hd HQ
        obtain ⟨l, ao, cp, M, out, a, n, c, hg, rfl, rfl, rfl, hc, hm, hM, hn, hbig, hQ, HH, O⟩ := hrel
        replace HH := Lib.hid HH
        have hm0 : cp ≤ 9223372036854775807 := hm
        have hcap := O.row.le
        by_cases h2 : 1 < l.length
        · have hd : decide ((1 : Int) < (l.length : Int)) = true := by rw [decide_eq_true_eq]; omega
          have hk1 := Tree.split_lt (n := l.length) (by omega)
          have hk0 := Tree.split_pos (n := l.length) (by omega)
          have hsp := refsplit_any wr (l.length : Int) (by omega) (by omega)
          rw [Int.toNat_natCast] at hsp
          by_cases hmk : M < Tree.split l.length
          · have hpath : pathH l M = pathH (l.take (Tree.split l.length)) M ++ [rootH (l.drop (Tree.split l.length))] := Tree.path_lo nodeH nilH (by omega) hmk
            obtain ⟨k, hk⟩ : ∃ k, k = Tree.split l.length := ⟨_, rfl⟩
            rw [← hk] at hk1 hk0 hpath hsp hmk
            have hd2 : decide ((M : Int) < (k : Int)) = true := by rw [decide_eq_true_eq]; omega
            obtain ⟨a6, hs6, -, ht6⟩ := run_upto_hts (P := Tryd.prog) (t := 24) (by kernel_rfl) hi ao l.length cp k (by omega)
            obtain ⟨a7, hs7, ht7⟩ := run_from_hts (P := Tryd.prog) (t := 24) (by kernel_rfl) hi hz1 ao l.length cp k (by omega) hc
            have hl1 : (l.take k).length = k := by rw [List.length_take]; omega
            have hl2 : (l.drop k).length = l.length - k := List.length_drop
            rw [hpath, List.append_assoc] at hQ
            have HL := Lib.hid (And.intro hl1 (And.intro hl2 (And.intro hg hn)))
            have HT := Lib.hid hQ
            clear hl1 hl2 hpath hk hQ h2 hcap hg hn
            go_wp2_with fail
            refine hsp.mono ?_
            rintro e w' ⟨rfl, hw'⟩
            rw [hw']
            clear hsp hw'
            clear w'
            go_wp2_with fail
            have c2 := refroot_any wr a7 (cp - k) (l.drop k) (hL.below O.bel HR0.out) (ht7 wr l rfl (HH.out wr O.bel)) (by have := HL.out; omega) (by simp only [maxLen]; omega)
            rw [HL.out.2.1] at c2
            refine c2.mono ?_
            rintro e w3 ⟨rfl, G3⟩
            have O3 := Own.below O G3
            obtain ⟨u, hu⟩ : ∃ u, u = rootH (l.drop k) := ⟨_, rfl⟩
            rw [← hu]
            have hul := u.2
            have HU := Lib.hid hu
            have hn1 : n + 1 ≤ maxLen := by simp only [maxLen]; omega
            have hn2 : (n + 1) * 32 ≤ 140737488355328 := by omega
            clear hu c2 O G3
            clear wr
            go_wp2_with (first | (refine wpList_build_one rfl u.1 hul _ rfl rfl ?_) | (at_builtin; refine wpList_append_row rfl _ _ 24 24 rfl 23 i0 (.agg zero32) 32 32 (by kernel_rfl) hi hz0 hz1 hz2 rfl (by decide) (O3.row.alloc _) rfl (src_one w3 u) rfl hn1 hn2 ?_))
            intro v4 w4 hrow4 hg4 hv4
            obtain ⟨a4, c4, rfl⟩ := hrow4.shape
            have O4 : Own r w w4 23 32 (.slice a4 (n + 1) c4) (n + 1) ((flat (out ++ [u])).map b8) := by
              have := Own.push O3 (.cells (u.1.map b8).toArray 23) hrow4 hg4 (by first | exact hv4 | (rw [alloc_size] at hv4; exact hv4))
              rw [flat_append, flat_one, List.map_append]; exact this
            have HO := Lib.hid O4
            clear hrow4 hg4 hv4 O3 O4
            go_wp2
            go_roundg k
            case measure => have := HL.out; omega
            case rel =>
              refine ⟨l.take k, a6, cp, M, out ++ [u], a4, n + 1, c4, HL.out.1, by rw [HL.out.1], by go_num, rfl, by rw [HL.out.1]; omega, hm, by rw [HL.out.1]; exact hmk, by have := HL.out; simp; omega, by rw [HL.out.1]; omega, ?_, fun w' h => ht6 w' l (HH.out w' h), HO.out⟩
              rw [HT.out, HU.out]; simp
          · have hpath : pathH l M = pathH (l.drop (Tree.split l.length)) (M - Tree.split l.length) ++ [rootH (l.take (Tree.split l.length))] := Tree.path_hi nodeH nilH (by omega) (by omega)
            obtain ⟨k, hk⟩ : ∃ k, k = Tree.split l.length := ⟨_, rfl⟩
            rw [← hk] at hk1 hk0 hpath hsp hmk
            have hd2 : decide ((M : Int) < (k : Int)) = false := by rw [decide_eq_false_iff_not]; omega
            obtain ⟨d, hdd⟩ : ∃ d, d = M - k := ⟨_, rfl⟩
            have q1 : IntKind.i64.wrap ((M : Int) - k) = (d : Int) := by rw [show (M : Int) - k = d by omega]; exact IntWalk.i64_in _ (by omega)
            rw [← hdd] at hpath
            obtain ⟨a6, hs6, -, ht6⟩ := run_upto_hts (P := Tryd.prog) (t := 24) (by kernel_rfl) hi ao l.length cp k (by omega)
            obtain ⟨a7, hs7, ht7⟩ := run_from_hts (P := Tryd.prog) (t := 24) (by kernel_rfl) hi hz1 ao l.length cp k (by omega) hc
            have hl1 : (l.take k).length = k := by rw [List.length_take]; omega
            have hl2 : (l.drop k).length = l.length - k := List.length_drop
            rw [hpath, List.append_assoc] at hQ
            have HL := Lib.hid (And.intro hl1 (And.intro hl2 (And.intro hg (And.intro hn hdd))))
            have HT := Lib.hid hQ
            clear hl1 hl2 hpath hk hQ h2 hcap hg hn hdd
            go_wp2_with fail
            refine hsp.mono ?_
            rintro e w' ⟨rfl, hw'⟩
            rw [hw']
            clear hsp hw'
            clear w'
            go_wp2_with fail
            have c2 := refroot_any wr a6 cp (l.take k) (hL.below O.bel HR0.out) (ht6 wr l (HH.out wr O.bel)) (by have := HL.out; omega) (by simp only [maxLen]; omega)
            rw [HL.out.1] at c2
            refine c2.mono ?_
            rintro e w3 ⟨rfl, G3⟩
            have O3 := Own.below O G3
            obtain ⟨u, hu⟩ : ∃ u, u = rootH (l.take k) := ⟨_, rfl⟩
            rw [← hu]
            have hul := u.2
            have HU := Lib.hid hu
            have hn1 : n + 1 ≤ maxLen := by simp only [maxLen]; omega
            have hn2 : (n + 1) * 32 ≤ 140737488355328 := by omega
            clear hu c2 O G3
            clear wr
            go_wp2_with (first | (refine wpList_build_one rfl u.1 hul _ rfl rfl ?_) | (at_builtin; refine wpList_append_row rfl _ _ 24 24 rfl 23 i0 (.agg zero32) 32 32 (by kernel_rfl) hi hz0 hz1 hz2 rfl (by decide) (O3.row.alloc _) rfl (src_one w3 u) rfl hn1 hn2 ?_))
            intro v4 w4 hrow4 hg4 hv4
            obtain ⟨a4, c4, rfl⟩ := hrow4.shape
            have O4 : Own r w w4 23 32 (.slice a4 (n + 1) c4) (n + 1) ((flat (out ++ [u])).map b8) := by
              have := Own.push O3 (.cells (u.1.map b8).toArray 23) hrow4 hg4 (by first | exact hv4 | (rw [alloc_size] at hv4; exact hv4))
              rw [flat_append, flat_one, List.map_append]; exact this
            have HO := Lib.hid O4
            clear hrow4 hg4 hv4 O3 O4
            go_wp2
            go_roundg (l.length - k)
            case measure => have := HL.out; omega
            case rel =>
              refine ⟨l.drop k, a7, cp - k, d, out ++ [u], a4, n + 1, c4, HL.out.2.1, by rw [HL.out.2.1], by go_num, rfl, by rw [HL.out.2.1]; omega, by simp only [maxLen]; omega, by rw [HL.out.2.1]; have := HL.out; omega, by have := HL.out; simp; omega, by rw [HL.out.2.1]; omega, ?_, fun w' h => ht7 w' l rfl (HH.out w' h), HO.out⟩
              rw [HT.out, HU.out]; simp
        · have hd : decide ((1 : Int) < (l.length : Int)) = false := by rw [decide_eq_false_iff_not]; omega
          have hp : pathH l M = [] := Tree.path_one nodeH nilH (by omega)
          rw [hp, List.nil_append] at hQ
          subst hn
          go_wp2_with fail
          obtain ⟨a8, c8, e8, -, -, -, hY⟩ := O.row.hts
          cases e8
          refine (turnedH_any wr a c out hY (by omega)).mono ?_
          rintro e w3 ⟨v3, rfl, O3⟩
          have O4 := O3.base O.bel O.le
          rw [← hQ, HR.out] at O4
          clear O3 O hQ hY hp
          go_wp2
          go_ret2
          exact ⟨_, rfl, O4⟩
end Go.Proofs.YtadiijieldldhaaDoor
