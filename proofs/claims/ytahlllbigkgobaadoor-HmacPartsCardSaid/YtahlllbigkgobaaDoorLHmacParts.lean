/-
  The walk of the statement HmacParts.
-/
import Derived.Test.YtahlllbigkgobaaDoorLHmacNil
import Derived.Test.YtahlllbigkgobaaDoorLHmacLong
import Derived.Test.YtahlllbigkgobaaDoorDagB
import Derived.Test.YtahlllbigkgobaaDoorAppB
namespace Go.Proofs.YtahlllbigkgobaaDoor
open Go Go.RowKit
attribute [local irreducible] sha compress absorb mac newS nextS
theorem padk_nought (key : List B) (h : key.length < 64) : padk (key ++ [0]) = padk key := by
  unfold padk
  rw [List.length_append, List.length_singleton, List.append_assoc, show 64 - key.length = (64 - (key.length + 1)) + 1 by omega, List.replicate_succ]; rfl
theorem mac_nought (key msg : List B) (h : key.length < 64) : mac (key ++ [0]) msg = mac key msg := by
  unfold mac mkey
  rw [if_neg (by rw [List.length_append, List.length_singleton]; omega), if_neg (by omega), padk_nought key h]
theorem new_at (w : World) (hL : Laid w) (ap : Option Addr) (n : Nat) (L : List (Option Addr × Nat × List B)) (hP : Parts w ap L) (hl : (cat L).length ≤ 1000000) (hll : L.length ≤ 100) :
    Calls Tryd.prog 21 #[.slice ap L.length n] w fun e w' => ∃ s, e = .returned (.pointer (some ⟨s, 0, none⟩)) ∧ Str w' s (newS (cat L)) false ∧ w.heap.size ≤ s ∧ Below w.heap.size w w' := by
  refine (new_any w hL ap n L hP hl (by omega)).mono ?_
  rintro e w' ⟨rfl, hB, h⟩
  exact ⟨_, rfl, ⟨hB, (newS_len _).1, (newS_len _).2⟩, Nat.le_refl _, h⟩
theorem below_spoil {br : Nat → Nat → Bool} {L : List Nat} {i : Nat} {vs : Nat → Value} {w w' : World} (h : Below w.heap.size w w') : Fr (Spoil br L i vs) w w' := (Fr.of_below h).mono fun _ _ hx => hx.elim
theorem NewS.fr {T : TypeId} {cs : Array Value} {v : Value} {w w' : World} {S : Nat → Prop} (hF : Fr S w w') (hT : ∀ b, S b → blkOf v ≠ some b) (h : NewS T cs v w) : NewS T cs v w' := by
  obtain ⟨b, rfl, hb⟩ := h
  exact ⟨b, rfl, hb.fr hF fun hS => hT b hS rfl⟩
/-- a stream somewhere new -/
def NewStr (r : Nat) (s : List B × List B) (v : Value) (w : World) : Prop := ∃ b, v = .pointer (some ⟨b, 0, none⟩) ∧ Str w b s false ∧ r ≤ b
theorem NewStr.fr {r : Nat} {s : List B × List B} {v : Value} {w w' : World} {S : Nat → Prop} (hF : Fr S w w') (hT : ∀ b, S b → blkOf v ≠ some b) (h : NewStr r s v w) : NewStr r s v w' := by
  obtain ⟨b, rfl, hb, hr⟩ := h
  exact ⟨b, rfl, hb.fr hF fun hS => hT b hS rfl, hr⟩
set_option maxRecDepth 100000 in
set_option maxHeartbeats 8000000 in
theorem hparts_any (w : World) (hL : Laid w) (ao : Option Addr) (cp : Nat) (key : List B) (hK : Bts w ao key) (hc : key.length ≤ cp) (hm : cp ≤ maxLen) (am : Option Addr) (cm : Nat) (msg : List B) (hM : Bts w am msg) (hc2 : msg.length ≤ cm) (hm2 : cm ≤ maxLen) (n : Int) (hn0 : 0 ≤ n) (hn1 : n ≤ 65535) :
    Calls Tryd.prog 11 #[.slice ao key.length cp, .slice am msg.length cm, .int .u16 n] w fun e w' => e = .returned (.bool true) ∧ Below w.heap.size w w' := by
  have hm0 : cm ≤ 9223372036854775807 := hm2
  replace hm : key.length ≤ 9223372036854775807 := Nat.le_trans hc hm
  replace hm2 : msg.length ≤ 9223372036854775807 := Nat.le_trans hc2 hm2
  by_cases hlen : key.length ≤ 500 ∧ msg.length ≤ 500
  · have hd : decide ((500 : Int) < (key.length : Int)) = false := by rw [decide_eq_false_iff_not]; omega
    have hd2 : decide ((500 : Int) < (msg.length : Int)) = false := by rw [decide_eq_false_iff_not]; omega
    obtain ⟨i0, hi, hz0, hz1, hz2⟩ := info_parts infoU8
    have q1 : IntKind.i64.wrap n = n := IntWalk.i64_in _ (by omega)
    obtain ⟨k, hk, hkn⟩ : ∃ k : Nat, n % ((msg.length : Int) + 1) = (k : Int) ∧ k ≤ msg.length := by
      have h1 := Int.emod_nonneg n (show (msg.length : Int) + 1 ≠ 0 by omega)
      have h2 := Int.emod_lt_of_pos n (show 0 < (msg.length : Int) + 1 by omega)
      exact ⟨(n % ((msg.length : Int) + 1)).toNat, by omega, by omega⟩
    have hLt := hL.lt
    obtain ⟨r, hr⟩ : ∃ r, r = w.heap.size := ⟨_, rfl⟩
    have HR := Lib.hid hr
    have hr0 : w.heap.size ≤ r := by omega
    have HR0 := Lib.hid hr0
    rw [← hr] at hLt
    obtain ⟨a6, hs6, ht6⟩ := run_upto_bts (P := Tryd.prog) (t := 22) (by kernel_rfl) hi am msg.length cm k (by omega)
    obtain ⟨a7, hs7, ht7⟩ := run_from_bts (P := Tryd.prog) (t := 22) (by kernel_rfl) hi hz1 am msg.length cm k hkn hc2
    have hl1 : (msg.take k).length = k := by rw [List.length_take]; omega
    have hl3 : (msg.drop k).length = msg.length - k := List.length_drop
    obtain ⟨m0, hm0'⟩ : ∃ m0, m0 = mac key msg := ⟨_, rfl⟩
    have hm0l : m0.length = 32 := by rw [hm0']; exact mac_len _ _
    obtain ⟨s0, hs0⟩ : ∃ s0, s0 = newS msg := ⟨_, rfl⟩
    obtain ⟨h1, hh1⟩ : ∃ h1, h1 = (nextS s0 false).2 := ⟨_, rfl⟩
    have hh1l : h1.length = 32 := by rw [hh1, hs0]; exact (nextS_len _ _ (newS_len _).1).2
    have cA : ∀ W, Below r w W → Calls Tryd.prog 18 #[] W fun e w' => e = .returned (.bool true) ∧ Below W.heap.size W w' := fun W hW => awake07_any W (hL.below hW HR0.out)
    have cM1 : ∀ W b, Below r w W → Blk W b 22 #[.slice am msg.length cm] → Calls Tryd.prog 19 #[.slice ao key.length cp, .slice (some ⟨b, 0, none⟩) 1 1] W fun e w' => e = .returned (hashv m0) ∧ Below W.heap.size W w' := fun W b hW hb => by
      rw [hm0']; exact mac_one_at W (hL.below hW HR0.out) (hK.below hW HR0.out) hb (hM.below hW HR0.out) (by omega) (by omega)
    have parts2 : ∀ W b, Below r w W → Blk W b 22 #[.slice a6 k cm, .slice a7 (msg.length - k) (cm - k)] → Parts W (some ⟨b, 0, none⟩) [(a6, cm, msg.take k), (a7, cm - k, msg.drop k)] := fun W b hW hb =>
      Parts.two rfl (by rw [hl1]; exact hb.cell 0) (by rw [hl3]; exact hb.cell 1) (ht6 W _ (hM.below hW HR0.out)) (ht7 W _ rfl (hM.below hW HR0.out))
    have hcat : cat [(a6, cm, msg.take k), (a7, cm - k, msg.drop k)] = msg := by simp [cat]
    have cM2 : ∀ W b, Below r w W → Blk W b 22 #[.slice a6 k cm, .slice a7 (msg.length - k) (cm - k)] → Calls Tryd.prog 19 #[.slice ao key.length cp, .slice (some ⟨b, 0, none⟩) 2 2] W fun e w' => e = .returned (hashv m0) ∧ Below W.heap.size W w' := fun W b hW hb => by
      have := mac_any W (hL.below hW HR0.out) ao cp key (hK.below hW HR0.out) (some ⟨b, 0, none⟩) 2 _ (parts2 W b hW hb) (by omega) (by rw [hcat]; omega) (by simp)
      rw [hcat] at this
      rw [hm0']; exact this
    have cN1 : ∀ W b, Below r w W → Blk W b 22 #[.slice am msg.length cm] → Calls Tryd.prog 21 #[.slice (some ⟨b, 0, none⟩) 1 1] W fun e w' => ∃ s, e = .returned (.pointer (some ⟨s, 0, none⟩)) ∧ Str w' s s0 false ∧ W.heap.size ≤ s ∧ Below W.heap.size W w' := fun W b hW hb => by
      have hc : cat [(am, cm, msg)] = msg := by simp [cat]
      have := new_at W (hL.below hW HR0.out) (some ⟨b, 0, none⟩) 1 [(am, cm, msg)] (Parts.one rfl (hb.cell 0) (hM.below hW HR0.out)) (by rw [hc]; omega) (by simp)
      rw [hc] at this
      rw [hs0]; exact this
    have cN2 : ∀ W b, Below r w W → Blk W b 22 #[.slice a6 k cm, .slice a7 (msg.length - k) (cm - k)] → Calls Tryd.prog 21 #[.slice (some ⟨b, 0, none⟩) 2 2] W fun e w' => ∃ s, e = .returned (.pointer (some ⟨s, 0, none⟩)) ∧ Str w' s s0 false ∧ W.heap.size ≤ s ∧ Below W.heap.size W w' := fun W b hW hb => by
      have := new_at W (hL.below hW HR0.out) (some ⟨b, 0, none⟩) 2 _ (parts2 W b hW hb) (by rw [hcat]; omega) (by simp)
      rw [hcat] at this
      rw [hs0]; exact this
    have cX : ∀ W s, Below r w W → Str W s s0 false → r ≤ s → Calls Tryd.prog 23 #[.pointer (some ⟨s, 0, none⟩)] W fun e w' => e = .returned (hashv h1) ∧ Fr (fun x => x = s) W w' := fun W s hW hS hs => by
      refine (hS.next (hL.below hW HR0.out) (by omega) (by omega)).mono ?_
      rintro e w' ⟨rfl, -, h2⟩
      exact ⟨by rw [hh1], h2⟩
    have cK : ∀ W b (kz : List B) (b8' : Option Addr) (c8 : Nat), key.length < 64 → kz = key ++ [0] → Below r w W → Bts W b8' kz → Blk W b 22 #[.slice am msg.length cm] → Calls Tryd.prog 19 #[.slice b8' kz.length c8, .slice (some ⟨b, 0, none⟩) 1 1] W fun e w' => e = .returned (hashv m0) ∧ Below W.heap.size W w' := fun W b kz b8' c8 h64 hkz hW hkb hb => by
      have := mac_one_at (cp := c8) W (hL.below hW HR0.out) hkb hb (hM.below hW HR0.out) (by rw [hkz, List.length_append, List.length_singleton]; omega) (by omega)
      rw [show mac kz msg = m0 by rw [hkz, hm0', mac_nought key msg h64]] at this
      exact this
    have hKA : ∀ W, Below r w W → Bts W ao key := fun W hW => hK.below hW HR0.out
    replace cA := Lib.hid cA
    replace cM1 := Lib.hid cM1
    replace cM2 := Lib.hid cM2
    replace cN1 := Lib.hid cN1
    replace cN2 := Lib.hid cN2
    replace cX := Lib.hid cX
    replace cK := Lib.hid cK
    replace hKA := Lib.hid hKA
    clear parts2 hcat ht6 ht7 hl1 hl3 hm0' hs0 hh1 hK hM hr0
    go_enter Tryd.func11, Tryd.ntmps11
    go_wp2_with fail
    refine (cA.out w (Below.refl _ _)).mono ?_
    rintro e w1 ⟨rfl, F1⟩
    rw [← hr] at F1
    have hs1 : r ≤ w1.heap.size := by have := F1.size; omega
    clear cA hr
    go_upto_region 4 with (fail)
    try rw [hk]
    clear q1 hk
    refine wp_region_N (fun _ => True) [] (by kernel_rfl) ?_
    obtain ⟨wd, hwd⟩ : ∃ wd, wd = w1.drew := ⟨_, rfl⟩
    replace F1 : Below r w wd := by rw [hwd]; exact F1.drew
    replace hs1 : r ≤ wd.heap.size := by rw [hwd]; exact hs1
    rw [← hwd]
    clear hwd
    clear w1
    refine wpAnyN_pureG 0 28 (v := ?_) rfl rfl (by kernel_rfl) (by kernel_rfl) (by kernel_rfl) (fun _ _ _ h => h) rfl (fun w => ?_) ?_
    rotate_left
    · go_simp
      try with_reducible rfl
    refine wpAnyN_pureG 1 29 (v := ?_) rfl rfl (by kernel_rfl) (by kernel_rfl) (by kernel_rfl) (fun _ _ _ h => h) rfl (fun w => ?_) ?_
    rotate_left
    · go_simp
      try with_reducible rfl
    refine wpAnyN_pureG 4 32 (v := ?_) rfl rfl (by kernel_rfl) (by kernel_rfl) (by kernel_rfl) (fun _ _ _ h => h) rfl (fun w => ?_) ?_
    rotate_left
    · go_simp
      try with_reducible rfl
    refine wpAnyN_pureG 5 33 (v := ?_) rfl rfl (by kernel_rfl) (by kernel_rfl) (by kernel_rfl) (fun _ _ _ h => h) rfl (fun w => ?_) ?_
    rotate_left
    · go_simp
      try with_reducible rfl
    refine wpAnyN_pureG 6 34 (v := ?_) rfl rfl (by kernel_rfl) (by kernel_rfl) (by kernel_rfl) (fun _ _ _ h => h) rfl (fun w => ?_) ?_
    rotate_left
    · go_simp
      try with_reducible rfl
    refine wpAnyN_pureG 8 36 (v := ?_) rfl rfl (by kernel_rfl) (by kernel_rfl) (by kernel_rfl) (fun _ _ _ h => h) rfl (fun w => ?_) ?_
    rotate_left
    · go_simp
      try with_reducible rfl
    refine wpAnyN_pureG 9 37 (v := ?_) rfl rfl (by kernel_rfl) (by kernel_rfl) (by kernel_rfl) (fun _ _ _ h => h) rfl (fun w => ?_) ?_
    rotate_left
    · go_simp
      try with_reducible rfl
    simp only [Act.put, List.setIfInBounds_toArray, List.set_cons_succ, List.set_cons_zero]
    refine wpAnyN_pureG 7 35 (v := ?_) rfl rfl (by kernel_rfl) (by kernel_rfl) (by kernel_rfl) (fun _ _ _ h => h) rfl (fun w => ?_) ?_
    rotate_left
    · go_simp
      try with_reducible rfl
    refine wpAnyN_pureG 10 38 (v := ?_) rfl rfl (by kernel_rfl) (by kernel_rfl) (by kernel_rfl) (fun _ _ _ h => h) rfl (fun w => ?_) ?_
    rotate_left
    · go_simp
      try with_reducible rfl
    simp only [Act.put, List.setIfInBounds_toArray, List.set_cons_succ, List.set_cons_zero]
    refine wpAnyN_dag3 [2, 3, 11, 12] (fun i => match i with | 2 => some 30 | 3 => some 31 | 11 => some 39 | 12 => some 40 | _ => none) (fun i => match i with | 3 => [2] | 12 => [3, 11] | _ => []) (fun i v w => match i with
      | 2 => NewS 22 #[.slice am msg.length cm] v w
      | 3 => v = hashv m0
      | 11 => NewS 22 #[.slice a6 k cm, .slice a7 (msg.length - k) (cm - k)] v w
      | 12 => v = hashv m0
      | _ => True) (fun _ => false) (g := 17) (by kernel_rfl) (by kernel_rfl) rfl
      ⟨fun _ _ _ hb h => NewS.below hb h, fun _ _ _ _ h => h, fun _ _ _ hb h => NewS.below hb h, fun _ _ _ _ h => h, trivial⟩ (fun _ _ _ _ => trivial) ⟨?_, ?_, ?_, ?_, trivial⟩ ?_
    · intro vs w hb _ o ho
      cases ho
      simp only [putsD]
      refine vwp_run rfl (v := .slice (some ⟨w.heap.size, 0, none⟩) 1 1) (w' := w.alloc (.cells #[.slice am msg.length cm] 22)) ?_ ⟨below_alloc1 _ _, ⟨_, rfl, Blk.new _ _ _⟩, fun h => by cases h⟩
      go_simp
    · intro vs w hb hd o ho
      cases ho
      obtain ⟨⟨b5, hv5, hbk⟩, -⟩ := hd
      simp only [putsD]
      refine vwp_call 19 [.tmp 28, .tmp 30] [.slice ao key.length cp, .slice (some ⟨b5, 0, none⟩) 1 1] rfl rfl ?_ Tryd.call19 ?_
      · go_simp
      · refine (cM1.out w b5 (F1.trans (hb.mono hs1)) hbk).mono ?_
        rintro e w' ⟨rfl, G⟩
        exact ⟨_, rfl, G, rfl, fun h => by cases h⟩
    · intro vs w hb _ o ho
      cases ho
      simp only [putsD]
      refine vwp_run rfl (v := .slice (some ⟨w.heap.size, 0, none⟩) 2 2) (w' := w.alloc (.cells #[.slice a6 k cm, .slice a7 (msg.length - k) (cm - k)] 22)) ?_ ⟨below_alloc1 _ _, ⟨_, rfl, Blk.new _ _ _⟩, fun h => by cases h⟩
      go_simp
    · intro vs w hb hd o ho
      cases ho
      obtain ⟨-, ⟨b5, hv5, hbk⟩, -⟩ := hd
      simp only [putsD]
      refine vwp_call 19 [.tmp 32, .tmp 39] [.slice ao key.length cp, .slice (some ⟨b5, 0, none⟩) 2 2] rfl rfl ?_ Tryd.call19 ?_
      · go_simp
      · refine (cM2.out w b5 (F1.trans (hb.mono hs1)) hbk).mono ?_
        rintro e w' ⟨rfl, G⟩
        exact ⟨_, rfl, G, rfl, fun h => by cases h⟩
    intro vs w2 hb hR hne hfr
    obtain ⟨-, h3, -, h12, -⟩ := hR
    have F2 := F1.trans (hb.mono hs1)
    have hs2 : r ≤ w2.heap.size := Nat.le_trans hs1 hb.size
    simp only [putsD]
    rw [h3, h12]
    clear h3 h12 hne hfr hb F1 hs1
    clear wd
    generalize vs 2 = v2
    generalize vs 11 = v11
    simp only [Act.put, List.setIfInBounds_toArray, List.set_cons_succ, List.set_cons_zero]
    refine wpAnyN_pureG 13 41 (v := .bool false) rfl rfl (by kernel_rfl) (by kernel_rfl) (by kernel_rfl) (fun _ _ _ h => h) rfl (fun w => ?_) ?_
    · go_simp
    simp only [Act.put, List.setIfInBounds_toArray, List.set_cons_succ, List.set_cons_zero]
    refine wpAnyN_pureG 14 42 (v := ?_) rfl rfl (by kernel_rfl) (by kernel_rfl) (by kernel_rfl) (fun _ _ _ h => h) rfl (fun w => ?_) ?_
    rotate_left
    · go_simp
      try with_reducible rfl
    simp only [Act.put, List.setIfInBounds_toArray, List.set_cons_succ, List.set_cons_zero]
    refine wpAnyN_pure 15 43 (v := ?_) rfl rfl (by kernel_rfl) (by kernel_rfl) (by kernel_rfl) (fun _ _ _ h => h) (by go_simp) (fun w => ?_) ?_
    rotate_left
    · go_simp
      try with_reducible rfl
    refine wpAnyN_pure 19 47 (v := ?_) rfl rfl (by kernel_rfl) (by kernel_rfl) (by kernel_rfl) (fun _ _ _ h => h) (by go_simp) (fun w => ?_) ?_
    rotate_left
    · go_simp
      try with_reducible rfl
    refine wpAnyN_pure 20 48 (v := ?_) rfl rfl (by kernel_rfl) (by kernel_rfl) (by kernel_rfl) (fun _ _ _ h => h) (by go_simp) (fun w => ?_) ?_
    rotate_left
    · go_simp
      try with_reducible rfl
    refine wpAnyN_pure 22 50 (v := ?_) rfl rfl (by kernel_rfl) (by kernel_rfl) (by kernel_rfl) (fun _ _ _ h => h) (by go_simp) (fun w => ?_) ?_
    rotate_left
    · go_simp
      try with_reducible rfl
    refine wpAnyN_pure 23 51 (v := ?_) rfl rfl (by kernel_rfl) (by kernel_rfl) (by kernel_rfl) (fun _ _ _ h => h) (by go_simp) (fun w => ?_) ?_
    rotate_left
    · go_simp
      try with_reducible rfl
    simp only [Act.put, List.setIfInBounds_toArray, List.set_cons_succ, List.set_cons_zero]
    refine wpAnyN_pure 21 49 (v := ?_) rfl rfl (by kernel_rfl) (by kernel_rfl) (by kernel_rfl) (fun _ _ _ h => h) (by go_simp) (fun w => ?_) ?_
    rotate_left
    · go_simp
      try with_reducible rfl
    refine wpAnyN_pure 24 52 (v := ?_) rfl rfl (by kernel_rfl) (by kernel_rfl) (by kernel_rfl) (fun _ _ _ h => h) (by go_simp) (fun w => ?_) ?_
    rotate_left
    · go_simp
      try with_reducible rfl
    simp only [Act.put, List.setIfInBounds_toArray, List.set_cons_succ, List.set_cons_zero]
    refine wpAnyN_dagB2 [16, 17, 18, 25, 26, 27] (fun i => match i with | 16 => some 44 | 17 => some 45 | 18 => some 46 | 25 => some 53 | 26 => some 54 | 27 => some 55 | _ => none) (fun i => match i with | 17 => [16] | 18 => [17] | 26 => [18, 25] | 27 => [26] | _ => []) (fun i v w => match i with
      | 16 => NewS 22 #[.slice am msg.length cm] v w
      | 17 => NewStr r s0 v w
      | 18 => v = hashv h1
      | 25 => NewS 22 #[.slice a6 k cm, .slice a7 (msg.length - k) (cm - k)] v w
      | 26 => NewStr r s0 v w
      | 27 => v = hashv h1
      | _ => True) (fun i => i == 16 || i == 17 || i == 25 || i == 26) (fun i j => (i == 18 && j == 17) || (i == 27 && j == 26)) (g := 2) (by kernel_rfl) (by kernel_rfl) rfl
      ⟨fun _ _ _ _ hF hT h => NewS.fr hF (fun b hb => (hT b hb).2.1 rfl) h, fun _ _ _ _ hF hT h => NewStr.fr hF (fun b hb => (hT b hb).2.1 rfl) h, fun _ _ _ _ _ _ h => h, fun _ _ _ _ hF hT h => NewS.fr hF (fun b hb => (hT b hb).2.1 rfl) h, fun _ _ _ _ hF hT h => NewStr.fr hF (fun b hb => (hT b hb).2.1 rfl) h, fun _ _ _ _ _ _ h => h, trivial⟩
      (fun _ _ _ _ => trivial) ⟨?_, ?_, ?_, ?_, ?_, ?_, trivial⟩ ?_
    · intro vs w hb _ _ o ho
      cases ho
      simp only [putsD]
      refine vwp_runW (by go_simp) (v := .slice (some ⟨w.heap.size, 0, none⟩) 1 1) (w' := w.alloc (.cells #[.slice am msg.length cm] 22)) ?_ ⟨below_spoil (below_alloc1 _ _), ⟨_, rfl, Blk.new _ _ _⟩, fun _ => ⟨_, rfl, Nat.le_refl _, alloc_lt _ _⟩⟩
      go_simp
    · intro vs w hb hd _ o ho
      cases ho
      obtain ⟨⟨b5, hv5, hbk⟩, -⟩ := hd
      simp only [putsD]
      have F := F2.trans (hb.mono hs2)
      have hsw : r ≤ w.heap.size := Nat.le_trans hs2 hb.size
      refine vwp_callW 21 [.tmp 44] [.slice (some ⟨b5, 0, none⟩) 1 1] (by go_simp) rfl ?_ Tryd.call21 ?_
      · go_simp
      · refine (cN1.out w b5 F hbk).mono ?_
        rintro e w' ⟨s, rfl, hS, hs, G⟩
        exact ⟨_, rfl, below_spoil G, ⟨s, rfl, hS, by omega⟩, fun _ => ⟨s, rfl, hs, hS.lt⟩⟩
    · intro vs w hb hd _ o ho
      cases ho
      obtain ⟨⟨s, hv5, hS, hs⟩, -⟩ := hd
      simp only [putsD]
      have F := F2.trans (hb.mono hs2)
      refine vwp_callW 23 [.tmp 45] [.pointer (some ⟨s, 0, none⟩)] (by go_simp) rfl ?_ Tryd.call23 ?_
      · go_simp
      · refine (cX.out w s F hS hs).mono ?_
        rintro e w' ⟨rfl, G⟩
        exact ⟨_, rfl, G.mono (fun x _ hx => ⟨17, by simp, rfl, by rw [hv5, hx]; rfl⟩), rfl, fun h => by cases h⟩
    · intro vs w hb _ _ o ho
      cases ho
      simp only [putsD]
      refine vwp_runW (by go_simp) (v := .slice (some ⟨w.heap.size, 0, none⟩) 2 2) (w' := w.alloc (.cells #[.slice a6 k cm, .slice a7 (msg.length - k) (cm - k)] 22)) ?_ ⟨below_spoil (below_alloc1 _ _), ⟨_, rfl, Blk.new _ _ _⟩, fun _ => ⟨_, rfl, Nat.le_refl _, alloc_lt _ _⟩⟩
      go_simp
    · intro vs w hb hd _ o ho
      cases ho
      obtain ⟨-, ⟨b5, hv5, hbk⟩, -⟩ := hd
      simp only [putsD]
      have F := F2.trans (hb.mono hs2)
      have hsw : r ≤ w.heap.size := Nat.le_trans hs2 hb.size
      refine vwp_callW 21 [.tmp 53] [.slice (some ⟨b5, 0, none⟩) 2 2] (by go_simp) rfl ?_ Tryd.call21 ?_
      · go_simp
      · refine (cN2.out w b5 F hbk).mono ?_
        rintro e w' ⟨s, rfl, hS, hs, G⟩
        exact ⟨_, rfl, below_spoil G, ⟨s, rfl, hS, by omega⟩, fun _ => ⟨s, rfl, hs, hS.lt⟩⟩
    · intro vs w hb hd _ o ho
      cases ho
      obtain ⟨⟨s, hv5, hS, hs⟩, -⟩ := hd
      simp only [putsD]
      have F := F2.trans (hb.mono hs2)
      refine vwp_callW 23 [.tmp 54] [.pointer (some ⟨s, 0, none⟩)] (by go_simp) rfl ?_ Tryd.call23 ?_
      · go_simp
      · refine (cX.out w s F hS hs).mono ?_
        rintro e w' ⟨rfl, G⟩
        exact ⟨_, rfl, G.mono (fun x _ hx => ⟨26, by simp, rfl, by rw [hv5, hx]; rfl⟩), rfl, fun h => by cases h⟩
    intro vs w3 hb hR hne hfr
    obtain ⟨-, -, h18, -, -, h27, -⟩ := hR
    replace h18 : vs 18 = hashv h1 := h18 rfl
    replace h27 : vs 27 = hashv h1 := h27 rfl
    have F3 := F2.trans (hb.mono hs2)
    have hs3 : r ≤ w3.heap.size := Nat.le_trans hs2 hb.size
    simp only [putsD]
    rw [h18, h27]
    clear h18 h27 hne hfr hb F2 hs2 cN1 cN2 cX cM2
    clear w2
    generalize vs 16 = v16
    generalize vs 17 = v17
    generalize vs 25 = v25
    generalize vs 26 = v26
    simp only [Act.put, List.setIfInBounds_toArray, List.set_cons_succ, List.set_cons_zero]
    refine wpAnyN_pure 28 56 (v := .bool false) rfl rfl (by kernel_rfl) (by kernel_rfl) (by kernel_rfl) (fun _ _ _ h => h) (by go_simp) (fun w => ?_) ?_
    · go_simp
    simp only [Act.put, List.setIfInBounds_toArray, List.set_cons_succ, List.set_cons_zero]
    refine wpAnyN_pureG 29 57 (v := ?_) rfl rfl (by kernel_rfl) (by kernel_rfl) (by kernel_rfl) (fun _ _ _ h => h) rfl (fun w => ?_) ?_
    rotate_left
    · go_simp
      try with_reducible rfl
    refine wpAnyN_done (by kernel_rfl) ?_
    simp only [Act.put, List.setIfInBounds_toArray, List.set_cons_succ, List.set_cons_zero]
    have hE := heap_alloc_new w3 (.cells #[] 5)
    have F4 : Below r w (w3.alloc (.cells #[] 5)) := F3.alloc hs3 _
    have hsrc := (hKA.out _ F4).src (P := Tryd.prog) (tx := 22) (e' := 5) (by kernel_rfl) key.length cp rfl
    have hl1 : key.length ≤ maxLen := by simp only [maxLen]; omega
    have hl2 : key.length * 1 ≤ 140737488355328 := by omega
    go_wp2_with (at_builtin; refine wpList_append_emptyB rfl _ _ 22 22 rfl 5 i0 (.int .u8 0) 1 1 (by kernel_rfl) hi hz0 hz1 hz2 rfl hE rfl hsrc rfl hl1 hl2 ?_)
    intro v4 w4 hrow4 hb4 hv4
    have hsz : r ≤ w3.heap.size + 1 := by omega
    have F5 : Below r w w4 := F4.trans (hb4.mono (by first | exact hsz | (rw [alloc_size]; exact hsz)))
    have hs4 : r ≤ w4.heap.size := by
      have := hb4.size
      try rw [alloc_size] at this
      omega
    have O4 : OwnB r w w4 v4 key := ⟨hrow4, fun g e => by
      rcases hv4 with e1 | ⟨e1, -⟩
      · have := Option.some.inj (e1.symm.trans e); omega
      · have := Option.some.inj (e1.symm.trans e)
        try rw [alloc_size] at this
        omega, F5, hs4⟩
    clear hrow4 hb4 hv4 hE F4 hsrc hl1 hl2 F3 hs3 F5 hsz
    generalize w3.heap.size = gq
    clear w3
    obtain ⟨a4, c4, rfl, -, -, -, -⟩ := O4.row.bts
    have hY := Bts.one w4 0 (.int .u8 0) 5 rfl
    have hsrc := hY.src (P := Tryd.prog) (tx := 22) (e' := 5) (by kernel_rfl) 1 1 rfl
    have hl1 : key.length + 1 ≤ maxLen := by simp only [maxLen]; omega
    have hl2 : (key.length + 1) * 1 ≤ 140737488355328 := by omega
    go_wp2_with (at_builtin; refine wpList_append_row rfl _ _ 22 22 rfl 5 i0 (.int .u8 0) 1 1 (by kernel_rfl) hi hz0 hz1 hz2 rfl (by decide) (O4.row.alloc _) rfl hsrc rfl hl1 hl2 ?_)
    intro v5 w5 hrow5 hg5 hv5
    have O5 : OwnB r w w5 v5 (key ++ [0]) := OwnB.push O4 _ hrow5 hg5 (by first | exact hv5 | (rw [alloc_size] at hv5; exact hv5))
    clear hrow5 hg5 hv5 O4 hY hsrc hl1 hl2 hs4
    obtain ⟨kz, hkz⟩ : ∃ kz, kz = key ++ [0] := ⟨_, rfl⟩
    rw [← hkz] at O5
    obtain ⟨a5, c5, rfl, -, -, -, hT5⟩ := O5.row.bts
    have F5 := O5.bel
    have hs5 := O5.le
    have HKZ := Lib.hid hkz
    clear O5 hkz
    generalize w4.heap.size = gz
    clear w4
    by_cases h64 : 64 ≤ key.length
    · have hd3 : decide ((key.length : Int) ≥ 64) = true := by rw [decide_eq_true_eq]; omega
      rw [HR.out] at F5
      go_wp2
      go_ret
      exact ⟨rfl, F5⟩
    · have hd3 : decide ((key.length : Int) ≥ 64) = false := by rw [decide_eq_false_iff_not]; omega
      have F6 : Below r w (w5.alloc (.cells #[.slice am msg.length cm] 22)) := F5.alloc hs5 _
      have c1 := cM1.out _ w5.heap.size F6 (Blk.new w5 #[.slice am msg.length cm] 22)
      have hT6 := hT5.below (below_alloc1 w5 (.cells #[.slice am msg.length cm] 22)) (Nat.le_refl _)
      go_wp2_with fail
      refine c1.mono ?_
      rintro e w7 ⟨rfl, G7⟩
      have hsx : r ≤ (w5.alloc (.cells #[.slice am msg.length cm] 22)).heap.size := by rw [alloc_size]; omega
      have F7 := F6.trans (G7.mono hsx)
      have hs7 : r ≤ w7.heap.size := Nat.le_trans hsx G7.size
      have hT7 := hT6.below G7 (Nat.le_refl _)
      clear c1 hT6 hT5 F6 F5 hs5 G7 hsx cM1
      generalize w5.heap.size = gy
      clear w5
      have F8 : Below r w (w7.alloc (.cells #[.slice am msg.length cm] 22)) := F7.alloc hs7 _
      have c2 := cK.out _ w7.heap.size kz a5 c5 (by omega) HKZ.out F8 (hT7.below (below_alloc1 w7 (.cells #[.slice am msg.length cm] 22)) (Nat.le_refl _)) (Blk.new w7 #[.slice am msg.length cm] 22)
      go_wp2_with fail
      refine c2.mono ?_
      rintro e w9 ⟨rfl, G9⟩
      have F9 := F8.trans (G9.mono (by rw [alloc_size]; omega))
      rw [HR.out] at F9
      clear c2 F8 F7 hT7 G9 hs7
      generalize w7.heap.size = gx
      clear w7
      go_wp2
      go_ret
      exact ⟨rfl, F9⟩
  · by_cases hk : key.length ≤ 500
    · have hd : decide ((500 : Int) < (key.length : Int)) = false := by rw [decide_eq_false_iff_not]; omega
      have hd2 : decide ((500 : Int) < (msg.length : Int)) = true := by rw [decide_eq_true_eq]; omega
      go_enter Tryd.func11, Tryd.ntmps11
      go_wp2_with fail
      refine (awake07_any w hL).mono ?_
      rintro e w1 ⟨rfl, F1⟩
      go_wp2_with fail
      refine (awake07_any w1 (hL.below F1 (Nat.le_refl _))).mono ?_
      rintro e w2 ⟨rfl, GF2⟩
      have F2 := Below.then F1 GF2
      go_wp2_with fail
      go_ret
      exact ⟨rfl, F2⟩
    · have hd : decide ((500 : Int) < (key.length : Int)) = true := by rw [decide_eq_true_eq]; omega
      go_enter Tryd.func11, Tryd.ntmps11
      go_wp2_with fail
      refine (awake07_any w hL).mono ?_
      rintro e w1 ⟨rfl, F1⟩
      go_wp2_with fail
      refine (awake07_any w1 (hL.below F1 (Nat.le_refl _))).mono ?_
      rintro e w2 ⟨rfl, GF2⟩
      have F2 := Below.then F1 GF2
      go_wp2_with fail
      go_ret
      exact ⟨rfl, F2⟩
end Go.Proofs.YtahlllbigkgobaaDoor
