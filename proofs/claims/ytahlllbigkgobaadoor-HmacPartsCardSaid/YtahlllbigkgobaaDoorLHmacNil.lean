/-
  The walk of the statement HmacNil.
-/
import Derived.Test.YtahlllbigkgobaaDoorNew
import Derived.Test.YtahlllbigkgobaaDoorReg2
import Derived.Test.YtahlllbigkgobaaDoorLNil
namespace Go.Proofs.YtahlllbigkgobaaDoor
open Go.RowKit
attribute [local irreducible] sha compress absorb mac newS nextS
theorem newS_len (data : List B) : (newS data).1.length = 32 ∧ (newS data).2.length = 32 := by unfold newS; exact turnS_len _ _ _
theorem nextS_len (s : List B × List B) (m : Bool) (h : s.1.length = 32) : (nextS s m).1.length = 32 ∧ (nextS s m).2.length = 32 := by
  unfold nextS
  cases m with
  | true => exact ⟨mac_len _ _, mac_len _ _⟩
  | false => exact ⟨h, mac_len _ _⟩
/-- a stream somewhere -/
structure Str (w : World) (b : Nat) (s : List B × List B) (m : Bool) : Prop where
  blk : Blk w b 58 (scells s.1 s.2 m)
  k : s.1.length = 32
  v : s.2.length = 32
theorem new_one_any {am : Option Addr} {cm : Nat} {msg : List B} (w : World) (hL : Laid w) (hM : Bts w am msg) (hl : msg.length ≤ 1000000) :
    Calls Tryd.prog 21 #[.slice (some ⟨w.heap.size, 0, none⟩) 1 1] (w.alloc (.cells #[.slice am msg.length cm] 22)) fun e w' => ∃ b, e = .returned (.pointer (some ⟨b, 0, none⟩)) ∧ Str w' b (newS msg) false ∧ w.heap.size ≤ b ∧ Below w.heap.size w w' := by
  have F := below_alloc1 w (.cells #[.slice am msg.length cm] 22)
  have hP : Parts (w.alloc (.cells #[.slice am msg.length cm] 22)) (some ⟨w.heap.size, 0, none⟩) [(am, cm, msg)] :=
    Parts.one rfl ((Blk.new w #[.slice am msg.length cm] 22).cell 0) (hM.below F (Nat.le_refl _))
  have hc : cat [(am, cm, msg)] = msg := by simp [cat]
  refine (new_any _ (hL.below F (Nat.le_refl _)) (some ⟨w.heap.size, 0, none⟩) 1 [(am, cm, msg)] hP (by rw [hc]; exact hl) (by simp)).mono ?_
  rintro e w' ⟨rfl, hB, h⟩
  rw [hc] at hB
  exact ⟨_, rfl, ⟨hB, (newS_len _).1, (newS_len _).2⟩, by rw [alloc_size]; omega, F.trans (h.mono (by rw [alloc_size]; omega))⟩
theorem Str.next {w : World} {b : Nat} {s : List B × List B} {m : Bool} (h : Str w b s m) (hL : Laid w) (hb0 : b ≠ 0) (hb1 : b ≠ 1) :
    Calls Tryd.prog 23 #[.pointer (some ⟨b, 0, none⟩)] w fun e w' => e = .returned (hashv (nextS s m).2) ∧ Str w' b (nextS s m) true ∧ Fr (fun x => x = b) w w' := by
  refine (next_any w hL b s.1 s.2 m h.blk h.k h.v hb0 hb1).mono ?_
  rintro e w' ⟨rfl, hB, hF⟩
  exact ⟨rfl, ⟨hB, (nextS_len _ _ h.k).1, (nextS_len _ _ h.k).2⟩, hF⟩
theorem Str.below {w w' : World} {b n : Nat} {s : List B × List B} {m : Bool} (h : Str w b s m) (hb : Below n w w') (hn : b < n) : Str w' b s m := ⟨h.blk.below hb hn, h.k, h.v⟩
theorem Str.fr {w w' : World} {b : Nat} {S : Nat → Prop} {s : List B × List B} {m : Bool} (h : Str w b s m) (hb : Fr S w w') (hn : ¬ S b) : Str w' b s m := ⟨h.blk.fr hb hn, h.k, h.v⟩
theorem Str.lt {w : World} {b : Nat} {s : List B × List B} {m : Bool} (h : Str w b s m) : b < w.heap.size := h.blk.lt
set_option maxRecDepth 100000 in
set_option maxHeartbeats 4000000 in
theorem hnil_any (w : World) (hL : Laid w) (ao : Option Addr) (cp : Nat) (bs : List B) (hB : Bts w ao bs) (hc : bs.length ≤ cp) (hm : cp ≤ maxLen) :
    Calls Tryd.prog 12 #[.slice ao bs.length cp] w fun e w' => e = .returned (.bool true) ∧ Below w.heap.size w w' := by
  replace hm : bs.length ≤ 9223372036854775807 := Nat.le_trans hc hm
  by_cases hlen : bs.length ≤ 300
  · have hd : decide ((300 : Int) < (bs.length : Int)) = false := by rw [decide_eq_false_iff_not]; omega
    obtain ⟨r, hr⟩ : ∃ r, r = w.heap.size := ⟨_, rfl⟩
    have hLt := hL.lt
    have HR := Lib.hid hr
    rw [← hr] at hLt
    go_enter Tryd.func12, Tryd.ntmps12
    go_wp2_with fail
    refine (awake07_any w hL).mono ?_
    rintro e w1 ⟨rfl, F1⟩
    rw [← HR.out] at F1
    clear hr
    go_wp2_with fail
    refine (new_one_any (cm := cp) w1 (hL.below F1 (by rw [HR.out]; exact Nat.le_refl _)) (hB.below F1 (by rw [HR.out]; exact Nat.le_refl _)) (by omega)).mono ?_
    rintro e w2 ⟨a, rfl, SA2, hra, G2⟩
    have hs1 := F1.size
    rw [← HR.out] at hs1
    have F2 := F1.trans (G2.mono hs1)
    have ha : r ≤ a := by omega
    clear F1 G2 hra hs1
    go_wp2_with fail
    refine (new_one_any (cm := cp) w2 (hL.below F2 (by rw [HR.out]; exact Nat.le_refl _)) (hB.below F2 (by rw [HR.out]; exact Nat.le_refl _)) (by omega)).mono ?_
    rintro e w3 ⟨b, rfl, SB3, hrb, G3⟩
    have hs2 := F2.size
    rw [← HR.out] at hs2
    have SA3 := SA2.below G3 SA2.lt
    have F3 := F2.trans (G3.mono hs2)
    have hb : r ≤ b ∧ a ≠ b := by have := SA2.lt; omega
    obtain ⟨hb, hab⟩ := hb
    clear F2 G3 hrb hs2 SA2
    obtain ⟨s0, hs0⟩ : ∃ s0, s0 = newS bs := ⟨_, rfl⟩
    rw [← hs0] at SA3 SB3
    clear hs0
    go_wp2_with fail
    refine (SA3.next (hL.below F3 (by rw [HR.out]; exact Nat.le_refl _)) (by omega) (by omega)).mono ?_
    rintro e w4 ⟨rfl, SA4, G4⟩
    have SB4 := SB3.fr G4 (Ne.symm hab)
    have F4 := Below.fr F3 G4 (Nat.le_trans ha (Nat.le_of_lt SA3.lt)) (by rintro x rfl; exact ha)
    obtain ⟨s1, hs1⟩ : ∃ s1, s1 = nextS s0 false := ⟨_, rfl⟩
    rw [← hs1] at SA4 ⊢
    have H1 := Lib.hid hs1
    clear hs1 SA3 SB3 F3 G4
    have hs1l := SA4.v
    go_wp2_with (refine wpList_store_blk rfl 25 _ _ rfl (Blk.new w4 zero32 25) (s1.2.map b8).toArray rfl rfl 32 (by kernel_rfl) rfl (by simp [hs1l]) (by rw [List.toList_toArray]; exact b8_one _) ?_)
    intro w5 hB5 hg5
    have SA5 := SA4.fr (((Fr.refl (fun _ => False) w4).alloc (.cells zero32 25)).grown hg5 (fun x hx e => by have := Option.some.inj e; omega)) id
    have SB5 := SB4.fr (((Fr.refl (fun _ => False) w4).alloc (.cells zero32 25)).grown hg5 (fun x hx e => by have := Option.some.inj e; omega)) id
    have hs4 : r ≤ w4.heap.size := Nat.le_trans ha (Nat.le_of_lt SA4.lt)
    have F5 : Below r w w5 := below_upd (F4.alloc hs4 _) hg5 hs4 (by rw [alloc_size]; omega)
    obtain ⟨p, hp⟩ : ∃ p, p = w4.heap.size := ⟨_, rfl⟩
    have hpa : a ≠ p ∧ b ≠ p := by have h1 := SA4.lt; have h2 := SB4.lt; omega
    rw [← hp] at hB5 ⊢
    clear hp hg5 SA4 SB4 F4 hs4
    clear w4
    go_upto_region 6 with (fail)
    refine wp_region_N (fun w => Blk w p 25 (s1.2.map b8).toArray) [] (by kernel_rfl) ?_
    obtain ⟨wd, hwd⟩ : ∃ wd, wd = w5.drew := ⟨_, rfl⟩
    replace hB5 : Blk wd p 25 (s1.2.map b8).toArray := by rw [hwd]; exact hB5
    replace SA5 : Str wd a s1 true := by rw [hwd]; exact ⟨SA5.blk, SA5.k, SA5.v⟩
    replace SB5 : Str wd b s0 false := by rw [hwd]; exact ⟨SB5.blk, SB5.k, SB5.v⟩
    replace F5 : Below r w wd := by rw [hwd]; exact F5.drew
    rw [← hwd]
    clear hwd
    clear w5
    obtain ⟨Z, hZ⟩ : ∃ Z : List B, Z = List.replicate 32 0 := ⟨_, rfl⟩
    have hZl : Z.length = 32 := by rw [hZ]; simp
    have hZz : hashv Z = .agg zero32 := by rw [hZ]; rfl
    have HZ := Lib.hid (And.intro hZz (And.intro hs1l SB5.v))
    clear hZ hZz hs1l
    refine wpAnyN_pureG 0 23 (v := ?_) rfl rfl (by kernel_rfl) (by kernel_rfl) (by kernel_rfl) (fun _ _ _ h => h) rfl (fun w => ?_) ?_
    rotate_left
    · go_simp
      try with_reducible rfl
    refine wpAnyN_pureG 2 25 (v := hashv Z) rfl rfl (by kernel_rfl) (by kernel_rfl) (by kernel_rfl) (fun _ _ _ h => h) rfl (fun w => ?_) ?_
    · rw [HZ.out.1]; go_simp
    refine wpAnyN_call 1 23 (some 24) [.tmp 23] [.pointer none] (by kernel_rfl) rfl rfl rfl rfl (by go_simp) Tryd.call23 ?_
    refine (nextnil_any wd).mono ?_
    rintro e w6 ⟨rfl, G6⟩
    refine ⟨_, rfl, fun _ h => h.below G6 h.lt, ?_⟩
    rw [← HZ.out.1]
    have hB6 := hB5.below G6 hB5.lt
    have SA6 := SA5.below G6 SA5.lt
    have SB6 := SB5.below G6 SB5.lt
    have F6 := F5.trans (G6.mono (Nat.le_trans ha (Nat.le_of_lt SA5.lt)))
    clear hB5 SA5 SB5 F5 G6
    clear wd
    refine wpAnyN_pureG 3 26 (v := ?_) rfl rfl (by kernel_rfl) (by kernel_rfl) (by kernel_rfl) (fun _ _ _ h => h) rfl (fun w => ?_) ?_
    rotate_left
    · go_simp
      try with_reducible rfl
    refine wpAnyN_pureG 4 27 (v := ?_) rfl rfl (by kernel_rfl) (by kernel_rfl) (by kernel_rfl) (fun _ _ _ h => h) rfl (fun w => ?_) ?_
    rotate_left
    · go_simp
      try with_reducible rfl
    have hvl := HZ.out.2.1
    refine wpAnyN_take 5 28 (v := hashv s1.2) rfl rfl (by kernel_rfl) (by kernel_rfl) (by kernel_rfl) (by kernel_rfl) (fun _ _ _ h => h) hB6 (by go_simp) (fun w hS => ?_) ?_
    · exact run_load_mid_blk 25 _ rfl hS 0 rfl (s1.2.map b8) (fun j v h => by rw [Nat.zero_add, List.getElem?_toArray]; exact h) (.array 32 5) (by kernel_rfl) rfl 32 (by kernel_rfl) (by simp [hvl])
    refine wpAnyN_pure 6 29 (v := ?_) rfl rfl (by kernel_rfl) (by kernel_rfl) (by kernel_rfl) (fun _ _ _ h => h) (by go_simp) (fun w => ?_) ?_
    rotate_left
    · go_simp
      try with_reducible rfl
    refine wpAnyN_callW 7 23 (some 30) [.tmp 29] [.pointer (some ⟨b, 0, none⟩)] (by kernel_rfl) rfl rfl rfl (by go_simp) (by go_simp) Tryd.call23 ?_
    refine (SB6.next (hL.below F6 (by rw [HR.out]; exact Nat.le_refl _)) (by omega) (by omega)).mono ?_
    rintro e w7 ⟨rfl, SB7, G7⟩
    refine ⟨_, rfl, fun _ h => h.fr G7 (Ne.symm hpa.2), ?_⟩
    rw [← H1.out] at SB7 ⊢
    have SA7 := SA6.fr G7 hab
    have F7 := Below.fr F6 G7 (Nat.le_trans ha (Nat.le_of_lt SA6.lt)) (by rintro x rfl; exact hb)
    have hB7 := hB6.fr G7 (Ne.symm hpa.2)
    clear hB6 SA6 SB6 F6 G7
    refine wpAnyN_pure 8 31 (v := ?_) rfl rfl (by kernel_rfl) (by kernel_rfl) (by kernel_rfl) (fun _ _ _ h => h) (by go_simp) (fun w => ?_) ?_
    rotate_left
    · go_simp
      try with_reducible rfl
    refine wpAnyN_pureG 9 32 (v := ?_) rfl rfl (by kernel_rfl) (by kernel_rfl) (by kernel_rfl) (fun _ _ _ h => h) rfl (fun w => ?_) ?_
    rotate_left
    · go_simp
      try with_reducible rfl
    refine wpAnyN_pureG 10 33 (v := ?_) rfl rfl (by kernel_rfl) (by kernel_rfl) (by kernel_rfl) (fun _ _ _ h => h) rfl (fun w => ?_) ?_
    rotate_left
    · go_simp
      try with_reducible rfl
    refine wpAnyN_pure 11 34 (v := ?_) rfl rfl (by kernel_rfl) (by kernel_rfl) (by kernel_rfl) (fun _ _ _ h => h) (by go_simp) (fun w => ?_) ?_
    rotate_left
    · go_simp
      try with_reducible rfl
    refine wpAnyN_pure 13 36 (v := ?_) rfl rfl (by kernel_rfl) (by kernel_rfl) (by kernel_rfl) (fun _ _ _ h => h) (by go_simp) (fun w => ?_) ?_
    rotate_left
    · go_simp
      try with_reducible rfl
    obtain ⟨s2, hs2⟩ : ∃ s2, s2 = nextS s1 true := ⟨_, rfl⟩
    have H2 := Lib.hid hs2
    clear hs2
    refine wpAnyN_callW 12 23 (some 35) [.tmp 34] [.pointer (some ⟨a, 0, none⟩)] (by kernel_rfl) rfl rfl rfl (by go_simp) (by go_simp) Tryd.call23 ?_
    refine (SA7.next (hL.below F7 (by rw [HR.out]; exact Nat.le_refl _)) (by omega) (by omega)).mono ?_
    rintro e w8 ⟨rfl, SA8, G8⟩
    refine ⟨_, rfl, fun _ h => h.fr G8 (Ne.symm hpa.1), ?_⟩
    rw [← H2.out] at SA8 ⊢
    have SB8 := SB7.fr G8 (Ne.symm hab)
    have F8 := Below.fr F7 G8 (Nat.le_trans ha (Nat.le_of_lt SA7.lt)) (by rintro x rfl; exact ha)
    have hB8 := hB7.fr G8 (Ne.symm hpa.1)
    clear hB7 SA7 SB7 F7 G8
    refine wpAnyN_callW 14 23 (some 37) [.tmp 36] [.pointer (some ⟨b, 0, none⟩)] (by kernel_rfl) rfl rfl rfl (by go_simp) (by go_simp) Tryd.call23 ?_
    refine (SB8.next (hL.below F8 (by rw [HR.out]; exact Nat.le_refl _)) (by omega) (by omega)).mono ?_
    rintro e w9 ⟨rfl, SB9, G9⟩
    refine ⟨_, rfl, fun _ h => h.fr G9 (Ne.symm hpa.2), ?_⟩
    rw [← H2.out] at SB9 ⊢
    have F9 := Below.fr F8 G9 (Nat.le_trans ha (Nat.le_of_lt SA8.lt)) (by rintro x rfl; exact hb)
    have hs2l := SA8.v
    clear hB8 SA8 SB8 F8 G9 SB9
    refine wpAnyN_pure 15 38 (v := ?_) rfl rfl (by kernel_rfl) (by kernel_rfl) (by kernel_rfl) (fun _ _ _ h => h) (by go_simp) (fun w => ?_) ?_
    rotate_left
    · go_simp
      try with_reducible rfl
    refine wpAnyN_pureG 16 39 (v := ?_) rfl rfl (by kernel_rfl) (by kernel_rfl) (by kernel_rfl) (fun _ _ _ h => h) rfl (fun w => ?_) ?_
    rotate_left
    · go_simp
      try with_reducible rfl
    refine wpAnyN_pureG 17 2 (v := ?_) rfl rfl (by kernel_rfl) (by kernel_rfl) (by kernel_rfl) (fun _ _ _ h => h) rfl (fun w => ?_) ?_
    rotate_left
    · go_simp
      try with_reducible rfl
    refine wpAnyN_done (by kernel_rfl) ?_
    simp only [Act.put, List.setIfInBounds_toArray, List.set_cons_succ, List.set_cons_zero]
    go_wp2
    go_ret
    exact ⟨rfl, by rw [← HR.out]; exact F9⟩
  · have hd : decide ((300 : Int) < (bs.length : Int)) = true := by rw [decide_eq_true_eq]; omega
    go_enter Tryd.func12, Tryd.ntmps12
    go_wp2_with fail
    refine (awake07_any w hL).mono ?_
    rintro e w1 ⟨rfl, F1⟩
    go_wp2_with fail
    refine (awake07_any w1 (hL.below F1 (Nat.le_refl _))).mono ?_
    rintro e w2 ⟨rfl, GF2⟩
    have F2 := Below.then F1 GF2
    go_wp2_with fail
    go_ret
    exact ⟨rfl, F2⟩
end Go.Proofs.YtahlllbigkgobaaDoor
