/-
  The walks of statements of layer 7: awake, HmacSums, HmacLong.
-/
import Derived.Test.YtahlllbigkgobaaDoorMacNil
import Derived.Test.YtahlllbigkgobaaDoorLSame
namespace Go.Proofs.YtahlllbigkgobaaDoor
open Go.RowKit
attribute [local irreducible] sha compress absorb
theorem mac_none_any (w : World) (hL : Laid w) : Calls Tryd.prog 19 #[.slice none 0 0, .slice none 0 0] w fun e w' => e = .returned (hashv (mac [] [])) ∧ Below w.heap.size w w' :=
  mac_any w hL none 0 [] (.inl rfl) none 0 [] (Parts.nil _ _) (by simp) (by simp) (by simp)
theorem mac_one_any {ao am : Option Addr} {cp cm : Nat} {key msg : List B} (w : World) (hL : Laid w) (hK : Bts w ao key) (hM : Bts w am msg) (hk : key.length ≤ 1000000) (hl : msg.length ≤ 1000000000) :
    Calls Tryd.prog 19 #[.slice ao key.length cp, .slice (some ⟨w.heap.size, 0, none⟩) 1 1] (w.alloc (.cells #[.slice am msg.length cm] 22)) fun e w' => e = .returned (hashv (mac key msg)) ∧ Below w.heap.size w w' := by
  have F := below_alloc1 w (.cells #[.slice am msg.length cm] 22)
  have hP : Parts (w.alloc (.cells #[.slice am msg.length cm] 22)) (some ⟨w.heap.size, 0, none⟩) [(am, cm, msg)] :=
    Parts.one rfl ((Blk.new w #[.slice am msg.length cm] 22).cell 0) (hM.below F (Nat.le_refl _))
  have hc : cat [(am, cm, msg)] = msg := by simp [cat]
  refine (mac_any _ (hL.below F (Nat.le_refl _)) ao cp key (hK.below F (Nat.le_refl _)) (some ⟨w.heap.size, 0, none⟩) 1 [(am, cm, msg)] hP hk (by rw [hc]; exact hl) (by simp)).mono ?_
  rintro e w' ⟨rfl, h⟩
  exact ⟨by rw [hc], F.trans (h.mono (by rw [alloc_size]; omega))⟩
theorem mac_one_at {ao am : Option Addr} {cp cm : Nat} {key msg : List B} {b : Nat} (w : World) (hL : Laid w) (hK : Bts w ao key) (hb : Blk w b 22 #[.slice am msg.length cm]) (hM : Bts w am msg) (hk : key.length ≤ 1000000) (hl : msg.length ≤ 1000000000) :
    Calls Tryd.prog 19 #[.slice ao key.length cp, .slice (some ⟨b, 0, none⟩) 1 1] w fun e w' => e = .returned (hashv (mac key msg)) ∧ Below w.heap.size w w' := by
  have hc : cat [(am, cm, msg)] = msg := by simp [cat]
  refine (mac_any w hL ao cp key hK (some ⟨b, 0, none⟩) 1 [(am, cm, msg)] (Parts.one rfl (hb.cell 0) hM) hk (by rw [hc]; exact hl) (by simp)).mono ?_
  rintro e w' ⟨rfl, h⟩
  exact ⟨by rw [hc], h⟩
@[go_sem] theorem len_mac (k m : List B) : (mac k m).length = 32 := mac_len k m
set_option maxRecDepth 100000 in
set_option maxHeartbeats 4000000 in
theorem awake07_any (w : World) (hL : Laid w) : Calls Tryd.prog 18 #[] w fun e w' => e = .returned (.bool true) ∧ Below w.heap.size w w' := by
  go_enter Tryd.func18, Tryd.ntmps18
  go_wp2_with fail
  refine (mac_none_any w hL).mono ?_
  rintro e w2 ⟨rfl, F2⟩
  obtain ⟨zs, hzs⟩ : ∃ zs, zs = mac [] [] := ⟨_, rfl⟩
  rw [← hzs]
  have hzl : zs.length = 32 := by rw [hzs]; exact mac_len _ _
  have hz4 : zs.take 4 = [182, 19, 103, 154] := by rw [hzs]; exact mac_nil
  have HZ := Lib.hid (And.intro hzl hz4)
  clear hzs hzl hz4
  go_wp2_with (refine wpList_store_blk rfl 25 _ _ rfl (Blk.new w2 zero32 25) (zs.map b8).toArray rfl rfl 32 (by kernel_rfl) rfl (by simp [HZ.out.1]) (by rw [List.toList_toArray]; exact b8_one _) ?_)
  intro w3 hb3 hg3
  have F3 : Below w.heap.size w w3 := below_upd (F2.alloc F2.size _) hg3 F2.size (by rw [alloc_size]; omega)
  have hx : ∀ i, i < 4 → zs[i]? = ([182, 19, 103, 154] : List B)[i]? := fun i hi => by
    rw [← HZ.out.2, List.getElem?_take_of_lt hi]
  have c0 := hb3.cell 0
  have c1 := hb3.cell 1
  have c2 := hb3.cell 2
  have c3 := hb3.cell 3
  rw [List.getElem?_toArray, List.getElem?_map, hx _ (by omega)] at c0 c1 c2 c3
  replace c0 : w3.cell? ⟨w2.heap.size, 0, none⟩ = some (.int .u8 182) := c0
  replace c1 : w3.cell? ⟨w2.heap.size, 1, none⟩ = some (.int .u8 19) := c1
  replace c2 : w3.cell? ⟨w2.heap.size, 2, none⟩ = some (.int .u8 103) := c2
  replace c3 : w3.cell? ⟨w2.heap.size, 3, none⟩ = some (.int .u8 154) := c3
  clear hx hg3 hb3 F2
  go_wp2
  go_ret
  exact ⟨rfl, F3⟩
set_option maxRecDepth 100000 in
set_option maxHeartbeats 4000000 in
theorem hsums_any (w : World) (hL : Laid w) (ao : Option Addr) (cp : Nat) (key : List B) (hK : Bts w ao key) (hc : key.length ≤ cp) (hm : cp ≤ maxLen) (am : Option Addr) (cm : Nat) (msg : List B) (hM : Bts w am msg) (hc2 : msg.length ≤ cm) (hm2 : cm ≤ maxLen) :
    Calls Tryd.prog 8 #[.slice ao key.length cp, .slice am msg.length cm] w fun e w' => e = .returned (.bool true) ∧ Below w.heap.size w w' := by
  replace hm : key.length ≤ 9223372036854775807 := Nat.le_trans hc hm
  replace hm2 : msg.length ≤ 9223372036854775807 := Nat.le_trans hc2 hm2
  by_cases hlen : key.length ≤ 500 ∧ msg.length ≤ 500
  · have hd : decide ((500 : Int) < (key.length : Int)) = false := by rw [decide_eq_false_iff_not]; omega
    have hd2 : decide ((500 : Int) < (msg.length : Int)) = false := by rw [decide_eq_false_iff_not]; omega
    go_enter Tryd.func8, Tryd.ntmps8
    go_wp2_with fail
    refine (awake07_any w hL).mono ?_
    rintro e w1 ⟨rfl, F1⟩
    go_wp2_with fail
    refine (mac_one_any w1 (hL.below F1 (Nat.le_refl _)) (hK.below F1 (Nat.le_refl _)) (hM.below F1 (Nat.le_refl _)) (by omega) (by omega)).mono ?_
    rintro e w2 ⟨rfl, GF2⟩
    have F2 := Below.then F1 GF2
    go_wp2_with fail
    refine (refmac_any w2 ao cp key (hK.below F2 (Nat.le_refl _)) am cm msg (hM.below F2 (Nat.le_refl _)) (by omega) (by omega)).mono ?_
    rintro e w3 ⟨rfl, GF3⟩
    have F3 := Below.then F2 GF3
    go_wp2_with fail
    go_ret
    exact ⟨rfl, F3⟩
  · by_cases hk : key.length ≤ 500
    · have hd : decide ((500 : Int) < (key.length : Int)) = false := by rw [decide_eq_false_iff_not]; omega
      have hd2 : decide ((500 : Int) < (msg.length : Int)) = true := by rw [decide_eq_true_eq]; omega
      go_enter Tryd.func8, Tryd.ntmps8
      go_wp2_with fail
      refine (awake07_any w hL).mono ?_
      rintro e w1 ⟨rfl, F1⟩
      go_wp2_with fail
      refine (awake07_any w1 (hL.below F1 (Nat.le_refl _))).mono ?_
      rintro e w2 ⟨rfl, GF2⟩
      have F2 := Below.then F1 GF2
      go_wp2_with fail
      go_ret
      exact ⟨rfl, F2⟩
    · have hd : decide ((500 : Int) < (key.length : Int)) = true := by rw [decide_eq_true_eq]; omega
      go_enter Tryd.func8, Tryd.ntmps8
      go_wp2_with fail
      refine (awake07_any w hL).mono ?_
      rintro e w1 ⟨rfl, F1⟩
      go_wp2_with fail
      refine (awake07_any w1 (hL.below F1 (Nat.le_refl _))).mono ?_
      rintro e w2 ⟨rfl, GF2⟩
      have F2 := Below.then F1 GF2
      go_wp2_with fail
      go_ret
      exact ⟨rfl, F2⟩
end Go.Proofs.YtahlllbigkgobaaDoor
