/-
  The walks of hmac.New and Next.
-/
import Derived.Test.YtahlllbigkgobaaDoorStream
import Derived.Test.YtahlllbigkgobaaDoorConcat
namespace Go.Proofs.YtahlllbigkgobaaDoor
open Go.RowKit
attribute [local irreducible] sha compress absorb mac
def turnS (s : List B × List B) (d : B) (data : List B) : List B × List B := (mac s.1 (s.2 ++ d :: data), mac (mac s.1 (s.2 ++ d :: data)) s.2)
def newS (data : List B) : List B × List B := turnS (turnS (List.replicate 32 0, List.replicate 32 1) 0 data) 1 data
theorem turnS_len (s : List B × List B) (d : B) (data : List B) : (turnS s d data).1.length = 32 ∧ (turnS s d data).2.length = 32 := ⟨mac_len _ _, mac_len _ _⟩
def ones (m : Nat) : List B := List.replicate m 1 ++ List.replicate (32 - m) 0
theorem ones_len (m : Nat) (h : m ≤ 32) : (ones m).length = 32 := by unfold ones; simp; omega
theorem ones_set (m : Nat) (h : m < 32) : (ones m).set m 1 = ones (m + 1) := by
  unfold ones
  rw [List.set_append_right _ _ (by simp), List.length_replicate, Nat.sub_self, show 32 - m = (32 - (m + 1)) + 1 by omega, List.replicate_succ, List.set_cons_zero, List.replicate_succ' (n := m), List.append_assoc]; rfl
theorem scells_set (k v : List B) (m : Bool) (j : Nat) (x : B) (hk : k.length = 32) (hj : j < v.length) : (scells k v m).setIfInBounds (32 + j) (b8 x) = scells k (v.set j x) m := by
  rw [List.setIfInBounds_toArray]
  congr 1
  rw [List.set_append_right _ _ (by simp [hk]), List.length_map, hk, Nat.add_sub_cancel_left, List.set_append_left _ _ (by simpa using hj), List.map_set]
theorem scells_get (k v : List B) (m : Bool) (j : Nat) (hk : k.length = 32) (hj : j < v.length) : (scells k v m)[32 + j]? = some (b8 (v.getD j 0)) := by
  rw [List.getElem?_toArray, List.getElem?_append_right (by rw [List.length_map]; omega), List.length_map, hk, Nat.add_sub_cancel_left, List.getElem?_append_left (by rw [List.length_map]; exact hj)]
  simp [List.getD, hj]
abbrev zeroS : Array Value := scells (List.replicate 32 0) (List.replicate 32 0) false
set_option maxRecDepth 100000 in
theorem infoS : (Tryd.prog.info? 58).bind (·.zero) = some (.agg zeroS) := by kernel_rfl
theorem run_zeroS (w : World) : (zeroValue 58).run Tryd.prog w = .ok (.agg zeroS) w := by
  have h := infoS
  cases hq : Tryd.prog.info? 58 with
  | none => rw [hq] at h; cases h
  | some i =>
    rw [hq] at h
    have h : i.zero = some (.agg zeroS) := h
    simp [zeroValue, typeInfo, hq, h]
set_option maxRecDepth 100000 in
set_option maxHeartbeats 4000000 in
theorem new_any (w : World) (hL : Laid w) (ap : Option Addr) (cpp : Nat) (L : List (Option Addr × Nat × List B)) (hP : Parts w ap L) (hl : (cat L).length ≤ 1000000) (hll : L.length ≤ 9223372036854775807) :
    Calls Tryd.prog 21 #[.slice ap L.length cpp] w fun e w' => e = .returned (.pointer (some ⟨w.heap.size, 0, none⟩)) ∧ Blk w' w.heap.size 58 (scells (newS (cat L)).1 (newS (cat L)).2 false) ∧ Below w.heap.size w w' := by
  go_enter Tryd.func21, Tryd.ntmps21
  have hzs := run_zeroS
  go_upto_region 2 with (fail)
  obtain ⟨zs, hz⟩ : ∃ zs, zs = zeroS := ⟨_, rfl⟩
  rw [← hz]
  change Code.wp _ _ _ _ (w.alloc (.cells zs 58))
  obtain ⟨r, hr⟩ : ∃ r, r = w.heap.size := ⟨_, rfl⟩
  obtain ⟨w1, hw1⟩ : ∃ w1, w1 = w.alloc (.cells zs 58) := ⟨_, rfl⟩
  have hB1 : Blk w1 r 58 (scells (List.replicate 32 0) (ones 0) false) := by rw [hw1, hr, hz]; exact Blk.new w _ _
  have F1 : Below r w w1 := by rw [hw1, hr]; exact below_alloc1 _ _
  have hLt := hL.lt
  rw [← hr] at hLt
  rw [← hw1, ← hr]
  have HR := Lib.hid hr
  clear hr hw1 hz hzs
  go_wp2
  go_loopg [4, 8] 32 (fun k _ i wr => ∃ (m : Nat), i = .int .i64 m ∧ m + k = 32 ∧ Blk wr r 58 (scells (List.replicate 32 0) (ones m) false) ∧ Below r w wr)
  case atStart => exact ⟨0, rfl, rfl, hB1, F1⟩
  case round =>
    clear hB1 F1
    obtain ⟨m, rfl, hm, hB, F⟩ := hrel
    by_cases hq : m < 32
    · have hd : decide ((m : Int) < 32) = true := by rw [decide_eq_true_eq]; omega
      have c0 := (hB.cell (32 + m)).trans (scells_get _ _ _ m (by simp) (by rw [ones_len _ (by omega)]; exact hq))
      have f0 := hB.free (32 + m)
      have hset := scells_set (List.replicate 32 0) (ones m) false m 1 (by simp) (by rw [ones_len _ (by omega)]; exact hq)
      rw [ones_set m hq] at hset
      obtain ⟨u, hu⟩ : ∃ u, u = (ones m).getD m 0 := ⟨_, rfl⟩
      rw [← hu] at c0
      have HU := Lib.hid (And.intro hset (show gk - 1 < gk ∧ m + 1 + (gk - 1) = 32 by omega))
      clear hu hm hset
      go_wp2
      go_roundg (gk - 1)
      case measure => exact HU.out.2.1
      case rel =>
        refine ⟨m + 1, by go_num, HU.out.2.2, ?_, F.setCell (Nat.le_refl _) _⟩
        rw [← HU.out.1]; exact hB.set (32 + m) _
    · have hd : decide ((m : Int) < 32) = false := by rw [decide_eq_false_iff_not]; omega
      obtain rfl : m = 32 := by omega
      clear hq hm
      go_wp2_with fail
      refine (concat_any ap cpp L wr (hP.below F (by rw [HR.out]; exact Nat.le_refl _)) (by omega) hll).mono ?_
      rintro e w2 ⟨v2, rfl, O2⟩
      have hB2 := hB.below O2.bel hB.lt
      have F2 := F.trans (O2.bel.mono (Nat.le_of_lt hB.lt))
      have ho := O2.own
      have hrl := hB.lt
      obtain ⟨a2, c2, rfl, -, -, -, hY2⟩ := O2.row.bts
      have hY3 : ∀ w', Fr (fun x => x = r) w2 w' → Bts w' a2 (cat L) := fun w' hF => hY2.kept fun b off e hlt => hF.block b hlt (by rintro rfl; have := ho b (by rw [e]; rfl); omega)
      clear O2 hB F ho
      obtain ⟨data, hdata⟩ : ∃ data, data = cat L := ⟨_, rfl⟩
      rw [← hdata] at hY2 hY3 hl ⊢
      have HD := Lib.hid hdata
      clear hdata
      obtain ⟨k0, hk0⟩ : ∃ k0 : List B, k0 = List.replicate 32 0 := ⟨_, rfl⟩
      obtain ⟨v0, hv0⟩ : ∃ v0, v0 = ones 32 := ⟨_, rfl⟩
      have hkl : k0.length = 32 := by rw [hk0]; simp
      have hvl : v0.length = 32 := by rw [hv0]; exact ones_len _ (by omega)
      have hnew : newS data = turnS (turnS (k0, v0) 0 data) 1 data := by
        have : v0 = List.replicate 32 1 := by rw [hv0]; simp [ones]
        rw [hk0, this]; rfl
      rw [← hk0, ← hv0] at hB2
      have h3 := turnS_len (k0, v0) 0 data
      obtain ⟨s1, hs1⟩ : ∃ s1, s1 = turnS (k0, v0) 0 data := ⟨_, rfl⟩
      have hS1 : s1 = (mac k0 (v0 ++ 0 :: data), mac (mac k0 (v0 ++ 0 :: data)) v0) := hs1
      rw [← hs1] at hnew h3
      have HN := Lib.hid hnew
      clear hk0 hv0 hnew hs1
      go_wp2_with fail
      refine (turn_any w2 (hL.below F2 (by rw [HR.out]; exact Nat.le_refl _)) r k0 v0 false hB2 hkl hvl (by omega) (by omega) 0 a2 c2 data hY2 (by omega)).mono ?_
      rintro e w3 ⟨rfl, hB3, G3⟩
      have F3 := Below.fr F2 G3 (Nat.le_of_lt hB2.lt) (by rintro x rfl; exact Nat.le_refl _)
      have hY4 := hY3 w3 G3
      obtain ⟨k1, v1⟩ := s1
      obtain ⟨e1, e2⟩ := Prod.mk.inj hS1
      rw [← e1] at e2 hB3
      rw [← e2] at hB3
      clear e1 e2 hS1 hB2 F2 hY2 hY3
      go_wp2_with fail
      refine (turn_any w3 (hL.below F3 (by rw [HR.out]; exact Nat.le_refl _)) r k1 v1 false hB3 h3.1 h3.2 (by omega) (by omega) 1 a2 c2 data hY4 (by omega)).mono ?_
      rintro e w4 ⟨rfl, hB4, G4⟩
      have F4 := Below.fr F3 G4 (Nat.le_of_lt hB3.lt) (by rintro x rfl; exact Nat.le_refl _)
      clear hB3 F3 hY4 G4 G3 h3
      go_wp2
      go_ret
      exact ⟨by rw [← HR.out]; rfl, by rw [← HD.out, HN.out, ← HR.out]; exact hB4, by rw [← HR.out]; exact F4⟩
theorem scells_m (k v : List B) (m : Bool) (hk : k.length = 32) (hv : v.length = 32) : (scells k v m)[64]? = some (.bool m) := by
  rw [List.getElem?_toArray, ← List.append_assoc, List.getElem?_append_right (by simp [hk, hv])]
  simp [hk, hv]
theorem scells_setm (k v : List B) (m n : Bool) (hk : k.length = 32) (hv : v.length = 32) : (scells k v m).setIfInBounds 64 (.bool n) = scells k v n := by
  rw [List.setIfInBounds_toArray]
  congr 1
  rw [← List.append_assoc, List.set_append_right _ _ (by simp [hk, hv]), ← List.append_assoc]
  simp [hk, hv]
/-- what comes next out of a stream, and what the stream is then -/
def nextS (s : List B × List B) (m : Bool) : List B × List B :=
  let t := if m then turnS s 0 [] else s
  (t.1, mac t.1 t.2)
set_option maxRecDepth 100000 in
set_option maxHeartbeats 4000000 in
theorem nextnil_any (w : World) : Calls Tryd.prog 23 #[.pointer none] w fun e w' => e = .returned (.agg zero32) ∧ Below w.heap.size w w' := by
  go_enter Tryd.func23, Tryd.ntmps23
  go_upto_region 2 with (fail)
  go_wp2_with (refine wpList_store_blk rfl 25 _ _ rfl (Blk.new w zero32 25) zero32 rfl rfl 32 (by kernel_rfl) rfl rfl (by decide) ?_)
  intro w2 hB2 hg2
  have F2 : Below w.heap.size w w2 := below_upd (below_alloc1 _ _) hg2 (Nat.le_refl _) (alloc_lt _ _)
  go_wp2
  exact (ret_blk rfl hB2 rfl (.array 32 5) (by kernel_rfl) rfl 32 (by kernel_rfl) rfl ⟨rfl, F2⟩).2
set_option maxRecDepth 100000 in
set_option maxHeartbeats 4000000 in
theorem next_any (w : World) (hL : Laid w) (b : Nat) (k v : List B) (m : Bool) (hB : Blk w b 58 (scells k v m)) (hk : k.length = 32) (hv : v.length = 32) (hb0 : b ≠ 0) (hb1 : b ≠ 1) :
    Calls Tryd.prog 23 #[.pointer (some ⟨b, 0, none⟩)] w fun e w' => e = .returned (hashv (nextS (k, v) m).2) ∧ Blk w' b 58 (scells (nextS (k, v) m).1 (nextS (k, v) m).2 true) ∧ Fr (fun x => x = b) w w' := by
  go_enter Tryd.func23, Tryd.ntmps23
  go_upto_region 1 with (fail)
  change Code.wp _ _ _ _ (w.alloc (.cells zero32 25))
  obtain ⟨r, hr⟩ : ∃ r, r = w.heap.size := ⟨_, rfl⟩
  obtain ⟨w1, hw1⟩ : ∃ w1, w1 = w.alloc (.cells zero32 25) := ⟨_, rfl⟩
  have hr1 : Blk w1 r 25 zero32 := by rw [hw1, hr]; exact Blk.new w zero32 25
  have F1 : Fr (fun x => x = b) w w1 := by rw [hw1]; exact (Fr.refl _ _).alloc _
  have hB1 := hB.alloc (.cells zero32 25)
  have hL1 : Laid w1 := by rw [hw1]; exact hL.below (below_alloc1 _ _) (Nat.le_refl _)
  have hbr : b ≠ r := by have := hB.lt; omega
  rw [← hw1] at hB1 ⊢
  rw [← hr]
  have HR := Lib.hid hr
  clear hr hw1 hB hL
  have c64 : w1.cell? ⟨b, 64, none⟩ = some (.bool m) := by
    rw [hB1.cell 64, List.getElem?_toArray, ← List.append_assoc, List.getElem?_append_right (by simp [hk, hv])]
    simp [hk, hv]
  go_upto_if 9 with (fail)
  obtain ⟨t, ht⟩ : ∃ t, t = if m then turnS (k, v) 0 [] else (k, v) := ⟨_, rfl⟩
  have hfin : nextS (k, v) m = (t.1, mac t.1 t.2) := by rw [ht]; rfl
  have HT := Lib.hid (And.intro ht hfin)
  clear ht hfin
  go_cut [1] from 10 (fun _ wc => Blk wc b 58 (scells t.1 t.2 m) ∧ t.1.length = 32 ∧ t.2.length = 32 ∧ Blk wc r 25 zero32 ∧ Fr (fun x => x = b) w wc ∧ Laid wc)
  case first =>
    cases m with
    | true =>
      have ht : t = turnS (k, v) 0 [] := HT.out.1
      have h3 := turnS_len (k, v) 0 []
      rw [← ht] at h3
      have h4 : mac k (v ++ 0 :: []) = t.1 ∧ mac t.1 v = t.2 := by rw [ht]; exact ⟨rfl, rfl⟩
      have H3 := Lib.hid (And.intro h3 h4)
      clear h3 h4 ht
      go_wp2_with fail
      refine (turn_any w1 hL1 b k v true hB1 hk hv hb0 hb1 0 none 0 [] (Bts.nil _ _) (by simp)).mono ?_
      rintro e w2 ⟨rfl, hB2, G2⟩
      rw [H3.out.2.1, H3.out.2.2] at hB2
      have F2 := F1.trans G2 (fun x _ h => h)
      have hr2 := hr1.fr G2 (Ne.symm hbr)
      have hL2 := hL1.fr G2 (Ne.symm hb0) (Ne.symm hb1)
      clear G2 F1 hB1 hL1 hr1 c64
      go_wp2
      go_meet
      case rel => exact ⟨hB2, H3.out.1.1, H3.out.1.2, hr2, F2, hL2⟩
    | false =>
      have ht : t = (k, v) := HT.out.1
      have H3 := Lib.hid ht
      clear ht c64
      go_wp2
      go_meet
      case rel => rw [H3.out]; exact ⟨hB1, hk, hv, hr1, F1, hL1⟩
  case rest =>
    obtain ⟨hB2, hk2, hv2, hr2, F2, hL2⟩ := hcut
    clear hB1 hL1 hr1 F1 c64
    obtain ⟨K, hK⟩ : ∃ K, K = t.1 := ⟨_, rfl⟩
    obtain ⟨u, hu⟩ : ∃ u, u = t.2 := ⟨_, rfl⟩
    have hfin := HT.out.2
    rw [← hK, ← hu] at hfin
    rw [← hK] at hk2 hB2
    rw [← hu] at hv2 hB2
    have HF := Lib.hid hfin
    clear hfin hK hu
    have c64 := (hB2.cell 64).trans (scells_m K u m hk2 hv2)
    have f64 := hB2.free 64
    have hB3 := hB2.set 64 (.bool true)
    rw [scells_setm K u m true hk2 hv2] at hB3
    have hr3 := hr2.set_other ⟨b, 64, none⟩ (by dsimp only; omega) (.bool true)
    have F3 := F2.setCell ⟨b, 64, none⟩ (.bool true) (fun _ => rfl)
    have hL3 := hL2.fr ((Fr.refl (fun x => x = b) wc).setCell ⟨b, 64, none⟩ (.bool true) (fun _ => rfl)) (Ne.symm hb0) (Ne.symm hb1)
    have H3 := Lib.hid (And.intro hB3 (And.intro hr3 (And.intro F3 hL3)))
    clear hB3 hr3 F3 hL3 hB2 hr2 F2 hL2
    go_upto_region 6 with (fail)
    obtain ⟨w3, hw3⟩ : ∃ w3, w3 = wc.setCell ⟨b, 64, none⟩ (.bool true) := ⟨_, rfl⟩
    have hq := H3.out
    rw [← hw3] at hq ⊢
    obtain ⟨hB3, hr3, F3, hL3⟩ := hq
    clear H3 c64 f64 hw3
    clear wc
    refine wp_region_N (fun _ => True) [] (by kernel_rfl) ?_
    obtain ⟨wd, hwd⟩ : ∃ wd, wd = w3.drew := ⟨_, rfl⟩
    replace hB : Blk wd b 58 (scells K u true) := by rw [hwd]; exact hB3
    replace hr3 : Blk wd r 25 zero32 := by rw [hwd]; exact hr3
    replace hL : Laid wd := by rw [hwd]; exact hL3
    have F0 : Fr (fun x => x = b) w wd := by rw [hwd]; exact Fr.drewN F3 1
    rw [← hwd]
    clear hwd hL3 F3 hB3
    clear w3
    refine wpAnyN_pureG 0 15 (v := ?_) rfl rfl (by kernel_rfl) (by kernel_rfl) (by kernel_rfl) (fun _ _ _ h => h) rfl (fun w => ?_) ?_
    rotate_left
    · go_simp
      try with_reducible rfl
    refine wpAnyN_pureG 1 16 (v := ?_) rfl rfl (by kernel_rfl) (by kernel_rfl) (by kernel_rfl) (fun _ _ _ h => h) rfl (fun w => ?_) ?_
    rotate_left
    · go_simp
      try with_reducible rfl
    refine wpAnyN_pureG 2 17 (v := ?_) rfl rfl (by kernel_rfl) (by kernel_rfl) (by kernel_rfl) (fun _ _ _ h => h) rfl (fun w => ?_) ?_
    rotate_left
    · go_simp
      try with_reducible rfl
    refine wpAnyN_pureG 3 18 (v := ?_) rfl rfl (by kernel_rfl) (by kernel_rfl) (by kernel_rfl) (fun _ _ _ h => h) rfl (fun w => ?_) ?_
    rotate_left
    · go_simp
      try with_reducible rfl
    refine wpAnyN_pureG 4 19 (v := ?_) rfl rfl (by kernel_rfl) (by kernel_rfl) (by kernel_rfl) (fun _ _ _ h => h) rfl (fun w => ?_) ?_
    rotate_left
    · go_simp
      try with_reducible rfl
    refine wpAnyN_pureG 5 20 (v := ?_) rfl rfl (by kernel_rfl) (by kernel_rfl) (by kernel_rfl) (fun _ _ _ h => h) rfl (fun w => ?_) ?_
    rotate_left
    · go_simp
      try with_reducible rfl
    refine wpAnyN_pureG 6 21 (v := ?_) rfl rfl (by kernel_rfl) (by kernel_rfl) (by kernel_rfl) (fun _ _ _ h => h) rfl (fun w => ?_) ?_
    rotate_left
    · go_simp
      try with_reducible rfl
    refine wpAnyN_pureG 7 22 (v := ?_) rfl rfl (by kernel_rfl) (by kernel_rfl) (by kernel_rfl) (fun _ _ _ h => h) rfl (fun w => ?_) ?_
    rotate_left
    · go_simp
      try with_reducible rfl
    refine wpAnyN_pureG 8 23 (v := ?_) rfl rfl (by kernel_rfl) (by kernel_rfl) (by kernel_rfl) (fun _ _ _ h => h) rfl (fun w => ?_) ?_
    rotate_left
    · go_simp
      try with_reducible rfl
    refine wpAnyN_run 9 (some 24) (v := .slice (some ⟨wd.heap.size, 0, none⟩) 1 1) (w' := wd.alloc (.cells #[.slice (some ⟨b, 32, none⟩) 32 32] 22)) (by kernel_rfl) rfl rfl rfl ?_ ⟨fun _ _ => trivial, ?_⟩
    · go_simp
    have h1 := mac_one_any (cp := 32) (cm := 32) wd hL (scells_k hB) (scells_v hB hk2) (by omega) (by omega)
    rw [hk2, hv2] at h1
    obtain ⟨V, hV⟩ : ∃ V, V = mac K u := ⟨_, rfl⟩
    have hVl : V.length = 32 := by rw [hV]; exact mac_len _ _
    rw [← hV] at h1
    have HV := Lib.hid hV
    clear hV
    refine wpAnyN_call 10 19 (some 25) [.tmp 19, .tmp 24] [.slice (some ⟨b, 0, none⟩) 32 32, .slice (some ⟨wd.heap.size, 0, none⟩) 1 1] (by kernel_rfl) rfl rfl rfl rfl (by go_simp) Tryd.call19 ?_
    refine h1.mono ?_
    rintro e wg ⟨rfl, W3⟩
    refine ⟨_, rfl, fun _ _ => trivial, ?_⟩
    have hB5 := hB.below W3 hB.lt
    have hr5 := hr3.below W3 hr3.lt
    have F4 := F0.below W3 (fun x hx hle => by have := F0.size; omega)
    clear h1 hB hL F0 W3 hr3
    refine wpAnyN_pureG 11 26 (v := ?_) rfl rfl (by kernel_rfl) (by kernel_rfl) (by kernel_rfl) (fun _ _ _ h => h) rfl (fun w => ?_) ?_
    rotate_left
    · go_simp
      try with_reducible rfl
    refine wpAnyN_pureG 12 27 (v := ?_) rfl rfl (by kernel_rfl) (by kernel_rfl) (by kernel_rfl) (fun _ _ _ h => h) rfl (fun w => ?_) ?_
    rotate_left
    · go_simp
      try with_reducible rfl
    refine wpAnyN_store_blk 13 25 (.tmp 27) (.tmp 25) (by kernel_rfl) rfl rfl rfl rfl hB5 32 (V.map b8).toArray (by go_simp) (by go_simp) 32 (by kernel_rfl) (by simp [hVl]) (by simp [hk2, hv2]) (by rw [List.toList_toArray]; exact b8_one _) (scells K V true) (scells_setv K u V true hk2 hv2) ?_
    intro wh hB6 hg4
    have hr6 := hr5.grown_ne hg4 (Ne.symm hbr)
    have F5 := F4.grown hg4 (fun x _ e => Option.some.inj e)
    refine ⟨fun _ _ => trivial, wpAnyN_done (by kernel_rfl) ?_⟩
    clear hg4 F4 hB5 hr5
    clear wg
    simp only [Act.put, List.setIfInBounds_toArray, List.set_cons_succ, List.set_cons_zero]
    have hmid : ∀ j x, (V.map b8)[j]? = some x → (scells K V true)[32 + j]? = some x := fun j x hx => by
      have hj := (List.getElem?_eq_some_iff.1 hx).1
      rw [List.length_map] at hj
      rw [scells_get K V true j hk2 hj, ← hx]; simp [List.getD, hj]
    go_wp2_with (first | (refine wpList_load_mid_blk rfl 25 _ rfl hB6 32 rfl (V.map b8) hmid (.array 32 5) (by kernel_rfl) rfl 32 (by kernel_rfl) (by simp [hVl]) ?_) | (refine wpList_store_blk rfl 25 _ _ rfl hr6 (V.map b8).toArray rfl rfl 32 (by kernel_rfl) rfl (by simp [hVl]) (by rw [List.toList_toArray]; exact b8_one _) ?_))
    intro w9 hr9 hg9
    have hB9 := hB6.grown_ne hg9 hbr
    have F9 : Fr (fun x => x = b) w w9 := F5.grown hg9 (fun x hx e => by have := Option.some.inj e; rw [HR.out] at this; omega)
    go_wp2
    refine (ret_blk rfl hr9 rfl (.array 32 5) (by kernel_rfl) rfl 32 (by kernel_rfl) (by simp [hVl]) ⟨?_, ?_, F9⟩).2
    · rw [HF.out, ← HV.out]
    · rw [HF.out, ← HV.out]; exact hB9
end Go.Proofs.YtahlllbigkgobaaDoor
