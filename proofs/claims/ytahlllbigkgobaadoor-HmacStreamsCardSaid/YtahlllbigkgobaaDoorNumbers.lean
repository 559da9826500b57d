/-
  The walk of the reference's Numbers (layer 7).
-/
import Derived.Test.YtahlllbigkgobaaDoorWith
import Derived.Test.YtahlllbigkgobaaDoorLHmacNil
import Derived.Test.YtahlllbigkgobaaDoorBuild
namespace Go.Proofs.YtahlllbigkgobaaDoor
open Go.RowKit
attribute [local irreducible] sha compress absorb mac newS nextS turnS
/-- what has come out of a stream after so many steps -/
def outS (data : List B) : Nat → List B × List B
  | 0 => nextS (newS data) false
  | i + 1 => nextS (outS data i) true
def outs (data : List B) (n : Nat) : List B := (List.range n).flatMap fun i => (outS data i).2
theorem outS_len (data : List B) : ∀ n, (outS data n).1.length = 32 ∧ (outS data n).2.length = 32
  | 0 => nextS_len _ _ (newS_len data).1
  | n + 1 => nextS_len _ _ (outS_len data n).1
theorem outs_succ (data : List B) (n : Nat) : outs data (n + 1) = outs data n ++ (outS data n).2 := by
  unfold outs; rw [List.range_succ, List.flatMap_append]; simp
theorem outs_len (data : List B) (n : Nat) : (outs data n).length = n * 32 := by
  induction n with
  | zero => rfl
  | succ n ih => rw [outs_succ, List.length_append, ih, (outS_len data n).2]; omega
def stS (data : List B) : Nat → List B × List B
  | 0 => (List.replicate 32 0, ones 32)
  | m + 1 => turnS (stS data m) (BitVec.ofNat 8 m) data
theorem stS_len (data : List B) : ∀ n, (stS data n).1.length = 32 ∧ (stS data n).2.length = 32
  | 0 => ⟨by simp [stS], ones_len 32 (by omega)⟩
  | n + 1 => turnS_len _ _ _
theorem stS_two (data : List B) : stS data 2 = newS data := by
  have : ones 32 = List.replicate 32 1 := by simp [ones]
  unfold newS stS stS stS; rw [this]; rfl
theorem turnS_eq (s : List B × List B) (d : B) (data : List B) : turnS s d data = (mac s.1 (s.2 ++ d :: data), mac (mac s.1 (s.2 ++ d :: data)) s.2) := by unfold turnS; rfl
/-- a step of the numbers, ahead of its last store -/
def midS (m : Nat) (t : List B × List B) : List B × List B := if 0 < m then turnS t 0 [] else t
theorem outS_mid (data : List B) (m : Nat) (t : List B × List B) (ht : t = match m with | 0 => newS data | j + 1 => outS data j) : outS data m = ((midS m t).1, mac (midS m t).1 (midS m t).2) := by
  cases m with
  | zero => subst ht; simp only [outS, midS]; unfold nextS; simp
  | succ j => subst ht; simp only [outS, midS]; unfold nextS; simp
theorem midS_len (m : Nat) (t : List B × List B) (h : t.1.length = 32 ∧ t.2.length = 32) : (midS m t).1.length = 32 ∧ (midS m t).2.length = 32 := by
  unfold midS; split
  · exact turnS_len _ _ _
  · exact h
theorem b8_nat (m : Nat) (h : m < 256) : b8 (BitVec.ofNat 8 m) = .int .u8 m := by
  unfold b8; rw [BitVec.toNat_ofNat, Nat.mod_eq_of_lt h]
theorem blk_bts {w : World} {b T : Nat} {xs : List B} (h : Blk w b T (xs.map b8).toArray) : Bts w (some ⟨b, 0, none⟩) xs := Bts.of fun j hj => by
  rw [Nat.zero_add, h.cell j]; simp [List.getD, hj]
set_option maxRecDepth 100000 in
theorem infoH : (Tryd.prog.info? 25).map (fun i => (i.zero, i.size, i.bytes)) = some (some (.agg zero32), 32, 32) := by kernel_rfl
set_option maxRecDepth 100000 in
set_option maxHeartbeats 4000000 in
theorem numbers_any (w : World) (ad : Option Addr) (cd : Nat) (data : List B) (hD : Bts w ad data) (hl : data.length ≤ 100000) (n : Nat) (hn : n ≤ 1000) :
    Calls Tryd.prog 22 #[.slice ad data.length cd, .int .i64 n] w (RetOwn w 25 32 n ((outs data n).map b8)) := by
  obtain ⟨r, hr⟩ : ∃ r, r = w.heap.size := ⟨_, rfl⟩
  obtain ⟨w1, hw1⟩ : ∃ w1, w1 = (w.alloc (.cells zero32 25)).alloc (.cells zero32 25) := ⟨_, rfl⟩
  have hK1 : Blk w1 r 25 ((List.replicate 32 (0 : B)).map b8).toArray := by rw [hw1, hr]; exact (Blk.new w _ _).alloc _
  have hV1 : Blk w1 (r + 1) 25 ((ones 0).map b8).toArray := by rw [hw1, hr]; exact Blk.new1 w _ _ _
  have F1 : Below r w w1 := by rw [hw1, hr]; exact below_alloc2 _ _ _
  have HR := Lib.hid (And.intro hw1 hr)
  clear hw1 hr
  go_enter Tryd.func22, Tryd.ntmps22
  go_upto_region 2 with (fail)
  change Code.wp _ _ _ _ ((w.alloc (.cells zero32 25)).alloc (.cells zero32 25))
  rw [← HR.out.1, ← HR.out.2]
  go_wp2
  go_loopg [7] 32 (fun k i wr => ∃ (m : Nat), i = .int .i64 m ∧ m + k = 32 ∧ Blk wr r 25 ((List.replicate 32 (0 : B)).map b8).toArray ∧ Blk wr (r + 1) 25 ((ones m).map b8).toArray ∧ Below r w wr)
  case atStart => exact ⟨0, rfl, rfl, hK1, hV1, F1⟩
  case round =>
    clear hK1 hV1 F1
    obtain ⟨m, rfl, hm, hK, hV, F⟩ := hrel
    by_cases hq : m < 32
    · have hd : decide ((m : Int) < 32) = true := by rw [decide_eq_true_eq]; omega
      have hol := ones_len m (by omega)
      have c0 : wr.cell? ⟨r + 1, m, none⟩ = some (b8 ((ones m).getD m 0)) := by rw [hV.cell m]; simp [List.getD, hol, hq]
      have f0 := hV.free m
      have hset : ((ones m).map b8).toArray.setIfInBounds m (b8 1) = ((ones (m + 1)).map b8).toArray := by
        rw [List.setIfInBounds_toArray, ← List.map_set, ones_set m hq]
      obtain ⟨u, hu⟩ : ∃ u, u = (ones m).getD m 0 := ⟨_, rfl⟩
      rw [← hu] at c0
      have HU := Lib.hid (And.intro hset (show gk - 1 < gk ∧ m + 1 + (gk - 1) = 32 by omega))
      clear hu hm hset hol
      go_wp2
      go_roundg (gk - 1)
      case measure => exact HU.out.2.1
      case rel =>
        refine ⟨m + 1, by go_num, HU.out.2.2, hK.set_other _ (by dsimp only; omega) _, ?_, F.setCell (by dsimp only; omega) _⟩
        rw [← HU.out.1]; exact hV.set m _
    · have hd : decide ((m : Int) < 32) = false := by rw [decide_eq_false_iff_not]; omega
      obtain rfl : m = 32 := by omega
      clear hq hm
      go_wp2
      go_loopg [8] 2 (fun k i wr => ∃ (m : Nat), i = .int .i64 m ∧ m + k = 2 ∧ Blk wr r 25 ((stS data m).1.map b8).toArray ∧ Blk wr (r + 1) 25 ((stS data m).2.map b8).toArray ∧ Below r w wr)
      case atStart => exact ⟨0, rfl, rfl, hK, hV, F⟩
      case round =>
        clear hK hV F
        obtain ⟨m, rfl, hm, hK, hV, F⟩ := hrel
        by_cases hq : m < 2
        · have hd : decide ((m : Int) < 2) = true := by rw [decide_eq_true_eq]; omega
          have hsl := stS_len data m
          have hq8 : IntKind.u8.wrap (m : Int) = (m : Int) := by rw [IntKind.wrap_u8]; omega
          have hb8 := b8_nat m (by omega)
          obtain ⟨s, hs⟩ : ∃ s, s = stS data m := ⟨_, rfl⟩
          have hs' : stS data (m + 1) = turnS s (BitVec.ofNat 8 m) data := by rw [hs]; rfl
          rw [← hs] at hsl hK hV
          obtain ⟨d, hdd⟩ : ∃ d, d = BitVec.ofNat 8 m := ⟨_, rfl⟩
          rw [← hdd] at hs' hb8
          rw [turnS_eq] at hs'
          obtain ⟨ms, hms⟩ : ∃ ms, ms = s.2 ++ d :: data := ⟨_, rfl⟩
          have hmsl : ms.length ≤ 1000000 := by rw [hms, List.length_append, List.length_cons, hsl.2]; omega
          rw [← hms] at hs'
          have HU := Lib.hid (And.intro hs' (And.intro hms (show gk - 1 < gk ∧ m + 1 + (gk - 1) = 2 by omega)))
          have HS := Lib.hid (And.intro hsl hmsl)
          have HB := Lib.hid (And.intro hq8 hb8)
          clear hs' hms hm hs hdd hsl hmsl hq8 hb8
          obtain ⟨kk, vv⟩ := s
          go_upto_region 9 with (fail)
          refine wp_region_N (fun w => Blk w (r + 1) 25 (vv.map b8).toArray) [] (by kernel_rfl) ?_
          obtain ⟨wd, hwd⟩ : ∃ wd, wd = wr.drew := ⟨_, rfl⟩
          replace hK : Blk wd r 25 (kk.map b8).toArray := by rw [hwd]; exact hK
          replace hV : Blk wd (r + 1) 25 (vv.map b8).toArray := by rw [hwd]; exact hV
          replace F : Below r w wd := by rw [hwd]; exact F.drew
          rw [← hwd]
          clear hwd
          clear wr
          have hkl : kk.length = 32 := HS.out.1.1
          have hvl : vv.length = 32 := HS.out.1.2
          refine wpAnyN_pureG 0 21 (v := ?_) rfl rfl (by kernel_rfl) (by kernel_rfl) (by kernel_rfl) (fun _ _ _ h => h) rfl (fun w => ?_) ?_
          rotate_left
          · go_simp
            try with_reducible rfl
          refine wpAnyN_takeG 1 22 (v := hashv vv) rfl rfl (by kernel_rfl) (by kernel_rfl) (by kernel_rfl) (by kernel_rfl) (fun _ _ _ h => h) hV rfl (fun w hS => ?_) ?_
          · exact run_load_mid_blk 25 _ rfl hS 0 rfl (vv.map b8) (fun j v h => by rw [Nat.zero_add, List.getElem?_toArray]; exact h) (.array 32 5) (by kernel_rfl) rfl 32 (by kernel_rfl) (by simp [hvl])
          refine wpAnyN_pureG 2 23 (v := ?_) rfl rfl (by kernel_rfl) (by kernel_rfl) (by kernel_rfl) (fun _ _ _ h => h) rfl (fun w => ?_) ?_
          rotate_left
          · go_simp
            try with_reducible rfl
          refine wpAnyN_pureG 3 24 (v := b8 d) rfl rfl (by kernel_rfl) (by kernel_rfl) (by kernel_rfl) (fun _ _ _ h => h) rfl (fun w => ?_) ?_
          · rw [HB.out.2]; have hq8 := HB.out.1; go_simp
          refine wpAnyN_pureG 4 25 (v := ?_) rfl rfl (by kernel_rfl) (by kernel_rfl) (by kernel_rfl) (fun _ _ _ h => h) rfl (fun w => ?_) ?_
          rotate_left
          · go_simp
            try with_reducible rfl
          refine wpAnyN_call 5 31 (some 26) [.tmp 22, .tmp 24, .tmp 25] [hashv vv, b8 d, .slice ad data.length cd] (by kernel_rfl) rfl rfl rfl rfl (by go_simp) Tryd.call31 ?_
          have h1 := with_any wd vv hvl d ad cd data (hD.below F (by rw [HR.out.2]; exact Nat.le_refl _)) (by omega)
          rw [show vv ++ d :: data = ms from HU.out.2.1.symm] at h1
          refine h1.mono ?_
          rintro e w2 ⟨v2, rfl, O2⟩
          have hK2 := hK.below O2.bel hK.lt
          have hV2 := hV.below O2.bel hV.lt
          have hrs := Nat.le_of_lt hK.lt
          have F2 := F.trans (O2.bel.mono hrs)
          obtain ⟨a2, c2, rfl, -, -, -, hY2⟩ := O2.row.bts
          refine ⟨_, rfl, fun _ h => h.below O2.bel h.lt, ?_⟩
          clear O2 h1 hK hV F hrs
          have h2 := refmac_any w2 (some ⟨r, 0, none⟩) 32 kk (blk_bts hK2) a2 c2 ms hY2 (by omega) (by have := HS.out.2; omega)
          rw [hkl] at h2
          refine wpAnyN_call 6 20 (some 27) [.tmp 21, .tmp 26] [.slice (some ⟨r, 0, none⟩) 32 32, .slice a2 ms.length c2] (by kernel_rfl) rfl rfl rfl rfl (by go_simp) Tryd.call20 ?_
          obtain ⟨K, hKK⟩ : ∃ K, K = mac kk ms := ⟨_, rfl⟩
          have hKl : K.length = 32 := by rw [hKK]; exact mac_len _ _
          rw [← hKK] at h2
          have HK := Lib.hid hKK
          clear hKK
          refine h2.mono ?_
          rintro e w3 ⟨rfl, G3⟩
          have hK3 := hK2.below G3 hK2.lt
          have hV3 := hV2.below G3 hV2.lt
          have F3 := F2.trans (G3.mono (Nat.le_of_lt hK2.lt))
          refine ⟨_, rfl, fun _ h => h.below G3 h.lt, ?_⟩
          clear h2 hK2 hV2 F2 G3 hY2
          refine wpAnyN_store_blk 7 25 (.tmp 5) (.tmp 27) (by kernel_rfl) rfl rfl rfl rfl hK3 0 (K.map b8).toArray (by go_simp) (by go_simp) 32 (by kernel_rfl) (by simp [hKl]) (by simp [hkl]) (by rw [List.toList_toArray]; exact b8_one _) (K.map b8).toArray (by simp [hkl]) ?_
          intro w4 hK4 hg4
          have hV4 := hV3.grown_ne hg4 (by omega)
          have F4 := below_upd F3 hg4 (Nat.le_refl _) hK3.lt
          refine ⟨fun _ h => h.grown_ne hg4 (by omega), wpAnyN_done (by kernel_rfl) ?_⟩
          clear hg4 F3 hV3 hK3
          simp only [Act.put, List.setIfInBounds_toArray, List.set_cons_succ, List.set_cons_zero]
          go_upto_region 10 with (fail)
          refine wp_region_N (fun _ => True) [] (by kernel_rfl) ?_
          obtain ⟨w5, hw5⟩ : ∃ w5, w5 = w4.drew := ⟨_, rfl⟩
          replace hK4 : Blk w5 r 25 (K.map b8).toArray := by rw [hw5]; exact hK4
          replace hV4 : Blk w5 (r + 1) 25 (vv.map b8).toArray := by rw [hw5]; exact hV4
          replace F4 : Below r w w5 := by rw [hw5]; exact F4.drew
          rw [← hw5]
          clear hw5
          clear w4 w3
          refine wpAnyN_pureG 0 28 (v := ?_) rfl rfl (by kernel_rfl) (by kernel_rfl) (by kernel_rfl) (fun _ _ _ h => h) rfl (fun w => ?_) ?_
          rotate_left
          · go_simp
            try with_reducible rfl
          refine wpAnyN_pureG 1 29 (v := ?_) rfl rfl (by kernel_rfl) (by kernel_rfl) (by kernel_rfl) (fun _ _ _ h => h) rfl (fun w => ?_) ?_
          rotate_left
          · go_simp
            try with_reducible rfl
          have h3 := refmac_any w5 (some ⟨r, 0, none⟩) 32 K (blk_bts hK4) (some ⟨r + 1, 0, none⟩) 32 vv (blk_bts hV4) (by omega) (by omega)
          rw [hKl, hvl] at h3
          obtain ⟨V, hVV⟩ : ∃ V, V = mac K vv := ⟨_, rfl⟩
          have hVl : V.length = 32 := by rw [hVV]; exact mac_len _ _
          rw [← hVV] at h3
          have HV := Lib.hid hVV
          clear hVV
          refine wpAnyN_call 2 20 (some 30) [.tmp 28, .tmp 29] [.slice (some ⟨r, 0, none⟩) 32 32, .slice (some ⟨r + 1, 0, none⟩) 32 32] (by kernel_rfl) rfl rfl rfl rfl (by go_simp) Tryd.call20 ?_
          refine h3.mono ?_
          rintro e w6 ⟨rfl, G6⟩
          have hK6 := hK4.below G6 hK4.lt
          have hV6 := hV4.below G6 hV4.lt
          have F6 := F4.trans (G6.mono (Nat.le_of_lt hK4.lt))
          refine ⟨_, rfl, fun _ _ => trivial, ?_⟩
          clear h3 hK4 hV4 F4 G6
          refine wpAnyN_store_blk 3 25 (.tmp 6) (.tmp 30) (by kernel_rfl) rfl rfl rfl rfl hV6 0 (V.map b8).toArray (by go_simp) (by go_simp) 32 (by kernel_rfl) (by simp [hVl]) (by simp [hvl]) (by rw [List.toList_toArray]; exact b8_one _) (V.map b8).toArray (by simp [hvl]) ?_
          intro w7 hV7 hg7
          have hK7 := hK6.grown_ne hg7 (by omega)
          have F7 := below_upd F6 hg7 (by omega) hV6.lt
          refine ⟨fun _ _ => trivial, wpAnyN_done (by kernel_rfl) ?_⟩
          clear hg7 F6 hV6 hK6
          simp only [Act.put, List.setIfInBounds_toArray, List.set_cons_succ, List.set_cons_zero]
          go_wp2
          go_roundg (gk - 1)
          case measure => exact HU.out.2.2.1
          case rel =>
            have e1 : stS data (m + 1) = (K, V) := by
              rw [HU.out.1]
              show (mac kk ms, mac (mac kk ms) vv) = (K, V)
              rw [← HK.out, ← HV.out]
            exact ⟨m + 1, by go_num, HU.out.2.2.2, by rw [e1]; exact hK7, by rw [e1]; exact hV7, F7⟩
        · have hd : decide ((m : Int) < 2) = false := by rw [decide_eq_false_iff_not]; omega
          obtain rfl : m = 2 := by omega
          rw [stS_two] at hK hV
          clear hq hm
          go_wp2
          go_loopg [9, 10] n (fun k x i wr => ∃ (m : Nat) (a9 : Option Addr) (c9 : Nat) (t : List B × List B), i = .int .i64 m ∧ x = .slice a9 m c9 ∧ m + k = n ∧ (t = match m with | 0 => newS data | j + 1 => outS data j) ∧ Blk wr r 25 (t.1.map b8).toArray ∧ Blk wr (r + 1) 25 (t.2.map b8).toArray ∧ Below r w wr ∧ Row wr x 25 32 m ((outs data m).map b8) ∧ (∀ g, x.ownBlock = some g → r + 2 ≤ g))
          case atStart => exact ⟨0, none, 0, newS data, rfl, rfl, by omega, rfl, hK, hV, F, Row.nil _ _ _, fun _ e => by cases e⟩
          case round =>
            clear hK hV F
            obtain ⟨m, a9, c9, t, rfl, rfl, hm, ht, hK, hV, F, hR, hO⟩ := hrel
            obtain ⟨v9, hv9⟩ : ∃ v9, v9 = Value.slice a9 m c9 := ⟨_, rfl⟩
            by_cases hq : m < n
            · have hd : decide ((m : Int) < (n : Int)) = true := by rw [decide_eq_true_eq]; omega
              have htl : t.1.length = 32 ∧ t.2.length = 32 := by
                rw [ht]; cases m with
                | zero => exact newS_len data
                | succ j => exact outS_len data j
              obtain ⟨u, hu⟩ : ∃ u, u = midS m t := ⟨_, rfl⟩
              have hul : u.1.length = 32 ∧ u.2.length = 32 := by rw [hu]; exact midS_len m t htl
              have hout : outS data m = (u.1, mac u.1 u.2) := by rw [hu]; exact outS_mid data m t ht
              rw [← hv9] at hR hO
              have HO := Lib.hid hO
              have HU := Lib.hid (And.intro hu (And.intro hul (And.intro hout (And.intro htl (show gk - 1 < gk ∧ m + 1 + (gk - 1) = n by omega)))))
              have HV9 := Lib.hid hv9
              clear hu hul hout ht htl hm hO hv9
              go_upto_if 37 with (fail)
              obtain ⟨q37, hq37⟩ : ∃ q37, q37 = decide (0 < m) := ⟨_, rfl⟩
              rw [← hq37]
              have HQ := Lib.hid hq37
              clear hq37
              go_cut [2] from 38 to 51 (fun v2 wc => v2 = undef ∧ Blk wc r 25 (u.1.map b8).toArray ∧ Blk wc (r + 1) 25 (u.2.map b8).toArray ∧ Below r w wc ∧ Row wc v9 25 32 m ((outs data m).map b8))
              case first =>
                cases q37 with
                | true =>
                  have h0 : 0 < m := of_decide_eq_true HQ.out.symm
                  obtain ⟨kk, vv⟩ := t
                  have hut : u = turnS (kk, vv) 0 [] := by rw [HU.out.1]; unfold midS; rw [if_pos h0]
                  rw [turnS_eq] at hut
                  have hkl : kk.length = 32 := HU.out.2.2.2.1.1
                  have hvl : vv.length = 32 := HU.out.2.2.2.1.2
                  obtain ⟨ms, hms⟩ : ∃ ms, ms = vv ++ (0 : B) :: [] := ⟨_, rfl⟩
                  have hmsl : ms.length = 33 := by rw [hms]; simp [hvl]
                  have hut2 : u = (mac kk ms, mac (mac kk ms) vv) := by rw [hms]; exact hut
                  have HT := Lib.hid (And.intro hut2 hms)
                  clear hut hut2 hms h0 hd
                  go_upto_region 16 with (fail)
                  refine wp_region_N (fun w => Blk w (r + 1) 25 (vv.map b8).toArray) [] (by kernel_rfl) ?_
                  obtain ⟨wd, hwd⟩ : ∃ wd, wd = wr.drew := ⟨_, rfl⟩
                  replace hK : Blk wd r 25 (kk.map b8).toArray := by rw [hwd]; exact hK
                  replace hV : Blk wd (r + 1) 25 (vv.map b8).toArray := by rw [hwd]; exact hV
                  replace F : Below r w wd := by rw [hwd]; exact F.drew
                  replace hR : Row wd v9 25 32 m ((outs data m).map b8) := by rw [hwd]; exact hR
                  rw [← hwd]
                  clear hwd
                  clear wr
                  refine wpAnyN_pureG 0 38 (v := ?_) rfl rfl (by kernel_rfl) (by kernel_rfl) (by kernel_rfl) (fun _ _ _ h => h) rfl (fun w => ?_) ?_
                  rotate_left
                  · go_simp
                    try with_reducible rfl
                  refine wpAnyN_takeG 1 39 (v := hashv vv) rfl rfl (by kernel_rfl) (by kernel_rfl) (by kernel_rfl) (by kernel_rfl) (fun _ _ _ h => h) hV rfl (fun w hS => ?_) ?_
                  · exact run_load_mid_blk 25 _ rfl hS 0 rfl (vv.map b8) (fun j v h => by rw [Nat.zero_add, List.getElem?_toArray]; exact h) (.array 32 5) (by kernel_rfl) rfl 32 (by kernel_rfl) (by simp [hvl])
                  refine wpAnyN_call 2 31 (some 40) [.tmp 39, .const (.int .u8 0), .const (.slice none 0 0)] [hashv vv, b8 0, .slice none 0 0] (by kernel_rfl) rfl rfl rfl rfl (by go_simp; rfl) Tryd.call31 ?_
                  have h1 := with_any wd vv hvl 0 none 0 [] (Bts.nil _ _) (by simp)
                  rw [show vv ++ (0 : B) :: [] = ms from HT.out.2.symm] at h1
                  refine h1.mono ?_
                  rintro e w2 ⟨v2, rfl, O2⟩
                  have hK2 := hK.below O2.bel hK.lt
                  have hV2 := hV.below O2.bel hV.lt
                  have hR2 := hR.below O2.bel (fun g e => hR.lt g e)
                  have hrs := Nat.le_of_lt hK.lt
                  have F2 := F.trans (O2.bel.mono hrs)
                  obtain ⟨a2, c2, rfl, -, -, -, hY2⟩ := O2.row.bts
                  refine ⟨_, rfl, fun _ h => h.below O2.bel h.lt, ?_⟩
                  clear O2 h1 hK hV F hrs hR
                  have h2 := refmac_any w2 (some ⟨r, 0, none⟩) 32 kk (blk_bts hK2) a2 c2 ms hY2 (by omega) (by omega)
                  rw [hkl] at h2
                  refine wpAnyN_call 3 20 (some 41) [.tmp 38, .tmp 40] [.slice (some ⟨r, 0, none⟩) 32 32, .slice a2 ms.length c2] (by kernel_rfl) rfl rfl rfl rfl (by go_simp) Tryd.call20 ?_
                  obtain ⟨K, hKK⟩ : ∃ K, K = mac kk ms := ⟨_, rfl⟩
                  have hKl : K.length = 32 := by rw [hKK]; exact mac_len _ _
                  rw [← hKK] at h2
                  have HK := Lib.hid hKK
                  clear hKK
                  refine h2.mono ?_
                  rintro e w3 ⟨rfl, G3⟩
                  have hK3 := hK2.below G3 hK2.lt
                  have hV3 := hV2.below G3 hV2.lt
                  have hR3 := hR2.below G3 (fun g e => hR2.lt g e)
                  have F3 := F2.trans (G3.mono (Nat.le_of_lt hK2.lt))
                  refine ⟨_, rfl, fun _ h => h.below G3 h.lt, ?_⟩
                  clear h2 hK2 hV2 F2 G3 hY2 hR2
                  refine wpAnyN_store_blk 4 25 (.tmp 5) (.tmp 41) (by kernel_rfl) rfl rfl rfl rfl hK3 0 (K.map b8).toArray (by go_simp) (by go_simp) 32 (by kernel_rfl) (by simp [hKl]) (by simp [hkl]) (by rw [List.toList_toArray]; exact b8_one _) (K.map b8).toArray (by simp [hkl]) ?_
                  intro wx hKx hg4
                  have hVx := hV3.grown_ne hg4 (by omega)
                  have hRx := hR3.grown hg4 (fun g e e' => by have := HO.out g e; have := Option.some.inj e'; omega)
                  have Fx := below_upd F3 hg4 (Nat.le_refl _) hK3.lt
                  refine ⟨fun _ h => h.grown_ne hg4 (by omega), wpAnyN_done (by kernel_rfl) ?_⟩
                  clear hg4 F3 hV3 hK3 hR3
                  simp only [Act.put, List.setIfInBounds_toArray, List.set_cons_succ, List.set_cons_zero]
                  go_upto_region 17 with (fail)
                  refine wp_region_N (fun _ => True) [] (by kernel_rfl) ?_
                  obtain ⟨w5, hw5⟩ : ∃ w5, w5 = wx.drew := ⟨_, rfl⟩
                  replace hKx : Blk w5 r 25 (K.map b8).toArray := by rw [hw5]; exact hKx
                  replace hVx : Blk w5 (r + 1) 25 (vv.map b8).toArray := by rw [hw5]; exact hVx
                  replace Fx : Below r w w5 := by rw [hw5]; exact Fx.drew
                  replace hRx : Row w5 v9 25 32 m ((outs data m).map b8) := by rw [hw5]; exact hRx
                  rw [← hw5]
                  clear hw5
                  clear wx
                  refine wpAnyN_pureG 0 42 (v := ?_) rfl rfl (by kernel_rfl) (by kernel_rfl) (by kernel_rfl) (fun _ _ _ h => h) rfl (fun w => ?_) ?_
                  rotate_left
                  · go_simp
                    try with_reducible rfl
                  refine wpAnyN_pureG 1 43 (v := ?_) rfl rfl (by kernel_rfl) (by kernel_rfl) (by kernel_rfl) (fun _ _ _ h => h) rfl (fun w => ?_) ?_
                  rotate_left
                  · go_simp
                    try with_reducible rfl
                  have h3 := refmac_any w5 (some ⟨r, 0, none⟩) 32 K (blk_bts hKx) (some ⟨r + 1, 0, none⟩) 32 vv (blk_bts hVx) (by omega) (by omega)
                  rw [hKl, hvl] at h3
                  obtain ⟨V, hVV⟩ : ∃ V, V = mac K vv := ⟨_, rfl⟩
                  have hVl : V.length = 32 := by rw [hVV]; exact mac_len _ _
                  rw [← hVV] at h3
                  have HV := Lib.hid hVV
                  clear hVV
                  refine wpAnyN_call 2 20 (some 44) [.tmp 42, .tmp 43] [.slice (some ⟨r, 0, none⟩) 32 32, .slice (some ⟨r + 1, 0, none⟩) 32 32] (by kernel_rfl) rfl rfl rfl rfl (by go_simp) Tryd.call20 ?_
                  refine h3.mono ?_
                  rintro e w6 ⟨rfl, G6⟩
                  have hK6 := hKx.below G6 hKx.lt
                  have hV6 := hVx.below G6 hVx.lt
                  have hR6 := hRx.below G6 (fun g e => hRx.lt g e)
                  have F6 := Fx.trans (G6.mono (Nat.le_of_lt hKx.lt))
                  refine ⟨_, rfl, fun _ _ => trivial, ?_⟩
                  clear h3 hKx hVx Fx G6 hRx
                  refine wpAnyN_store_blk 3 25 (.tmp 6) (.tmp 44) (by kernel_rfl) rfl rfl rfl rfl hV6 0 (V.map b8).toArray (by go_simp) (by go_simp) 32 (by kernel_rfl) (by simp [hVl]) (by simp [hvl]) (by rw [List.toList_toArray]; exact b8_one _) (V.map b8).toArray (by simp [hvl]) ?_
                  intro wy hVy hg7
                  have hKy := hK6.grown_ne hg7 (by omega)
                  have hRy := hR6.grown hg7 (fun g e e' => by have := HO.out g e; have := Option.some.inj e'; omega)
                  have Fy := below_upd F6 hg7 (by omega) hV6.lt
                  refine ⟨fun _ _ => trivial, wpAnyN_done (by kernel_rfl) ?_⟩
                  clear hg7 F6 hV6 hK6 hR6
                  simp only [Act.put, List.setIfInBounds_toArray, List.set_cons_succ, List.set_cons_zero]
                  go_wp2
                  go_meet
                  case rel =>
                    have e1 : u = (K, V) := by
                      rw [HT.out.1, ← HK.out, ← HV.out]
                    rw [e1]; exact ⟨rfl, hKy, hVy, Fy, hRy⟩
                | false =>
                  have h0 : ¬ 0 < m := of_decide_eq_false HQ.out.symm
                  have hut : u = t := by rw [HU.out.1]; unfold midS; rw [if_neg h0]
                  have HT := Lib.hid hut
                  clear hut hd h0
                  go_wp2
                  go_meet
                  case rel => rw [HT.out]; exact ⟨rfl, hK, hV, F, hR⟩
              case rest =>
                obtain ⟨rfl, hKx, hVx, Fx, hRx⟩ := hcut
                clear hK hV F hR hd
                obtain ⟨K, vv⟩ := u
                have hKl : K.length = 32 := HU.out.2.1.1
                have hvl : vv.length = 32 := HU.out.2.1.2
                obtain ⟨wx, hwx⟩ : ∃ wx, wx = wc := ⟨_, rfl⟩
                rw [← hwx] at hKx hVx Fx hRx ⊢
                clear hwx
                clear wc
                go_upto_region 18 with (fail)
                refine wp_region_N (fun _ => True) [] (by kernel_rfl) ?_
                obtain ⟨w5, hw5⟩ : ∃ w5, w5 = wx.drew := ⟨_, rfl⟩
                replace hKx : Blk w5 r 25 (K.map b8).toArray := by rw [hw5]; exact hKx
                replace hVx : Blk w5 (r + 1) 25 (vv.map b8).toArray := by rw [hw5]; exact hVx
                replace Fx : Below r w w5 := by rw [hw5]; exact Fx.drew
                replace hRx : Row w5 v9 25 32 m ((outs data m).map b8) := by rw [hw5]; exact hRx
                rw [← hw5]
                clear hw5
                clear wx
                refine wpAnyN_pureG 0 45 (v := ?_) rfl rfl (by kernel_rfl) (by kernel_rfl) (by kernel_rfl) (fun _ _ _ h => h) rfl (fun w => ?_) ?_
                rotate_left
                · go_simp
                  try with_reducible rfl
                refine wpAnyN_pureG 1 46 (v := ?_) rfl rfl (by kernel_rfl) (by kernel_rfl) (by kernel_rfl) (fun _ _ _ h => h) rfl (fun w => ?_) ?_
                rotate_left
                · go_simp
                  try with_reducible rfl
                have h3 := refmac_any w5 (some ⟨r, 0, none⟩) 32 K (blk_bts hKx) (some ⟨r + 1, 0, none⟩) 32 vv (blk_bts hVx) (by omega) (by omega)
                rw [hKl, hvl] at h3
                obtain ⟨V, hVV⟩ : ∃ V, V = mac K vv := ⟨_, rfl⟩
                have hVl : V.length = 32 := by rw [hVV]; exact mac_len _ _
                rw [← hVV] at h3
                have HV := Lib.hid hVV
                clear hVV
                refine wpAnyN_call 2 20 (some 47) [.tmp 45, .tmp 46] [.slice (some ⟨r, 0, none⟩) 32 32, .slice (some ⟨r + 1, 0, none⟩) 32 32] (by kernel_rfl) rfl rfl rfl rfl (by go_simp) Tryd.call20 ?_
                refine h3.mono ?_
                rintro e w6 ⟨rfl, G6⟩
                have hK6 := hKx.below G6 hKx.lt
                have hV6 := hVx.below G6 hVx.lt
                have hR6 := hRx.below G6 (fun g e => hRx.lt g e)
                have F6 := Fx.trans (G6.mono (Nat.le_of_lt hKx.lt))
                refine ⟨_, rfl, fun _ _ => trivial, ?_⟩
                clear h3 hKx hVx Fx G6 hRx
                refine wpAnyN_store_blk 3 25 (.tmp 6) (.tmp 47) (by kernel_rfl) rfl rfl rfl rfl hV6 0 (V.map b8).toArray (by go_simp) (by go_simp) 32 (by kernel_rfl) (by simp [hVl]) (by simp [hvl]) (by rw [List.toList_toArray]; exact b8_one _) (V.map b8).toArray (by simp [hvl]) ?_
                intro wy hVy hg7
                have hKy := hK6.grown_ne hg7 (by omega)
                have hRy := hR6.grown hg7 (fun g e e' => by have := HO.out g e; have := Option.some.inj e'; omega)
                have Fy := below_upd F6 hg7 (by omega) hV6.lt
                refine ⟨fun _ _ => trivial, wpAnyN_done (by kernel_rfl) ?_⟩
                clear hg7 F6 hV6 hK6 hR6
                simp only [Act.put, List.setIfInBounds_toArray, List.set_cons_succ, List.set_cons_zero]
                obtain ⟨i0, hi, hz0, hz1, hz2⟩ := info_parts infoH
                rw [HV9.out] at hRy
                have hsrc : Src Tryd.prog 32 48 (.slice (some ⟨wy.heap.size, 0, none⟩) 1 1) 1 (V.map b8) (wy.alloc (.cells (V.map b8).toArray 25)) :=
                  Src.ofSlice _ (e' := 25) (by kernel_rfl) ⟨wy.heap.size, 0, none⟩ 1 1 (V.map b8) (by simp [hVl]) (fun j x hx => by
                    rw [Addr.add_lit, Nat.zero_add, (Blk.new wy (V.map b8).toArray 25).cell j]; simpa using hx) (b8_one _)
                have HRow := Lib.hid (hRy.alloc (.cells (V.map b8).toArray 25))
                have HSrc := Lib.hid hsrc
                clear hsrc hRy
                have hm1 : m + 1 ≤ maxLen := by simp only [maxLen]; omega
                have hm2 : (m + 1) * 32 ≤ 140737488355328 := by omega
                go_wp2_with (first | (refine wpList_load_mid_blk rfl 25 _ rfl hVy 0 rfl (V.map b8) (fun j x hx => by rw [Nat.zero_add, List.getElem?_toArray]; exact hx) (.array 32 5) (by kernel_rfl) rfl 32 (by kernel_rfl) (by simp [hVl]) ?_) | (refine wpList_build_one rfl V hVl _ rfl rfl ?_) | (at_builtin; refine wpList_append_row rfl _ _ 48 48 rfl 25 i0 (.agg zero32) 32 32 (by kernel_rfl) hi hz0 hz1 hz2 rfl (by decide) HRow.out rfl (n := m) (m := 1) (news := V.map b8) (xv := .slice (some ⟨wy.heap.size, 0, none⟩) 1 1) ?_ ?_ hm1 hm2 ?_))
                · exact HSrc.out
                intro v8 w8 hrow8 hg8 hv8
                obtain ⟨a8, c8, rfl⟩ := hrow8.shape
                have hne : ∀ g, (Value.slice a9 m c9).ownBlock = some g → r + 2 ≤ g := fun g e => HO.out g (by rw [HV9.out]; exact e)
                have hK8 := (hKy.alloc (.cells (V.map b8).toArray 25)).grown hg8 (fun e => by have := hne _ e.symm; omega)
                have hV8 := (hVy.alloc (.cells (V.map b8).toArray 25)).grown hg8 (fun e => by have := hne _ e.symm; omega)
                have hys : r + 2 ≤ wy.heap.size := hVy.lt
                have F8 := (Fy.alloc (by omega) (.cells (V.map b8).toArray 25)).grown hg8 (by rw [alloc_size]; omega) (fun g e => by have := hne g e; omega)
                have hO8 : ∀ g, (Value.slice a8 (m + 1) c8).ownBlock = some g → r + 2 ≤ g := fun g e => by
                  rcases hv8 with e1 | ⟨e1, -⟩
                  · exact hne g (e1 ▸ e)
                  · have h1 := Option.some.inj (e1.symm.trans e)
                    have h2 := alloc_size wy (.cells (V.map b8).toArray 25)
                    omega
                have hrow9 : Row w8 (.slice a8 (m + 1) c8) 25 32 (m + 1) ((outs data (m + 1)).map b8) := by
                  rw [outs_succ, List.map_append, HU.out.2.2.1]
                  rw [HV.out] at hrow8; exact hrow8
                have HR8 := Lib.hid (And.intro hO8 hrow9)
                clear hO8 hrow9 hrow8 hg8 hv8 hne hKy hVy Fy HSrc HRow hys
                go_wp2
                go_roundg (gk - 1)
                case measure => exact HU.out.2.2.2.2.1
                case rel =>
                  refine ⟨m + 1, a8, c8, outS data m, by go_num, rfl, HU.out.2.2.2.2.2, rfl, ?_, ?_, F8, HR8.out.2, HR8.out.1⟩
                  · rw [HU.out.2.2.1]; exact hK8
                  · rw [HU.out.2.2.1]; show Blk w8 (r + 1) 25 ((mac K vv).map b8).toArray; rw [← HV.out]; exact hV8
            · have hd : decide (m < n) = false := by rw [decide_eq_false_iff_not]; omega
              obtain rfl : m = n := by omega
              clear hq hm ht
              have hrl := hK.lt
              go_wp2
              go_ret
              exact ⟨_, rfl, hR, fun g e => by have := hO g e; rw [HR.out.2] at this; omega, by rw [← HR.out.2]; exact F, by rw [← HR.out.2]; omega⟩
end Go.Proofs.YtahlllbigkgobaaDoor
