/-
  The walk of the reference's Mac.
-/
import Derived.Test.YtahlllbigkgobaaDoorRefTwo
import Derived.Test.YtahlllbigkgobaaDoorMac
namespace Go.Proofs.YtahlllbigkgobaaDoor
open Go.RowKit
attribute [local irreducible] sha compress absorb
theorem padk_get (k : List B) (m : Nat) : (padk k).getD m 0 = k.getD m 0 := by
  unfold padk
  by_cases h : m < k.length
  · simp [List.getD, List.getElem?_append_left h]
  · simp only [List.getD]
    rw [List.getElem?_append_right (by omega), List.getElem?_replicate]
    simp [show k.length ≤ m by omega]
    split <;> rfl
theorem take_map_snoc (c : B) (ks : List B) (m : Nat) (h : m < ks.length) : (ks.take m).map (· ^^^ c) ++ [ks.getD m 0 ^^^ c] = (ks.take (m + 1)).map (· ^^^ c) := by
  rw [List.take_succ_eq_append_getElem h, List.map_append]; simp [List.getD, h]
/-- two slices of the call's own under way -/
structure Duo (r : Nat) (w wr : World) (t u : Value) (ts us : List B) : Prop where
  one : OwnB r w wr t ts
  two : OwnB r w wr u us
  sep : ∀ g, t.ownBlock = some g → u.ownBlock ≠ some g
theorem Duo.pushOne {r : Nat} {w wr w' : World} {t u t' : Value} {ts us : List B} {x : B} (h : Duo r w wr t u ts us) (o : Obj) (hrow : Row w' t' 5 1 (ts.length + 1) (ts.map b8 ++ [b8 x])) (hg : (wr.alloc o).grownBy w' t.ownBlock)
    (hv : t'.ownBlock = t.ownBlock ∨ t'.ownBlock = some (wr.heap.size + 1) ∧ wr.heap.size + 1 < w'.heap.size) : Duo r w w' t' u (ts ++ [x]) us := by
  have h1 := OwnB.push h.one o hrow hg hv
  refine ⟨h1, ⟨(h.two.row.alloc o).grown hg (fun g e e' => h.sep g e'.symm e), h.two.own, h1.bel, h1.le⟩, fun g hg' e => ?_⟩
  rcases hv with e2 | ⟨e2, -⟩
  · exact h.sep g (e2 ▸ hg') e
  · obtain rfl := Option.some.inj (e2.symm.trans hg')
    have := h.two.row.lt _ e; omega
theorem Duo.pushTwo {r : Nat} {w wr w' : World} {t u u' : Value} {ts us : List B} {x : B} (h : Duo r w wr t u ts us) (o : Obj) (hrow : Row w' u' 5 1 (us.length + 1) (us.map b8 ++ [b8 x])) (hg : (wr.alloc o).grownBy w' u.ownBlock)
    (hv : u'.ownBlock = u.ownBlock ∨ u'.ownBlock = some (wr.heap.size + 1) ∧ wr.heap.size + 1 < w'.heap.size) : Duo r w w' t u' ts (us ++ [x]) := by
  have h1 := OwnB.push h.two o hrow hg hv
  refine ⟨⟨(h.one.row.alloc o).grown hg (fun g e e' => h.sep g e e'.symm), h.one.own, h1.bel, h1.le⟩, h1, fun g hg' e => ?_⟩
  rcases hv with e2 | ⟨e2, -⟩
  · exact h.sep g hg' (e2 ▸ e)
  · obtain rfl := Option.some.inj (e2.symm.trans e)
    have := h.one.row.lt _ hg'; omega
set_option maxRecDepth 100000 in
set_option maxHeartbeats 4000000 in
theorem refmac_any (w : World) (ao : Option Addr) (cp : Nat) (key : List B) (hK : Bts w ao key) (am : Option Addr) (cm : Nat) (msg : List B) (hM : Bts w am msg) (hk : key.length ≤ 1000000) (hl : msg.length ≤ 1000000000) :
    Calls Tryd.prog 20 #[.slice ao key.length cp, .slice am msg.length cm] w fun e w' => e = .returned (hashv (mac key msg)) ∧ Below w.heap.size w w' := by
  obtain ⟨i0, hi, hz0, hz1, hz2⟩ := info_parts infoU8
  obtain ⟨r, hr⟩ : ∃ r, r = w.heap.size := ⟨_, rfl⟩
  obtain ⟨w1, hw1⟩ : ∃ w1, w1 = w.alloc (.cells zero32 25) := ⟨_, rfl⟩
  have hr1 : Blk w1 r 25 zero32 := by rw [hw1, hr]; exact Blk.new w zero32 25
  have F1 : Below r w w1 := by rw [hw1, hr]; exact below_alloc1 _ _
  have hs1 : w1.heap.size = r + 1 := by rw [hw1, alloc_size, hr]
  have O1 : OwnB (r + 1) w1 w1 (.slice none 0 0) [] := Own.nil w1 5 1 hs1.symm
  have hK1 : Bts w1 ao key := hK.below F1 (by omega)
  have hsrc := hK1.src (P := Tryd.prog) (tx := 22) (e' := 5) (by kernel_rfl) key.length cp rfl
  have hl1 : 0 + key.length ≤ maxLen := by simp only [maxLen]; omega
  have hl2 : (0 + key.length) * 1 ≤ 140737488355328 := by omega
  have HW := Lib.hid (And.intro hw1 (And.intro hr hs1))
  clear hw1 hr hs1
  go_enter Tryd.func20, Tryd.ntmps20
  go_upto_region 2 with (fail)
  change Code.wp _ _ _ _ (w.alloc (.cells zero32 25))
  rw [← HW.out.1, ← HW.out.2.1]
  go_wp2_with (at_builtin; refine wpList_append_row rfl _ _ 22 22 rfl 5 i0 (.int .u8 0) 1 1 (by kernel_rfl) hi hz0 hz1 hz2 rfl (by decide) (Row.nil _ _ _) rfl hsrc rfl hl1 hl2 ?_)
  intro v2 w2 hrow2 hg2 hv2
  have O2 : OwnB (r + 1) w1 w2 v2 key := OwnB.app (ts := []) (us := key) O1 (by simpa using hrow2) hg2 hv2
  have hr2 := hr1.below O2.bel (Nat.lt_succ_self _)
  have F2 := F1.trans (O2.bel.mono (Nat.le_succ _))
  obtain ⟨a2, c2, rfl, -, -, -, hY2⟩ := O2.row.bts
  have hK2 : Bts w2 ao key := hK.below F2 (by have := HW.out.2.1; omega)
  clear hrow2 hg2 hv2 O1 hsrc hl1 hl2 hK1 O2 hr1 F1
  go_upto_if 17 with (fail)
  go_cut [5, 6] from 12 (fun k _ wc => ∃ (ak : Option Addr) (ck : Nat), k = .slice ak (mkey key).length ck ∧ Blk wc r 25 zero32 ∧ Bts wc ak (mkey key) ∧ Below r w wc)
  case first =>
    by_cases h64 : 64 < key.length
    · have hd : decide ((64 : Int) < (key.length : Int)) = true := by rw [decide_eq_true_eq]; omega
      have hmk : mkey key = sha key := by unfold mkey; rw [if_pos h64]
      have HM := Lib.hid hmk
      clear hmk hY2
      go_wp2_with fail
      refine (refsum_any ao cp key w2 hK2 (by omega)).mono ?_
      rintro e w3 ⟨rfl, G3⟩
      have hr3 := hr2.below G3 hr2.lt
      have F3 := F2.trans (G3.mono (Nat.le_of_lt hr2.lt))
      clear G3
      go_wp2_with (refine wpList_store_blk rfl 25 _ _ rfl (Blk.new w3 zero32 25) ((sha key).map b8).toArray rfl rfl 32 (by kernel_rfl) rfl (by simp [sha_len]) (by rw [List.toList_toArray]; exact b8_one _) ?_)
      intro w4 hb4 hg4
      have hlt3 := hr3.lt
      have hr4 := (hr3.alloc _).grown hg4 (by intro e; have := Option.some.inj e; omega)
      have F4 : Below r w w4 := below_upd (F3.alloc (by omega) _) hg4 (by omega) (by rw [alloc_size]; omega)
      have hB4 : Bts w4 (some ⟨w3.heap.size, 0, none⟩) (sha key) := Bts.of fun j hj => by
        rw [Nat.zero_add, hb4.cell j]; simp [List.getD, hj]
      clear hg4 F3 hr3
      go_wp2
      go_meet
      case rel => exact ⟨_, 32, by rw [HM.out, sha_len], hr4, by rw [HM.out]; exact hB4, F4⟩
    · have hd : decide (64 < key.length) = false := by rw [decide_eq_false_iff_not]; omega
      have hmk : mkey key = key := by unfold mkey; rw [if_neg h64]
      have HM := Lib.hid hmk
      clear hmk
      go_wp2
      go_meet
      case rel => exact ⟨a2, c2, by rw [HM.out], hr2, by rw [HM.out]; exact hY2, F2⟩
  case rest =>
    obtain ⟨ak, ck, rfl, hrc, hkc, Fc⟩ := hcut
    clear hr2 F2 hY2 hK2
    obtain ⟨mk, hmk⟩ : ∃ mk, mk = mkey key := ⟨_, rfl⟩
    have hml : mk.length ≤ 64 := by rw [hmk]; exact mkey_len key
    rw [← hmk] at hkc ⊢
    obtain ⟨ks, hks⟩ : ∃ ks, ks = padk mk := ⟨_, rfl⟩
    have hkl : ks.length = 64 := by rw [hks]; exact padk_len mk hml
    have hkg : ∀ m, ks.getD m 0 = mk.getD m 0 := fun m => by rw [hks]; exact padk_get mk m
    have HQ := Lib.hid (And.intro hmk (And.intro hks (And.intro hkl hkg)))
    obtain ⟨q, hq⟩ : ∃ q, q = wc.heap.size := ⟨_, rfl⟩
    have D0 : Duo q wc wc (.slice none 0 0) (.slice none 0 0) [] [] := ⟨Own.nil wc _ _ hq, Own.nil wc _ _ hq, (fun _ e => by cases e)⟩
    have hrq : r < q := by rw [hq]; exact hrc.lt
    have HQQ := Lib.hid hq
    clear hmk hks hkl hkg hq
    go_wp2
    go_loopg [7, 8, 9, 10] 64 (fun k t u i _ wr => ∃ (m : Nat) (a7 a8 : Option Addr) (c7 c8 : Nat), t = .slice a7 m c7 ∧ u = .slice a8 m c8 ∧ i = .int .i64 m ∧ m + k = 64 ∧ Duo q wc wr t u ((ks.take m).map (· ^^^ 54#8)) ((ks.take m).map (· ^^^ 92#8)))
    case atStart => exact ⟨0, none, none, 0, 0, rfl, rfl, rfl, rfl, D0⟩
    case round =>
      clear D0
      obtain ⟨m, a7, a8, c7, c8, rfl, rfl, rfl, hm, hD⟩ := hrel
      by_cases hq2 : m < 64
      · have hd : decide ((m : Int) < 64) = true := by rw [decide_eq_true_eq]; omega
        by_cases hq3 : m < mk.length
        · have hd3 : decide ((m : Int) < (mk.length : Int)) = true := by rw [decide_eq_true_eq]; omega
          obtain ⟨b, off, hak, hcc⟩ := hkc.resolve_left (by rintro rfl; simp at hq3)
          have hc0 := hcc m hq3
          have hbq : b < wc.heap.size := World.block_lt_of_cell? wc _ hc0
          have c0 := (hD.one.bel.cell (p := ⟨b, off + m, none⟩) (by rw [HQQ.out]; exact hbq)).trans hc0
          obtain ⟨u, hu⟩ : ∃ u, u = mk.getD m 0 := ⟨_, rfl⟩
          have hkm : u = ks.getD m 0 := by rw [hu, HQ.out.2.2.2 m]
          rw [← hu] at c0
          clear hu hcc hc0
          subst hak
          have hlm : ((ks.take m).map (· ^^^ 54#8)).length = m := by rw [List.length_map, List.length_take, HQ.out.2.2.1]; omega
          have hlm2 : ((ks.take m).map (· ^^^ 92#8)).length = m := by rw [List.length_map, List.length_take, HQ.out.2.2.1]; omega
          obtain ⟨ts, hts⟩ : ∃ ts, ts = (ks.take m).map (· ^^^ 54#8) := ⟨_, rfl⟩
          obtain ⟨us, hus⟩ : ∃ us, us = (ks.take m).map (· ^^^ 92#8) := ⟨_, rfl⟩
          rw [← hts] at hD hlm
          rw [← hus] at hD hlm2
          have ht2 : ts ++ [u ^^^ 54#8] = (ks.take (m + 1)).map (· ^^^ 54#8) := by rw [hts, hkm, take_map_snoc _ _ _ (by rw [HQ.out.2.2.1]; exact hq2)]
          have hu2 : us ++ [u ^^^ 92#8] = (ks.take (m + 1)).map (· ^^^ 92#8) := by rw [hus, hkm, take_map_snoc _ _ _ (by rw [HQ.out.2.2.1]; exact hq2)]
          have hl1 : ts.length + 1 ≤ maxLen := by simp only [maxLen]; omega
          have hl2 : (ts.length + 1) * 1 ≤ 140737488355328 := by omega
          have hl3 : us.length + 1 ≤ maxLen := by simp only [maxLen]; omega
          have hl4 : (us.length + 1) * 1 ≤ 140737488355328 := by omega
          have HM := Lib.hid (And.intro hlm (And.intro hlm2 (And.intro ht2 (And.intro hu2 (show gk - 1 < gk ∧ m + 1 + (gk - 1) = 64 by omega)))))
          clear hlm hlm2 ht2 hu2 hts hus hkm hm
          go_wp2_with (at_builtin; refine wpList_append_row rfl _ _ 22 22 rfl 5 i0 (.int .u8 0) 1 1 (by kernel_rfl) hi hz0 hz1 hz2 rfl (by decide) (hD.one.row.alloc _) rfl ((Bts.one wr (u ^^^ 54#8) _ 5 rfl).src (e' := 5) (by kernel_rfl) 1 1 rfl) rfl hl1 hl2 ?_)
          intro v5 w5 hrow5 hg5 hv5
          have hD5 := hD.pushOne _ hrow5 hg5 hv5
          obtain ⟨a5, c5, rfl, -, -, -, -⟩ := hD5.one.row.bts
          simp only [List.length_append, List.length_singleton] at hD5 ⊢
          clear hrow5 hg5 hv5 hD hl1 hl2
          go_wp2_with (at_builtin; refine wpList_append_row rfl _ _ 22 22 rfl 5 i0 (.int .u8 0) 1 1 (by kernel_rfl) hi hz0 hz1 hz2 rfl (by decide) (hD5.two.row.alloc _) rfl ((Bts.one w5 (u ^^^ 92#8) _ 5 rfl).src (e' := 5) (by kernel_rfl) 1 1 rfl) rfl hl3 hl4 ?_)
          intro v6 w6 hrow6 hg6 hv6
          have hD6 := hD5.pushTwo _ hrow6 hg6 hv6
          obtain ⟨a6, c6, rfl, -, -, -, -⟩ := hD6.two.row.bts
          clear hrow6 hg6 hv6 hD5 hl3 hl4
          go_wp2
          go_roundg (gk - 1)
          case measure => exact HM.out.2.2.2.2.1
          case rel =>
            obtain ⟨h1, h2, h3, h4, h5, h6⟩ := HM.out
            refine ⟨m + 1, a5, a6, c5, c6, by rw [h1], by rw [List.length_append, h2]; rfl, by go_num, h6, ?_⟩
            rw [← h3, ← h4]; exact hD6
        · have hd3 : decide (m < mk.length) = false := by rw [decide_eq_false_iff_not]; omega
          have hkm : (0#8 : B) = ks.getD m 0 := by
            rw [HQ.out.2.2.2 m]; simp [List.getD, List.getElem?_eq_none (show mk.length ≤ m by omega)]
          have hlm : ((ks.take m).map (· ^^^ 54#8)).length = m := by rw [List.length_map, List.length_take, HQ.out.2.2.1]; omega
          have hlm2 : ((ks.take m).map (· ^^^ 92#8)).length = m := by rw [List.length_map, List.length_take, HQ.out.2.2.1]; omega
          obtain ⟨ts, hts⟩ : ∃ ts, ts = (ks.take m).map (· ^^^ 54#8) := ⟨_, rfl⟩
          obtain ⟨us, hus⟩ : ∃ us, us = (ks.take m).map (· ^^^ 92#8) := ⟨_, rfl⟩
          rw [← hts] at hD hlm
          rw [← hus] at hD hlm2
          have ht2 : ts ++ [0#8 ^^^ 54#8] = (ks.take (m + 1)).map (· ^^^ 54#8) := by rw [hts, hkm, take_map_snoc _ _ _ (by rw [HQ.out.2.2.1]; exact hq2)]
          have hu2 : us ++ [0#8 ^^^ 92#8] = (ks.take (m + 1)).map (· ^^^ 92#8) := by rw [hus, hkm, take_map_snoc _ _ _ (by rw [HQ.out.2.2.1]; exact hq2)]
          have hl1 : ts.length + 1 ≤ maxLen := by simp only [maxLen]; omega
          have hl2 : (ts.length + 1) * 1 ≤ 140737488355328 := by omega
          have hl3 : us.length + 1 ≤ maxLen := by simp only [maxLen]; omega
          have hl4 : (us.length + 1) * 1 ≤ 140737488355328 := by omega
          have HM := Lib.hid (And.intro hlm (And.intro hlm2 (And.intro ht2 (And.intro hu2 (show gk - 1 < gk ∧ m + 1 + (gk - 1) = 64 by omega)))))
          clear hlm hlm2 ht2 hu2 hts hus hkm hm
          go_wp2_with (at_builtin; refine wpList_append_row rfl _ _ 22 22 rfl 5 i0 (.int .u8 0) 1 1 (by kernel_rfl) hi hz0 hz1 hz2 rfl (by decide) (hD.one.row.alloc _) rfl ((Bts.one wr (0#8 ^^^ 54#8) _ 5 rfl).src (e' := 5) (by kernel_rfl) 1 1 rfl) rfl hl1 hl2 ?_)
          intro v5 w5 hrow5 hg5 hv5
          have hD5 := hD.pushOne _ hrow5 hg5 hv5
          obtain ⟨a5, c5, rfl, -, -, -, -⟩ := hD5.one.row.bts
          simp only [List.length_append, List.length_singleton] at hD5 ⊢
          clear hrow5 hg5 hv5 hD hl1 hl2
          go_wp2_with (at_builtin; refine wpList_append_row rfl _ _ 22 22 rfl 5 i0 (.int .u8 0) 1 1 (by kernel_rfl) hi hz0 hz1 hz2 rfl (by decide) (hD5.two.row.alloc _) rfl ((Bts.one w5 (0#8 ^^^ 92#8) _ 5 rfl).src (e' := 5) (by kernel_rfl) 1 1 rfl) rfl hl3 hl4 ?_)
          intro v6 w6 hrow6 hg6 hv6
          have hD6 := hD5.pushTwo _ hrow6 hg6 hv6
          obtain ⟨a6, c6, rfl, -, -, -, -⟩ := hD6.two.row.bts
          clear hrow6 hg6 hv6 hD5 hl3 hl4
          go_wp2
          go_roundg (gk - 1)
          case measure => exact HM.out.2.2.2.2.1
          case rel =>
            obtain ⟨h1, h2, h3, h4, h5, h6⟩ := HM.out
            refine ⟨m + 1, a5, a6, c5, c6, by rw [h1], by rw [List.length_append, h2]; rfl, by go_num, h6, ?_⟩
            rw [← h3, ← h4]; exact hD6
      · have hd : decide ((m : Int) < 64) = false := by rw [decide_eq_false_iff_not]; omega
        obtain rfl : m = 64 := by omega
        clear hq2 hm
        rw [List.take_of_length_le (by rw [HQ.out.2.2.1]; exact Nat.le_refl _)] at hD
        obtain ⟨I, hI⟩ : ∃ I, I = ks.map (· ^^^ 54#8) := ⟨_, rfl⟩
        obtain ⟨O, hO⟩ : ∃ O, O = ks.map (· ^^^ 92#8) := ⟨_, rfl⟩
        have hIl : I.length = 64 := by rw [hI, List.length_map]; exact HQ.out.2.2.1
        have hOl : O.length = 64 := by rw [hO, List.length_map]; exact HQ.out.2.2.1
        have hfin : mac key msg = sha (O ++ sha (I ++ msg)) := by rw [hI, hO, HQ.out.2.1, HQ.out.1]; rfl
        rw [← hI, ← hO] at hD
        have F : Below r w wr := Fc.trans (hD.one.bel.mono (Nat.le_of_lt hrq))
        have hB : Blk wr r 25 zero32 := hrc.below hD.one.bel hrq
        obtain ⟨b7, d7, he7, -, -, -, hY7⟩ := hD.one.row.bts
        obtain ⟨rfl, rfl⟩ : a7 = b7 ∧ c7 = d7 := by injection he7 with h1 _ h3; exact ⟨h1, h3⟩
        obtain ⟨b9, d9, he9, -, -, -, hY9⟩ := hD.two.row.bts
        obtain ⟨rfl, rfl⟩ : a8 = b9 ∧ c8 = d9 := by injection he9 with h1 _ h3; exact ⟨h1, h3⟩
        have HI := Lib.hid (And.intro hIl (And.intro hOl hfin))
        clear he7 he9 hD hI hO hIl hOl hfin hkc hrc Fc hrq HQQ
        have h1 := two_any a7 am c7 cm I msg wr hY7 (hM.below F (by rw [HW.out.2.1]; exact Nat.le_refl _)) (by rw [HI.out.1]; omega)
        rw [HI.out.1] at h1
        go_wp2_with fail
        refine h1.mono ?_
        rintro e w5 ⟨rfl, G5⟩
        have hB5 := hB.below G5 hB.lt
        have F5 := F.trans (G5.mono (Nat.le_of_lt hB.lt))
        have hY5 := hY9.below G5 (Nat.le_refl _)
        clear h1 hB F hY7 hY9 G5
        obtain ⟨X, hX⟩ : ∃ X, X = sha (I ++ msg) := ⟨_, rfl⟩
        have hXl : X.length = 32 := by rw [hX]; exact sha_len _
        rw [← hX]
        have HX := Lib.hid (And.intro hX hXl)
        clear hX hXl
        go_wp2_with (refine wpList_store_blk rfl 25 _ _ rfl (Blk.new w5 zero32 25) (X.map b8).toArray rfl rfl 32 (by kernel_rfl) rfl (by simp [HX.out.2]) (by rw [List.toList_toArray]; exact b8_one _) ?_)
        intro w6 hb6 hg6
        have hlt5 := hB5.lt
        have hY6 := (hY5.below ((Below.refl _ _).alloc (Nat.le_refl _) _) (Nat.le_refl _) : Bts (w5.alloc (.cells zero32 25)) a8 O)
        have hB6 := (hB5.alloc _).grown hg6 (by intro e; have := Option.some.inj e; omega)
        have F6 : Below r w w6 := below_upd (F5.alloc (by omega) _) hg6 (by omega) (by rw [alloc_size]; omega)
        have hY6' : Bts w6 a8 O := hY5.kept fun b off e hlt => (hg6.block b (by rw [alloc_size]; omega) (by intro e'; have := Option.some.inj e'; omega)).trans (Below.heap_alloc _ _ _ hlt)
        have hX6 : Bts w6 (some ⟨w5.heap.size, 0, none⟩) X := Bts.of fun j hj => by
          rw [Nat.zero_add, hb6.cell j]; simp [List.getD, hj]
        have h2 := two_any a8 (some ⟨w5.heap.size, 0, none⟩) c8 32 O X w6 hY6' hX6 (by rw [HI.out.2.1, HX.out.2]; decide)
        rw [HI.out.2.1, HX.out.2] at h2
        clear hY5 hY6 hY6' hX6 hb6 hg6 hB5 F5 hlt5
        go_wp2_with fail
        refine h2.mono ?_
        rintro e w7 ⟨rfl, G7⟩
        have hB7 := hB6.below G7 hB6.lt
        have F7 := F6.trans (G7.mono (Nat.le_of_lt hB6.lt))
        rw [HX.out.1, ← HI.out.2.2]
        clear h2 hB6 F6 G7
        go_wp2_with (refine wpList_store_blk rfl 25 _ _ rfl hB7 _ rfl rfl 32 (by kernel_rfl) rfl (by simp [mac_len]) (by rw [List.toList_toArray]; exact b8_one _) ?_)
        intro w9 hr9 hg9
        have F9 := below_upd F7 hg9 (Nat.le_refl _) hB7.lt
        rw [HW.out.2.1] at F9
        go_wp2
        exact (ret_blk rfl hr9 rfl (.array 32 5) (by kernel_rfl) rfl 32 (by kernel_rfl) (by simp [mac_len]) ⟨rfl, F9⟩).2
end Go.Proofs.YtahlllbigkgobaaDoor
