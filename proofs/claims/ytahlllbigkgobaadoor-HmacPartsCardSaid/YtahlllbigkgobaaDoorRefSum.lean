/-
  The walks of the reference's Padded, Sum, Two.
-/
import Derived.Test.YtahlllbigkgobaaDoorRefBlock
import Derived.Test.YtahlllbigkgobaaDoorSum
import Derived.Test.YtahlllbigkgobaaDoorOwn
namespace Go.Proofs.YtahlllbigkgobaaDoor
open Go.RowKit

theorem pad_zero (xs : List B) (j : Nat) (h : (xs.length + 1 + j) % 64 = 56) (hj : j ≤ padz xs.length) : j = padz xs.length := by unfold padz at *; omega
def kk (n m : Nat) : Nat := 8 * n * 256 ^ m % 18446744073709551616
theorem kk_succ (n m : Nat) : kk n m * 256 % 18446744073709551616 = kk n (m + 1) := by
  unfold kk; rw [Nat.pow_succ, ← Nat.mul_assoc, Nat.mod_mul_mod]
theorem kk_lt (n m : Nat) : kk n m < 18446744073709551616 := Nat.mod_lt _ (by decide)
theorem kk_cell (n m : Nat) (hm : m < 8) (hn : n ≤ 1099511627776) : Value.int .u8 (((kk n m : Nat) : Int) / 72057594037927936 % 256) = b8 ((len8 n).getD m 0) := by
  have h1 : (len8 n).getD m 0 = (BitVec.ofNat 64 (8 * n) >>> (56 - 8 * m)).setWidth 8 := by
    unfold len8 List.getD
    rw [List.getElem?_map, List.getElem?_range hm]; rfl
  have h2 : ((BitVec.ofNat 64 (8 * n) >>> (56 - 8 * m)).setWidth 8).toNat = 8 * n / 2 ^ (56 - 8 * m) % 256 := by
    rw [BitVec.toNat_setWidth, BitVec.toNat_ushiftRight, BitVec.toNat_ofNat, Nat.shiftRight_eq_div_pow, Nat.mod_eq_of_lt (show 8 * n < 2 ^ 64 by omega)]
  have h3 : kk n m / 72057594037927936 % 256 = 8 * n / 2 ^ (56 - 8 * m) % 256 := by
    unfold kk
    have : m = 0 ∨ m = 1 ∨ m = 2 ∨ m = 3 ∨ m = 4 ∨ m = 5 ∨ m = 6 ∨ m = 7 := by omega
    rcases this with rfl | rfl | rfl | rfl | rfl | rfl | rfl | rfl <;> simp <;> omega
  rw [h1]; unfold b8
  rw [h2, ← h3]
  congr 1
theorem kk_cell2 (n m : Nat) (hm : m < 8) (hn : n ≤ 1099511627776) : Value.int .u8 (((kk n m : Nat) : Int) / 72057594037927936) = b8 ((len8 n).getD m 0) := by
  rw [← kk_cell n m hm hn]
  have := kk_lt n m
  congr 1; omega
attribute [local irreducible] compress absorb
set_option maxRecDepth 100000 in
set_option maxHeartbeats 4000000 in
theorem padded_any (ao : Option Addr) (cp : Nat) (bs : List B) (w : World) (hB : Bts w ao bs) (hlen : bs.length ≤ 1099511627776) :
    Calls Tryd.prog 25 #[.slice ao bs.length cp] w (RetOwn w 5 1 (bs ++ pad bs.length).length ((bs ++ pad bs.length).map b8)) := by
  obtain ⟨i0, hi, hz0, hz1, hz2⟩ := info_parts infoU8
  obtain ⟨T, hT⟩ : ∃ T, T = bs ++ pad bs.length := ⟨_, rfl⟩
  rw [← hT]
  have HT := Lib.hid hT
  clear hT
  obtain ⟨r, hr⟩ : ∃ r, r = w.heap.size := ⟨_, rfl⟩
  have O0 := Own.nil w 5 1 hr
  have q1 : IntKind.u64.wrap (bs.length : Int) = (bs.length : Int) := by rw [IntKind.wrap_u64]; omega
  have q2 : IntKind.u64.wrap (8 * (bs.length : Int)) = 8 * (bs.length : Int) := by rw [IntKind.wrap_u64]; omega
  go_enter Tryd.func25, Tryd.ntmps25
  go_wp2_with (at_builtin; refine wpList_append_row rfl _ _ 22 22 rfl 5 i0 (.int .u8 0) 1 1 (by kernel_rfl) hi hz0 hz1 hz2 rfl (by decide) O0.row rfl (hB.src (e' := 5) (by kernel_rfl) bs.length cp rfl) rfl (by simp only [maxLen]; omega) (by omega) ?_)
  intro v1 w1 hrow1 hg1 hv1
  have O1 : OwnB r w w1 v1 bs := OwnB.app (ts := []) (us := bs) O0 (by simpa using hrow1) hg1 hv1
  clear hrow1 hg1 hv1 O0
  obtain ⟨a1, c1, rfl, -, -, -, -⟩ := O1.row.bts
  have hl1 : bs.length + 1 ≤ maxLen := by simp only [maxLen]; omega
  have hl2 : (bs.length + 1) * 1 ≤ 140737488355328 := by omega
  go_wp2_with (at_builtin; refine wpList_append_row rfl _ _ 22 22 rfl 5 i0 (.int .u8 0) 1 1 (by kernel_rfl) hi hz0 hz1 hz2 rfl (by decide) (O1.row.alloc _) rfl ((Bts.one w1 128 _ 5 rfl).src (e' := 5) (by kernel_rfl) 1 1 rfl) rfl hl1 hl2 ?_)
  intro v2 w2 hrow2 hg2 hv2
  have O2 := OwnB.push O1 _ hrow2 hg2 hv2
  clear hrow2 hg2 hv2 O1 hl1 hl2
  obtain ⟨a2, c2, rfl, -, -, -, -⟩ := O2.row.bts
  rw [List.length_append] at O2 ⊢
  go_wp2
  go_loopg [3] (padz bs.length) (fun k t wr => ∃ (j c : Nat) (a : Option Addr), t = .slice a (bs.length + 1 + j) c ∧ j + k = padz bs.length ∧ OwnB r w wr t (bs ++ [128] ++ List.replicate j 0))
  case atStart => exact ⟨0, c2, a2, rfl, by omega, by simpa using O2⟩
  case round =>
    clear O2
    obtain ⟨j, c, a, rfl, hj, hP⟩ := hrel
    obtain ⟨L, hL⟩ : ∃ L, L = bs.length + 1 + j := ⟨_, rfl⟩
    obtain ⟨ts, hts⟩ : ∃ ts, ts = bs ++ [128] ++ List.replicate j 0 := ⟨_, rfl⟩
    rw [← hts, ← hL] at hP
    rw [← hL]
    have htl : ts.length = L := by rw [hts, hL]; simp; omega
    by_cases hq : L % 64 = 56
    · have hd : ((L : Int) % 64 != 56) = false := by rw [bne_eq_false_iff_eq]; omega
      have hk : j = padz bs.length := pad_zero bs j (by omega) (by omega)
      have hT2 : ts ++ len8 bs.length = T := by rw [HT.out, hts, hk]; simp [pad]
      have H1 := Lib.hid (And.intro htl hT2)
      clear hts hL htl hj hk hq
      go_wp2
      have hk0 : (8 * (bs.length : Int)) = ((kk bs.length 0 : Nat) : Int) := by unfold kk; simp; omega
      rw [hk0]
      clear q1 q2 hk0
      go_loopg [3, 4, 5] 8 (fun k t n i wr => ∃ (m c : Nat) (a : Option Addr), t = .slice a (L + m) c ∧ n = .int .u64 (kk bs.length m : Nat) ∧ i = .int .i64 m ∧ m + k = 8 ∧ OwnB r w wr t (ts ++ (len8 bs.length).take m))
      case atStart => exact ⟨0, c, a, rfl, rfl, rfl, rfl, by simpa using hP⟩
      case round =>
        clear hP hd
        obtain ⟨m, c, a, rfl, rfl, rfl, hm, hP⟩ := hrel
        have hlen8 : (len8 bs.length).length = 8 := by simp [len8]
        by_cases hq : m < 8
        · have hd : decide ((m : Int) < 8) = true := by rw [decide_eq_true_eq]; omega
          have hcell := kk_cell2 bs.length m hq hlen
          have hkl := kk_lt bs.length m
          have hks := kk_succ bs.length m
          obtain ⟨u, hu⟩ : ∃ u, u = (len8 bs.length).getD m 0 := ⟨_, rfl⟩
          obtain ⟨y, hy⟩ : ∃ y, y = kk bs.length m := ⟨_, rfl⟩
          rw [← hu] at hcell
          rw [← hy] at hcell hkl hks ⊢
          obtain ⟨us, hus⟩ : ∃ us, us = ts ++ (len8 bs.length).take m := ⟨_, rfl⟩
          rw [← hus] at hP
          have hul : us.length = L + m := by rw [hus, List.length_append, H1.out.1, List.length_take, hlen8]; omega
          have hl0 : us.length ≤ bs.length + 128 := by
            have h2 := congrArg List.length H1.out.2
            have h3 := congrArg List.length HT.out
            rw [List.length_append] at h2 h3
            have h4 : (pad bs.length).length ≤ 72 := by simp [pad, len8, padz]; omega
            rw [hul, ← H1.out.1]; omega
          have hl1 : us.length + 1 ≤ maxLen := by simp only [maxLen]; omega
          have hl2 : (us.length + 1) * 1 ≤ 140737488355328 := by omega
          have hu2 : us ++ [u] = ts ++ (len8 bs.length).take (m + 1) := by
            rw [hus, hu, List.take_succ_eq_append_getElem (by omega), ← List.append_assoc]
            simp [List.getD, show m < (len8 bs.length).length by omega]
          have H2 := Lib.hid (And.intro hul (And.intro hu2 (And.intro hks (show gk - 1 < gk ∧ m + 1 + (gk - 1) = 8 by omega))))
          clear hlen8 hu hus hul hu2 hl0 hks hy hm
          go_wp2_with (at_builtin; refine wpList_append_row rfl _ _ 22 22 rfl 5 i0 (.int .u8 0) 1 1 (by kernel_rfl) hi hz0 hz1 hz2 rfl (by decide) (hP.row.alloc _) rfl ((Bts.one wr u _ 5 rfl).src (e' := 5) (by kernel_rfl) 1 1 rfl) rfl hl1 hl2 ?_)
          intro v7 w7 hrow7 hg7 hv7
          have P7 := OwnB.push hP _ hrow7 hg7 hv7
          obtain ⟨a7, c7, rfl, -, -, -, -⟩ := P7.row.bts
          clear hrow7 hg7 hv7
          go_wp2
          go_roundg (gk - 1)
          case measure => exact H2.out.2.2.2.1
          case rel =>
            refine ⟨m + 1, c7, a7, by rw [List.length_append, H2.out.1]; rfl, ?_, by go_num, H2.out.2.2.2.2, ?_⟩
            · rw [← H2.out.2.2.1, IntKind.wrap_u64]; congr 1
            · rw [← H2.out.2.1]; exact P7
        · have hd : decide ((m : Int) < 8) = false := by rw [decide_eq_false_iff_not]; omega
          obtain rfl : m = 8 := by omega
          rw [List.take_of_length_le (by omega), H1.out.2] at hP
          have hTl : L + 8 = T.length := by
            rw [← H1.out.2, List.length_append, H1.out.1, hlen8]
          have HL := Lib.hid hTl
          have HR := Lib.hid hr
          clear hlen8 hTl hr
          go_wp2
          go_ret
          rw [HL.out]
          rw [HR.out, HL.out] at hP
          exact ⟨_, rfl, hP⟩
    · have hd : ((L : Int) % 64 != 56) = true := by rw [bne_iff_ne]; omega
      have hpz : padz bs.length < 64 := Nat.mod_lt _ (by decide)
      have hl1 : ts.length + 1 ≤ maxLen := by simp only [maxLen]; omega
      have hl2 : (ts.length + 1) * 1 ≤ 140737488355328 := by omega
      have hm : gk - 1 < gk ∧ j + 1 + (gk - 1) = padz bs.length := by
        have : j ≠ padz bs.length := fun e => hq (by rw [hL, e]; unfold padz; omega)
        omega
      have H1 := Lib.hid (And.intro hts (And.intro hL (And.intro htl hm)))
      clear hts hL htl hj hq hm
      go_wp2_with (at_builtin; refine wpList_append_row rfl _ _ 22 22 rfl 5 i0 (.int .u8 0) 1 1 (by kernel_rfl) hi hz0 hz1 hz2 rfl (by decide) (hP.row.alloc _) rfl ((Bts.one wr 0 _ 5 rfl).src (e' := 5) (by kernel_rfl) 1 1 rfl) rfl hl1 hl2 ?_)
      intro v7 w7 hrow7 hg7 hv7
      have P7 := OwnB.push hP _ hrow7 hg7 hv7
      obtain ⟨a7, c7, rfl, -, -, -, -⟩ := P7.row.bts
      go_wp2
      go_roundg (gk - 1)
      case measure => exact H1.out.2.2.2.1
      case rel =>
        obtain ⟨hts, hL, htl, hj, hm⟩ := H1.out
        refine ⟨j + 1, c7, a7, by rw [List.length_append, htl, hL]; rfl, by omega, ?_⟩
        rw [List.replicate_succ', ← List.append_assoc, ← hts]
        exact P7

theorem ubytes_get (ws : List W) (q s : Nat) (x : W) (hs : s < 4) (h : ws[q]? = some x) : ((ws.map bytesOf).flatten)[4 * q + s]? = some ((x >>> (24 - 8 * s)).setWidth 8) := by
  have hq := (List.getElem?_eq_some_iff.1 h).1
  have e : ws = ws.take q ++ x :: ws.drop (q + 1) := by
    obtain ⟨hk, rfl⟩ := List.getElem?_eq_some_iff.1 h
    rw [← List.drop_eq_getElem_cons hk, List.take_append_drop]
  have el : ((ws.take q).map bytesOf).flatten.length = 4 * q := by rw [out_len, List.length_take]; omega
  rw [e, List.map_append, List.flatten_append, List.getElem?_append_right (by omega), el, List.map_cons, List.flatten_cons, List.getElem?_append_left (by simp [bytesOf]; omega), show 4 * q + s - 4 * q = s by omega]
  have : s = 0 ∨ s = 1 ∨ s = 2 ∨ s = 3 := by omega
  rcases this with rfl | rfl | rfl | rfl <;> simp [bytesOf]
set_option maxRecDepth 100000 in
set_option maxHeartbeats 4000000 in
theorem refsum_any (ao : Option Addr) (cp : Nat) (bs : List B) (w : World) (hB : Bts w ao bs) (hlen : bs.length ≤ 1099511627776) :
    Calls Tryd.prog 15 #[.slice ao bs.length cp] w fun e w' => e = .returned (hashv (sha bs)) ∧ Below w.heap.size w w' := by
  obtain ⟨r, hr⟩ : ∃ r, r = w.heap.size := ⟨_, rfl⟩
  go_enter Tryd.func15, Tryd.ntmps15
  go_wp2_with fail
  refine (Start_any _).mono ?_
  rintro e w2 ⟨rfl, hb2⟩
  have hr2 : Blk w2 r 25 zero32 := by rw [hr]; exact (Blk.new w zero32 25).below hb2 (by rw [alloc_size]; omega)
  have hs2 : r + 1 ≤ w2.heap.size := by have := hb2.size; rw [alloc_size] at this; omega
  have F2 : Below r w w2 := by rw [hr]; exact (below_alloc1 w _).trans (hb2.mono (by rw [alloc_size]; omega))
  clear hb2
  rw [← hr]
  have HR := Lib.hid hr
  clear hr
  go_wp2_with (refine wpList_store_blk rfl 32 _ _ rfl (Blk.new w2 (rowW [] 8) 32) ((st8 st0).map w32).toArray rfl rfl 8 (by kernel_rfl) rfl rfl (st8_one _) ?_)
  intro w3 hh3 hg3
  obtain ⟨h, hh⟩ : ∃ h, h = w2.heap.size := ⟨_, rfl⟩
  rw [← hh] at hh3 hg3 hs2 ⊢
  have hr3 : Blk w3 r 25 zero32 := (hr2.alloc _).grown hg3 (by intro e; have := Option.some.inj e; omega)
  have F3 : Below r w w3 := below_upd (F2.alloc (by omega) _) hg3 (by omega) (by rw [alloc_size]; omega)
  have hs3 : h + 1 ≤ w3.heap.size := hh3.lt
  clear hg3 hr2 F2 hh
  clear w2
  go_wp2_with fail
  refine (padded_any ao cp bs w3 (hB.below F3 (by rw [HR.out]; exact Nat.le_refl _)) hlen).mono ?_
  rintro e w4 ⟨v, rfl, O4⟩
  have hr4 := hr3.below O4.bel hr3.lt
  have hh4 := hh3.below O4.bel hh3.lt
  have F4 := F3.trans (O4.bel.mono (by omega))
  obtain ⟨T, hT⟩ : ∃ T, T = bs ++ pad bs.length := ⟨_, rfl⟩
  rw [← hT] at O4
  have hTl : T.length = 64 * (T.length / 64) ∧ 64 ≤ T.length ∧ T.length ≤ bs.length + 128 := by
    have : T.length = bs.length + (1 + padz bs.length + 8) := by rw [hT]; simp [pad, len8]; omega
    unfold padz at this; omega
  have hTs : ((st8 (absorb st0 T (T.length / 64))).map bytesOf).flatten = sha bs := by rw [hT]; rfl
  have HT := Lib.hid hTs
  obtain ⟨i0, hi, hz0, hz1, hz2⟩ := info_parts infoU8
  obtain ⟨a4, c4, rfl, -, -, -, -⟩ := O4.row.bts
  obtain ⟨g, off, cur, rfl, hg0, hc1, hc2, hc3, hcell⟩ := O4.row.place (by omega)
  have hgh : h < g := by have := O4.own g rfl; omega
  have hTc : ∀ j, j < T.length → w4.cell? ⟨g, off + j, none⟩ = some (b8 (T.getD j 0)) := fun j hj => by
    rw [hcell j (by simpa using hj)]; simp [List.getD, hj]
  have HTl := Lib.hid hTl
  clear hTl
  clear hr3 hh3 F3 hs3 O4 hT hTs hz0 hz2 hg0 hc3 hcell cur hB
  go_wp2
  replace hc2 : c4 ≤ 9223372036854775807 := hc2
  go_loopg [5] (T.length / 64) (fun k i wr => ∃ m p : Nat, i = .int .i64 (p : Nat) ∧ p = 64 * m ∧ m + k = T.length / 64 ∧ Blk wr h 32 ((st8 (absorb st0 T m)).map w32).toArray ∧ Blk wr r 25 zero32 ∧ Below r w wr ∧ (∀ j, j < T.length → wr.cell? ⟨g, off + j, none⟩ = some (b8 (T.getD j 0))))
  case atStart => exact ⟨0, 0, rfl, rfl, by omega, by rw [absorb_zero]; exact hh4, hr4, F4, hTc⟩
  case round =>
    clear hh4 hr4 F4 hTc
    obtain ⟨m, p, rfl, hp, hm, hH, hB, F, hTc⟩ := hrel
    have hTl := HTl.out
    by_cases hq : m < T.length / 64
    · have hd : decide ((p : Int) < (T.length : Int)) = true := by rw [decide_eq_true_eq]; omega
      have h1 : p + 64 ≤ T.length := by omega
      have hmm : gk - 1 < gk ∧ m + 1 + (gk - 1) = T.length / 64 := by omega
      have HM := Lib.hid (And.intro hp hmm)
      clear hmm hm hq hTl hp
      go_upto_region 6 with (fail)
      have w1 : IntKind.i64.wrap ((p : Int) + 64) = (p : Int) + 64 := IntWalk.i64_in _ (by omega)
      have hsl : ∀ W : World, (Instr.slice 22 (.slice (some ⟨g, off, none⟩) T.length c4) (some (.int .i64 (p : Nat))) (some (.int .i64 ((p : Int) + 64))) none).run Tryd.prog W = .ok (.slice (some ⟨g, off + p, none⟩) 64 (c4 - p)) W := fun W => by
        have := run_mid_row (P := Tryd.prog) (t := 22) (by kernel_rfl) hi hz1 g off T.length c4 p (p + 64) (by omega) (by omega) (by omega) W
        rw [Nat.mul_one, show p + 64 - p = 64 by omega, show (((p + 64 : Nat)) : Int) = (p : Int) + 64 by omega] at this
        exact this
      obtain ⟨S, hSd⟩ : ∃ S : World → Prop, S = fun w => Blk w h 32 ((st8 (absorb st0 T m)).map w32).toArray := ⟨_, rfl⟩
      refine wp_region_N S [7] (by kernel_rfl) ?_
      obtain ⟨wd, hwd⟩ : ∃ wd, wd = wr.drew := ⟨_, rfl⟩
      replace hH : Blk wd h 32 ((st8 (absorb st0 T m)).map w32).toArray := by rw [hwd]; exact hH
      replace hB : Blk wd r 25 zero32 := by rw [hwd]; exact hB
      replace F : Below r w wd := by rw [hwd]; exact F.drew
      replace hTc : ∀ j, j < T.length → wd.cell? ⟨g, off + j, none⟩ = some (b8 (T.getD j 0)) := by rw [hwd]; exact hTc
      rw [← hwd]
      clear hwd
      clear wr
      have hSw : S wd := by rw [hSd]; exact hH
      have HS := Lib.hid (And.intro hSd hTc)
      clear hSd hTc
      refine wpAnyN_takeG 0 17 (v := ?_) rfl rfl (by kernel_rfl) (by kernel_rfl) (by kernel_rfl) (by kernel_rfl) (fun _ _ _ h => h) (by assumption) rfl (fun w hS => ?_) ?_
      rotate_left
      · (refine run_load_mid_blk 32 (.tmp 3) ?_ (by rw [HS.out.1] at hS; exact hS) 0 ?_ ((st8 (absorb st0 T m)).map w32) (fun j v h => by simpa using h) (.array 8 31) (by kernel_rfl) rfl 8 (by kernel_rfl) rfl <;> rfl)
      refine wpAnyN_pureG 1 18 (v := ?_) rfl rfl (by kernel_rfl) (by kernel_rfl) (by kernel_rfl) (fun _ _ _ h => h) rfl (fun w => ?_) ?_
      rotate_left
      · go_simp
        try with_reducible rfl
      refine wpAnyN_pureG 2 19 (v := ?_) rfl rfl (by kernel_rfl) (by kernel_rfl) (by kernel_rfl) (fun _ _ _ h => h) rfl (fun w => ?_) ?_
      rotate_left
      · go_simp
        try with_reducible rfl
      refine wpAnyN_pureG 3 20 (v := ?_) rfl rfl (by kernel_rfl) (by kernel_rfl) (by kernel_rfl) (fun _ _ _ h => h) rfl (fun w => ?_) ?_
      rotate_left
      · go_simp
        try with_reducible rfl
      refine wpAnyN_pureG 4 21 (v := ?_) rfl rfl (by kernel_rfl) (by kernel_rfl) (by kernel_rfl) (fun _ _ _ h => h) rfl (fun w => ?_) ?_
      rotate_left
      · go_simp
        try with_reducible rfl
      refine wpAnyN_pureG 5 22 (v := ?_) rfl rfl (by kernel_rfl) (by kernel_rfl) (by kernel_rfl) (fun _ _ _ h => h) rfl (fun w => ?_) ?_
      rotate_left
      · go_simp
        try with_reducible rfl
      have hcb : ∀ j, j < 64 → wd.cell? ⟨g, off + p + j, none⟩ = some (b8 ((T.drop p).getD j 0)) := fun j hj => by
        rw [Nat.add_assoc, HS.out.2 (p + j) (by omega)]
        simp [List.getD]
      refine wpAnyN_call 6 26 (some 23) [.tmp 17, .tmp 22] [.agg ((st8 (absorb st0 T m)).map w32).toArray, .slice (some ⟨g, off + p, none⟩) 64 (c4 - p)] (by kernel_rfl) rfl rfl rfl rfl (by go_simp) Tryd.call26 ?_
      rw [← stv_eq]
      refine (take_any (absorb st0 T m) g (off + p) 64 (c4 - p) wd (T.drop p) (by omega) (by omega) hcb).mono ?_
      rintro e w5 ⟨rfl, hw5⟩
      refine ⟨_, rfl, fun _ hS => ?_, ?_⟩
      · rw [HS.out.1] at hS ⊢
        exact hS.below hw5 hS.lt
      have hH5 := hH.below hw5 hH.lt
      refine wpAnyN_store_blk 7 32 (.tmp 3) (.tmp 23) (by kernel_rfl) rfl rfl rfl rfl hH5 0 ((st8 (compress (absorb st0 T m) (T.drop p))).map w32).toArray (by go_simp) (by go_simp; rfl) 8 (by kernel_rfl) rfl (by simp [st8]) (st8_one _) ((st8 (compress (absorb st0 T m) (T.drop p))).map w32).toArray rfl ?_
      intro w6 hH6 hg6
      refine ⟨fun h => absurd (by simp) h, wpAnyN_done (by kernel_rfl) ?_⟩
      have hB6 := (hB.below hw5 hB.lt).grown hg6 (by intro e; have := Option.some.inj e; omega)
      have F6 := below_upd (F.trans (hw5.mono (by have := hB.lt; omega))) hg6 (by omega) hH5.lt
      have hTc6 : ∀ j, j < T.length → w6.cell? ⟨g, off + j, none⟩ = some (b8 (T.getD j 0)) := fun j hj => by
        have h1 := HS.out.2 j hj
        have h2 := World.block_lt_of_cell? wd _ h1
        have h3 := (hw5.cell (p := ⟨g, off + j, none⟩) h2).trans h1
        rw [← h3]
        refine World.cell?_of_block (a := ⟨g, off + j, none⟩) (hg6.block g (by have := hw5.size; dsimp only at h2; omega) (by intro e; have := Option.some.inj e; omega))
      have e3 : compress (absorb st0 T m) (T.drop p) = absorb st0 T (m + 1) := by rw [absorb_snoc, compress_take, HM.out.1]
      rw [e3] at hH6
      have HF := Lib.hid (And.intro F6 hTc6)
      clear hTc6 F6 hg6 hH5 hw5 hcb hsl hB F hH HS e3
      go_wp2
      go_roundg (gk - 1)
      case measure => exact HM.out.2.1
      case rel => exact ⟨m + 1, p + 64, by go_num, by rw [HM.out.1]; omega, HM.out.2.2, hH6, hB6, HF.out.1, HF.out.2⟩
    · have hd : decide (p < T.length) = false := by rw [decide_eq_false_iff_not]; omega
      obtain rfl : m = T.length / 64 := by omega
      obtain ⟨ws, hws⟩ : ∃ ws, ws = st8 (absorb st0 T (T.length / 64)) := ⟨_, rfl⟩
      have hwl : ws.length = 8 := by rw [hws]; rfl
      have hwf : (ws.map bytesOf).flatten = sha bs := by rw [hws]; exact HT.out
      rw [← hws] at hH
      have HW := Lib.hid (And.intro hwl hwf)
      clear hm hq hTl hp hws hwl hwf HT
      go_wp2
      obtain ⟨e, he⟩ : ∃ e, e = wr.heap.size := ⟨_, rfl⟩
      obtain ⟨w8, hw8⟩ : ∃ w8, w8 = wr.alloc (.cells zero32 25) := ⟨_, rfl⟩
      have hr8 : Blk w8 r 25 zero32 := by rw [hw8]; exact hB.alloc _
      have hh8 : Blk w8 h 32 (ws.map w32).toArray := by rw [hw8]; exact hH.alloc _
      have he8 : Blk w8 e 25 (rowB [] 32) := by rw [hw8, he]; exact Blk.new wr zero32 25
      have F8 : Below r w w8 := by rw [hw8]; exact F.alloc (by have := hB.lt; omega) _
      have hre : r < e := by have := hB.lt; omega
      have hhe : h < e := by have := hH.lt; omega
      change Code.wp _ _ _ _ (wr.alloc (.cells zero32 25))
      rw [← hw8, ← he]
      clear hw8 he hB hH F hTc hd
      clear wr
      go_loopg [7] 32 (fun k i wr => ∃ m : Nat, i = .int .i64 m ∧ m + k = 32 ∧ Blk wr e 25 (rowB ((sha bs).take m) 32) ∧ Blk wr h 32 (ws.map w32).toArray ∧ Blk wr r 25 zero32 ∧ Below r w wr)
      case atStart => exact ⟨0, rfl, rfl, he8, hh8, hr8, F8⟩
      case round =>
        clear he8 hr8 F8 hh8
        obtain ⟨m, rfl, hm, he8, hh8, hr8, F8⟩ := hrel
        obtain ⟨hwl, hwf⟩ := HW.out
        have hsl := sha_len bs
        by_cases hq : m < 32
        · have hd : decide ((m : Int) < 32) = true := by rw [decide_eq_true_eq]; omega
          obtain ⟨q, s, hs4, hms⟩ : ∃ q s, s < 4 ∧ m = 4 * q + s := ⟨m / 4, m % 4, by omega, by omega⟩
          obtain ⟨x, hx⟩ : ∃ x, ws[q]? = some x := ⟨_, List.getElem?_eq_getElem (show q < ws.length by omega)⟩
          have hu := ubytes_get ws q s x hs4 hx
          rw [hwf, ← hms] at hu
          have hus : (sha bs).take m ++ [(x >>> (24 - 8 * s)).setWidth 8] = (sha bs).take (m + 1) := by
            rw [List.take_add_one, hu]; rfl
          obtain ⟨us, hus2⟩ : ∃ us, us = (sha bs).take m := ⟨_, rfl⟩
          have hul : us.length = m := by rw [hus2, List.length_take]; omega
          rw [← hus2] at he8 hus
          obtain ⟨v0, c0⟩ := rowB_get us 32 m (by omega)
          replace c0 := (he8.cell m).trans c0
          have f0 := he8.free m
          have c1 := hh8.cell q
          rw [List.getElem?_toArray, List.getElem?_map, hx, Option.map_some] at c1
          have d1 : (m : Int) / 4 = (q : Int) := by omega
          have d2 : (m : Int) % 4 = (s : Int) := by omega
          have d3 : IntKind.u32.wrap (s : Int) = (s : Int) := by rw [IntKind.wrap_u32]; omega
          have d4 : IntKind.u32.wrap (8 * (s : Int)) = 8 * (s : Int) := by rw [IntKind.wrap_u32]; omega
          have d5 : IntKind.u32.wrap (24 - 8 * (s : Int)) = 24 - 8 * (s : Int) := by rw [IntKind.wrap_u32]; omega
          have hsh : binOp .shr 31 (w32 x) (.int .u32 (24 - 8 * (s : Int))) = pure (w32 (x >>> (24 - 8 * s))) := by
            rw [shr_w32 _ _ _ _ (by omega) (by omega), show (24 - 8 * (s : Int)).toNat = 24 - 8 * s by omega]
          have hql : (q : Int) < 8 := by omega
          have HX := Lib.hid (And.intro hul (And.intro hus (show m + 1 + (gk - 1) = 32 by omega)))
          have HG := Lib.hid (show gk - 1 < gk by omega)
          clear hul hus hus2 hu hwf hwl hsl hx hms hm
          go_wp2
          go_roundg (gk - 1)
          case measure => exact HG.out
          case rel =>
            obtain ⟨hul, hus, hm1⟩ := HX.out
            refine ⟨m + 1, by go_num, hm1, ?_, hh8.set_other _ (by dsimp only; omega) _, hr8.set_other _ (by dsimp only; omega) _, F8.setCell (by dsimp only; omega) _⟩
            rw [← hus, ← rowB_snoc us 32 _ (by omega), hul]
            exact he8.set m _
        · have hd : decide ((m : Int) < 32) = false := by rw [decide_eq_false_iff_not]; omega
          obtain rfl : m = 32 := by omega
          rw [List.take_of_length_le (by omega), rowB_full _ hsl] at he8
          clear hq hm hwl hwf hsl
          go_wp2_with (first | (refine wpList_load_blk rfl 25 _ rfl he8 rfl (.array 32 5) (by kernel_rfl) rfl 32 (by kernel_rfl) (by simp [sha_len]) ?_) | (refine wpList_store_blk rfl 25 _ _ rfl hr8 _ rfl rfl 32 (by kernel_rfl) rfl (by simp [sha_len]) (by rw [List.toList_toArray]; exact b8_one _) ?_))
          intro w9 hr9 hg9
          have F9 := below_upd F8 hg9 (Nat.le_refl _) hr8.lt
          go_wp2
          rw [HR.out] at F9
          refine (ret_blk rfl hr9 rfl (.array 32 5) (by kernel_rfl) rfl 32 (by kernel_rfl) (by simp [sha_len]) ⟨rfl, F9⟩).2
end Go.Proofs.YtahlllbigkgobaaDoor
