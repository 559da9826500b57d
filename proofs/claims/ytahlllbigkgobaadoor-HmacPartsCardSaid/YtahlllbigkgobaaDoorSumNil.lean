/-
  The walks of Write and Sum of no digest.
-/
import Derived.Test.YtahlllbigkgobaaDoorSum
namespace Go.Proofs.YtahlllbigkgobaaDoor
open Go.RowKit
attribute [local irreducible] compress absorb
set_option maxHeartbeats 400000 in
theorem write_nil (ao : Option Addr) (n cp : Nat) (w : World) : Calls Tryd.prog 16 #[.pointer none, .slice ao n cp] w fun e w' => e = .returned (.tuple #[]) ∧ w = w' := by
  go_enter Tryd.func16, Tryd.ntmps16
  go_wp2
  exact ⟨rfl, .tuple #[], results_nil Tryd.results16 _ _, rfl, rfl⟩
set_option maxRecDepth 100000 in
set_option maxHeartbeats 4000000 in
theorem sum_nil (w : World) (hL : Laid w) :
    Calls Tryd.prog 17 #[.pointer none] w fun e w' => e = .returned (hashv (sha [])) ∧ Below w.heap.size w w' := by
  obtain ⟨xs, hxs⟩ : ∃ xs : List B, xs = [] := ⟨_, rfl⟩
  have hlen : xs.length ≤ 1099511627776 := by rw [hxs]; simp
  have hxs2 : sha [] = sha xs := by rw [hxs]
  rw [hxs2]
  clear hxs2
  have HXS := Lib.hid hxs
  clear hxs
  obtain ⟨i0, hi, hz0, hz1, hz2⟩ := info_parts infoU8
  go_enter Tryd.func17, Tryd.ntmps17
  go_upto_region 2 with (fail)
  generalize hr : w.heap.size = r
  obtain ⟨w1, hw1⟩ : ∃ w1, w1 = (w.alloc (.cells zero32 25)).alloc (.cells zeroD 36) := ⟨_, rfl⟩
  have e1 : w1.heap.size = r + 2 := by rw [hw1, alloc_size, alloc_size, hr]
  have hr1 : Blk w1 r 25 zero32 := by rw [hw1, ← hr]; exact (Blk.new w zero32 25).alloc _
  have hx1 : Blk w1 (r + 1) 36 zeroD := by rw [hw1, ← hr]; exact Blk.new1 w _ _ _
  have F1 : Below r w w1 := by rw [hw1, ← hr]; exact below_alloc2 _ _ _
  change Code.wp _ _ _ _ ((w.alloc (.cells zero32 25)).alloc (.cells zeroD 36))
  rw [← hw1]
  have hm : ∀ j u, ((st8 st0).map w32)[j]? = some u → w1.cell? ⟨0, 0 + j, none⟩ = some u := by
    intro j u hu
    have hj : j < 8 := by have := (List.getElem?_eq_some_iff.1 hu).1; simpa [st8] using this
    rw [Nat.zero_add]
    have h0 := hL.1 j hj
    rw [F1.cell (by have := World.block_lt_of_cell? w _ h0; omega), h0, ← hu]
    simp [List.getD, show j < (st8 st0).length from hj]
  clear hw1
  have c9 := hx1.cell 9
  replace c9 : w1.cell? ⟨r + 1, 9, none⟩ = some (.int .u64 0) := c9
  go_wp2_with (first | (refine wpList_load_mid rfl 33 _ rfl 0 0 rfl ((st8 st0).map w32) (.array 8 31) hm (by kernel_rfl) rfl (by kernel_rfl) ?_) | (refine wpList_store_mid_blk rfl 33 _ _ rfl hx1 0 _ rfl rfl 8 (by kernel_rfl) rfl (by simp) (st8_one _) (dcells st0 (.slice none 0 0) 0) rfl ?_))
  intro wc hxc hgc
  have hrc := hr1.grown hgc (by intro e; have h : r = r + 1 := Option.some.inj e; omega)
  have Fc : Below r w wc := below_upd F1 hgc (by omega) hx1.lt
  have ec : r + 2 ≤ wc.heap.size := by have := hgc.size; omega
  obtain ⟨a4, ha4⟩ : ∃ a4 : Option Addr, a4 = none := ⟨_, rfl⟩
  obtain ⟨cp4, hcp4⟩ : ∃ cp4 : Nat, cp4 = 0 := ⟨_, rfl⟩
  have hvv : Value.slice none 0 0 = .slice a4 (rest xs).length cp4 := by rw [ha4, hcp4, HXS.out]; rfl
  have hrowc : Row wc (.slice a4 (rest xs).length cp4) 5 1 (rest xs).length ((rest xs).map b8) := by
    rw [← hvv, HXS.out]; exact Row.nil wc 5 1
  have ho5 : ∀ g, (Value.slice a4 (rest xs).length cp4).ownBlock = some g → r + 2 ≤ g := fun g e => by rw [← hvv] at e; cases e
  have hxc2 : Blk wc (r + 1) 36 (dcells (absd xs) (.slice a4 (rest xs).length cp4) xs.length) := by
    rw [← hvv, HXS.out, absd_nil]; exact hxc
  have hl0 : (rest xs).length ≤ xs.length := by unfold rest; rw [List.length_drop]; omega
  clear hxc
  have hxc := hxc2
  clear hgc F1 e1 hr1 hx1 c9 hm hxc2 ha4 hcp4 hvv
  clear w1
  go_upto_region 6 with (fail)
  have c8 := hxc.cell 8
  have hl1 : (rest xs).length + 1 ≤ maxLen := by simp only [maxLen]; omega
  have hl2 : ((rest xs).length + 1) * 1 ≤ 140737488355328 := by omega
  go_wp2_with (at_builtin; refine wpList_append_row rfl _ _ 22 22 rfl 5 i0 (.int .u8 0) 1 1 (by kernel_rfl) hi hz0 hz1 hz2 rfl (by decide) (hrowc.alloc _) rfl ((bts_new1 wc 128 _ 5 rfl).src (e' := 5) (by kernel_rfl) 1 1 rfl) rfl hl1 hl2 ?_)
  intro v6 w6 hrow6 hg6 hv6
  have P6 := Pad.app ⟨hrowc, ho5, hxc, hrc, Fc, ec⟩ _ hrow6 hg6 hv6
  clear hrow6 hg6 hv6 hrowc hxc hrc Fc ec c8 hl1 hl2
  obtain ⟨a6, c6, rfl, -, h6, h7, -⟩ := P6.row.bts
  rw [show (rest xs ++ [128#8]).length = (rest xs).length + 1 from by simp] at P6 ⊢
  go_wp2
  go_loopg [4] (padz xs.length) (fun k t wr => ∃ (j c : Nat) (a : Option Addr), t = .slice a ((rest xs).length + 1 + j) c ∧ j + k = padz xs.length ∧ Pad r w (dcells (absd xs) (.slice a4 (rest xs).length cp4) xs.length) t (rest xs ++ [128] ++ List.replicate j 0) wr)
  case atStart => exact ⟨0, c6, a6, by simp, by omega, by simpa using P6⟩
  case round =>
    obtain ⟨j, c, a, rfl, hj, hP⟩ := hrel
    generalize hL1 : (rest xs).length + 1 + j = L at hP ⊢
    have hxl : (rest xs).length = xs.length % 64 := by unfold rest full; rw [List.length_drop]; omega
    have hj2 := hj
    unfold padz at hj2
    obtain ⟨ts, hts⟩ : ∃ ts, ts = rest xs ++ [128] ++ List.replicate j 0 := ⟨_, rfl⟩
    rw [← hts] at hP
    have htl : ts.length = L := by rw [hts, ← hL1]; simp; omega
    by_cases hq : L % 64 = 56
    · have hd : ((L : Int) % 64 != 56) = false := by rw [bne_eq_false_iff_eq]; omega
      have hk : j = padz xs.length := by unfold padz; omega
      have H1 := Lib.hid (And.intro hts (And.intro hL1 (And.intro htl (And.intro hxl (And.intro hj hk)))))
      clear hts hL1 htl hxl hj hj2 hk hq
      go_wp2
      go_loopg [4, 42] 8 (fun k t i wr => ∃ (m c : Nat) (a : Option Addr), t = .slice a (L + m) c ∧ i = .int .i64 m ∧ m + k = 8 ∧ Pad r w (dcells (absd xs) (.slice a4 (rest xs).length cp4) xs.length) t (ts ++ (len8 xs.length).take m) wr)
      case atStart => exact ⟨0, c, a, rfl, rfl, rfl, by simpa using hP⟩
      case round =>
        obtain ⟨m, c, a, rfl, rfl, hm, hP⟩ := hrel
        by_cases hq : m < 8
        · have hd : decide ((m : Int) < 8) = true := by rw [decide_eq_true_eq]; omega
          have c9 := hP.xb.cell 9
          have hlen8 : (len8 xs.length).length = 8 := by simp [len8]
          have hcell : Value.int .u8 (8 * (xs.length : Int) / 2 ^ (56 - 8 * m) % 256) = b8 ((len8 xs.length).getD m 0) := len8_cell xs.length m hq hlen
          obtain ⟨u, hu⟩ : ∃ u, u = (len8 xs.length).getD m 0 := ⟨_, rfl⟩
          rw [← hu] at hcell
          obtain ⟨us, hus⟩ : ∃ us, us = ts ++ (len8 xs.length).take m := ⟨_, rfl⟩
          rw [← hus] at hP
          have hul : us.length = L + m := by rw [hus, List.length_append, H1.out.2.2.1, List.length_take, hlen8]; omega
          have hl0 : L ≤ xs.length + 65 := by obtain ⟨-, h1, -, h2, -, h3⟩ := H1.out; have : padz xs.length < 64 := Nat.mod_lt _ (by decide); omega
          have hl1 : us.length + 1 ≤ maxLen := by simp only [maxLen]; omega
          have hl2 : (us.length + 1) * 1 ≤ 140737488355328 := by omega
          have hu2 : us ++ [u] = ts ++ (len8 xs.length).take (m + 1) := by
            rw [hus, hu, List.take_succ_eq_append_getElem (by omega), ← List.append_assoc]
            simp [List.getD, show m < (len8 xs.length).length by omega]
          have H2 := Lib.hid (And.intro hul hu2)
          clear hlen8 hu hus hul hu2 hl0
          go_wp2_with (at_builtin; refine wpList_append_row rfl _ _ 22 22 rfl 5 i0 (.int .u8 0) 1 1 (by kernel_rfl) hi hz0 hz1 hz2 rfl (by decide) (hP.row.alloc _) rfl ((bts_new1 wr u _ 5 rfl).src (e' := 5) (by kernel_rfl) 1 1 rfl) rfl hl1 hl2 ?_)
          intro v7 w7 hrow7 hg7 hv7
          have P7 := hP.app _ hrow7 hg7 hv7
          obtain ⟨a7, c7, rfl, -, -, -, -⟩ := P7.row.bts
          clear hrow7 hg7 hv7 hcell c9
          go_wp2
          go_roundg (gk - 1)
          case measure => omega
          case rel =>
            refine ⟨m + 1, c7, a7, by rw [List.length_append, H2.out.1]; rfl, rfl, by omega, ?_⟩
            rw [← H2.out.2]
            exact P7
        · have hd : decide ((m : Int) < 8) = false := by rw [decide_eq_false_iff_not]; omega
          obtain rfl : m = 8 := by omega
          go_wp2
          obtain ⟨T, hT⟩ : ∃ T, T = rest xs ++ pad xs.length := ⟨_, rfl⟩
          have hT2 : ts ++ (len8 xs.length).take 8 = T := by
            obtain ⟨h1, -, -, -, -, h6⟩ := H1.out
            rw [hT, h1, h6, List.take_of_length_le (by simp [len8])]; simp [pad]
          have hTl : L + 8 = T.length := by rw [← hT2, List.length_append, H1.out.2.2.1]; simp [len8]
          have hTq : T.length = 64 * (T.length / 64) := by
            obtain ⟨-, h2, -, h4, -, h6⟩ := H1.out
            unfold padz at h6; omega
          rw [hT2, hTl] at hP
          rw [hTl]
          have HT := Lib.hid (And.intro hT (And.intro hTl hTq))
          clear hT hT2 hTl hTq hq hd H1
          go_loopg [4] (T.length / 64) (fun k t wr => ∃ (m c : Nat) (a : Option Addr) (R : List B), t = .slice a R.length c ∧ R = T.drop (64 * m) ∧ m + k = T.length / 64 ∧ Pad r w (dcells (absorb (absd xs) T m) (.slice a4 (rest xs).length cp4) xs.length) t R wr)
          case atStart => exact ⟨0, c, a, T, rfl, by simp, by omega, by rw [absorb_zero]; exact hP⟩
          case round =>
            obtain ⟨m, c, a, R, rfl, hR, hm, hP⟩ := hrel
            have hRl : R.length = T.length - 64 * m := by rw [hR, List.length_drop]
            have hTq := HT.out.2.2
            by_cases hq : m < T.length / 64
            · have h64 : 64 ≤ R.length := by omega
              have hpos : 0 < R.length := by omega
              have hd : decide ((0 : Int) < (R.length : Int)) = true := by rw [decide_eq_true_eq]; omega
              have HM := Lib.hid (And.intro hR (And.intro hm (And.intro hRl hq)))
              clear hR hm hRl hTq hq
              go_upto_region 15 with (fail)
              obtain ⟨g, off, cur, rfl, hg0, hc1, hc2, hc3, hcell⟩ := hP.row.place hpos
              have hsl : ∀ W : World, (Instr.slice 22 (.slice (some ⟨g, off, none⟩) R.length c) none (some (.int .i64 64)) none).run Tryd.prog W = .ok (.slice (some ⟨g, off, none⟩) 64 c) W := fun W => run_upto_row (by kernel_rfl) hi g off _ c 64 h64 hc1 W
              obtain ⟨S, hSd⟩ : ∃ S : World → Prop, S = fun w => Blk w (r + 1) 36 (dcells (absorb (absd xs) T m) (.slice a4 (rest xs).length cp4) xs.length) := ⟨_, rfl⟩
              refine wp_region_N S [6] (by kernel_rfl) ?_
              obtain ⟨wd, hwd⟩ : ∃ wd, wd = wr.drew := ⟨_, rfl⟩
              replace hP : Pad r w (dcells (absorb (absd xs) T m) (.slice a4 (rest xs).length cp4) xs.length) (.slice (some ⟨g, off, none⟩) R.length c) R wd := by rw [hwd]; exact ⟨hP.row, hP.own, hP.xb, hP.rb, hP.bel.drew, hP.sz⟩
              replace hcell : ∀ j, j < (R.map b8).length → wd.cell? ⟨g, off + j, none⟩ = (R.map b8)[j]? := by rw [hwd]; exact hcell
              rw [← hwd]
              clear hwd hg0
              clear wr
              have hSw : S wd := by rw [hSd]; exact hP.xb
              have HR := Lib.hid (And.intro hSd hcell)
              clear hSd hcell
              refine wpAnyN_pureG 0 60 (v := ?_) rfl rfl (by kernel_rfl) (by kernel_rfl) (by kernel_rfl) (fun _ _ _ h => h) rfl (fun w => ?_) ?_
              rotate_left
              · go_simp
                try with_reducible rfl
              refine wpAnyN_takeG 1 61 (v := ?_) rfl rfl (by kernel_rfl) (by kernel_rfl) (by kernel_rfl) (by kernel_rfl) (fun _ _ _ h => h) (by assumption) rfl (fun w hS => ?_) ?_
              rotate_left
              · (refine run_load_mid_blk 33 (.tmp 60) ?_ (by rw [HR.out.1] at hS; exact hS) 0 ?_ ((st8 (absorb (absd xs) T m)).map w32) (dcells_st _ _ _) (.array 8 31) (by kernel_rfl) rfl 8 (by kernel_rfl) rfl <;> rfl)
              refine wpAnyN_pureG 2 62 (v := ?_) rfl rfl (by kernel_rfl) (by kernel_rfl) (by kernel_rfl) (fun _ _ _ h => h) rfl (fun w => ?_) ?_
              rotate_left
              · go_simp
                try with_reducible rfl
              refine wpAnyN_pureG 3 63 (v := ?_) rfl rfl (by kernel_rfl) (by kernel_rfl) (by kernel_rfl) (fun _ _ _ h => h) rfl (fun w => ?_) ?_
              rotate_left
              · go_simp
                try with_reducible rfl
              have hcb : ∀ j, j < 64 → wd.cell? ⟨g, off + j, none⟩ = some (b8 (R.getD j 0)) := fun j hj => by
                have := HR.out.2 j (by simp; omega)
                rw [this]
                simp [List.getD, show j < R.length by omega]
              have hsz := hP.sz
              have hLr : Laid wd := hL.below (hP.bel) (by omega)
              refine wpAnyN_call 4 27 (some 64) [.tmp 61, .tmp 63] [.agg ((st8 (absorb (absd xs) T m)).map w32).toArray, .slice (some ⟨g, off, none⟩) 64 c] (by kernel_rfl) rfl rfl rfl rfl (by go_simp) Tryd.call27 ?_
              rw [← stv_eq]
              refine (takes_any (absorb (absd xs) T m) g off c wd R (by omega) (by simp only [maxLen] at hc2; omega) hLr hcb).mono ?_
              rintro e w5 ⟨rfl, hw5⟩
              refine ⟨_, rfl, fun _ hS => ?_, ?_⟩
              · rw [HR.out.1] at hS ⊢
                exact hS.below hw5 hS.lt
              refine wpAnyN_pureG 5 65 (v := ?_) rfl rfl (by kernel_rfl) (by kernel_rfl) (by kernel_rfl) (fun _ _ _ h => h) rfl (fun w => ?_) ?_
              rotate_left
              · go_simp
                try with_reducible rfl
              have hB5 := hP.xb.below hw5 hP.xb.lt
              refine wpAnyN_store_blk 6 33 (.tmp 65) (.tmp 64) (by kernel_rfl) rfl rfl rfl rfl hB5 0 ((st8 (compress (absorb (absd xs) T m) R)).map w32).toArray (by go_simp) (by go_simp; rfl) 8 (by kernel_rfl) rfl (dcells_size _ _ _) (st8_one _) (dcells (compress (absorb (absd xs) T m) R) (.slice a4 (rest xs).length cp4) xs.length) (dcells_store _ _ _ _) ?_
              intro w6 hB6 hg6
              refine ⟨fun h => absurd (by simp) h, wpAnyN_done (by kernel_rfl) ?_⟩
              have hP6 := hP.step hw5 hB6 hg6
              obtain ⟨a7, ha7, -, ho7, hk7⟩ := run_from_row (P := Tryd.prog) (t := 22) (by kernel_rfl) hi hz1 (some ⟨g, off, none⟩) R.length c 64 h64 hc1
              have hR7 := hk7 _ _ hP6.row
              obtain ⟨hR, hm, hRl, hq⟩ := HM.out
              have hTq := HT.out.2.2
              have e1 : R.length - 64 = (T.drop (64 * (m + 1))).length := by rw [List.length_drop]; omega
              have e2 : (R.map b8).drop (64 * 1) = (T.drop (64 * (m + 1))).map b8 := by rw [← List.map_drop, hR, List.drop_drop]; congr 2
              have e3 : compress (absorb (absd xs) T m) R = absorb (absd xs) T (m + 1) := by rw [absorb_snoc, compress_take, hR]
              rw [e2, e1] at hR7
              rw [e3] at hP6
              rw [e1] at ho7
              have hP7 := hP6.drop hR7 ho7
              have HE := Lib.hid (And.intro e1 (show m + 1 + (gk - 1) = T.length / 64 by omega))
              have hmg : gk - 1 < gk := by omega
              have HG := Lib.hid hmg
              clear hR7 ho7 hk7 hP6 hB6 hg6 hB5 hw5 hP HR hLr hcb hsl e1 e2 e3 hR hm hRl hq hTq hmg HM hc3
              have HA := Lib.hid (slice_two a7 g off R.length c _ ha7 HE.out.1)
              clear ha7
              go_wp2
              all_goals
                go_roundg (gk - 1)
                case measure => exact HG.out
                case rel =>
                  first
                  | exact ⟨m + 1, c - 64, a7, _, HA.out.1 (by first | rfl | assumption), rfl, HE.out.2, by rw [HA.out.1 (by first | rfl | assumption)]; exact hP7⟩
                  | exact ⟨m + 1, c - 64, a7, _, HA.out.2 (by assumption), rfl, HE.out.2, by rw [HA.out.2 (by assumption)]; exact hP7⟩
            · have hR0 : R.length = 0 := by omega
              have hm2 : m = T.length / 64 := by omega
              have HM := Lib.hid (And.intro hm2 hR)
              clear hR hm hRl hTq hq hm2
              obtain rfl : R = [] := List.eq_nil_of_length_eq_zero hR0
              clear hR0
              go_wp2_with (refine wpList_load_mid_blk rfl 33 _ rfl (hP.xb.alloc _) 0 rfl ((st8 (absorb (absd xs) T m)).map w32) (dcells_st _ _ _) (.array 8 31) (by kernel_rfl) rfl 8 (by kernel_rfl) rfl ?_)
              obtain ⟨e, he⟩ : ∃ e, e = wr.heap.size := ⟨_, rfl⟩
              obtain ⟨w8, hw8⟩ : ∃ w8, w8 = wr.alloc (.cells zero32 25) := ⟨_, rfl⟩
              have hr8 : Blk w8 r 25 zero32 := by rw [hw8]; exact hP.rb.alloc _
              have he8 : Blk w8 e 25 (rowB [] 32) := by rw [hw8, he]; exact Blk.new wr zero32 25
              have F8 : Below r w w8 := by rw [hw8]; exact hP.bel.alloc (by have := hP.sz; omega) _
              have hre : r < e := by have := hP.sz; omega
              change Code.wp _ _ _ _ (wr.alloc (.cells zero32 25))
              rw [← hw8, ← he]
              obtain ⟨ws, hws⟩ : ∃ ws, ws = st8 (absorb (absd xs) T m) := ⟨_, rfl⟩
              have hwl : ws.length = 8 := by rw [hws]; rfl
              have hwf : (ws.map bytesOf).flatten = sha xs := by rw [hws, HM.out.1]; exact sum_final xs T HT.out.1 HT.out.2.2
              rw [← hws]
              have HW := Lib.hid (And.intro hwl hwf)
              have hrw : r < w8.heap.size := hr8.lt
              clear hw8 he hws hwl hwf hP HM HT
              clear wr
              go_loopg [7, 8, 70] 8 (fun k _ _ i wr => ∃ m : Nat, i = .int .i64 m ∧ m + k = 8 ∧ Blk wr e 25 (rowB (((ws.take m).map bytesOf).flatten) 32) ∧ Blk wr r 25 zero32 ∧ Below r w wr)
              case atStart => exact ⟨0, rfl, rfl, he8, hr8, F8⟩
              case round =>
                clear he8 hr8 F8
                obtain ⟨m, rfl, hm, he8, hr8, F8⟩ := hrel
                obtain ⟨hwl, hwf⟩ := HW.out
                by_cases hq : m < 8
                · have hd : decide ((m : Int) < 8) = true := by rw [decide_eq_true_eq]; omega
                  obtain ⟨x, hx⟩ : ∃ x, ws[m]? = some x := ⟨_, List.getElem?_eq_getElem (show m < ws.length by omega)⟩
                  have hix : ∀ W : World, (Instr.index 33 (.agg (ws.map w32).toArray) (.int .i64 (m : Nat))).run Tryd.prog W = .ok (w32 x) W := fun W =>
                    run_index_one (n := 8) (by kernel_rfl) (show Tryd.prog.underlying 31 = some (.int .u32) by kernel_rfl) (by kernel_rfl) _ m hq (w32 x) (by simp [hx]) W
                  obtain ⟨us, hus⟩ : ∃ us, us = ((ws.take m).map bytesOf).flatten := ⟨_, rfl⟩
                  have hul : us.length = 4 * m := by rw [hus, out_len, List.length_take]; omega
                  have hus2 : us ++ bytesOf x = ((ws.take (m + 1)).map bytesOf).flatten := by rw [out_snoc ws m x hx, hus]
                  rw [← hus] at he8
                  obtain ⟨v0, c0⟩ := rowB_get us 32 (4 * m) (by omega)
                  obtain ⟨v1, c1⟩ := rowB_get us 32 (4 * m + 1) (by omega)
                  obtain ⟨v2, c2⟩ := rowB_get us 32 (4 * m + 2) (by omega)
                  obtain ⟨v3, c3⟩ := rowB_get us 32 (4 * m + 3) (by omega)
                  replace c0 := (he8.cell (4 * m)).trans c0
                  replace c1 := (he8.cell (4 * m + 1)).trans c1
                  replace c2 := (he8.cell (4 * m + 2)).trans c2
                  replace c3 := (he8.cell (4 * m + 3)).trans c3
                  have f0 := he8.free (4 * m)
                  have f1 := he8.free (4 * m + 1)
                  have f2 := he8.free (4 * m + 2)
                  have f3 := he8.free (4 * m + 3)
                  have HX := Lib.hid (And.intro hx (And.intro hul (And.intro hus2 (show m + 1 + (gk - 1) = 8 by omega))))
                  have hmg : gk - 1 < gk := by omega
                  have HG := Lib.hid hmg
                  clear hx hul hus2 hus hmg hm hwl hwf
                  go_wp2
                  go_roundg (gk - 1)
                  case measure => exact HG.out
                  case rel =>
                    obtain ⟨hx, hul, hus2, hm1⟩ := HX.out
                    refine ⟨m + 1, by go_num, hm1, ?_, (((hr8.set_other _ (by dsimp only; omega) _).set_other _ (by dsimp only; omega) _).set_other _ (by dsimp only; omega) _).set_other _ (by dsimp only; omega) _,
                      (((F8.setCell (by dsimp only; omega) _).setCell (by dsimp only; omega) _).setCell (by dsimp only; omega) _).setCell (by dsimp only; omega) _⟩
                    rw [← hus2, show bytesOf x = [(x >>> 24).setWidth 8, (x >>> 16).setWidth 8, (x >>> 8).setWidth 8, x.setWidth 8] from rfl, ← rowB_four us 32 (4 * m) _ _ _ _ hul (by omega)]
                    exact (((he8.set (4 * m) _).set (4 * m + 1) _).set (4 * m + 2) _).set (4 * m + 3) _
                · have hd : decide ((m : Int) < 8) = false := by rw [decide_eq_false_iff_not]; omega
                  obtain rfl : m = 8 := by omega
                  clear hq hm
                  rw [List.take_of_length_le (by omega), hwf, rowB_full _ (sha_len xs)] at he8
                  clear hwl hwf
                  go_wp2_with (first | (refine wpList_load_blk rfl 25 _ rfl he8 rfl (.array 32 5) (by kernel_rfl) rfl 32 (by kernel_rfl) (by simp [sha_len]) ?_) | (refine wpList_store_blk rfl 25 _ _ rfl hr8 _ rfl rfl 32 (by kernel_rfl) rfl (by simp [sha_len]) (by rw [List.toList_toArray]; exact b8_one _) ?_))
                  intro w9 hr9 hg9
                  have F9 := below_upd F8 hg9 (Nat.le_refl _) hr8.lt
                  go_wp2
                  rw [← hr] at F9
                  refine (ret_blk rfl hr9 rfl (.array 32 5) (by kernel_rfl) rfl 32 (by kernel_rfl) (by simp [sha_len]) ⟨rfl, F9⟩).2
    · have hd : ((L : Int) % 64 != 56) = true := by rw [bne_iff_ne]; omega
      have hl1 : ts.length + 1 ≤ maxLen := by simp only [maxLen]; omega
      have hl2 : (ts.length + 1) * 1 ≤ 140737488355328 := by omega
      have hm : gk - 1 < gk := by omega
      have H1 := Lib.hid (And.intro hts (And.intro hL1 (And.intro htl (And.intro hj hm))))
      clear hts hL1 htl hxl hj hj2 hq hm
      go_wp2_with (at_builtin; refine wpList_append_row rfl _ _ 22 22 rfl 5 i0 (.int .u8 0) 1 1 (by kernel_rfl) hi hz0 hz1 hz2 rfl (by decide) (hP.row.alloc _) rfl ((bts_new1 wr 0 _ 5 rfl).src (e' := 5) (by kernel_rfl) 1 1 rfl) rfl hl1 hl2 ?_)
      intro v7 w7 hrow7 hg7 hv7
      have P7 := hP.app _ hrow7 hg7 hv7
      obtain ⟨a7, c7, rfl, -, -, -, -⟩ := P7.row.bts
      go_wp2
      go_roundg (gk - 1)
      case measure => exact H1.out.2.2.2.2
      case rel =>
        obtain ⟨hts, hL1, htl, hj, hm⟩ := H1.out
        refine ⟨j + 1, c7, a7, by rw [List.length_append, htl, ← hL1]; rfl, by omega, ?_⟩
        rw [List.replicate_succ', ← List.append_assoc, ← hts]
        exact P7
end Go.Proofs.YtahlllbigkgobaaDoor
