/-
  The walk of the statement EdgeOwn.
-/
import Derived.Test.YtbglblamoodocaaDoorLENil
import Derived.Test.YtbglblamoodocaaDoorReg2
namespace Go.Proofs.YtbglblamoodocaaDoor
open Go Go.RowKit
attribute [local irreducible] sha
theorem Row.some {w : World} {g off n c e sz : Nat} {cur : Array Value} (hg : w.heap[g]? = .some (.cells cur e (0, 0))) (h1 : n ≤ c) (h2 : c ≤ maxLen) (h3 : off + c * sz ≤ cur.size) : ∃ xs, Row w (.slice (.some ⟨g, off, none⟩) n c) e sz n xs := by
  have hle : n * sz ≤ c * sz := Nat.mul_le_mul_right _ h1
  refine ⟨(cur.toList.drop off).take (n * sz), ?_, .inr ⟨g, off, c, cur, rfl, hg, h1, h2, h3, fun j hj => ?_⟩⟩
  · rw [List.length_take, List.length_drop, Array.length_toList]; omega
  · rw [List.length_take, List.length_drop, Array.length_toList] at hj
    rw [List.getElem?_take, if_pos (by omega), List.getElem?_drop]
    simp
theorem splice_size (cur : Array Value) (Z : List Value) (o : Nat) (hZ : Z.length = 32) (h : o + 32 ≤ cur.size) : (cur.toList.take o ++ Z ++ cur.toList.drop (o + 32)).toArray.size = cur.size := by
  simp only [List.size_toArray, List.length_append, List.length_take, List.length_drop, Array.length_toList]
  omega
set_option maxRecDepth 100000 in
set_option maxHeartbeats 4000000 in
theorem eown_any (w : World) (hL : Laid w) (ao : Option Addr) (cp : Nat) (l : List Hs) (hB : Hts w ao l) (hc : l.length ≤ cp) (hm : cp ≤ maxLen) :
    Calls Tryd.prog 15 #[.slice ao l.length cp] w fun e w' => e = .returned (.bool true) ∧ Below w.heap.size w w' := by
  have hl9 : l.length ≤ 9223372036854775807 := Nat.le_trans hc hm
  have hm0 : cp ≤ 9223372036854775807 := hm
  by_cases hlen : l.length ≤ 60
  · have hd : decide ((60 : Int) < (l.length : Int)) = false := by rw [decide_eq_false_iff_not]; omega
    obtain ⟨i0, hi, hz0, hz1, hz2⟩ := info_parts infoHs
    obtain ⟨r, hr⟩ : ∃ r, r = w.heap.size := ⟨_, rfl⟩
    have HR := Lib.hid hr
    have hr0 : w.heap.size ≤ r := by omega
    have HR0 := Lib.hid hr0
    have hzt := fun w => run_zeroT w
    have HBB : ∀ w', Below r w w' → Hts w' ao l := fun w' h => hB.below h hr0
    have HB := Lib.hid HBB
    clear hr hr0 HBB
    go_enter Tryd.func15, Tryd.ntmps15
    go_wp2_with fail
    refine (awake17_any w hL).mono ?_
    rintro e w1 ⟨rfl, F1⟩
    rw [← HR.out] at F1
    have hs1 := F1.size
    rw [← HR.out] at hs1
    obtain ⟨t, ht⟩ : ∃ t, t = w1.heap.size := ⟨_, rfl⟩
    have hT0 : TreeO r w (w1.alloc (.cells zeroT 46)) t (.slice none 0 0) [] := by rw [ht]; exact TreeO.new F1 hs1
    have HT0 := Lib.hid (And.intro hT0 ht)
    clear hT0 ht hs1 F1
    go_wp2
    rw [← HT0.out.2]
    go_loopg [4] l.length (fun g i wr => ∃ (m : Nat) (v : Value), i = .int .i64 m ∧ m + g = l.length ∧ TreeO r w wr t v (l.take m))
    case atStart => exact ⟨0, .slice none 0 0, rfl, by omega, by rw [List.take_zero]; exact HT0.out.1⟩
    case round =>
      clear HT0
      obtain ⟨m, v, rfl, hmk, hT⟩ := hrel
      by_cases hml : m < l.length
      · have hd2 : decide ((m : Int) < (l.length : Int)) = true := by rw [decide_eq_true_eq]; omega
        obtain ⟨g, off, rfl, hg, hrg⟩ := (HB.out wr hT.bel).place (by omega)
        have hts := take_succ_eq l m hml
        have hy0 := hrg m hml
        obtain ⟨y, hy⟩ : ∃ y : Hs, y = l[m] := ⟨_, rfl⟩
        rw [← hy] at hts hy0
        have hyl := y.2
        have HU := Lib.hid (And.intro hts (show m + 1 + (gk - 1) = l.length ∧ gk - 1 < gk by omega))
        have hPl : (l.take m).length ≤ 1000000 := by rw [List.length_take]; omega
        have cp2 := hT.push hL HR0.out y hPl
        clear hrg hg hy hts hT hPl hmk
        go_wp2_with (refine wpList_load_mid rfl 28 _ rfl g (off + m * 32) rfl (y.1.map b8) (.array 32 5) hy0 (by kernel_rfl) rfl (by rw [List.length_map, hyl]; kernel_rfl) ?_)
        refine cp2.mono ?_
        rintro e w7 ⟨rfl, v7, hT7, -, -⟩
        rw [← HU.out.1] at hT7
        have HT7 := Lib.hid hT7
        clear cp2 hT7 hy0
        clear wr
        go_wp2
        go_roundg (gk - 1)
        case measure => exact HU.out.2.2
        case rel => exact ⟨m + 1, v7, by go_num, HU.out.2.1, HT7.out⟩
      · have hd2 : decide (m < l.length) = false := by rw [decide_eq_false_iff_not]; omega
        obtain rfl : m = l.length := by omega
        rw [List.take_length] at hT
        obtain ⟨z, hz⟩ : ∃ z, z = rootH l := ⟨_, rfl⟩
        obtain ⟨q, hq⟩ : ∃ q, q = edgeH l := ⟨_, rfl⟩
        have hzl := z.2
        have hql : q.length ≤ 60 := by rw [hq]; have := edgeH_small l; omega
        have HZ := Lib.hid (And.intro hz hq)
        clear hz hq hmk hml
        have HT := Lib.hid hT
        clear hT
        go_wp2_with fail
        refine (HT.out.root hL HR0.out (by omega)).mono ?_
        rintro e w2 ⟨rfl, G2⟩
        rw [← HZ.out.1]
        have hT2 := HT.out.below G2
        clear HT G2
        clear wr
        obtain ⟨b, hb⟩ : ∃ b, b = w2.heap.size := ⟨_, rfl⟩
        have hZ2 : Blk (w2.alloc (.cells zero32 28)) b 28 zero32 := by rw [hb]; exact Blk.new w2 _ _
        have hbt : t < b := by rw [hb]; exact hT2.lt
        have hbo : ∀ g, v.ownBlock = some g → g < b := fun g e => by rw [hb]; exact hT2.rlt g e
        have hbr : r ≤ b := by rw [hb]; exact hT2.le
        have hT2a := hT2.below (below_alloc1 w2 (.cells zero32 28))
        have HT2 := Lib.hid (And.intro hT2a (And.intro hbt (And.intro hbo (And.intro hbr hb))))
        have HB2 := Lib.hid (And.intro hb hZ2)
        clear hT2 hbt hbo hbr hT2a hb hZ2
        go_wp2_with (refine wpList_store_blk rfl 28 _ _ rfl (by rw [← HB2.out.1]; exact HB2.out.2) (z.1.map b8).toArray rfl rfl 32 (by kernel_rfl) rfl (by simp [hzl]) (by rw [List.toList_toArray]; exact b8_one _) ?_)
        intro w3 hZ3 hg3
        rw [← HT2.out.2.2.2.2] at hZ3 hg3 ⊢
        have hT3 : TreeO r w w3 t v l := by
          have h0 := HT2.out.1
          exact ⟨⟨h0.tree.blk.grown hg3 (fun e => by have := Option.some.inj e; have := HT2.out.2.1; omega), h0.tree.row.grown hg3 (fun g e e' => by have := Option.some.inj e'; have := HT2.out.2.2.1 g e; omega), h0.tree.ne⟩, h0.ge, h0.own, below_upd h0.bel hg3 HT2.out.2.2.2.1 (by have := HB2.out.2.lt; exact this)⟩
        have hbt := HT2.out.2.1
        have hbo := HT2.out.2.2.1
        clear HB2 hg3
        have HT3 := Lib.hid (And.intro hT3 (And.intro hZ3 (And.intro hbt hbo)))
        clear HT2 hT3 hZ3 hbt hbo
        clear w2
        go_wp2_with fail
        refine (tedge_any w3 t v l HT3.out.1.tree (by omega)).mono ?_
        rintro e w4 ⟨v4, rfl, O4⟩
        rw [← HZ.out.2] at O4
        have hT4 := HT3.out.1.below O4.bel
        have hZ4 := HT3.out.2.1.below O4.bel HT3.out.2.1.lt
        have R4 := O4.row
        have hsep : ∀ g, v4.ownBlock = some g → g ≠ t ∧ v.ownBlock ≠ some g ∧ g ≠ b ∧ r ≤ g := fun g e => by
          have h1 := O4.own g e
          have h2 := HT3.out.1.lt
          have h3 := HT3.out.2.1.lt
          have h4 := HT3.out.1.le
          refine ⟨by omega, fun e2 => ?_, by omega, by omega⟩
          have := HT3.out.1.rlt g e2; omega
        have HS := Lib.hid (And.intro hT4 (And.intro hZ4 (And.intro R4 hsep)))
        clear O4 hT4 hZ4 hsep HT3
        clear w3
        obtain ⟨a4, c4, rfl⟩ := R4.shape
        obtain ⟨b1, b2, b3, -, -, -, hY4⟩ := R4.hts
        cases b3
        have hsrc := hY4.src q.length c4 rfl
        have O5 : Own w4.heap.size w4 w4 28 32 (.slice none 0 0) 0 [] := Own.nil _ _ _ rfl
        have hl1 : 0 + q.length ≤ maxLen := by simp only [maxLen]; omega
        have hl2 : (0 + q.length) * 32 ≤ 140737488355328 := by omega
        clear R4 hY4
        go_wp2_with (at_builtin; refine wpList_append_row rfl _ _ 32 32 rfl 28 i0 (.agg zero32) 32 32 (by kernel_rfl) hi hz0 hz1 hz2 rfl (by decide) O5.row rfl hsrc rfl hl1 hl2 ?_)
        intro v6 w6 hrow6 hg6 hv6
        have O6 : OwnH w4.heap.size w4 w6 v6 q := OwnH.app (l := []) (k := q) O5 (by simpa [flat_nil] using hrow6) hg6 hv6
        have hsep6 : ∀ g, (Value.slice a4 q.length c4).ownBlock = some g → v6.ownBlock ≠ some g := fun g e e2 => by
          have h1 := HS.out.2.2.1.lt g e
          have h2 := O6.own g e2
          omega
        obtain ⟨a6, c6, rfl⟩ := O6.row.shape
        have HL6 := Lib.hid (And.intro (HS.out.1.below O6.bel) (And.intro (HS.out.2.1.below O6.bel HS.out.2.1.lt) (And.intro (HS.out.2.2.1.below O6.bel (fun g e => HS.out.2.2.1.lt g e)) (And.intro O6.row (And.intro HS.out.2.2.2 hsep6)))))
        clear hrow6 hg6 hv6 O6 O5 hsrc hl1 hl2 hsep6 HS
        clear w4
        go_wp2
        go_loopg [8] q.length (fun g i wr => ∃ (m : Nat) (xs : List Value), i = .int .i64 m ∧ m + g = q.length ∧ TreeO r w wr t v l ∧ Blk wr b 28 (z.1.map b8).toArray ∧ Row wr (.slice a4 q.length c4) 28 32 q.length xs ∧ Row wr (.slice a6 q.length c6) 28 32 q.length ((flat q).map b8))
        case atStart => exact ⟨0, _, rfl, by omega, HL6.out.1, HL6.out.2.1, HL6.out.2.2.1, HL6.out.2.2.2.1⟩
        case round =>
          obtain ⟨m, xs, rfl, hmk, hT, hZ, hE, hO⟩ := hrel
          have hs1 := HL6.out.2.2.2.2.1
          have hs2 := HL6.out.2.2.2.2.2
          by_cases hml : m < q.length
          · have hd2 : decide ((m : Int) < (q.length : Int)) = true := by rw [decide_eq_true_eq]; omega
            obtain ⟨g, off, cur, rfl, hg, hn1, hn2, hn3, -⟩ := hE.place (by omega)
            have hk := hs1 g rfl
            have hBE : Blk wr g 28 cur := hg
            have HU := Lib.hid (And.intro hT (And.intro hZ (And.intro hO (And.intro hBE (And.intro hk (And.intro (hs2 g rfl) (And.intro hn1 (And.intro hn2 (And.intro hn3 (show m + 1 + (gk - 1) = q.length ∧ gk - 1 < gk by omega))))))))))
            have hle : off + m * 32 + 32 ≤ cur.size := by have : (m + 1) * 32 ≤ c4 * 32 := Nat.mul_le_mul_right _ (by omega); omega
            obtain ⟨new, hnew⟩ : ∃ new, new = (cur.toList.take (off + m * 32) ++ zero32.toList ++ cur.toList.drop (off + m * 32 + 32)).toArray := ⟨_, rfl⟩
            have hns : new.size = cur.size := by rw [hnew]; exact splice_size cur _ _ rfl hle
            have HN := Lib.hid (And.intro hnew hns)
            clear hT hZ hE hO hk hn1 hn2 hn3 hmk hs1 hs2 hg hnew hns
            go_wp2_with (refine wpList_store_mid_blk rfl 28 _ _ rfl hBE (off + m * 32) zero32 rfl rfl 32 (by kernel_rfl) rfl hle (by decide) new HN.out.1 ?_)
            intro w7 hB7 hg7
            have hT := HU.out.1
            have hT7 : TreeO r w w7 t v l :=
              ⟨⟨hT.tree.blk.grown hg7 (fun e => HU.out.2.2.2.2.1.1 (Option.some.inj e).symm), hT.tree.row.grown hg7 (fun x e e' => HU.out.2.2.2.2.1.2.1 (by rw [e, e'])), hT.tree.ne⟩, hT.ge, hT.own, below_upd hT.bel hg7 HU.out.2.2.2.2.1.2.2.2 hBE.lt⟩
            have hZ7 := HU.out.2.1.grown hg7 (fun e => HU.out.2.2.2.2.1.2.2.1 (Option.some.inj e).symm)
            have hO7 := HU.out.2.2.1.grown hg7 (fun x e e' => HU.out.2.2.2.2.2.1 (by rw [e, e']))
            obtain ⟨xs', hE7⟩ := Row.some (n := q.length) (c := c4) (off := off) (sz := 32) hB7 HU.out.2.2.2.2.2.2.1 HU.out.2.2.2.2.2.2.2.1 (by
              have h1 := HU.out.2.2.2.2.2.2.2.2.1
              rw [HN.out.2]; exact h1)
            have HT7 := Lib.hid (And.intro hT7 (And.intro hZ7 (And.intro hE7 hO7)))
            clear hT7 hZ7 hE7 hO7 hT hB7 hg7 hBE hle
            go_wp2
            go_roundg (gk - 1)
            case measure => exact HU.out.2.2.2.2.2.2.2.2.2.2
            case rel => exact ⟨m + 1, xs', by go_num, HU.out.2.2.2.2.2.2.2.2.2.1, HT7.out.1, HT7.out.2.1, HT7.out.2.2.1, HT7.out.2.2.2⟩
          · have hd2 : decide (m < q.length) = false := by rw [decide_eq_false_iff_not]; omega
            clear hE hmk hs1 hs2 hml
            obtain ⟨b1, b2, b3, -, -, -, hYO⟩ := hO.hts
            cases b3
            go_upto_region 16 with (fail)
            refine wp_region_N (fun w' => Blk w' b 28 (z.1.map b8).toArray) [] (by kernel_rfl) ?_
            obtain ⟨wd, hwd⟩ : ∃ wd, wd = wr.drew := ⟨_, rfl⟩
            replace hT : TreeO r w wd t v l := by rw [hwd]; exact hT.drew
            replace hZ : Blk wd b 28 (z.1.map b8).toArray := by rw [hwd]; exact hZ
            replace hO : Row wd (.slice a6 q.length c6) 28 32 q.length ((flat q).map b8) := by rw [hwd]; exact hO
            rw [← hwd]
            clear hwd hYO
            clear wr
            refine wpAnyN_pureG 0 48 (v := ?_) rfl rfl (by kernel_rfl) (by kernel_rfl) (by kernel_rfl) (fun _ _ _ h => h) rfl (fun w => ?_) ?_
            rotate_left
            · go_simp
              try with_reducible rfl
            simp only [Act.put, List.setIfInBounds_toArray, List.set_cons_succ, List.set_cons_zero]
            refine wpAnyN_takeG 2 50 (v := hval z) rfl rfl (by kernel_rfl) (by kernel_rfl) (by kernel_rfl) (by kernel_rfl) (fun _ _ _ h => h) hZ rfl (fun w hS => ?_) ?_
            · exact run_load_mid_blk 28 _ rfl hS 0 (by go_simp) (z.1.map b8) (fun j v h => by rw [Nat.zero_add, List.getElem?_toArray]; exact h) (.array 32 5) (by kernel_rfl) rfl 32 (by kernel_rfl) (by simp [hzl])
            have c1 := hT.root hL HR0.out (by omega)
            rw [← HZ.out.1] at c1
            refine wpAnyN_call 1 37 (some 49) [.tmp 48] [.pointer (some ⟨t, 0, none⟩)] (by kernel_rfl) rfl rfl rfl rfl (by go_simp) Tryd.call37 ?_
            refine c1.mono ?_
            rintro e w2 ⟨rfl, G2⟩
            have hT2 := hT.below G2
            have hO2 := hO.below G2 (fun g e => hO.lt g e)
            refine ⟨_, rfl, fun _ h => h.below G2 h.lt, ?_⟩
            clear c1 hT hO hZ G2
            clear wd
            simp only [Act.put, List.setIfInBounds_toArray, List.set_cons_succ, List.set_cons_zero]
            refine wpAnyN_pureG 3 51 (v := ?_) rfl rfl (by kernel_rfl) (by kernel_rfl) (by kernel_rfl) (fun _ _ _ h => h) rfl (fun w => ?_) ?_
            rotate_left
            · go_simp
              try with_reducible rfl
            refine wpAnyN_pureG 4 52 (v := ?_) rfl rfl (by kernel_rfl) (by kernel_rfl) (by kernel_rfl) (fun _ _ _ h => h) rfl (fun w => ?_) ?_
            rotate_left
            · go_simp
              try with_reducible rfl
            refine wpAnyN_pure 5 53 (v := ?_) rfl rfl (by kernel_rfl) (by kernel_rfl) (by kernel_rfl) (fun _ _ _ h => h) (by go_simp) (fun w => ?_) ?_
            rotate_left
            · go_simp
              try with_reducible rfl
            refine wpAnyN_pure 7 55 (v := ?_) rfl rfl (by kernel_rfl) (by kernel_rfl) (by kernel_rfl) (fun _ _ _ h => h) (by go_simp) (fun w => ?_) ?_
            rotate_left
            · go_simp
              try with_reducible rfl
            have c2 := tedge_any w2 t v l hT2.tree (by omega)
            rw [← HZ.out.2] at c2
            refine wpAnyN_callW 6 35 (some 54) [.tmp 53] [.pointer (some ⟨t, 0, none⟩)] (by kernel_rfl) rfl rfl rfl (by go_simp) (by go_simp) Tryd.call35 ?_
            refine c2.mono ?_
            rintro e w3 ⟨v3, rfl, O3⟩
            have hT3 := hT2.below O3.bel
            have hO3 := hO2.below O3.bel (fun g e => hO2.lt g e)
            obtain ⟨a3, c3, rfl⟩ := O3.row.shape
            obtain ⟨b1, b2, b3, -, -, -, hX3⟩ := O3.row.hts
            cases b3
            obtain ⟨b1, b2, b3, -, -, -, hY3⟩ := hO3.hts
            cases b3
            refine ⟨_, rfl, fun _ h => h.below O3.bel h.lt, ?_⟩
            clear c2 hT2 hO2 O3
            clear w2
            have c4' := same_any w3 a3 a6 c3 c6 q q hX3 hY3 (by omega) (by omega)
            rw [show decide (q = q) = true by simp] at c4'
            refine wpAnyN_callW 8 27 (some 56) [.tmp 54, .tmp 55] [.slice a3 q.length c3, .slice a6 q.length c6] (by kernel_rfl) rfl rfl rfl (by go_simp) (by go_simp) Tryd.call27 ?_
            refine c4'.mono ?_
            rintro e w4 ⟨rfl, G4⟩
            have hT4 := hT3.below G4
            refine ⟨_, rfl, fun _ h => h.below G4 h.lt, ?_⟩
            clear c4' hT3 hO3 G4 hX3 hY3
            clear w3
            simp only [Act.put, List.setIfInBounds_toArray, List.set_cons_succ, List.set_cons_zero]
            refine wpAnyN_pureG 9 57 (v := ?_) rfl rfl (by kernel_rfl) (by kernel_rfl) (by kernel_rfl) (fun _ _ _ h => h) rfl (fun w => ?_) ?_
            rotate_left
            · go_simp
              try with_reducible rfl
            refine wpAnyN_pureG 10 2 (v := ?_) rfl rfl (by kernel_rfl) (by kernel_rfl) (by kernel_rfl) (fun _ _ _ h => h) rfl (fun w => ?_) ?_
            rotate_left
            · go_simp
              try with_reducible rfl
            refine wpAnyN_done (by kernel_rfl) ?_
            simp only [Act.put, List.setIfInBounds_toArray, List.set_cons_succ, List.set_cons_zero]
            have F := hT4.bel
            rw [HR.out] at F
            clear hT4
            go_wp2
            go_ret
            exact ⟨rfl, F⟩
  · have hd : decide ((60 : Int) < (l.length : Int)) = true := by rw [decide_eq_true_eq]; omega
    go_enter Tryd.func15, Tryd.ntmps15
    go_wp2_with fail
    refine (awake17_any w hL).mono ?_
    rintro e w1 ⟨rfl, F1⟩
    go_wp2_with fail
    refine (awake17_any w1 (hL.below F1 (Nat.le_refl _))).mono ?_
    rintro e w2 ⟨rfl, GF2⟩
    have F2 := Below.then F1 GF2
    go_wp2_with fail
    go_ret
    exact ⟨rfl, F2⟩
end Go.Proofs.YtbglblamoodocaaDoor
