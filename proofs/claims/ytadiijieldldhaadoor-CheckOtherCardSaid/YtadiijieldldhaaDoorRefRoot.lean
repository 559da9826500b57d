/-
  The reference's root of hashes, and two lists held against each other (layer 16).
-/
import Derived.Test.YtadiijieldldhaaDoorRoot
import Derived.Test.YtadiijieldldhaaDoorRef16
namespace Go.Proofs.YtadiijieldldhaaDoor
open Go Go.RowKit
attribute [local irreducible] sha
set_option maxRecDepth 100000 in
set_option maxHeartbeats 4000000 in
theorem refroot_aux (N : Nat) : ∀ (w : World) (ao : Option Addr) (cp : Nat) (l : List Hs), l.length < N → Laid w → Hts w ao l → l.length ≤ cp → cp ≤ maxLen →
    Calls Tryd.prog 21 #[.slice ao l.length cp] w fun e w' => e = .returned (hval (rootH l)) ∧ Below w.heap.size w w' := by
    induction N with
    | zero => intro w ao cp l hN; omega
    | succ N ih =>
      intro w ao cp l hN hL hB hc hm
      have hm0 : cp ≤ 9223372036854775807 := hm
      obtain ⟨i0, hi, hz0, hz1, hz2⟩ := info_parts infoHs
      obtain ⟨zs, hzs⟩ : ∃ zs, zs = rootH l := ⟨_, rfl⟩
      have HZ := Lib.hid hzs
      have hzl := zs.2
      rw [← hzs]
      clear hzs
      obtain ⟨r, hr⟩ : ∃ r, r = w.heap.size := ⟨_, rfl⟩
      obtain ⟨w1, hw1⟩ : ∃ w1, w1 = w.alloc (.cells zero32 23) := ⟨_, rfl⟩
      have F1 : Below r w w1 := by rw [hw1, hr]; exact below_alloc1 _ _
      have hR1 : Blk w1 r 23 zero32 := by rw [hw1, hr]; exact Blk.new w _ _
      have HR := Lib.hid (And.intro hw1 hr)
      clear hw1 hr
      go_enter Tryd.func21, Tryd.ntmps21
      go_upto_region 1 with (fail)
      change Code.wp _ _ _ _ (w.alloc (.cells zero32 23))
      rw [← HR.out.1, ← HR.out.2]
      replace HR := Lib.hid HR.out.2
      by_cases h0 : l.length = 0
      · obtain rfl := List.eq_nil_of_length_eq_zero h0
        have hd : decide ((([] : List Hs).length : Int) = 0) = true := rfl
        have hz : sha [] = zs.1 := by rw [HZ.out]; show _ = (Tree.root nodeH nilH []).1; rw [Tree.root_nil]; rfl
        clear ih
        have hc2 := refsum_any none 0 [] w1 (Bts.nil _ _) (by decide)
        rw [hz] at hc2
        clear hz
        go_wp2_with fail
        refine hc2.mono ?_
        rintro e w2 ⟨rfl, G2⟩
        have hR2 := hR1.below G2 hR1.lt
        have F2 := F1.trans (G2.mono (Nat.le_of_lt hR1.lt))
        have HF := Lib.hid F2
        clear hc2 hR1 G2 F1 F2
        go_wp2_with (refine wpList_store_blk rfl 23 _ _ rfl hR2 (zs.1.map b8).toArray rfl rfl 32 (by kernel_rfl) (by simp) (by simp [hzl]) (by rw [List.toList_toArray]; exact b8_one _) ?_)
        intro w3 hR3 hg3
        have F3 : Below r w w3 := below_upd HF.out hg3 (Nat.le_refl _) hR2.lt
        rw [HR.out] at F3
        clear hg3 hR2
        go_wp2
        exact (ret_blk rfl hR3 rfl (.array 32 5) (by kernel_rfl) rfl 32 (by kernel_rfl) (by simp [hzl]) ⟨rfl, F3⟩).2
      · by_cases h1 : l.length = 1
        · obtain ⟨x, rfl⟩ := List.length_eq_one_iff.1 h1
          obtain ⟨b, off, rfl, hb, hrg⟩ := hB.place (by simp)
          have hrg0 := hrg 0 (by simp)
          have hxl := x.2
          have hrg1 : w1.rangeAt b off (x.1.map b8) := fun j v hv => by
            have h2 := hrg0 j v (by simpa using hv)
            rw [Nat.zero_mul, Nat.add_zero] at h2
            exact (F1.cell (p := ⟨b, off + j, none⟩) (by rw [HR.out]; exact hb)).trans h2
          have hzx : zs = x := by rw [HZ.out]; exact Tree.root_one _ _ _
          rw [← hzx] at hrg1
          clear hzx
          clear hrg hrg0 hb ih hB h0 h1
          have hd : decide ((([x] : List Hs).length : Int) = 0) = false := rfl
          go_wp2_with (first | (refine wpList_load_mid rfl 23 _ rfl b off rfl (zs.1.map b8) (.array 32 5) hrg1 (by kernel_rfl) rfl (by rw [List.length_map, hzl]; kernel_rfl) ?_) | (refine wpList_store_blk rfl 23 _ _ rfl hR1 (zs.1.map b8).toArray rfl rfl 32 (by kernel_rfl) (by simp) (by simp [hzl]) (by rw [List.toList_toArray]; exact b8_one _) ?_))
          intro w3 hR3 hg3
          have F3 : Below r w w3 := below_upd F1 hg3 (Nat.le_refl _) hR1.lt
          rw [HR.out] at F3
          clear hg3 hR1 F1
          go_wp2
          exact (ret_blk rfl hR3 rfl (.array 32 5) (by kernel_rfl) rfl 32 (by kernel_rfl) (by simp [hzl]) ⟨rfl, F3⟩).2
        · have hd : decide ((l.length : Int) = 0) = false := by rw [decide_eq_false_iff_not]; omega
          have hd1 : decide ((l.length : Int) = 1) = false := by rw [decide_eq_false_iff_not]; omega
          have hk1 := Tree.split_lt (n := l.length) (by omega)
          have hk0 := Tree.split_pos (n := l.length) (by omega)
          have hroot : rootH l = nodeH (rootH (l.take (Tree.split l.length))) (rootH (l.drop (Tree.split l.length))) := Tree.root_two nodeH nilH (l := l) (by omega)
          have hsp := refsplit_any w1 (l.length : Int) (by omega) (by omega)
          rw [Int.toNat_natCast] at hsp
          obtain ⟨k, hk⟩ : ∃ k, k = Tree.split l.length := ⟨_, rfl⟩
          rw [← hk] at hk1 hk0 hroot hsp
          clear hk
          go_wp2_with fail
          refine hsp.mono ?_
          rintro e w' ⟨rfl, rfl⟩
          clear hsp
          obtain ⟨a6, hs6, -, ht6⟩ := run_upto_hts (P := Tryd.prog) (t := 24) (by kernel_rfl) hi ao l.length cp k (by omega)
          obtain ⟨a7, hs7, ht7⟩ := run_from_hts (P := Tryd.prog) (t := 24) (by kernel_rfl) hi hz1 ao l.length cp k (by omega) hc
          have hl1 : (l.take k).length = k := by rw [List.length_take]; omega
          have hl2 : (l.drop k).length = l.length - k := List.length_drop
          have HI := Lib.hid ih
          have HL := Lib.hid (And.intro hl1 hl2)
          have HT := Lib.hid hroot
          clear hl1 hl2 hroot ih hd hd1 h0 h1
          go_upto_region 6 with (fail)
          refine wp_region_N (fun _ => True) [] (by kernel_rfl) ?_
          obtain ⟨wd, hwd⟩ : ∃ wd, wd = w'.drew := ⟨_, rfl⟩
          replace hR1 : Blk wd r 23 zero32 := by rw [hwd]; exact hR1
          replace F1 : Below r w wd := by rw [hwd]; exact F1.drew
          rw [← hwd]
          clear hwd
          clear w'
          refine wpAnyN_pureG 0 17 (v := ?_) rfl rfl (by kernel_rfl) (by kernel_rfl) (by kernel_rfl) (fun _ _ _ h => h) rfl (fun w => ?_) ?_
          rotate_left
          · go_simp
            try with_reducible rfl
          refine wpAnyN_pureG 1 18 (v := ?_) rfl rfl (by kernel_rfl) (by kernel_rfl) (by kernel_rfl) (fun _ _ _ h => h) rfl (fun w => ?_) ?_
          rotate_left
          · go_simp
            try with_reducible rfl
          refine wpAnyN_pureG 2 19 (v := ?_) rfl rfl (by kernel_rfl) (by kernel_rfl) (by kernel_rfl) (fun _ _ _ h => h) rfl (fun w => ?_) ?_
          rotate_left
          · go_simp
            try with_reducible rfl
          refine wpAnyN_pureG 4 21 (v := ?_) rfl rfl (by kernel_rfl) (by kernel_rfl) (by kernel_rfl) (fun _ _ _ h => h) rfl (fun w => ?_) ?_
          rotate_left
          · go_simp
            try with_reducible rfl
          refine wpAnyN_pureG 5 22 (v := ?_) rfl rfl (by kernel_rfl) (by kernel_rfl) (by kernel_rfl) (fun _ _ _ h => h) rfl (fun w => ?_) ?_
          rotate_left
          · go_simp
            try with_reducible rfl
          refine wpAnyN_pureG 6 23 (v := ?_) rfl rfl (by kernel_rfl) (by kernel_rfl) (by kernel_rfl) (fun _ _ _ h => h) rfl (fun w => ?_) ?_
          rotate_left
          · go_simp
            try with_reducible rfl
          have hr0 : w.heap.size ≤ r := by rw [HR.out]; exact Nat.le_refl _
          have c1 := HI.out wd a6 cp (l.take k) (by have := HL.out.1; omega) (hL.below F1 hr0) (ht6 wd l (hB.below F1 hr0)) (by have := HL.out.1; omega) hm
          rw [HL.out.1] at c1
          refine wpAnyN_call 3 21 (some 20) [.tmp 19] [.slice a6 k cp] (by kernel_rfl) rfl rfl rfl rfl (by go_simp) Tryd.call21 ?_
          refine c1.mono ?_
          rintro e w2 ⟨rfl, G2⟩
          have hR2 := hR1.below G2 hR1.lt
          have F2 := F1.trans (G2.mono (Nat.le_of_lt hR1.lt))
          refine ⟨_, rfl, fun _ _ => trivial, ?_⟩
          clear c1 hR1 F1 G2
          have c2 := HI.out w2 a7 (cp - k) (l.drop k) (by have := HL.out.2; omega) (hL.below F2 hr0) (ht7 w2 l rfl (hB.below F2 hr0)) (by have := HL.out.2; omega) (by omega)
          rw [HL.out.2] at c2
          refine wpAnyN_call 7 21 (some 24) [.tmp 23] [.slice a7 (l.length - k) (cp - k)] (by kernel_rfl) rfl rfl rfl rfl (by go_simp) Tryd.call21 ?_
          refine c2.mono ?_
          rintro e w3 ⟨rfl, G3⟩
          have hR3 := hR2.below G3 hR2.lt
          have F3 := F2.trans (G3.mono (Nat.le_of_lt hR2.lt))
          refine ⟨_, rfl, fun _ _ => trivial, ?_⟩
          clear c2 hR2 F2 G3
          clear wd w2
          have c3 := refnode_any w3 (rootH (l.take k)) (rootH (l.drop k))
          rw [← HT.out, ← HZ.out] at c3
          refine wpAnyN_call 8 43 (some 25) [.tmp 20, .tmp 24] [hval (rootH (l.take k)), hval (rootH (l.drop k))] (by kernel_rfl) rfl rfl rfl rfl (by go_simp) Tryd.call43 ?_
          refine c3.mono ?_
          rintro e w4 ⟨rfl, G4⟩
          have hR4 := hR3.below G4 hR3.lt
          have F4 := F3.trans (G4.mono (Nat.le_of_lt hR3.lt))
          refine ⟨_, rfl, fun _ _ => trivial, ?_⟩
          clear c3 hR3 F3 G4
          clear w3
          refine wpAnyN_store_blk 9 23 (.tmp 2) (.tmp 25) (by kernel_rfl) rfl rfl rfl rfl hR4 0 (zs.1.map b8).toArray (by go_simp) (by go_simp) 32 (by kernel_rfl) (by simp [hzl]) (by simp) (by rw [List.toList_toArray]; exact b8_one _) (zs.1.map b8).toArray (by simp) ?_
          intro w5 hR5 hg5
          have F5 := below_upd F4 hg5 (Nat.le_refl _) hR4.lt
          refine ⟨fun _ _ => trivial, wpAnyN_done (by kernel_rfl) ?_⟩
          rw [HR.out] at F5
          clear hg5 F4 hR4
          clear w4
          simp only [Act.put, List.setIfInBounds_toArray, List.set_cons_succ, List.set_cons_zero]
          go_wp2
          exact (ret_blk rfl hR5 rfl (.array 32 5) (by kernel_rfl) rfl 32 (by kernel_rfl) (by simp [hzl]) ⟨rfl, F5⟩).2
theorem refroot_any (w : World) (ao : Option Addr) (cp : Nat) (l : List Hs) (hL : Laid w) (hB : Hts w ao l) (hc : l.length ≤ cp) (hm : cp ≤ maxLen) :
    Calls Tryd.prog 21 #[.slice ao l.length cp] w fun e w' => e = .returned (hval (rootH l)) ∧ Below w.heap.size w w' :=
  refroot_aux (l.length + 1) w ao cp l (Nat.lt_succ_self _) hL hB hc hm
theorem run_load_range {P : Program} {op : Oper} {a : Act} {w : World} (ty : TypeId) (x : Operand) (ho : op.op = .load ty x)
    {b o : Nat} {mid : List Value} (hr : w.rangeAt b o mid) (hx : a.eval x = .pointer (some ⟨b, o, none⟩)) (d : TypeDesc)
    (hu : P.underlying ty = some d) (hd : d.isRow = true) (n : Nat) (hi : (P.info? ty).map (·.size) = some n) (hc : mid.length = n) : (execOp a.eval op).run P w = .ok (.value (.agg mid.toArray)) w := by
  unfold execOp
  simp only [ho, hx, Instr.loadAt, Instr.sureAddr, Sem.run_bind, Sem.run_pure, Result.andThen_ok, run_loadVar_mid w b o ty mid d hr hu hd (by rw [hc]; exact hi)]
theorem take_succ_eq {α : Type} (a : List α) (m : Nat) (h : m < a.length) : a.take (m + 1) = a.take m ++ [a[m]] := by
  rw [List.take_add_one, List.getElem?_eq_getElem h]; rfl
set_option maxRecDepth 100000 in
set_option maxHeartbeats 4000000 in
theorem same_any (w : World) (ao ap : Option Addr) (ca cb : Nat) (a b : List Hs) (hA : Hts w ao a) (hB : Hts w ap b) (hal : a.length ≤ 1000000) (hbl : b.length ≤ 1000000) :
    Calls Tryd.prog 22 #[.slice ao a.length ca, .slice ap b.length cb] w fun e w' => e = .returned (.bool (decide (a = b))) ∧ Below w.heap.size w w' := by
  obtain ⟨r, hr⟩ : ∃ r, r = w.heap.size := ⟨_, rfl⟩
  have HR := Lib.hid hr
  obtain ⟨z, hz⟩ : ∃ z, z = decide (a = b) := ⟨_, rfl⟩
  rw [← hz]
  have HZ := Lib.hid hz
  clear hz hr
  by_cases hln : a.length = b.length
  · have hd : ((a.length : Int) != (b.length : Int)) = false := by rw [hln]; simp
    have HL := Lib.hid hln
    clear hln
    go_enter Tryd.func22, Tryd.ntmps22
    go_wp2
    go_loopg [5] a.length (fun k i wr => ∃ m : Nat, i = .int .i64 m ∧ m + k = a.length ∧ a.take m = b.take m ∧ Below r w wr)
    case atStart => exact ⟨0, rfl, by omega, by simp, Below.refl _ _⟩
    case round =>
      obtain ⟨m, rfl, hmk, ht, F⟩ := hrel
      by_cases hq : m < a.length
      · have hd2 : decide ((m : Int) < (a.length : Int)) = true := by rw [decide_eq_true_eq]; omega
        have hqb : m < b.length := by have := HL.out; omega
        obtain ⟨g, off, rfl, hg, hra⟩ := (hA.below F (by rw [HR.out]; exact Nat.le_refl _)).place (by omega)
        obtain ⟨g2, off2, rfl, hg2, hrb⟩ := (hB.below F (by rw [HR.out]; exact Nat.le_refl _)).place (by omega)
        have ra := hra m hq
        have rb := hrb m hqb
        have t1 := take_succ_eq a m hq
        have t2 := take_succ_eq b m hqb
        obtain ⟨x, hx⟩ : ∃ x, x = a[m] := ⟨_, rfl⟩
        obtain ⟨y, hy⟩ : ∃ y, y = b[m] := ⟨_, rfl⟩
        rw [← hx] at ra t1
        rw [← hy] at rb t2
        have hxl := x.2
        have hyl := y.2
        have hab : ¬ x.1 = y.1 → z = false := fun hne => by
          rw [HZ.out, decide_eq_false_iff_not]
          rintro rfl
          exact hne (by rw [hx, hy])
        have HU := Lib.hid (And.intro hab (And.intro t1 (And.intro t2 (And.intro ht (show gk - 1 < gk ∧ m + 1 + (gk - 1) = a.length by omega)))))
        clear hra hrb hx hy t1 t2 hab ht hmk hg hg2
        go_upto_region 6 with (fail)
        refine wp_region_N (fun w' => w'.rangeAt g (off + m * 32) (x.1.map b8) ∧ w'.rangeAt g2 (off2 + m * 32) (y.1.map b8)) [] (by kernel_rfl) ?_
        obtain ⟨wd, hwd⟩ : ∃ wd, wd = wr.drew := ⟨_, rfl⟩
        replace ra : wd.rangeAt g (off + m * 32) (x.1.map b8) := by rw [hwd]; exact ra
        replace rb : wd.rangeAt g2 (off2 + m * 32) (y.1.map b8) := by rw [hwd]; exact rb
        replace F : Below r w wd := by rw [hwd]; exact F.drew
        rw [← hwd]
        clear hwd
        clear wr
        refine wpAnyN_pureG 0 17 (v := ?_) rfl rfl (by kernel_rfl) (by kernel_rfl) (by kernel_rfl) (fun _ _ _ h => h) rfl (fun w => ?_) ?_
        rotate_left
        · go_simp
          try with_reducible rfl
        refine wpAnyN_pureG 1 18 (v := ?_) rfl rfl (by kernel_rfl) (by kernel_rfl) (by kernel_rfl) (fun _ _ _ h => h) rfl (fun w => ?_) ?_
        rotate_left
        · go_simp
          try with_reducible rfl
        refine wpAnyN_pureG 4 21 (v := ?_) rfl rfl (by kernel_rfl) (by kernel_rfl) (by kernel_rfl) (fun _ _ _ h => h) rfl (fun w => ?_) ?_
        rotate_left
        · go_simp
          try with_reducible rfl
        refine wpAnyN_pureG 5 22 (v := ?_) rfl rfl (by kernel_rfl) (by kernel_rfl) (by kernel_rfl) (fun _ _ _ h => h) rfl (fun w => ?_) ?_
        rotate_left
        · go_simp
          try with_reducible rfl
        refine wpAnyN_pureG 2 19 (v := .pointer (some ⟨g, off + m * 32, none⟩)) rfl rfl (by kernel_rfl) (by kernel_rfl) (by kernel_rfl) (fun _ _ _ h => h) rfl (fun w => ?_) ?_
        · go_simp
        refine wpAnyN_pureG 6 23 (v := .pointer (some ⟨g2, off2 + m * 32, none⟩)) rfl rfl (by kernel_rfl) (by kernel_rfl) (by kernel_rfl) (fun _ _ _ h => h) rfl (fun w => ?_) ?_
        · go_simp
        simp only [Act.put, List.setIfInBounds_toArray, List.set_cons_succ, List.set_cons_zero]
        refine wpAnyN_takeG 3 20 (v := hashv x.1) rfl rfl (by kernel_rfl) (by kernel_rfl) (by kernel_rfl) (by kernel_rfl) (fun _ _ _ h => h) ⟨ra, rb⟩ rfl (fun w hS => ?_) ?_
        · exact run_load_range 23 _ rfl hS.1 (by go_simp) (.array 32 5) (by kernel_rfl) rfl 32 (by kernel_rfl) (by simp [hxl])
        refine wpAnyN_takeG 7 24 (v := hashv y.1) rfl rfl (by kernel_rfl) (by kernel_rfl) (by kernel_rfl) (by kernel_rfl) (fun _ _ _ h => h) ⟨ra, rb⟩ rfl (fun w hS => ?_) ?_
        · exact run_load_range 23 _ rfl hS.2 (by go_simp) (.array 32 5) (by kernel_rfl) rfl 32 (by kernel_rfl) (by simp [hyl])
        obtain ⟨q, hqv⟩ : ∃ q, q = (x.1 == y.1) := ⟨_, rfl⟩
        refine wpAnyN_pureG 8 25 (v := .bool (!q)) rfl rfl (by kernel_rfl) (by kernel_rfl) (by kernel_rfl) (fun _ _ _ h => h) rfl (fun w => ?_) ?_
        · rw [hqv]; go_simp
        refine wpAnyN_done (by kernel_rfl) ?_
        simp only [Act.put, List.setIfInBounds_toArray, List.set_cons_succ, List.set_cons_zero]
        have HQ := Lib.hid hqv
        clear hqv
        cases q with
        | true =>
          have hxy : x = y := Subtype.ext (eq_of_beq HQ.out.symm)
          go_wp2
          go_roundg (gk - 1)
          case measure => exact HU.out.2.2.2.2.1
          case rel =>
            exact ⟨m + 1, by go_num, HU.out.2.2.2.2.2, by rw [HU.out.2.1, HU.out.2.2.1, HU.out.2.2.2.1, hxy], F⟩
        | false =>
          have hzf : z = false := HU.out.1 (by intro e; have := HQ.out; rw [e] at this; simp at this)
          go_wp2
          go_ret
          exact ⟨by rw [hzf]; rfl, by rw [← HR.out]; exact F⟩
      · have hd2 : decide ((m : Int) < (a.length : Int)) = false := by rw [decide_eq_false_iff_not]; omega
        obtain rfl : m = a.length := by omega
        have hzt : z = true := by
          rw [HZ.out, decide_eq_true_eq]
          rw [List.take_length, HL.out, List.take_length] at ht
          exact ht
        clear ht hmk
        go_wp2
        go_ret
        exact ⟨by rw [hzt]; rfl, by rw [← HR.out]; exact F⟩
  · have hd : ((a.length : Int) != (b.length : Int)) = true := by rw [bne_iff_ne]; omega
    have hzf : z = false := by rw [HZ.out, decide_eq_false_iff_not]; rintro rfl; exact hln rfl
    go_enter Tryd.func22, Tryd.ntmps22
    go_wp2
    go_ret
    exact ⟨by rw [hzf]; rfl, Below.refl _ _⟩
end Go.Proofs.YtadiijieldldhaaDoor
