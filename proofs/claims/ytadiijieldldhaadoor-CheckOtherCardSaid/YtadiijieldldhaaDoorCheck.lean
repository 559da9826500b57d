/-
  A path is checked: check.Path.
-/
import Derived.Test.YtadiijieldldhaaDoorPlace
import Derived.Test.YtadiijieldldhaaDoorApp
import Derived.Test.YtadiijieldldhaaDoorReg2
import Derived.Test.YtadiijieldldhaaDoorRegV
namespace Go.Proofs.YtadiijieldldhaaDoor
open Go Go.RowKit
attribute [local irreducible] sha
def PtrC (T : TypeId) (cs : Array Value) (v : Value) (w : World) : Prop := ∃ b, v = .pointer (some ⟨b, 0, none⟩) ∧ Blk w b T cs
theorem PtrC.below {T : TypeId} {cs : Array Value} {v : Value} {w w' : World} (hb : Below w.heap.size w w') (h : PtrC T cs v w) : PtrC T cs v w' := by
  obtain ⟨b, h1, h2⟩ := h; exact ⟨b, h1, h2.below hb h2.lt⟩
def runP (a l : Nat) (h : Hs) (p : List Hs) : Option Hs := Tree.run (fun x h => nodeH x h) (fun x h => nodeH h x) a l h p
def checkP (m n : Int) (leaf : Hs) (p : List Hs) (root : Hs) : Bool := if 0 ≤ m ∧ m < n then decide (runP m.toNat (n - 1).toNat leaf p = some root) else false
theorem ends_le (a : Nat) : ∀ l, (Tree.ends a l).1 ≤ a ∧ (Tree.ends a l).2 ≤ l := by
  induction a using Nat.strongRecOn with
  | ind a ih =>
    intro l
    by_cases h : a % 2 = 0 ∧ a ≠ 0
    · rw [Tree.ends_even h.1 h.2]
      have := ih (a / 2) (by omega) (l / 2)
      omega
    · by_cases h0 : a = 0
      · subst h0; rw [Tree.ends_zero]; exact ⟨Nat.le_refl _, Nat.le_refl _⟩
      · rw [Tree.ends_odd (by omega)]; exact ⟨Nat.le_refl _, Nat.le_refl _⟩
theorem runP_nil (a l : Nat) (h : Hs) : runP a l h [] = if l = 0 then some h else none := rfl
theorem runP_zero (a : Nat) (h x : Hs) (p : List Hs) : runP a 0 h (x :: p) = none := Tree.run_zero _ _
theorem runP_left {a l : Nat} {h x : Hs} {p : List Hs} (hl : l ≠ 0) (hc : a % 2 = 1 ∨ a = l) : runP a l h (x :: p) = runP ((Tree.ends a l).1 / 2) ((Tree.ends a l).2 / 2) (nodeH x h) p := Tree.run_left _ _ hl hc
theorem runP_right {a l : Nat} {h x : Hs} {p : List Hs} (hl : l ≠ 0) (hc : ¬ (a % 2 = 1 ∨ a = l)) : runP a l h (x :: p) = runP (a / 2) (l / 2) (nodeH h x) p := Tree.run_right _ _ hl hc
theorem wpList_load_blkW {P : Program} {ops : Array Oper} {rest : List Oper} {op : Oper} {a : Act} {w : World} {Q : Exit → Act → World → Prop} (hw : Region.wanted op (yielded ops a.tmps) = true) (ty : TypeId) (x : Operand) (ho : op.op = .load ty x)
    {b T : Nat} {cs : Array Value} (hb : Blk w b T cs) (hx : a.eval x = .pointer (some ⟨b, 0, none⟩)) (mid : List Value) (hm : cs = mid.toArray) (d : TypeDesc)
    (hu : P.underlying ty = some d) (hd : d.isRow = true) (n : Nat) (hi : (P.info? ty).map (·.size) = some n) (hc : mid.length = n)
    (h : wpList P ops Q rest (a.put op.dst (.agg mid.toArray)) w) : wpList P ops Q (op :: rest) a w := by
  refine wpList_step fun K hK => ?_
  rw [if_pos hw]
  exact wp_load_mid ty x ho b 0 hx mid d (hb.range mid fun j v hv => by rw [Nat.zero_add, hm, List.getElem?_toArray]; exact hv) hu hd (by rw [hc]; exact hi) (hK _ _ h)
set_option maxRecDepth 100000 in
set_option maxHeartbeats 4000000 in
theorem check_any (w : World) (hL : Laid w) (m n : Int) (hm0 : -9223372036854775808 ≤ m) (hm1 : m ≤ 9223372036854775807) (hn0 : -9223372036854775808 ≤ n) (hn1 : n ≤ 9223372036854775807) (leaf : Hs) (ao : Option Addr) (cp : Nat) (p : List Hs) (hB : Hts w ao p) (hbig : p.length ≤ 1000000) (root : Hs) :
    Calls Tryd.prog 14 #[.int .i64 m, .int .i64 n, hval leaf, .slice ao p.length cp, hval root] w fun e w' => e = .returned (.bool (checkP m n leaf p root)) ∧ Below w.heap.size w w' := by
  obtain ⟨z, hz⟩ : ∃ z, z = checkP m n leaf p root := ⟨_, rfl⟩
  rw [← hz]
  have HZ := Lib.hid hz
  clear hz
  obtain ⟨r, hr⟩ : ∃ r, r = w.heap.size := ⟨_, rfl⟩
  obtain ⟨w1, hw1⟩ : ∃ w1, w1 = (w.alloc (.cells (leaf.1.map b8).toArray 23)).alloc (.cells (root.1.map b8).toArray 23) := ⟨_, rfl⟩
  have F1 : Below r w w1 := by rw [hw1, hr]; exact below_alloc2 _ _ _
  have hL1 : Blk w1 r 23 (leaf.1.map b8).toArray := by rw [hw1, hr]; exact (Blk.new w _ _).alloc _
  have hR1 : Blk w1 (r + 1) 23 (root.1.map b8).toArray := by rw [hw1, hr]; exact Blk.new1 w _ _ _
  have HR := Lib.hid (And.intro hw1 hr)
  have hr0 : w.heap.size ≤ r := by omega
  have HR0 := Lib.hid hr0
  clear hw1 hr hr0
  have hll := leaf.2
  have hrl := root.2
  by_cases h0 : m < 0
  · have hd : decide (m < 0) = true := decide_eq_true h0
    have hzf : z = false := by rw [HZ.out]; unfold checkP; rw [if_neg (by omega)]
    rw [HR.out.2] at F1
    have HF := Lib.hid F1
    go_enter Tryd.func14, Tryd.ntmps14
    go_upto_region 1 with (fail)
    change Code.wp _ _ _ _ ((w.alloc (.cells (leaf.1.map b8).toArray 23)).alloc (.cells (root.1.map b8).toArray 23))
    rw [← HR.out.1]
    clear F1
    go_wp2
    go_ret
    exact ⟨by first | rfl | (rw [hzf]; rfl), HF.out⟩
  · have hd : decide (m < 0) = false := decide_eq_false h0
    by_cases h1 : n ≤ m
    · have hd1 : decide (n ≤ m) = true := decide_eq_true h1
      have hzf : z = false := by rw [HZ.out]; unfold checkP; rw [if_neg (by omega)]
      rw [HR.out.2] at F1
      have HF := Lib.hid F1
      go_enter Tryd.func14, Tryd.ntmps14
      go_upto_region 1 with (fail)
      change Code.wp _ _ _ _ ((w.alloc (.cells (leaf.1.map b8).toArray 23)).alloc (.cells (root.1.map b8).toArray 23))
      rw [← HR.out.1]
      clear F1
      go_wp2
      go_ret
      exact ⟨by first | rfl | (rw [hzf]; rfl), HF.out⟩
    · have hd1 : decide (n ≤ m) = false := decide_eq_false h1
      obtain ⟨M, rfl⟩ : ∃ M : Nat, m = M := ⟨m.toNat, by omega⟩
      obtain ⟨L, hLn⟩ : ∃ L : Nat, n = (L : Int) + 1 := ⟨(n - 1).toNat, by omega⟩
      subst hLn
      have hzz : z = decide (runP M L leaf p = some root) := by
        rw [HZ.out]; unfold checkP
        rw [if_pos (by omega), Int.toNat_natCast, show ((L : Int) + 1 - 1).toNat = L by omega]
      replace HZ := Lib.hid hzz
      clear hzz
      obtain ⟨fs, hfs⟩ := placeU
      have q1 : IntKind.i64.wrap (L : Int) = L := IntWalk.i64_in _ (by omega)
      go_enter Tryd.func14, Tryd.ntmps14
      go_upto_region 1 with (fail)
      change Code.wp _ _ _ _ ((w.alloc (.cells (leaf.1.map b8).toArray 23)).alloc (.cells (root.1.map b8).toArray 23))
      rw [← HR.out.1, ← HR.out.2]
      replace HR := Lib.hid HR.out.2
      go_upto_region 3 with (fail)
      refine wp_region_N (fun w' => Blk w' r 23 (leaf.1.map b8).toArray) [] (by kernel_rfl) ?_
      obtain ⟨wd, hwd⟩ : ∃ wd, wd = w1.drew := ⟨_, rfl⟩
      replace hL1 : Blk wd r 23 (leaf.1.map b8).toArray := by rw [hwd]; exact hL1
      replace hR1 : Blk wd (r + 1) 23 (root.1.map b8).toArray := by rw [hwd]; exact hR1
      replace F1 : Below r w wd := by rw [hwd]; exact F1.drew
      rw [← hwd]
      clear hwd
      clear w1
      refine wpAnyN_pureG 0 22 (v := ?_) rfl rfl (by kernel_rfl) (by kernel_rfl) (by kernel_rfl) (fun _ _ _ h => h) rfl (fun w => ?_) ?_
      rotate_left
      · go_simp
        try with_reducible rfl
      refine wpAnyN_pureG 1 23 (v := ?_) rfl rfl (by kernel_rfl) (by kernel_rfl) (by kernel_rfl) (fun _ _ _ h => h) rfl (fun w => ?_) ?_
      rotate_left
      · go_simp
        try with_reducible rfl
      refine wpAnyN_pureG 2 24 (v := .int .i64 L) rfl rfl (by kernel_rfl) (by kernel_rfl) (by kernel_rfl) (fun _ _ _ h => h) rfl (fun w => ?_) ?_
      · go_simp
      refine wpAnyN_pureG 3 25 (v := .agg (plc M L)) rfl rfl (by kernel_rfl) (by kernel_rfl) (by kernel_rfl) (fun _ _ _ h => h) rfl (fun w => ?_) ?_
      · go_simp
      simp only [Act.put, List.setIfInBounds_toArray, List.set_cons_succ, List.set_cons_zero]
      refine wpAnyN_takeG 4 26 (v := hval leaf) rfl rfl (by kernel_rfl) (by kernel_rfl) (by kernel_rfl) (by kernel_rfl) (fun _ _ _ h => h) hL1 rfl (fun w hS => ?_) ?_
      · exact run_load_mid_blk 23 _ rfl hS 0 (by go_simp) (leaf.1.map b8) (fun j v h => by rw [Nat.zero_add, List.getElem?_toArray]; exact h) (.array 32 5) (by kernel_rfl) rfl 32 (by kernel_rfl) (by simp [hll])
      simp only [Act.put, List.setIfInBounds_toArray, List.set_cons_succ, List.set_cons_zero]
      have hsz : r + 2 ≤ wd.heap.size := hR1.lt
      refine wpAnyN_dag2 [5, 6] (fun i => match i with | 5 => some 11 | 6 => some 12 | _ => none) (fun _ => []) (fun i v w => match i with
        | 5 => PtrC 54 zeroP v w
        | 6 => PtrC 23 zero32 v w
        | _ => True) (fun i => i == 5 || i == 6) (g := 2) (by kernel_rfl) (by kernel_rfl) rfl
        ⟨fun _ _ _ hb h => PtrC.below hb h, fun _ _ _ hb h => PtrC.below hb h, trivial⟩
        (fun w w' hb h => h.below hb h.lt) ⟨?_, ?_, trivial⟩ ?_
      · intro vs w hb _ o ho
        cases ho
        simp only [putsD]
        refine vwp_run rfl (v := .pointer (some ⟨w.heap.size, 0, none⟩)) (w' := w.alloc (.cells zeroP 54)) ?_ ⟨below_alloc1 _ _, ⟨_, rfl, Blk.new _ _ _⟩, fun _ => ⟨_, rfl, Nat.le_refl _, alloc_lt _ _⟩⟩
        go_simp
      · intro vs w hb _ o ho
        cases ho
        simp only [putsD]
        refine vwp_run rfl (v := .pointer (some ⟨w.heap.size, 0, none⟩)) (w' := w.alloc (.cells zero32 23)) ?_ ⟨below_alloc1 _ _, ⟨_, rfl, Blk.new _ _ _⟩, fun _ => ⟨_, rfl, Nat.le_refl _, alloc_lt _ _⟩⟩
        go_simp
      · intro vs w2 hb hR hne hfr
        obtain ⟨⟨b1, h11, hk1⟩, ⟨b2, h12, hk2⟩, -⟩ := hR
        have hne2 := hne 5 (by simp) 6 (by simp) (by decide) rfl rfl
        rw [h11, h12] at hne2
        have hb12 : b1 ≠ b2 := fun e => hne2 (by rw [e])
        obtain ⟨x1, hx1, hx1', -⟩ := hfr 5 (by simp) rfl
        rw [h11] at hx1
        obtain rfl : b1 = x1 := Option.some.inj hx1
        obtain ⟨x2, hx2, hx2', -⟩ := hfr 6 (by simp) rfl
        rw [h12] at hx2
        obtain rfl : b2 = x2 := Option.some.inj hx2
        have hr1 : r + 2 ≤ b1 := by omega
        have hr2 : r + 2 ≤ b2 := by omega
        have hRr := hR1.below hb hR1.lt
        have F2 : Below r w w2 := F1.trans (hb.mono (by omega))
        simp only [putsD]
        rw [h11, h12]
        clear hne hfr hne2 hx1 hx1' hx2 hx2' h11 h12 hb hR1 hL1 F1 hsz
        simp only [Act.put, List.setIfInBounds_toArray, List.set_cons_succ, List.set_cons_zero]
        refine wpAnyN_store_blk 7 54 (.tmp 11) (.tmp 25) (by kernel_rfl) rfl rfl rfl rfl hk1 0 (plc M L) (by go_simp) (by go_simp) 2 (by kernel_rfl) rfl (by decide) (plc_one _ _) (plc M L) rfl ?_
        intro w3 hP3 hg3
        have hk3 := hk2.grown hg3 (fun e => hb12 (Option.some.inj e).symm)
        have hR3 := hRr.grown hg3 (fun e => by have := Option.some.inj e; omega)
        have F3 := below_upd F2 hg3 (by omega) hk1.lt
        refine ⟨fun _ h => h.grown hg3 (fun e => by have := Option.some.inj e; omega), ?_⟩
        clear hg3 hk1 hk2 hRr F2
        clear w2
        refine wpAnyN_store_blk 8 23 (.tmp 12) (.tmp 26) (by kernel_rfl) rfl rfl rfl rfl hk3 0 (leaf.1.map b8).toArray (by go_simp) (by go_simp) 32 (by kernel_rfl) (by simp [hll]) (by simp) (by rw [List.toList_toArray]; exact b8_one _) (leaf.1.map b8).toArray (by simp) ?_
        intro w4 hH4 hg4
        have hP4 := hP3.grown hg4 (fun e => hb12 (Option.some.inj e))
        have hR4 := hR3.grown hg4 (fun e => by have := Option.some.inj e; omega)
        have F4 := below_upd F3 hg4 (by omega) hk3.lt
        refine ⟨fun _ h => h.grown hg4 (fun e => by have := Option.some.inj e; omega), wpAnyN_done (by kernel_rfl) ?_⟩
        clear hg4 hk3 hP3 hR3 F3
        clear w3
        go_wp2
        obtain ⟨T, hT⟩ : ∃ T, T = runP M L leaf p := ⟨_, rfl⟩
        have hTL := Lib.hid hT
        rw [← hT] at HZ
        clear hT
        go_loopg [14, 29] p.length (fun g _ x29 wr => ∃ (i a l : Nat) (h : Hs), x29 = .int .i64 i ∧ i + g = p.length ∧ a ≤ 9223372036854775807 ∧ l ≤ 9223372036854775807 ∧ T = runP a l h (p.drop i) ∧ Blk wr b1 54 (plc a l) ∧ Blk wr b2 23 (h.1.map b8).toArray ∧ Blk wr (r + 1) 23 (root.1.map b8).toArray ∧ Below r w wr)
        case atStart => exact ⟨0, M, L, leaf, rfl, by omega, by omega, by omega, hTL.out, hP4, hH4, hR4, F4⟩
        case round =>
          clear hP4 hH4 hR4 F4 hTL hd hd1 q1 hll
          obtain ⟨i, a, l, h, rfl, hig, ha, hl, hT, hP, hH, hR, F⟩ := hrel
          have hhl := h.2
          by_cases hil : i < p.length
          · have hd : decide ((i : Int) < (p.length : Int)) = true := by rw [decide_eq_true_eq]; omega
            obtain ⟨g, off, rfl, hg, hrg⟩ := (hB.below F HR0.out).place (by omega)
            have hy0 := hrg i hil
            have hdr : p.drop i = p[i] :: p.drop (i + 1) := List.drop_eq_getElem_cons hil
            obtain ⟨x, hx⟩ : ∃ x : Hs, x = p[i] := ⟨_, rfl⟩
            rw [← hx] at hy0 hdr
            rw [hdr] at hT
            have hxl := x.2
            have HT := Lib.hid (And.intro hT (show i + 1 + (gk - 1) = p.length ∧ gk - 1 < gk by omega))
            clear hrg hg hx hdr hT hig
            go_wp2_with (first | (refine wpList_load_mid rfl 23 _ rfl g (off + i * 32) rfl (x.1.map b8) (.array 32 5) hy0 (by kernel_rfl) rfl (by rw [List.length_map, hxl]; kernel_rfl) ?_) | (refine wpList_store_blk rfl 23 _ _ rfl (Blk.new wr zero32 23) (x.1.map b8).toArray rfl rfl 32 (by kernel_rfl) rfl (by simp [hxl]) (by rw [List.toList_toArray]; exact b8_one _) ?_))
            intro w2 hX2 hg2
            obtain ⟨b3, hb3⟩ : ∃ b3, b3 = wr.heap.size := ⟨_, rfl⟩
            have hP2 := (hP.alloc (.cells zero32 23)).grown hg2 (fun e => by have := Option.some.inj e; have := hP.lt; omega)
            have hH2 := (hH.alloc (.cells zero32 23)).grown hg2 (fun e => by have := Option.some.inj e; have := hH.lt; omega)
            have hR2 := (hR.alloc (.cells zero32 23)).grown hg2 (fun e => by have := Option.some.inj e; have := hR.lt; omega)
            have hrr : r ≤ wr.heap.size := by have := hR.lt; omega
            have F2 : Below r w w2 := below_upd (F.alloc hrr (.cells zero32 23)) hg2 hrr (alloc_lt _ _)
            have h13 : b1 ≠ b3 := by have := hP.lt; omega
            have h23 : b2 ≠ b3 := by have := hH.lt; omega
            rw [← hb3] at hX2 ⊢
            clear hb3 hg2 hP hH hR F hrr hy0
            clear wr
            have c1 : w2.cell? ⟨b1, 1, none⟩ = some (.int .i64 l) := hP2.cell 1
            by_cases hl0 : l = 0
            · have hdl : ((l : Int) == 0) = true := by rw [hl0]; rfl
              have hzf : z = false := by
                rw [HZ.out, HT.out.1, hl0, runP_zero]; simp
              rw [HR.out] at F2
              have HF := Lib.hid F2
              clear F2 hl0
              go_wp2
              go_ret
              exact ⟨by first | rfl | (rw [hzf]; rfl), HF.out⟩
            · have hdl : ((l : Int) == 0) = false := by rw [beq_eq_false_iff_ne]; omega
              have cl := left_any w2 a l ha
              rw [show pl a l = .agg (plc a l) from rfl] at cl
              go_wp2_with (refine wpList_load_blk rfl 54 _ rfl hP2 rfl (.struct fs) hfs rfl 2 (by kernel_rfl) rfl ?_)
              refine cl.mono ?_
              rintro e w3 ⟨rfl, G3⟩
              have hP3 := hP2.below G3 hP2.lt
              have hH3 := hH2.below G3 hH2.lt
              have hR3 := hR2.below G3 hR2.lt
              have hX3 := hX2.below G3 hX2.lt
              have hrs : r ≤ w2.heap.size := by have := hP2.lt; omega
              have F3 := F2.trans (G3.mono hrs)
              clear cl hP2 hH2 hR2 hX2 F2 G3 c1 hrs
              clear w2
              by_cases hlf : a % 2 = 1 ∨ a = l
              · rw [show decide (a % 2 = 1 ∨ a = l) = true by rw [decide_eq_true_eq]; exact hlf]
                obtain ⟨u, hu⟩ : ∃ u, u = nodeH x h := ⟨_, rfl⟩
                obtain ⟨E, hE⟩ : ∃ E, E = Tree.ends a l := ⟨_, rfl⟩
                have hEb := ends_le a l
                rw [← hE] at hEb
                have hrun : T = runP (E.1 / 2) (E.2 / 2) u (p.drop (i + 1)) := by rw [HT.out.1, runP_left hl0 hlf, ← hE, ← hu]
                have hul := u.2
                have HE := Lib.hid (And.intro hEb (And.intro ha hl))
                have HN := Lib.hid (And.intro hrun (And.intro hu hE))
                clear hrun hu hE hEb
                go_upto_region 10 with (fail)
                refine wp_region_N (fun w' => Blk w' b3 23 (x.1.map b8).toArray ∧ Blk w' b2 23 (h.1.map b8).toArray ∧ Blk w' b1 54 (plc a l)) [5, 6] (by kernel_rfl) ?_
                obtain ⟨wd, hwd⟩ : ∃ wd, wd = w3.drew := ⟨_, rfl⟩
                replace hP3 : Blk wd b1 54 (plc a l) := by rw [hwd]; exact hP3
                replace hH3 : Blk wd b2 23 (h.1.map b8).toArray := by rw [hwd]; exact hH3
                replace hR3 : Blk wd (r + 1) 23 (root.1.map b8).toArray := by rw [hwd]; exact hR3
                replace hX3 : Blk wd b3 23 (x.1.map b8).toArray := by rw [hwd]; exact hX3
                replace F3 : Below r w wd := by rw [hwd]; exact F3.drew
                rw [← hwd]
                clear hwd
                clear w3
                refine wpAnyN_takeG 0 38 (v := hval x) rfl rfl (by kernel_rfl) (by kernel_rfl) (by kernel_rfl) (by kernel_rfl) (fun _ _ _ h => h) ⟨hX3, hH3, hP3⟩ rfl (fun w hS => ?_) ?_
                · exact run_load_mid_blk 23 _ rfl hS.1 0 (by go_simp) (x.1.map b8) (fun j v h => by rw [Nat.zero_add, List.getElem?_toArray]; exact h) (.array 32 5) (by kernel_rfl) rfl 32 (by kernel_rfl) (by simp [hxl])
                refine wpAnyN_takeG 1 39 (v := hval h) rfl rfl (by kernel_rfl) (by kernel_rfl) (by kernel_rfl) (by kernel_rfl) (fun _ _ _ h => h) ⟨hX3, hH3, hP3⟩ rfl (fun w hS => ?_) ?_
                · exact run_load_mid_blk 23 _ rfl hS.2.1 0 (by go_simp) (h.1.map b8) (fun j v h => by rw [Nat.zero_add, List.getElem?_toArray]; exact h) (.array 32 5) (by kernel_rfl) rfl 32 (by kernel_rfl) (by simp [hhl])
                refine wpAnyN_takeV 3 41 4 (v := .agg (plc a l)) rfl rfl (by kernel_rfl) (by kernel_rfl) (by kernel_rfl) (by kernel_rfl) rfl (fun _ _ _ h => h) ⟨hX3, hH3, hP3⟩ rfl (fun w hS => ?_) ?_
                · exact run_load_mid_blk 54 _ rfl hS.2.2 0 (by go_simp) (plc a l).toList (fun j v h => by rw [Nat.zero_add]; simpa using h) (.struct fs) hfs rfl 2 (by kernel_rfl) rfl
                simp only [Act.put, List.setIfInBounds_toArray, List.set_cons_succ, List.set_cons_zero]
                have c2 := node_any wd (hL.below F3 HR0.out) x h
                rw [← HN.out.2.1] at c2
                refine wpAnyN_call 2 31 (some 40) [.tmp 38, .tmp 39] [hval x, hval h] (by kernel_rfl) rfl rfl rfl rfl (by go_simp) Tryd.call31 ?_
                refine c2.mono ?_
                rintro e w4 ⟨rfl, G4⟩
                have hP4 := hP3.below G4 hP3.lt
                have hH4 := hH3.below G4 hH3.lt
                have hR4 := hR3.below G4 hR3.lt
                have hrs : r ≤ wd.heap.size := by have := hP3.lt; omega
                have F4 := F3.trans (G4.mono hrs)
                refine ⟨_, rfl, fun _ h => ⟨h.1.below G4 h.1.lt, h.2.1.below G4 h.2.1.lt, h.2.2.below G4 h.2.2.lt⟩, ?_⟩
                clear c2 hP3 hH3 hR3 F3 G4 hX3 hrs
                clear wd
                have c4 := ends_any w4 a l ha hl
                rw [show pl a l = .agg (plc a l) from rfl, ← HN.out.2.2, show pl E.1 E.2 = .agg (plc E.1 E.2) from rfl] at c4
                refine wpAnyN_call 4 32 (some 42) [.tmp 41] [.agg (plc a l)] (by kernel_rfl) rfl rfl rfl rfl (by go_simp) Tryd.call32 ?_
                refine c4.mono ?_
                rintro e w5 ⟨rfl, G5⟩
                have hP5 := hP4.below G5 hP4.lt
                have hH5 := hH4.below G5 hH4.lt
                have hR5 := hR4.below G5 hR4.lt
                have hrs : r ≤ w4.heap.size := by have := hP4.lt; omega
                have F5 := F4.trans (G5.mono hrs)
                refine ⟨_, rfl, fun _ h => ⟨h.1.below G5 h.1.lt, h.2.1.below G5 h.2.1.lt, h.2.2.below G5 h.2.2.lt⟩, ?_⟩
                clear c4 hP4 hH4 hR4 F4 G5 hrs
                clear w4
                simp only [Act.put, List.setIfInBounds_toArray, List.set_cons_succ, List.set_cons_zero]
                refine wpAnyN_store_blk 5 23 (.tmp 12) (.tmp 40) (by kernel_rfl) rfl rfl rfl rfl hH5 0 (u.1.map b8).toArray (by go_simp) (by go_simp) 32 (by kernel_rfl) (by simp [hul]) (by simp [hhl]) (by rw [List.toList_toArray]; exact b8_one _) (u.1.map b8).toArray (by simp [hhl]) ?_
                intro w5' hH5' hg5
                have hP5' := hP5.grown hg5 (fun e => hb12 (Option.some.inj e))
                have hR5' := hR5.grown hg5 (fun e => by have := Option.some.inj e; omega)
                have F5' := below_upd F5 hg5 (by omega) hH5.lt
                refine ⟨fun h => absurd (by simp) h, ?_⟩
                clear hg5 hP5 hH5 hR5 F5
                clear w5
                refine wpAnyN_store_blk 6 54 (.tmp 11) (.tmp 42) (by kernel_rfl) rfl rfl rfl rfl hP5' 0 (plc E.1 E.2) (by go_simp) (by go_simp) 2 (by kernel_rfl) rfl (Nat.le_refl 2) (plc_one _ _) (plc E.1 E.2) rfl ?_
                intro w6 hP6 hg6
                have hH6 := hH5'.grown hg6 (fun e => hb12 (Option.some.inj e).symm)
                have hR6 := hR5'.grown hg6 (fun e => by have := Option.some.inj e; omega)
                have F6 := below_upd F5' hg6 (by omega) hP5'.lt
                refine ⟨fun h => absurd (by simp) h, wpAnyN_done (by kernel_rfl) ?_⟩
                clear hg6 hP5' hH5' hR5' F5'
                clear w5'
                have cu := up_any w6 E.1 E.2 (by have := HE.out; omega) (by have := HE.out; omega)
                rw [show pl E.1 E.2 = .agg (plc (E.1 : Nat) (E.2 : Nat)) from rfl, show pl (E.1 / 2) (E.2 / 2) = .agg (plc ((E.1 / 2 : Nat) : Int) ((E.2 / 2 : Nat) : Int)) from rfl] at cu
                go_wp2_with (refine wpList_load_blk rfl 54 _ rfl hP6 rfl (.struct fs) hfs rfl 2 (by kernel_rfl) rfl ?_)
                refine cu.mono ?_
                rintro e w7 ⟨rfl, G7⟩
                have hP7 := hP6.below G7 hP6.lt
                have hH7 := hH6.below G7 hH6.lt
                have hR7 := hR6.below G7 hR6.lt
                have F7 := F6.trans (G7.mono (by have := hP6.lt; omega))
                clear cu hP6 hH6 hR6 F6 G7
                clear w6
                go_wp2_with (refine wpList_store_blk rfl 54 _ _ rfl hP7 (plc ((E.1 / 2 : Nat) : Int) ((E.2 / 2 : Nat) : Int)) rfl rfl 2 (by kernel_rfl) rfl rfl (plc_one _ _) ?_)
                intro w8 hP8 hg8
                have hH8 := hH7.grown hg8 (fun e => hb12 (Option.some.inj e).symm)
                have hR8 := hR7.grown hg8 (fun e => by have := Option.some.inj e; omega)
                have F8 := below_upd F7 hg8 (by omega) hP7.lt
                have HW := Lib.hid (And.intro hP8 (And.intro hH8 (And.intro hR8 F8)))
                clear hg8 hP7 hH7 hR7 F7 hP8 hH8 hR8 F8
                go_wp2
                go_roundg (gk - 1)
                case measure => exact HT.out.2.2
                case rel => exact ⟨i + 1, E.1 / 2, E.2 / 2, u, by go_num, HT.out.2.1, by have := HE.out; omega, by have := HE.out; omega, HN.out.1, HW.out.1, HW.out.2.1, HW.out.2.2.1, HW.out.2.2.2⟩
              · rw [show decide (a % 2 = 1 ∨ a = l) = false by rw [decide_eq_false_iff_not]; exact hlf]
                obtain ⟨u, hu⟩ : ∃ u, u = nodeH h x := ⟨_, rfl⟩
                have hrun : T = runP (a / 2) (l / 2) u (p.drop (i + 1)) := by rw [HT.out.1, runP_right hl0 hlf, ← hu]
                have hul := u.2
                have HE := Lib.hid (And.intro ha hl)
                have c2 := node_any w3 (hL.below F3 HR0.out) h x
                rw [← hu] at c2
                have HN := Lib.hid hrun
                clear hrun hu hlf
                go_wp2_with (first | (refine wpList_load_mid_blk rfl 23 (.tmp 12) rfl hH3 0 rfl (h.1.map b8) (fun j v hv => by rw [Nat.zero_add, List.getElem?_toArray]; exact hv) (.array 32 5) (by kernel_rfl) rfl 32 (by kernel_rfl) (by simp [hhl]) ?_) | (refine wpList_load_mid_blk rfl 23 (.tmp 14) rfl hX3 0 rfl (x.1.map b8) (fun j v hv => by rw [Nat.zero_add, List.getElem?_toArray]; exact hv) (.array 32 5) (by kernel_rfl) rfl 32 (by kernel_rfl) (by simp [hxl]) ?_))
                refine c2.mono ?_
                rintro e w5 ⟨rfl, G5⟩
                have hP5 := hP3.below G5 hP3.lt
                have hH5 := hH3.below G5 hH3.lt
                have hR5 := hR3.below G5 hR3.lt
                have hrs : r ≤ w3.heap.size := by have := hP3.lt; omega
                have F5 := F3.trans (G5.mono hrs)
                clear c2 hP3 hH3 hR3 F3 G5 hX3 hrs
                clear w3
                go_wp2_with (refine wpList_store_blk rfl 23 _ _ rfl hH5 (u.1.map b8).toArray rfl rfl 32 (by kernel_rfl) (by simp [hhl]) (by simp [hul]) (by rw [List.toList_toArray]; exact b8_one _) ?_)
                intro w6 hH6 hg6
                have hP6 := hP5.grown hg6 (fun e => hb12 (Option.some.inj e))
                have hR6 := hR5.grown hg6 (fun e => by have := Option.some.inj e; omega)
                have F6 := below_upd F5 hg6 (by omega) hH5.lt
                clear hg6 hP5 hH5 hR5 F5
                have cu := up_any w6 a l (by have := HE.out; omega) (by have := HE.out; omega)
                rw [show pl a l = .agg (plc (a : Nat) (l : Nat)) from rfl, show pl (a / 2) (l / 2) = .agg (plc ((a / 2 : Nat) : Int) ((l / 2 : Nat) : Int)) from rfl] at cu
                go_wp2_with (refine wpList_load_blk rfl 54 _ rfl hP6 rfl (.struct fs) hfs rfl 2 (by kernel_rfl) rfl ?_)
                refine cu.mono ?_
                rintro e w7 ⟨rfl, G7⟩
                have hP7 := hP6.below G7 hP6.lt
                have hH7 := hH6.below G7 hH6.lt
                have hR7 := hR6.below G7 hR6.lt
                have F7 := F6.trans (G7.mono (by have := hP6.lt; omega))
                clear cu hP6 hH6 hR6 F6 G7
                clear w6
                go_wp2_with (refine wpList_store_blk rfl 54 _ _ rfl hP7 (plc ((a / 2 : Nat) : Int) ((l / 2 : Nat) : Int)) rfl rfl 2 (by kernel_rfl) rfl rfl (plc_one _ _) ?_)
                intro w8 hP8 hg8
                have hH8 := hH7.grown hg8 (fun e => hb12 (Option.some.inj e).symm)
                have hR8 := hR7.grown hg8 (fun e => by have := Option.some.inj e; omega)
                have F8 := below_upd F7 hg8 (by omega) hP7.lt
                have HW := Lib.hid (And.intro hP8 (And.intro hH8 (And.intro hR8 F8)))
                clear hg8 hP7 hH7 hR7 F7 hP8 hH8 hR8 F8
                go_wp2
                go_roundg (gk - 1)
                case measure => exact HT.out.2.2
                case rel => exact ⟨i + 1, a / 2, l / 2, u, by go_num, HT.out.2.1, by have := HE.out; omega, by have := HE.out; omega, HN.out, HW.out.1, HW.out.2.1, HW.out.2.2.1, HW.out.2.2.2⟩
          · have hd : decide (i < p.length) = false := by rw [decide_eq_false_iff_not]; omega
            have hdr : p.drop i = [] := List.drop_of_length_le (by omega)
            rw [hdr, runP_nil] at hT
            have c1 : wr.cell? ⟨b1, 1, none⟩ = some (.int .i64 l) := hP.cell 1
            rw [HR.out] at F
            have HF := Lib.hid F
            clear F hig hdr
            by_cases hl0 : l = 0
            · have hdl : ((l : Int) == 0) = true := by rw [hl0]; rfl
              have hzq : z = (h.1 == root.1) := by
                rw [HZ.out, hT, if_pos hl0, Bool.eq_iff_iff, decide_eq_true_eq, beq_iff_eq]
                exact ⟨fun e => by rw [Option.some.inj e], fun e => by rw [Subtype.ext e]⟩
              have HQ := Lib.hid hzq
              clear hT hl0 hzq
              go_wp2_with (first | (refine wpList_load_blkW (by go_simp) 23 (.tmp 12) rfl hH rfl (h.1.map b8) rfl (.array 32 5) (by kernel_rfl) rfl 32 (by kernel_rfl) (by simp [hhl]) ?_) | (refine wpList_load_blkW (by go_simp) 23 (.tmp 9) rfl hR rfl (root.1.map b8) rfl (.array 32 5) (by kernel_rfl) rfl 32 (by kernel_rfl) (by simp [hrl]) ?_))
              go_ret
              exact ⟨by rw [HQ.out]; rfl, HF.out⟩
            · have hdl : ((l : Int) == 0) = false := by rw [beq_eq_false_iff_ne]; omega
              have hzf : z = false := by rw [HZ.out, hT, if_neg hl0]; simp
              clear hT hl0
              go_wp2
              go_ret
              exact ⟨by first | rfl | (rw [hzf]; rfl), HF.out⟩
end Go.Proofs.YtadiijieldldhaaDoor
