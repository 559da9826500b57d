/-
  A growing tree: edge.Tree's Push.
-/
import Derived.Test.YtbglblamoodocaaDoorAwake16
import Derived.Test.YtbglblamoodocaaDoorApp
namespace Go.Proofs.YtbglblamoodocaaDoor
open Go Go.RowKit
attribute [local irreducible] sha
/-- an operation that only writes -/
theorem wpAnyN_runSkip {P : Program} {ops : Array Oper} {Q : Exit → Act → World → Prop} {md : Region.Mode} {S : World → Prop} {tail : List Nat} (i : Nat) {oi : Oper} {f : Nat} {l : Array Bool} {a : Act} {w w' : World} (hr : Region.ready md ops l = [i]) (hi : ops[i]? = some oi) (hd : oi.dst = none) (hg : oi.guard = none)
    (hrun : (execOp a.eval oi).run P w = .ok .skip w') (h : (i ∉ tail → S w → S w') ∧ wpAnyN P md ops Q S tail f (l.setIfInBounds i true) a w') : wpAnyN P md ops Q S tail (f + 1) l a w := by
  refine wpAnyN_one hr hi hg fun K hK => ?_
  unfold Oper.wp
  rw [hrun, Oper.upon_skip, hd]
  exact hK _ _ h.1 h.2
def edgeH (l : List Hs) : List Hs := Tree.edge nodeH nilH l
def pushH (n : Nat) (e : List Hs) (h : Hs) : List Hs := Tree.push nodeH nilH n e h
theorem pushH_edge (l : List Hs) (h : Hs) : pushH l.length (edgeH l) h = edgeH (l ++ [h]) := Tree.push_one nodeH nilH l h
theorem bits1_le (n : Nat) : Tree.bits1 n ≤ n := by
  induction n using Nat.strongRecOn with
  | ind n ih =>
    by_cases h : n = 0
    · subst h; rw [Tree.bits1_zero]; exact Nat.le_refl _
    · rw [Tree.bits1_step h]; have := ih (n / 2) (by omega); omega
theorem edgeH_len (l : List Hs) : (edgeH l).length = Tree.bits1 l.length := Tree.edge_len nodeH nilH _ l (Nat.le_refl _)
theorem edgeH_small (l : List Hs) : (edgeH l).length ≤ l.length := by rw [edgeH_len]; exact bits1_le _
theorem Row.upto {w : World} {ao : Option Addr} {n c e sz m : Nat} {xs : List Value} (h : Row w (.slice ao n c) e sz n xs) (hm : m ≤ n) (hn : 0 < n) : Row w (.slice ao m c) e sz m (xs.take (m * sz)) := by
  obtain ⟨g, off, cur, rfl, hg, h1, h2, h3, hc⟩ := h.place hn
  have hle : m * sz ≤ n * sz := Nat.mul_le_mul_right _ hm
  refine ⟨by rw [List.length_take, h.1]; omega, .inr ⟨g, off, c, cur, rfl, hg, by omega, h2, h3, fun j hj => ?_⟩⟩
  rw [List.length_take] at hj
  have := hc j (by omega)
  rw [List.getElem?_take, if_pos (by omega), ← this]
  simp [World.cell?, hg]
/-- a tree somewhere -/
structure TreeAt (w : World) (t : Nat) (v : Value) (l : List Hs) : Prop where
  blk : Blk w t 46 #[.int .i64 l.length, v]
  row : Row w v 28 32 (edgeH l).length ((flat (edgeH l)).map b8)
  ne : v.ownBlock ≠ some t
theorem TreeAt.below {w w' : World} {t : Nat} {v : Value} {l : List Hs} (h : TreeAt w t v l) (hb : Below w.heap.size w w') : TreeAt w' t v l :=
  ⟨h.blk.below hb h.blk.lt, h.row.below hb (fun g e => h.row.lt g e), h.ne⟩
theorem TreeAt.fr {S : Nat → Prop} {w w' : World} {t : Nat} {v : Value} {l : List Hs} (h : TreeAt w t v l) (hb : Fr S w w') (h1 : ¬ S t) (h2 : ∀ g, v.ownBlock = some g → ¬ S g) : TreeAt w' t v l :=
  ⟨h.blk.fr hb h1, h.row.fr hb h2, h.ne⟩
theorem TreeAt.drew {w : World} {t : Nat} {v : Value} {l : List Hs} (h : TreeAt w t v l) : TreeAt w.drew t v l := ⟨h.blk, h.row, h.ne⟩
set_option maxRecDepth 100000 in
set_option maxHeartbeats 4000000 in
theorem push_any (w : World) (hL : Laid w) (t : Nat) (v : Value) (l : List Hs) (h : Hs) (hT : TreeAt w t v l) (ht : t ≠ 0 ∧ t ≠ 1) (hbig : l.length ≤ 1000000) :
    Calls Tryd.prog 38 #[.pointer (some ⟨t, 0, none⟩), hval h] w fun e w' => e = .returned (.tuple #[]) ∧ ∃ v', TreeAt w' t v' (l ++ [h]) ∧ Fr (fun x => x = t ∨ v.ownBlock = some x) w w' ∧ (v'.ownBlock = v.ownBlock ∨ ∃ x, v'.ownBlock = some x ∧ w.heap.size ≤ x) := by
  obtain ⟨i0, hi, hz0, hz1, hz2⟩ := info_parts infoHs
  obtain ⟨ob, hob⟩ : ∃ ob, ob = v.ownBlock := ⟨_, rfl⟩
  obtain ⟨z, hz⟩ : ∃ z, z = w.heap.size := ⟨_, rfl⟩
  obtain ⟨w1, hw1⟩ : ∃ w1, w1 = w.alloc (.cells (h.1.map b8).toArray 28) := ⟨_, rfl⟩
  obtain ⟨E0, hE0⟩ : ∃ E0, E0 = edgeH l := ⟨_, rfl⟩
  have F1 : Below z w w1 := by rw [hw1, hz]; exact below_alloc1 _ _
  have hZ1 : Blk w1 z 28 (h.1.map b8).toArray := by rw [hw1, hz]; exact Blk.new w _ _
  have htz : t < z := by rw [hz]; exact hT.blk.lt
  have hT1 := hT.blk.below F1 htz
  have hR1 := hT.row.below F1 (fun g e => by rw [hz]; exact hT.row.lt g e)
  have hne := hT.ne
  have hgz : ∀ g, ob = some g → g < z := fun g e => by rw [hz]; exact hT.row.lt g (hob ▸ e)
  have F1' : Fr (fun x => x = t) w w1 := (Fr.refl _ w).below F1 (fun x hx hle => by omega)
  rw [← hob] at hne ⊢
  have hE0l : E0.length = Tree.bits1 l.length := by rw [hE0]; exact edgeH_len l
  have hpe := pushH_edge l h
  rw [← hE0] at hR1 hpe
  obtain ⟨Q, hQ⟩ : ∃ Q, Q = edgeH (l ++ [h]) := ⟨_, rfl⟩
  rw [← hQ] at hpe
  obtain ⟨a0, cc0, rfl⟩ := hR1.shape
  have HOB := Lib.hid hob.symm
  clear hob
  have HE := Lib.hid (And.intro hE0 (And.intro hQ hE0l))
  have HR := Lib.hid (And.intro hw1 (And.intro hz (And.intro hne (And.intro hgz htz))))
  have HLt := Lib.hid hL.lt
  have hL1 : Laid w1 := hL.below F1 (by omega)
  clear hE0 hQ hw1 hz hT
  have c0 := hT1.cell 0
  replace c0 : w1.cell? ⟨t, 0, none⟩ = some (.int .i64 l.length) := c0
  rw [← HR.out.2.1]
  go_enter Tryd.func38, Tryd.ntmps38
  go_upto_region 1 with (fail)
  change Code.wp _ _ _ _ (w.alloc (.cells (h.1.map b8).toArray 28))
  rw [← HR.out.1, ← HR.out.2.1]
  replace HR := Lib.hid HR.out.2
  go_wp2
  go_loopg [4, 5] l.length (fun g x4 x5 wr => ∃ (E : List Hs) (a : Option Addr) (c : Nat) (hh : Hs), x4 = .int .i64 g ∧ Blk wr t 46 #[.int .i64 l.length, .slice a E.length c] ∧ Row wr (.slice a E.length c) 28 32 E.length ((flat E).map b8) ∧
    Blk wr z 28 (hh.1.map b8).toArray ∧ Fr (fun x => x = t) w wr ∧ (Value.slice a E.length c).ownBlock = ob ∧ E.length = Tree.bits1 g ∧ pushH g E hh = Q ∧ g ≤ l.length)
  case atStart => exact ⟨E0, a0, cc0, h, rfl, hT1, hR1, hZ1, F1', HOB.out, HE.out.2.2, hpe, Nat.le_refl _⟩
  case round =>
    clear hT1 hR1 hZ1 F1' F1 c0 hpe
    obtain ⟨E, a, c, hh, rfl, hT, hR, hZ, F, ho, hEl, hpe, hgl⟩ := hrel
    by_cases hodd : gk % 2 = 1
    · have hd : (((gk : Int) % 2) == 1) = true := by rw [beq_iff_eq]; omega
      have hbs := Tree.bits1_step (n := gk) (by omega)
      obtain ⟨E', y, rfl⟩ : ∃ E' y, E = E' ++ [y] := by
        have hnn : E ≠ [] := by rintro rfl; simp at hEl; omega
        exact ⟨E.dropLast, E.getLast hnn, (List.dropLast_concat_getLast hnn).symm⟩
      obtain ⟨m, hm⟩ : ∃ m, m = E'.length := ⟨_, rfl⟩
      have hml : (E' ++ [y]).length = m + 1 := by rw [List.length_append, ← hm]; rfl
      rw [hml] at hT hR ho hEl
      have hm2 : m = Tree.bits1 (gk / 2) := by omega
      have hmb : m ≤ 1000000 := by have := bits1_le (gk / 2); omega
      have hp2 : pushH (gk / 2) E' (nodeH y hh) = Q := by
        rw [← hpe]
        unfold pushH
        rw [Tree.push_odd nodeH nilH (n := gk) hodd, List.dropLast_concat, List.getLastD_concat]
      obtain ⟨a', c', e', -, hcc, hcm, hY⟩ := hR.hts
      cases e'
      obtain ⟨g, off, rfl, hg, hrg⟩ := hY.place (by rw [hml]; omega)
      have hy0 := hrg m (by omega)
      have hym : (E' ++ [y])[m]'(by omega) = y := by
        rw [List.getElem_append_right (by omega)]; simp
      rw [hym] at hy0
      have hflat : ((flat (E' ++ [y])).map b8).take (m * 32) = (flat E').map b8 := by
        rw [flat_append, List.map_append, List.take_left' (by rw [List.length_map, flat_len, hm])]
      have hR' := hR.upto (m := m) (by omega) (by omega)
      rw [hflat] at hR'
      have hgz' : g < z := HR.out.2.2.1 g ho.symm
      have hgt : g ≠ t := fun e => HR.out.2.1 (by rw [← ho, ← e]; rfl)
      have htz' := HR.out.2.2.2
      have HU := Lib.hid (And.intro hm (And.intro hm2 (And.intro hp2 (And.intro ho (And.intro hgl (show gk / 2 < gk by omega))))))
      have hyl := y.2
      have hhl := hh.2
      clear hbs hm hml hEl hm2 hp2 hpe hY hrg hym hflat ho hg
      have hcm0 : c ≤ 9223372036854775807 := hcm
      have q1 : IntKind.i64.wrap (m : Int) = m := IntWalk.i64_in _ (by omega)
      have c1 : wr.cell? ⟨t, 1, none⟩ = some (.slice (some ⟨g, off, none⟩) (m + 1) c) := hT.cell 1
      go_upto_region 6 with (fail)
      refine wp_region_N (fun w' => w'.cell? ⟨t, 1, none⟩ = some (.slice (some ⟨g, off, none⟩) (m + 1) c) ∧ w'.rangeAt g (off + m * 32) (y.1.map b8) ∧ Blk w' z 28 (hh.1.map b8).toArray) [9] (by kernel_rfl) ?_
      obtain ⟨wd, hwd⟩ : ∃ wd, wd = wr.drew := ⟨_, rfl⟩
      replace hT : Blk wd t 46 #[.int .i64 l.length, .slice (some ⟨g, off, none⟩) (m + 1) c] := by rw [hwd]; exact hT
      replace hR' : Row wd (.slice (some ⟨g, off, none⟩) m c) 28 32 m ((flat E').map b8) := by rw [hwd]; exact hR'
      replace hZ : Blk wd z 28 (hh.1.map b8).toArray := by rw [hwd]; exact hZ
      replace F : Fr (fun x => x = t) w wd := by rw [hwd]; exact F.drewN 1
      replace c1 : wd.cell? ⟨t, 1, none⟩ = some (.slice (some ⟨g, off, none⟩) (m + 1) c) := by rw [hwd]; exact c1
      replace hy0 : wd.rangeAt g (off + m * 32) (y.1.map b8) := by rw [hwd]; exact hy0
      rw [← hwd]
      clear hwd hR
      clear wr
      refine wpAnyN_pureG 0 23 (v := ?_) rfl rfl (by kernel_rfl) (by kernel_rfl) (by kernel_rfl) (fun _ _ _ h => h) rfl (fun w => ?_) ?_
      rotate_left
      · go_simp
        try with_reducible rfl
      refine wpAnyN_pureG 1 24 (v := .pointer (some ⟨t, 0, none⟩)) rfl rfl (by kernel_rfl) (by kernel_rfl) (by kernel_rfl) (fun _ _ _ h => h) rfl (fun w => ?_) ?_
      · go_simp
      refine wpAnyN_pureG 2 25 (v := .pointer (some ⟨t, 1, none⟩)) rfl rfl (by kernel_rfl) (by kernel_rfl) (by kernel_rfl) (fun _ _ _ h => h) rfl (fun w => ?_) ?_
      · go_simp
      refine wpAnyN_takeG 3 26 (v := .slice (some ⟨g, off, none⟩) (m + 1) c) rfl rfl (by kernel_rfl) (by kernel_rfl) (by kernel_rfl) (by kernel_rfl) (fun _ _ _ h => h) ⟨c1, hy0, hZ⟩ rfl (fun w hS => ?_) ?_
      · have h0 := hS.1; go_simp
      refine wpAnyN_pureG 4 27 (v := ?_) rfl rfl (by kernel_rfl) (by kernel_rfl) (by kernel_rfl) (fun _ _ _ h => h) rfl (fun w => ?_) ?_
      rotate_left
      · go_simp
        try with_reducible rfl
      refine wpAnyN_pureG 5 28 (v := .pointer (some ⟨g, off + m * 32, none⟩)) rfl rfl (by kernel_rfl) (by kernel_rfl) (by kernel_rfl) (fun _ _ _ h => h) rfl (fun w => ?_) ?_
      · go_simp
        intro h
        omega
      simp only [Act.put, List.setIfInBounds_toArray, List.set_cons_succ, List.set_cons_zero]
      refine wpAnyN_takeG 6 29 (v := hval y) rfl rfl (by kernel_rfl) (by kernel_rfl) (by kernel_rfl) (by kernel_rfl) (fun _ _ _ h => h) ⟨c1, hy0, hZ⟩ rfl (fun w hS => ?_) ?_
      · exact run_load_range 28 _ rfl hS.2.1 (by go_simp) (.array 32 5) (by kernel_rfl) rfl 32 (by kernel_rfl) (by simp [hyl])
      refine wpAnyN_takeG 7 30 (v := hval hh) rfl rfl (by kernel_rfl) (by kernel_rfl) (by kernel_rfl) (by kernel_rfl) (fun _ _ _ h => h) ⟨c1, hy0, hZ⟩ rfl (fun w hS => ?_) ?_
      · exact run_load_mid_blk 28 _ rfl hS.2.2 0 (by go_simp) (hh.1.map b8) (fun j v h => by rw [Nat.zero_add, List.getElem?_toArray]; exact h) (.array 32 5) (by kernel_rfl) rfl 32 (by kernel_rfl) (by simp [hhl])
      have hLd : Laid wd := hL.fr F (fun e => ht.1 e.symm) (fun e => ht.2 e.symm)
      have c2 := node_any wd hLd y hh
      obtain ⟨u, hu⟩ : ∃ u, u = nodeH y hh := ⟨_, rfl⟩
      rw [← hu] at c2
      have hul := u.2
      have HUU := Lib.hid hu
      clear hu
      refine wpAnyN_call 8 22 (some 31) [.tmp 29, .tmp 30] [hval y, hval hh] (by kernel_rfl) rfl rfl rfl rfl (by go_simp) Tryd.call22 ?_
      refine c2.mono ?_
      rintro e w2 ⟨rfl, G2⟩
      have hT2 := hT.below G2 hT.lt
      have hR2 := hR'.below G2 (fun g e => hR'.lt g e)
      have hZ2 := hZ.below G2 hZ.lt
      have F2 := F.below G2 (fun x hx hle => by have := F.size; omega)
      refine ⟨_, rfl, fun _ h => ⟨(G2.cell (p := ⟨t, 1, none⟩) hT.lt).trans c1, fun j v hv => (G2.cell (p := ⟨g, off + m * 32 + j, none⟩) (show g < wd.heap.size by have := hZ.lt; omega)).trans (hy0 j v hv), hZ.below G2 hZ.lt⟩, ?_⟩
      clear c2 hT hR' hZ F G2 c1 hy0 hLd
      clear wd
      refine wpAnyN_store_blk 9 28 (.tmp 3) (.tmp 31) (by kernel_rfl) rfl rfl rfl rfl hZ2 0 (u.1.map b8).toArray (by go_simp) (by go_simp) 32 (by kernel_rfl) (by simp [hul]) (by simp [hhl]) (by rw [List.toList_toArray]; exact b8_one _) (u.1.map b8).toArray (by simp [hhl]) ?_
      intro w3 hZ3 hg3
      have hT3 := hT2.grown hg3 (fun e => by have := Option.some.inj e; omega)
      have hR3 := hR2.grown hg3 (fun x e e' => by have h1 : g = x := Option.some.inj e; have h2 := Option.some.inj e'; omega)
      have F3 := F2.grown hg3 (fun x hx e => by have h1 := Option.some.inj e; have h2 := HR.out.1; omega)
      refine ⟨fun h _ => absurd (by simp) h, wpAnyN_done (by kernel_rfl) ?_⟩
      clear hg3 hT2 hR2 hZ2 F2
      clear w2
      simp only [Act.put, List.setIfInBounds_toArray, List.set_cons_succ, List.set_cons_zero]
      have c1 : w3.cell? ⟨t, 1, none⟩ = some (.slice (some ⟨g, off, none⟩) (m + 1) c) := hT3.cell 1
      have f1 := hT3.free 1
      have hs7 := fun W => run_upto_row (P := Tryd.prog) (t := 32) (e := 28) (by kernel_rfl) hi g off (m + 1) c m (by omega) hcc W
      have q2 : IntKind.i64.wrap ((gk : Int) / 2) = ((gk / 2 : Nat) : Int) := by rw [show (gk : Int) / 2 = ((gk / 2 : Nat) : Int) by omega]; exact IntWalk.i64_in _ (by omega)
      have HT3 := Lib.hid (And.intro hT3 (And.intro hR3 (And.intro hZ3 F3)))
      clear hT3 hR3 hZ3 F3
      go_wp2
      go_roundg (gk / 2)
      case measure => exact HU.out.2.2.2.2.2
      case rel =>
        have hmE := HU.out.1
        refine ⟨E', some ⟨g, off, none⟩, c, u, by go_num, ?_, ?_, ?_, ?_, HU.out.2.2.2.1, by rw [← hmE]; exact HU.out.2.1, by rw [HUU.out]; exact HU.out.2.2.1, by have := HU.out.2.2.2.2.1; omega⟩
        · rw [← hmE]; exact HT3.out.1.set 1 _
        · rw [← hmE]; exact HT3.out.2.1.setCell _ _ (fun e => hgt (Option.some.inj e))
        · exact HT3.out.2.2.1.set_other _ (show t ≠ z by omega) _
        · exact HT3.out.2.2.2.setCell _ _ (fun _ => rfl)
    · have hd : (((gk : Int) % 2) == 1) = false := by rw [beq_eq_false_iff_ne]; omega
      have hEb : E.length ≤ 1000000 := by have := bits1_le gk; omega
      have hp2 : E ++ [hh] = Q := by
        rw [← hpe]
        unfold pushH
        rw [Tree.push_even nodeH nilH (by omega)]
      have hgo : ∀ x, (Value.slice a E.length c).ownBlock = some x → x < z ∧ x ≠ t := fun x e => by
        rw [ho] at e
        exact ⟨HR.out.2.2.1 x e, fun e2 => HR.out.2.1 (by rw [e, e2])⟩
      have htz' := HR.out.2.2.2
      have hhl := hh.2
      have HU := Lib.hid (And.intro hp2 (And.intro ho hgo))
      clear hEl hpe hp2 ho hgo
      go_upto_region 8 with (fail)
      refine wp_region_N (fun w' => Blk w' t 46 #[.int .i64 l.length, .slice a E.length c] ∧ Blk w' z 28 (hh.1.map b8).toArray) [10] (by kernel_rfl) ?_
      obtain ⟨wd, hwd⟩ : ∃ wd, wd = wr.drew := ⟨_, rfl⟩
      replace hT : Blk wd t 46 #[.int .i64 l.length, .slice a E.length c] := by rw [hwd]; exact hT
      replace hR : Row wd (.slice a E.length c) 28 32 E.length ((flat E).map b8) := by rw [hwd]; exact hR
      replace hZ : Blk wd z 28 (hh.1.map b8).toArray := by rw [hwd]; exact hZ
      replace F : Fr (fun x => x = t) w wd := by rw [hwd]; exact F.drewN 1
      rw [← hwd]
      clear hwd
      clear wr
      refine wpAnyN_pureG 0 41 (v := ?_) rfl rfl (by kernel_rfl) (by kernel_rfl) (by kernel_rfl) (fun _ _ _ h => h) rfl (fun w => ?_) ?_
      rotate_left
      · go_simp
        try with_reducible rfl
      refine wpAnyN_pureG 1 42 (v := ?_) rfl rfl (by kernel_rfl) (by kernel_rfl) (by kernel_rfl) (fun _ _ _ h => h) rfl (fun w => ?_) ?_
      rotate_left
      · go_simp
        try with_reducible rfl
      refine wpAnyN_pureG 2 43 (v := .pointer (some ⟨t, 0, none⟩)) rfl rfl (by kernel_rfl) (by kernel_rfl) (by kernel_rfl) (fun _ _ _ h => h) rfl (fun w => ?_) ?_
      · go_simp
      refine wpAnyN_pureG 3 44 (v := .pointer (some ⟨t, 1, none⟩)) rfl rfl (by kernel_rfl) (by kernel_rfl) (by kernel_rfl) (fun _ _ _ h => h) rfl (fun w => ?_) ?_
      · go_simp
      simp only [Act.put, List.setIfInBounds_toArray, List.set_cons_succ, List.set_cons_zero]
      refine wpAnyN_takeG 4 45 (v := .slice a E.length c) rfl rfl (by kernel_rfl) (by kernel_rfl) (by kernel_rfl) (by kernel_rfl) (fun _ _ _ h => h) ⟨hT, hZ⟩ rfl (fun w hS => ?_) ?_
      · have h0 : w.cell? ⟨t, 1, none⟩ = some (.slice a E.length c) := hS.1.cell 1
        go_simp
      refine wpAnyN_takeG 5 46 (v := hval hh) rfl rfl (by kernel_rfl) (by kernel_rfl) (by kernel_rfl) (by kernel_rfl) (fun _ _ _ h => h) ⟨hT, hZ⟩ rfl (fun w hS => ?_) ?_
      · exact run_load_mid_blk 28 _ rfl hS.2 0 (by go_simp) (hh.1.map b8) (fun j v h => by rw [Nat.zero_add, List.getElem?_toArray]; exact h) (.array 32 5) (by kernel_rfl) rfl 32 (by kernel_rfl) (by simp [hhl])
      refine wpAnyN_run 6 (some 47) (v := .slice (some ⟨wd.heap.size, 0, none⟩) 1 1) (w' := wd.alloc (.cells (hh.1.map b8).toArray 28)) (by kernel_rfl) rfl rfl rfl (run_build_one wd hh.1 hhl _ _ (.tmp 46) rfl rfl) ⟨fun _ h => ⟨h.1.alloc _, h.2.alloc _⟩, ?_⟩
      refine wpAnyN_append 7 (some 48) (.tmp 45) (.tmp 47) 32 32 (by kernel_rfl) rfl rfl rfl rfl 28 i0 (.agg zero32) 32 32 (by kernel_rfl) hi hz0 hz1 hz2 rfl (by decide) (hR.alloc _) rfl (src_one wd hh) rfl (by simp only [maxLen]; omega) (by omega) ?_
      intro v2 w2 hrow2 hg2 hv2
      obtain ⟨a2, c2, rfl⟩ := hrow2.shape
      have hsz : w.heap.size ≤ wd.heap.size := F.size
      have htd := hT.lt
      have hT2 := (hT.alloc (.cells (hh.1.map b8).toArray 28)).grown hg2 (fun e => (HU.out.2.2 t e.symm).2 rfl)
      have F2 : Fr (fun x => x = t ∨ ob = some x) w w2 := ((F.mono (fun x _ h => Or.inl h)).alloc (.cells (hh.1.map b8).toArray 28)).grown hg2 (fun x _ e => Or.inr (by rw [← HU.out.2.1]; exact e.symm))
      have hv2' : (Value.slice a2 (E.length + 1) c2).ownBlock = ob ∨ ∃ x, (Value.slice a2 (E.length + 1) c2).ownBlock = some x ∧ wd.heap.size ≤ x := by
        rcases hv2 with e | ⟨e, -⟩
        · exact .inl (e.trans HU.out.2.1)
        · exact .inr ⟨_, e, by rw [alloc_size]; omega⟩
      have hne2 : (Value.slice a2 (E.length + 1) c2).ownBlock ≠ some t := by
        rcases hv2' with e | ⟨x, e, hx⟩
        · rw [e]; exact HR.out.2.1
        · rw [e]; intro e2; have := Option.some.inj e2; omega
      refine ⟨fun _ h => ⟨h.1.grown hg2 (fun e => (HU.out.2.2 t e.symm).2 rfl), h.2.grown hg2 (fun e => by have := (HU.out.2.2 z e.symm).1; omega)⟩, ?_⟩
      have HV := Lib.hid (And.intro hrow2 (And.intro hv2' (And.intro hne2 hsz)))
      clear hrow2 hg2 hv2 hv2' hne2 hsz hR hZ hT F
      generalize wd.heap.size = gz at HV ⊢
      clear htd wd
      simp only [Act.put, List.setIfInBounds_toArray, List.set_cons_succ, List.set_cons_zero]
      refine wpAnyN_pureG 8 49 (v := .pointer (some ⟨t, 0, none⟩)) rfl rfl (by kernel_rfl) (by kernel_rfl) (by kernel_rfl) (fun _ _ _ h => h) rfl (fun w => ?_) ?_
      · go_simp
      refine wpAnyN_pureG 9 50 (v := .pointer (some ⟨t, 1, none⟩)) rfl rfl (by kernel_rfl) (by kernel_rfl) (by kernel_rfl) (fun _ _ _ h => h) rfl (fun w => ?_) ?_
      · go_simp
      have c1 : w2.cell? ⟨t, 1, none⟩ = some (.slice a E.length c) := hT2.cell 1
      have f1 := hT2.free 1
      simp only [Act.put, List.setIfInBounds_toArray, List.set_cons_succ, List.set_cons_zero]
      refine wpAnyN_runSkip 10 (w' := w2.setCell ⟨t, 1, none⟩ (.slice a2 (E.length + 1) c2)) (by kernel_rfl) rfl rfl rfl ?_ ⟨fun h => absurd (by simp) h, ?_⟩
      · go_simp
      have hT3 := hT2.set 1 (.slice a2 (E.length + 1) c2)
      have hR3 := HV.out.1.setCell ⟨t, 1, none⟩ (.slice a2 (E.length + 1) c2) HV.out.2.2.1
      have F3 := F2.setCell ⟨t, 1, none⟩ (.slice a2 (E.length + 1) c2) (fun _ => Or.inl rfl)
      obtain ⟨w3, hw3⟩ : ∃ w3, w3 = w2.setCell ⟨t, 1, none⟩ (.slice a2 (E.length + 1) c2) := ⟨_, rfl⟩
      rw [← hw3] at hT3 hR3 F3 ⊢
      clear hw3 c1 f1 hT2 F2
      replace HV := Lib.hid HV.out.2
      clear w2
      replace hT3 : Blk w3 t 46 #[.int .i64 l.length, .slice a2 (E.length + 1) c2] := hT3
      refine wpAnyN_done (by kernel_rfl) ?_
      have c0 : w3.cell? ⟨t, 0, none⟩ = some (.int .i64 l.length) := hT3.cell 0
      have f0 := hT3.free 0
      have q2 : IntKind.i64.wrap ((l.length : Int) + 1) = (l.length : Int) + 1 := IntWalk.i64_in _ (by omega)
      have HT3 := Lib.hid (And.intro hT3 (And.intro hR3 F3))
      clear hT3 hR3 F3
      go_wp2
      have hT4 := HT3.out.1.set 0 (.int .i64 ((l.length : Int) + 1))
      have hR4 := HT3.out.2.1.setCell ⟨t, 0, none⟩ (.int .i64 ((l.length : Int) + 1)) HV.out.2.1
      have F4 := HT3.out.2.2.setCell ⟨t, 0, none⟩ (.int .i64 ((l.length : Int) + 1)) (fun _ => Or.inl rfl)
      have hEQ : edgeH (l ++ [h]) = E ++ [hh] := by rw [HU.out.1]; exact HE.out.2.1.symm
      refine ⟨rfl, .tuple #[], results_nil Tryd.results38 _ _, rfl, .slice a2 (E.length + 1) c2, ⟨?_, ?_, HV.out.2.1⟩, F4, ?_⟩
      · rw [List.length_append]; exact hT4
      · rw [hEQ, List.length_append, flat_append, flat_one, List.map_append]; exact hR4
      · rcases HV.out.1 with e | ⟨x, e, hx⟩
        · exact .inl e
        · exact .inr ⟨x, e, by have h1 := HV.out.2.2; have h2 := HR.out.1; omega⟩
end Go.Proofs.YtbglblamoodocaaDoor
