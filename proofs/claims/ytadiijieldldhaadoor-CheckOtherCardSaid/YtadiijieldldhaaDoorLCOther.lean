/-
  The walk of the statement CheckOther.
-/
import Derived.Test.YtadiijieldldhaaDoorLCRight
import Derived.Test.YtadiijieldldhaaDoorDagB
import Derived.Test.YtadiijieldldhaaDoorApp
namespace Go.Proofs.YtadiijieldldhaaDoor
open Go Go.RowKit
attribute [local irreducible] sha
theorem path_wrong (l : List Hs) (i : Nat) (h : i < l.length) (x : Hs) (p : List Hs) (root : Hs) (hp : p.length ≠ (pathOut l (i : Int)).length) : checkP i l.length x p root = false := by
  rw [pathOut_nat l i h, pathH, Tree.path_len nodeH nilH l.length l i (Nat.le_refl _) h] at hp
  rw [checkP_leads x p root h, leadsH, Tree.leads_len nodeH zeroH x p.reverse i l.length h, List.length_reverse, decide_eq_false hp, Bool.false_and]
theorem path_pos (l : List Hs) (i : Nat) (h : i < l.length) (h2 : 2 ≤ l.length) : 1 ≤ (pathOut l (i : Int)).length := by
  rw [pathOut_nat l i h, pathH, Tree.path_len nodeH nilH l.length l i (Nat.le_refl _) h, Tree.deep_two h2]; omega
theorem proof_wrong (l : List Hs) (m : Nat) (h1 : 1 ≤ m) (h : m ≤ l.length) (old : Hs) (q : List Hs) (root : Hs) (hq : q.length ≠ (prfOut l (m : Int)).length) : proofP m l.length old q root = false := by
  rw [prfOut_nat l m h1 h, prfH, Tree.prf_len nodeH nilH l.length l m true (Nat.le_refl _) h1 h] at hq
  rw [proofP_two old root q h1 h, twoH, Tree.two_len nodeH old q.reverse m l.length true h1 h, List.length_reverse, decide_eq_false hq, Bool.false_and]
/-- three hashes in blocks, and one in a list -/
structure FourS (r b c g o : Nat) (z rt ro x : Hs) (w : World) : Prop where
  z : Blk w r 23 (z.1.map b8).toArray
  rt : Blk w b 23 (rt.1.map b8).toArray
  ro : Blk w c 23 (ro.1.map b8).toArray
  x : w.rangeAt g o (x.1.map b8)
def FourS.lt (r b c g : Nat) (w : World) : Prop := r < w.heap.size ∧ b < w.heap.size ∧ c < w.heap.size ∧ g < w.heap.size
theorem FourS.belowN {r b c g o : Nat} {z rt ro x : Hs} {w0 w w' : World} (h : FourS r b c g o z rt ro x w) (G : Below w0.heap.size w w') (hn : FourS.lt r b c g w0) : FourS r b c g o z rt ro x w' :=
  ⟨h.z.below G hn.1, h.rt.below G hn.2.1, h.ro.below G hn.2.2.1, range_below h.x G hn.2.2.2⟩
theorem FourS.below {r b c g o : Nat} {z rt ro x : Hs} {w w' : World} (h : FourS r b c g o z rt ro x w) (G : Below w.heap.size w w') : FourS r b c g o z rt ro x w' :=
  h.belowN G ⟨h.z.lt, h.rt.lt, h.ro.lt, hash_lt x h.x⟩
theorem FourS.grown {r b c g o : Nat} {z rt ro x : Hs} {w w' : World} {row : Option Nat} (h : FourS r b c g o z rt ro x w) (G : w.grownBy w' row) (hn : ∀ k, row = some k → k ≠ r ∧ k ≠ b ∧ k ≠ c ∧ k ≠ g) : FourS r b c g o z rt ro x w' := by
  refine ⟨h.z.grown G (fun e => (hn _ e.symm).1 rfl), h.rt.grown G (fun e => (hn _ e.symm).2.1 rfl), h.ro.grown G (fun e => (hn _ e.symm).2.2.1 rfl), fun j v hv => ?_⟩
  have e := G.block g (hash_lt x h.x) (fun e => (hn _ e.symm).2.2.2 rfl)
  have := h.x j v hv
  simp only [World.cell?] at this ⊢
  rw [e]; exact this
set_option maxRecDepth 100000 in
set_option maxHeartbeats 16000000 in
theorem cother_any (w : World) (hL : Laid w) (ao : Option Addr) (cp : Nat) (l : List Hs) (hB : Hts w ao l) (hc : l.length ≤ cp) (hm : cp ≤ maxLen) (n : Int) (hn0 : 0 ≤ n) (hn1 : n ≤ 255) (z : Hs) :
    Calls Tryd.prog 8 #[.slice ao l.length cp, .int .u8 n, hval z] w fun e w' => e = .returned (.bool true) ∧ Below w.heap.size w w' := by
  have hl9 : l.length ≤ 9223372036854775807 := Nat.le_trans hc hm
  have hm0 : cp ≤ 9223372036854775807 := hm
  obtain ⟨r, hr⟩ : ∃ r, r = w.heap.size := ⟨_, rfl⟩
  obtain ⟨w1, hw1⟩ : ∃ w1, w1 = w.alloc (.cells (z.1.map b8).toArray 23) := ⟨_, rfl⟩
  have F1 : Below r w w1 := by rw [hw1, hr]; exact below_alloc1 _ _
  have hZ1 : Blk w1 r 23 (z.1.map b8).toArray := by rw [hw1, hr]; exact Blk.new w _ _
  have HR := Lib.hid (And.intro hw1 hr)
  have hr0 : w.heap.size ≤ r := by omega
  have HR0 := Lib.hid hr0
  clear hw1 hr hr0
  by_cases hlen : l.length ≤ 60 ∧ 2 ≤ l.length
  · have hd : decide ((60 : Int) < (l.length : Int)) = false := by rw [decide_eq_false_iff_not]; omega
    have hd1 : decide ((l.length : Int) < 2) = false := by rw [decide_eq_false_iff_not]; omega
    have q1 : IntKind.i64.wrap n = n := IntWalk.i64_in _ (by omega)
    obtain ⟨i, hiv, hil⟩ : ∃ i : Nat, n % (l.length : Int) = (i : Int) ∧ i < l.length := by
      have h1 := Int.emod_nonneg n (show (l.length : Int) ≠ 0 by omega)
      have h2 := Int.emod_lt_of_pos n (show 0 < (l.length : Int) by omega)
      exact ⟨(n % (l.length : Int)).toNat, by omega, by omega⟩
    have qi : IntKind.i64.wrap (i : Int) = i := IntWalk.i64_in _ (by omega)
    obtain ⟨i1, hi1⟩ : ∃ i1 : Nat, i1 = i + 1 := ⟨_, rfl⟩
    have qj : IntKind.i64.wrap ((i : Int) + 1) = (i1 : Int) := by rw [show (i : Int) + 1 = i1 by omega]; exact IntWalk.i64_in _ (by omega)
    have qn : IntKind.i64.wrap ((l.length : Int) + 1) = (l.length : Int) + 1 := IntWalk.i64_in _ (by omega)
    obtain ⟨i0, hi, hz0, hz1, hz2⟩ := info_parts infoHs
    obtain ⟨a6, hs6, -, ht6⟩ := run_upto_hts (P := Tryd.prog) (t := 24) (by kernel_rfl) hi ao l.length cp i1 (by omega)
    have hl1 : (l.take i1).length = i1 := by rw [List.length_take]; omega
    have hp0 := path_pos l i hil hlen.2
    have hp1 : (pathOut l (i : Int)).length ≤ 1000 := by rw [pathOut_nat l i hil]; exact Nat.le_trans (pathH_len l i hil) (by omega)
    have hp2 : (prfOut l (i1 : Int)).length ≤ 1000 := by rw [prfOut_nat l i1 (by omega) (by omega)]; exact Nat.le_trans (prfH_len l i1 true (by omega) (by omega)) (by omega)
    have w1' := fun (x : Hs) (p : List Hs) (root : Hs) => path_wrong l i hil x p root
    have w2' := fun (x : Hs) (p : List Hs) (root : Hs) => proof_wrong l i1 (by omega) (by omega) x p root
    obtain ⟨x, hx⟩ : ∃ x, x = l[i] := ⟨_, rfl⟩
    obtain ⟨rt, hrt⟩ : ∃ rt, rt = rootH l := ⟨_, rfl⟩
    obtain ⟨ro, hro⟩ : ∃ ro, ro = rootH (l.take i1) := ⟨_, rfl⟩
    obtain ⟨p, hp⟩ : ∃ p, p = pathOut l (i : Int) := ⟨_, rfl⟩
    obtain ⟨q, hq⟩ : ∃ q, q = prfOut l (i1 : Int) := ⟨_, rfl⟩
    rw [← hp] at hp0 hp1 w1'
    rw [← hq] at hp2 w2'
    obtain ⟨p1, hp1'⟩ : ∃ p1, p1 = p.length - 1 := ⟨_, rfl⟩
    have qp : IntKind.i64.wrap ((p.length : Int) - 1) = (p1 : Int) := by rw [show (p.length : Int) - 1 = p1 by omega]; exact IntWalk.i64_in _ (by omega)
    obtain ⟨pz, hpz⟩ : ∃ pz, pz = p ++ [z] := ⟨_, rfl⟩
    obtain ⟨qz, hqz⟩ : ∃ qz, qz = q ++ [z] := ⟨_, rfl⟩
    have hpzl : pz.length = p.length + 1 := by rw [hpz, List.length_append]; rfl
    have hqzl : qz.length = q.length + 1 := by rw [hqz, List.length_append]; rfl
    have hlt : (p.take p1).length = p1 := by rw [List.length_take]; omega
    have cR : ∀ W, Below r w W → Calls Tryd.prog 21 #[.slice ao l.length cp] W fun e w' => e = .returned (hval rt) ∧ Below W.heap.size W w' := fun W hW => by
      rw [hrt]; exact refroot_any W ao cp l (hL.below hW HR0.out) (hB.below hW HR0.out) hc hm
    have c1 : ∀ W, Below r w W → Calls Tryd.prog 17 #[.slice ao l.length cp, .int .i64 i] W fun e w' => ∃ v, e = .returned (.tuple #[v, .int .i64 (pathErr l i)]) ∧ OwnH W.heap.size W w' v p := fun W hW => by
      rw [hp]; exact refpath_any W ao cp l (i : Int) (hL.below hW HR0.out) (hB.below hW HR0.out) hc hm (by omega)
    have c2 : ∀ W, Below r w W → Calls Tryd.prog 18 #[.slice ao l.length cp, .int .i64 i1] W fun e w' => ∃ v, e = .returned (.tuple #[v, .int .i64 (prfErr l i1)]) ∧ OwnH W.heap.size W w' v q := fun W hW => by
      rw [hq]; exact refprf_any W ao cp l (i1 : Int) (hL.below hW HR0.out) (hB.below hW HR0.out) hc hm (by omega)
    have c4 : ∀ W, Below r w W → Calls Tryd.prog 21 #[.slice a6 i1 cp] W fun e w' => e = .returned (hval ro) ∧ Below W.heap.size W w' := fun W hW => by
      have := refroot_any W a6 cp (l.take i1) (hL.below hW HR0.out) (ht6 W l (hB.below hW HR0.out)) (by omega) hm
      rw [hl1, ← hro] at this; exact this
    have cP : ∀ W (m : Int) (b : Option Addr) (c : Nat) (k : List Hs) (kn : Nat), Below r w W → Hts W b k → k.length = kn → kn ≤ 2000 → -1 ≤ m → m ≤ 100 → checkP m l.length x k rt = false → Calls Tryd.prog 14 #[.int .i64 m, .int .i64 l.length, hval x, .slice b kn c, hval rt] W fun e w' => e = .returned (.bool false) ∧ Below W.heap.size W w' := fun W m b c k kn hW hb h1 h2 hm1 hm2 hf => by
      have := check_any W (hL.below hW HR0.out) m l.length (by omega) (by omega) (by omega) (by omega) x b c k hb (by omega) rt
      rw [hf, h1] at this
      exact this
    have cQ : ∀ W (m : Int) (b : Option Addr) (c : Nat) (k : List Hs) (kn : Nat), Below r w W → Hts W b k → k.length = kn → kn ≤ c → c ≤ maxLen → kn ≤ 2000 → -1 ≤ m → m ≤ 100 → proofP m l.length ro k rt = false → Calls Tryd.prog 23 #[.int .i64 m, .int .i64 l.length, hval ro, .slice b kn c, hval rt] W fun e w' => e = .returned (.bool false) ∧ Below W.heap.size W w' := fun W m b c k kn hW hb h1 h3 h4 h2 hm1 hm2 hf => by
      have := proof_any W (hL.below hW HR0.out) m l.length (by omega) (by omega) (by omega) (by omega) ro b c k hb (by omega) h4 (by omega) rt
      rw [hf, h1] at this
      exact this
    have P1 := w1' x pz rt (by omega)
    have P2 := w1' x (p.take p1) rt (by omega)
    have P3 : checkP (l.length : Int) l.length x p rt = false := by unfold checkP; rw [if_neg (by omega)]
    have P4 : checkP (-1) l.length x p rt = false := by unfold checkP; rw [if_neg (by omega)]
    have Q1 := w2' ro qz rt (by omega)
    have Q2 := fun (h : 0 < q.length) => w2' ro (q.take (q.length - 1)) rt (by rw [List.length_take]; omega)
    have Q3 : proofP 0 l.length ro q rt = false := by unfold proofP; rw [if_neg (by omega)]
    have Q4 : proofP ((l.length : Int) + 1) l.length ro q rt = false := by unfold proofP; rw [if_neg (by omega)]
    have hp1b : p1 ≤ p.length := by omega
    have hi1b : i1 ≤ l.length := by omega
    have HPZ := Lib.hid hpz
    have HQZ := Lib.hid hqz
    have HW := Lib.hid (And.intro P1 (And.intro P2 (And.intro P3 (And.intro P4 (And.intro Q1 (And.intro Q2 (And.intro Q3 Q4)))))))
    have HLN := Lib.hid (And.intro hpzl (And.intro hqzl hlt))
    have hAw : ∀ W, Below r w W → Calls Tryd.prog 12 #[] W fun e w' => e = .returned (.bool true) ∧ Below W.heap.size W w' := fun W hW => awake19_any W (hL.below hW HR0.out)
    generalize pathErr l (i : Int) = E1 at c1
    generalize prfErr l (i1 : Int) = E2 at c2
    obtain ⟨g, off, rfl, hg, hra⟩ := hB.place (by omega)
    have hy := hra i hil
    rw [← hx] at hy
    have HY := Lib.hid (And.intro hy (show g < r by have := HR0.out; omega))
    have hrl := rt.2
    have hol := ro.2
    replace cR := Lib.hid cR
    replace c1 := Lib.hid c1
    replace c2 := Lib.hid c2
    replace c4 := Lib.hid c4
    replace cP := Lib.hid cP
    replace cQ := Lib.hid cQ
    replace hAw := Lib.hid hAw
    clear hp1' hy hg hra hx hrt hro hp hq w1' w2' P1 P2 P3 P4 Q1 Q2 Q3 Q4 hpz hqz hpzl hqzl hlt hl1 ht6 hB hi1
    go_enter Tryd.func8, Tryd.ntmps8
    go_upto_region 1 with (fail)
    change Code.wp _ _ _ _ (w.alloc (.cells (z.1.map b8).toArray 23))
    rw [← HR.out.1, ← HR.out.2]
    replace HR := Lib.hid HR.out.2
    go_wp2_with fail
    refine (hAw.out w1 F1).mono ?_
    rintro e w2 ⟨rfl, G2⟩
    have hZ2 := hZ1.below G2 hZ1.lt
    have F2 := F1.trans (G2.mono (Nat.le_of_lt hZ1.lt))
    clear hAw F1 hZ1 G2
    clear w1
    go_wp2_with fail
    refine (cR.out w2 F2).mono ?_
    rintro e w3 ⟨rfl, G3⟩
    have hZ3 := hZ2.below G3 hZ2.lt
    have F3 := F2.trans (G3.mono (Nat.le_of_lt hZ2.lt))
    clear cR F2 hZ2 G3
    clear w2
    have hK := Blk.new w3 zero32 23
    go_wp2_with (refine wpList_store_blk rfl 23 _ _ rfl hK (rt.1.map b8).toArray rfl rfl 32 (by kernel_rfl) rfl (by simp [hrl]) (by rw [List.toList_toArray]; exact b8_one _) ?_)
    intro w4 hR4 hg4
    have F4 : Below r w w4 := below_upd (F3.alloc (Nat.le_of_lt hZ3.lt) _) hg4 (Nat.le_of_lt hZ3.lt) (alloc_lt _ _)
    have hZ4 := (hZ3.alloc (.cells zero32 23)).grown hg4 (fun e => by have := Option.some.inj e; have := hZ3.lt; omega)
    obtain ⟨b, hb⟩ : ∃ b, b = w3.heap.size := ⟨_, rfl⟩
    rw [← hb] at hR4 ⊢
    have hrb : r < b := by have := hZ3.lt; omega
    clear hK hg4 F3 hb hZ3
    clear w3
    go_wp2_with fail
    refine (c1.out w4 F4).mono ?_
    rintro e w5 ⟨v5, rfl, O5⟩
    have F5 := F4.trans (O5.bel.mono (Nat.le_of_lt hZ4.lt))
    have hR5 := hR4.below O5.bel hR4.lt
    have hZ5 := hZ4.below O5.bel hZ4.lt
    obtain ⟨b4, n4, rfl, -, hn4, hn4', hP5⟩ := O5.row.hts
    clear O5 F4 c1 hR4 hZ4
    clear w4
    go_wp2_with fail
    refine (c2.out w5 F5).mono ?_
    rintro e w6 ⟨v6, rfl, O6⟩
    have F6 := F5.trans (O6.bel.mono (Nat.le_of_lt hZ5.lt))
    have hR6 := hR5.below O6.bel hR5.lt
    have hZ6 := hZ5.below O6.bel hZ5.lt
    have hP6 := hP5.below O6.bel (Nat.le_refl _)
    obtain ⟨b5, n5, rfl, -, hn5, hn5', hQ6⟩ := O6.row.hts
    clear O6 F5 c2 hR5 hZ5 hP5
    clear w5
    go_wp2_with fail
    refine (c4.out w6 F6).mono ?_
    rintro e w7 ⟨rfl, G7⟩
    have F7 := F6.trans (G7.mono (Nat.le_of_lt hZ6.lt))
    have hR7 := hR6.below G7 hR6.lt
    have hZ7 := hZ6.below G7 hZ6.lt
    have hP7 := hP6.below G7 (Nat.le_refl _)
    have hQ7 := hQ6.below G7 (Nat.le_refl _)
    clear c4 F6 hR6 hZ6 hP6 hQ6 G7
    clear w6
    have hK := Blk.new w7 zero32 23
    go_wp2_with (refine wpList_store_blk rfl 23 _ _ rfl hK (ro.1.map b8).toArray rfl rfl 32 (by kernel_rfl) rfl (by simp [hol]) (by rw [List.toList_toArray]; exact b8_one _) ?_)
    intro w8 hO8 hg8
    have F8 : Below r w w8 := below_upd (F7.alloc (Nat.le_of_lt hZ7.lt) _) hg8 (Nat.le_of_lt hZ7.lt) (alloc_lt _ _)
    have hZ8 := (hZ7.alloc (.cells zero32 23)).grown hg8 (fun e => by have := Option.some.inj e; have := hZ7.lt; omega)
    have hR8 := (hR7.alloc (.cells zero32 23)).grown hg8 (fun e => by have := Option.some.inj e; have := hR7.lt; omega)
    have FX : Fr (fun _ => False) w7 w8 := ((Fr.refl (fun _ => False) w7).alloc (.cells zero32 23)).grown hg8 (fun x hx e => by have := Option.some.inj e; omega)
    have hP8 := hP7.fr FX (fun _ _ _ h => h)
    have hQ8 := hQ7.fr FX (fun _ _ _ h => h)
    obtain ⟨c, hcc⟩ : ∃ c, c = w7.heap.size := ⟨_, rfl⟩
    rw [← hcc] at hO8 ⊢
    clear hK hg8 F7 hcc hZ7 hR7 FX hP7 hQ7
    clear w7
    obtain ⟨a9, hs9, -, ht9⟩ := run_upto_hts (P := Tryd.prog) (t := 24) (by kernel_rfl) hi b4 p.length n4 p1 (by omega)
    replace ht9 := Lib.hid ht9
    go_upto_region 8 with (fail)
    refine wp_region_N (FourS r b c g (off + i * 32) z rt ro x) [] (by kernel_rfl) ?_
    obtain ⟨wd, hwd⟩ : ∃ wd, wd = w8.drew := ⟨_, rfl⟩
    have hS4 : FourS r b c g (off + i * 32) z rt ro x wd := by rw [hwd]; exact ⟨hZ8, hR8, hO8, range_below HY.out.1 F8.drew HY.out.2⟩
    have FB : Below r w wd := by rw [hwd]; exact F8.drew
    have hP : Hts wd b4 p := by rw [hwd]; exact hP8
    have hQ : Hts wd b5 q := by rw [hwd]; exact hQ8
    rw [← hwd]
    clear hwd hZ8 hR8 hO8 F8 hP8 hQ8
    clear w8
    obtain ⟨w3, rfl⟩ : ∃ w3, w3 = wd := ⟨_, rfl⟩
    refine wpAnyN_pureG 0 52 (v := ?_) rfl rfl (by kernel_rfl) (by kernel_rfl) (by kernel_rfl) (fun _ _ _ h => h) rfl (fun w => ?_) ?_
    rotate_left
    · go_simp
      try with_reducible rfl
    refine wpAnyN_pureG 1 53 (v := ?_) rfl rfl (by kernel_rfl) (by kernel_rfl) (by kernel_rfl) (fun _ _ _ h => h) rfl (fun w => ?_) ?_
    rotate_left
    · go_simp
      try with_reducible rfl
    refine wpAnyN_pureG 3 55 (v := ?_) rfl rfl (by kernel_rfl) (by kernel_rfl) (by kernel_rfl) (fun _ _ _ h => h) rfl (fun w => ?_) ?_
    rotate_left
    · go_simp
      try with_reducible rfl
    refine wpAnyN_pureG 4 56 (v := ?_) rfl rfl (by kernel_rfl) (by kernel_rfl) (by kernel_rfl) (fun _ _ _ h => h) rfl (fun w => ?_) ?_
    rotate_left
    · go_simp
      try with_reducible rfl
    refine wpAnyN_pureG 8 60 (v := ?_) rfl rfl (by kernel_rfl) (by kernel_rfl) (by kernel_rfl) (fun _ _ _ h => h) rfl (fun w => ?_) ?_
    rotate_left
    · go_simp
      try with_reducible rfl
    simp only [Act.put, List.setIfInBounds_toArray, List.set_cons_succ, List.set_cons_zero]
    refine wpAnyN_pureG 2 54 (v := ?_) rfl rfl (by kernel_rfl) (by kernel_rfl) (by kernel_rfl) (fun _ _ _ h => h) rfl (fun w => ?_) ?_
    rotate_left
    · go_simp
      try with_reducible rfl
    refine wpAnyN_pureG 5 57 (v := .pointer (some ⟨g, off + i * 32, none⟩)) rfl rfl (by kernel_rfl) (by kernel_rfl) (by kernel_rfl) (fun _ _ _ h => h) rfl (fun w => ?_) ?_
    · go_simp
      try (intro h; omega)
    simp only [Act.put, List.setIfInBounds_toArray, List.set_cons_succ, List.set_cons_zero]
    refine wpAnyN_takeG 6 58 (v := hval x) rfl rfl (by kernel_rfl) (by kernel_rfl) (by kernel_rfl) (by kernel_rfl) (fun _ _ _ h => h) hS4 rfl (fun w hS => ?_) ?_
    · exact run_load_range 23 _ rfl hS.x (by go_simp) (.array 32 5) (by kernel_rfl) rfl 32 (by kernel_rfl) (by rw [List.length_map]; exact x.2)
    refine wpAnyN_takeG 10 62 (v := hval z) rfl rfl (by kernel_rfl) (by kernel_rfl) (by kernel_rfl) (by kernel_rfl) (fun _ _ _ h => h) hS4 rfl (fun w hS => ?_) ?_
    · exact run_load_mid_blk 23 (.tmp 5) rfl hS.z 0 (by go_simp) (z.1.map b8) (fun j v h => by rw [Nat.zero_add, List.getElem?_toArray]; exact h) (.array 32 5) (by kernel_rfl) rfl 32 (by kernel_rfl) (by rw [List.length_map]; exact z.2)
    refine wpAnyN_takeG 13 65 (v := hval rt) rfl rfl (by kernel_rfl) (by kernel_rfl) (by kernel_rfl) (by kernel_rfl) (fun _ _ _ h => h) hS4 rfl (fun w hS => ?_) ?_
    · exact run_load_mid_blk 23 (.tmp 8) rfl hS.rt 0 (by go_simp) (rt.1.map b8) (fun j v h => by rw [Nat.zero_add, List.getElem?_toArray]; exact h) (.array 32 5) (by kernel_rfl) rfl 32 (by kernel_rfl) (by rw [List.length_map]; exact rt.2)
    simp only [Act.put, List.setIfInBounds_toArray, List.set_cons_succ, List.set_cons_zero]
    have hsz : FourS.lt r b c g w3 := ⟨hS4.z.lt, hS4.rt.lt, hS4.ro.lt, hash_lt x hS4.x⟩
    have hzl := z.2
    refine wpAnyN_dag3 [7, 9, 11] (fun i => match i with | 7 => some 59 | 9 => some 61 | 11 => some 63 | _ => none) (fun i => match i with | 9 => [7] | _ => []) (fun i v w => match i with
      | 7 => EmptyS w3.heap.size 23 v w
      | 9 => RowS w3.heap.size 23 32 p.length ((flat p).map b8) v w
      | 11 => ∃ c, v = .slice (some ⟨c, 0, none⟩) 1 1 ∧ Blk w c 23 (z.1.map b8).toArray
      | _ => True) (fun _ => false) (g := 42) (by kernel_rfl) (by kernel_rfl) rfl
      ⟨fun _ _ _ hb h => EmptyS.below hb h, fun _ _ _ hb h => RowS.below hb h, fun _ _ _ hb ⟨c, h1, h2⟩ => ⟨c, h1, h2.below hb h2.lt⟩, trivial⟩
      (fun w w' hb h => h.belowN hb hsz) ⟨?_, ?_, ?_, trivial⟩ ?_
    · intro vs w hb _ o ho
      cases ho
      simp only [putsD]
      refine vwp_run rfl (v := .slice (some ⟨w.heap.size, 0, none⟩) 0 0) (w' := w.alloc (.cells #[] 23)) ?_ ⟨below_alloc1 _ _, ⟨_, rfl, heap_alloc_new w _, hb.size⟩, fun h => by cases h⟩
      go_simp
    · intro vs w hb hd o ho
      cases ho
      obtain ⟨⟨g, hv, hg, hrg⟩, -⟩ := hd
      simp only [putsD]
      rw [hv]
      refine vwp_append_empty rfl (.tmp 59) (.tmp 60) 24 24 rfl 23 i0 (.agg zero32) 32 32 (by kernel_rfl) hi hz0 hz1 hz2 rfl hg rfl ((hP.below hb (Nat.le_refl _)).src p.length n4 rfl) (by go_simp) (by simp only [maxLen]; omega) (by omega) fun v' w' hrow hbel hown => ⟨hbel, ⟨hrow, fun g' e' => ?_⟩, fun h => by cases h⟩
      have := hb.size
      rcases hown with e1 | ⟨e1, -⟩
      · have := Option.some.inj (e1.symm.trans e'); omega
      · have := Option.some.inj (e1.symm.trans e'); omega
    · intro vs w hb _ o ho
      cases ho
      simp only [putsD]
      exact vwp_run rfl (run_build_one w z.1 hzl _ _ (.tmp 62) rfl (by go_simp)) ⟨below_alloc1 _ _, ⟨_, rfl, Blk.new _ _ _⟩, fun h => by cases h⟩
    intro vs wx hb hR hz1' hz2'
    clear hz1' hz2'
    obtain ⟨-, ⟨hrow4, hrg4⟩, ⟨cc, h32, hc4⟩, -⟩ := hR
    have hrs : r ≤ w3.heap.size := Nat.le_of_lt hsz.1
    have F4 : Below r w wx := FB.trans (hb.mono hrs)
    have hS5 := hS4.below hb
    have hP5 := hP.below hb (Nat.le_refl _)
    have hQ5 := hQ.below hb (Nat.le_refl _)
    have hsx : w3.heap.size ≤ wx.heap.size := hb.size
    have hO4 : OwnH w3.heap.size w3 wx (vs 9) p := ⟨hrow4, hrg4, hb, hsx⟩
    have hne4 : ∀ g', (vs 9).ownBlock = some g' → g' ≠ r ∧ g' ≠ b ∧ g' ≠ c ∧ g' ≠ g := fun g' e => by have := hrg4 g' e; obtain ⟨h1, h2, h3, h4⟩ := hsz; omega
    clear hrow4 hrg4
    simp only [putsD]
    obtain ⟨vx, hvx⟩ : ∃ vx, vx = vs 9 := ⟨_, rfl⟩
    rw [← hvx] at hO4 hne4 ⊢
    rw [h32]
    generalize vs 7 = vy
    clear h32 hvx
    simp only [Act.put, List.setIfInBounds_toArray, List.set_cons_succ, List.set_cons_zero]
    refine wpAnyN_append 12 (some 64) (.tmp 61) (.tmp 63) 24 24 (by kernel_rfl) rfl rfl rfl rfl 23 i0 (.agg zero32) 32 32 (by kernel_rfl) hi hz0 hz1 hz2 rfl (by decide) hO4.row rfl (xv := .slice (some ⟨cc, 0, none⟩) 1 1) (m := 1) (news := z.1.map b8)
      (Src.ofSlice _ (e' := 23) (by kernel_rfl) ⟨cc, 0, none⟩ 1 1 (z.1.map b8) (by simp [hzl]) (fun j x hx => by rw [Addr.add_lit, Nat.zero_add, hc4.cell j]; simpa using hx) (b8_one _)) (by go_simp) (by simp only [maxLen]; omega) (by omega) ?_
    intro v5 w5 hrow5 hg5 hv5
    have hO5 : OwnH w3.heap.size w3 w5 v5 pz := by
      rw [HPZ.out]
      exact OwnH.app (k := [z]) hO4 (by rw [flat_one]; exact hrow5) hg5 hv5
    have hbk : ∀ k, k < w3.heap.size → some k ≠ vx.ownBlock := fun k hk e => by have := hO4.own k e.symm; omega
    have FB' : Below r w w5 := FB.trans (hO5.bel.mono hrs)
    have hS6 := hS5.grown hg5 (fun k e => hne4 k e)
    have hP6 := hP.below hO5.bel (Nat.le_refl _)
    have hQ6 := hQ.below hO5.bel (Nat.le_refl _)
    refine ⟨fun _ h => h.grown hg5 (fun k e => hne4 k e), ?_⟩
    obtain ⟨a5, n9, e5, -, hn9, hn9', hZ5⟩ := hO5.row.hts
    subst e5
    clear hrow5 hg5 hv5 hO4 hne4 hc4 hS5 hP5 hQ5 F4 hsx hrs hO5 hbk hb FB hS4 hP hQ hsz
    clear wx w3
    have FB := FB'
    have hS4 := hS6
    have hP := hP6
    have hQ := hQ6
    clear FB' hS6 hP6 hQ6
    simp only [Act.put, List.setIfInBounds_toArray, List.set_cons_succ, List.set_cons_zero]
    refine wpAnyN_call 14 14 (some 66) [.tmp 52, .tmp 54, .tmp 58, .tmp 64, .tmp 65] [.int .i64 i, .int .i64 l.length, hval x, .slice a5 pz.length n9, hval rt] (by kernel_rfl) rfl rfl rfl rfl (by go_simp) Tryd.call14 ?_
    refine (cP.out w5 i a5 n9 pz pz.length FB hZ5 rfl (by have := HLN.out.1; omega) (by omega) (by omega) HW.out.1).mono ?_
    rintro e w6 ⟨rfl, G⟩
    refine ⟨_, rfl, fun _ h => h.below G, ?_⟩
    have FB' := FB.trans (G.mono (Nat.le_of_lt hS4.z.lt))
    have hS4' := hS4.below G
    have hP' := hP.below G (Nat.le_refl _)
    have hQ' := hQ.below G (Nat.le_refl _)
    clear G hS4 FB hP hQ
    clear hZ5
    clear w5
    have FB := FB'
    have hS4 := hS4'
    have hP := hP'
    have hQ := hQ'
    clear FB' hS4' hP' hQ'
    simp only [Act.put, List.setIfInBounds_toArray, List.set_cons_succ, List.set_cons_zero]
    refine wpAnyN_pureG 15 67 (v := ?_) rfl rfl (by kernel_rfl) (by kernel_rfl) (by kernel_rfl) (fun _ _ _ h => h) rfl (fun w => ?_) ?_
    rotate_left
    · go_simp
      try with_reducible rfl
    simp only [Act.put, List.setIfInBounds_toArray, List.set_cons_succ, List.set_cons_zero]
    refine wpAnyN_pure 16 68 (v := ?_) rfl rfl (by kernel_rfl) (by kernel_rfl) (by kernel_rfl) (fun _ _ _ h => h) (by go_simp) (fun w => ?_) ?_
    rotate_left
    · go_simp
      try with_reducible rfl
    refine wpAnyN_pure 17 69 (v := ?_) rfl rfl (by kernel_rfl) (by kernel_rfl) (by kernel_rfl) (fun _ _ _ h => h) (by go_simp) (fun w => ?_) ?_
    rotate_left
    · go_simp
      try with_reducible rfl
    refine wpAnyN_pure 19 71 (v := ?_) rfl rfl (by kernel_rfl) (by kernel_rfl) (by kernel_rfl) (fun _ _ _ h => h) (by go_simp) (fun w => ?_) ?_
    rotate_left
    · go_simp
      try with_reducible rfl
    refine wpAnyN_pure 20 72 (v := ?_) rfl rfl (by kernel_rfl) (by kernel_rfl) (by kernel_rfl) (fun _ _ _ h => h) (by go_simp) (fun w => ?_) ?_
    rotate_left
    · go_simp
      try with_reducible rfl
    refine wpAnyN_pure 23 75 (v := ?_) rfl rfl (by kernel_rfl) (by kernel_rfl) (by kernel_rfl) (fun _ _ _ h => h) (by go_simp) (fun w => ?_) ?_
    rotate_left
    · go_simp
      try with_reducible rfl
    refine wpAnyN_pure 24 76 (v := ?_) rfl rfl (by kernel_rfl) (by kernel_rfl) (by kernel_rfl) (fun _ _ _ h => h) (by go_simp) (fun w => ?_) ?_
    rotate_left
    · go_simp
      try with_reducible rfl
    simp only [Act.put, List.setIfInBounds_toArray, List.set_cons_succ, List.set_cons_zero]
    refine wpAnyN_pure 18 70 (v := ?_) rfl rfl (by kernel_rfl) (by kernel_rfl) (by kernel_rfl) (fun _ _ _ h => h) (by go_simp) (fun w => ?_) ?_
    rotate_left
    · go_simp
      try with_reducible rfl
    refine wpAnyN_pure 25 77 (v := ?_) rfl rfl (by kernel_rfl) (by kernel_rfl) (by kernel_rfl) (fun _ _ _ h => h) (by go_simp) (fun w => ?_) ?_
    rotate_left
    · go_simp
      try with_reducible rfl
    simp only [Act.put, List.setIfInBounds_toArray, List.set_cons_succ, List.set_cons_zero]
    refine wpAnyN_pure 21 73 (v := .pointer (some ⟨g, off + i * 32, none⟩)) rfl rfl (by kernel_rfl) (by kernel_rfl) (by kernel_rfl) (fun _ _ _ h => h) (by go_simp) (fun w => ?_) ?_
    · go_simp
      try (intro h; omega)
    refine wpAnyN_pure 26 78 (v := ?_) rfl rfl (by kernel_rfl) (by kernel_rfl) (by kernel_rfl) (fun _ _ _ h => h) (by go_simp) (fun w => ?_) ?_
    rotate_left
    · go_simp
      try with_reducible rfl
    simp only [Act.put, List.setIfInBounds_toArray, List.set_cons_succ, List.set_cons_zero]
    refine wpAnyN_pure 27 79 (v := ?_) rfl rfl (by kernel_rfl) (by kernel_rfl) (by kernel_rfl) (fun _ _ _ h => h) (by go_simp) (fun w => ?_) ?_
    rotate_left
    · go_simp
      try with_reducible rfl
    simp only [Act.put, List.setIfInBounds_toArray, List.set_cons_succ, List.set_cons_zero]
    refine wpAnyN_take 22 74 (v := hval x) rfl rfl (by kernel_rfl) (by kernel_rfl) (by kernel_rfl) (by kernel_rfl) (fun _ _ _ h => h) hS4 (by go_simp) (fun w hS => ?_) ?_
    · exact run_load_range 23 _ rfl hS.x (by go_simp) (.array 32 5) (by kernel_rfl) rfl 32 (by kernel_rfl) (by rw [List.length_map]; exact x.2)
    refine wpAnyN_take 28 80 (v := hval rt) rfl rfl (by kernel_rfl) (by kernel_rfl) (by kernel_rfl) (by kernel_rfl) (fun _ _ _ h => h) hS4 (by go_simp) (fun w hS => ?_) ?_
    · exact run_load_mid_blk 23 (.tmp 8) rfl hS.rt 0 (by go_simp) (rt.1.map b8) (fun j v h => by rw [Nat.zero_add, List.getElem?_toArray]; exact h) (.array 32 5) (by kernel_rfl) rfl 32 (by kernel_rfl) (by rw [List.length_map]; exact rt.2)
    simp only [Act.put, List.setIfInBounds_toArray, List.set_cons_succ, List.set_cons_zero]
    refine wpAnyN_callW 29 14 (some 81) [.tmp 68, .tmp 70, .tmp 74, .tmp 79, .tmp 80] [.int .i64 i, .int .i64 l.length, hval x, .slice a9 p1 n4, hval rt] (by kernel_rfl) rfl rfl rfl (by go_simp) (by go_simp) Tryd.call14 ?_
    refine (cP.out w6 i a9 n4 (p.take p1) p1 FB (ht9.out w6 p hP) HLN.out.2.2 (by omega) (by omega) (by omega) HW.out.2.1).mono ?_
    rintro e w7 ⟨rfl, G⟩
    refine ⟨_, rfl, fun _ h => h.below G, ?_⟩
    have FB' := FB.trans (G.mono (Nat.le_of_lt hS4.z.lt))
    have hS4' := hS4.below G
    have hP' := hP.below G (Nat.le_refl _)
    have hQ' := hQ.below G (Nat.le_refl _)
    clear G hS4 FB hP hQ
    clear w6
    have FB := FB'
    have hS4 := hS4'
    have hP := hP'
    have hQ := hQ'
    clear FB' hS4' hP' hQ'
    simp only [Act.put, List.setIfInBounds_toArray, List.set_cons_succ, List.set_cons_zero]
    refine wpAnyN_pureG 30 82 (v := ?_) rfl rfl (by kernel_rfl) (by kernel_rfl) (by kernel_rfl) (fun _ _ _ h => h) rfl (fun w => ?_) ?_
    rotate_left
    · go_simp
      try with_reducible rfl
    simp only [Act.put, List.setIfInBounds_toArray, List.set_cons_succ, List.set_cons_zero]
    refine wpAnyN_pureG 31 83 (v := ?_) rfl rfl (by kernel_rfl) (by kernel_rfl) (by kernel_rfl) (fun _ _ _ h => h) rfl (fun w => ?_) ?_
    rotate_left
    · go_simp
      try with_reducible rfl
    simp only [Act.put, List.setIfInBounds_toArray, List.set_cons_succ, List.set_cons_zero]
    refine wpAnyN_pure 32 84 (v := ?_) rfl rfl (by kernel_rfl) (by kernel_rfl) (by kernel_rfl) (fun _ _ _ h => h) (by go_simp) (fun w => ?_) ?_
    rotate_left
    · go_simp
      try with_reducible rfl
    refine wpAnyN_pure 34 86 (v := ?_) rfl rfl (by kernel_rfl) (by kernel_rfl) (by kernel_rfl) (fun _ _ _ h => h) (by go_simp) (fun w => ?_) ?_
    rotate_left
    · go_simp
      try with_reducible rfl
    refine wpAnyN_pure 36 88 (v := ?_) rfl rfl (by kernel_rfl) (by kernel_rfl) (by kernel_rfl) (fun _ _ _ h => h) (by go_simp) (fun w => ?_) ?_
    rotate_left
    · go_simp
      try with_reducible rfl
    refine wpAnyN_pure 37 89 (v := ?_) rfl rfl (by kernel_rfl) (by kernel_rfl) (by kernel_rfl) (fun _ _ _ h => h) (by go_simp) (fun w => ?_) ?_
    rotate_left
    · go_simp
      try with_reducible rfl
    refine wpAnyN_pure 40 92 (v := ?_) rfl rfl (by kernel_rfl) (by kernel_rfl) (by kernel_rfl) (fun _ _ _ h => h) (by go_simp) (fun w => ?_) ?_
    rotate_left
    · go_simp
      try with_reducible rfl
    simp only [Act.put, List.setIfInBounds_toArray, List.set_cons_succ, List.set_cons_zero]
    refine wpAnyN_pure 33 85 (v := ?_) rfl rfl (by kernel_rfl) (by kernel_rfl) (by kernel_rfl) (fun _ _ _ h => h) (by go_simp) (fun w => ?_) ?_
    rotate_left
    · go_simp
      try with_reducible rfl
    refine wpAnyN_pure 35 87 (v := ?_) rfl rfl (by kernel_rfl) (by kernel_rfl) (by kernel_rfl) (fun _ _ _ h => h) (by go_simp) (fun w => ?_) ?_
    rotate_left
    · go_simp
      try with_reducible rfl
    simp only [Act.put, List.setIfInBounds_toArray, List.set_cons_succ, List.set_cons_zero]
    refine wpAnyN_pure 38 90 (v := .pointer (some ⟨g, off + i * 32, none⟩)) rfl rfl (by kernel_rfl) (by kernel_rfl) (by kernel_rfl) (fun _ _ _ h => h) (by go_simp) (fun w => ?_) ?_
    · go_simp
      try (intro h; omega)
    simp only [Act.put, List.setIfInBounds_toArray, List.set_cons_succ, List.set_cons_zero]
    refine wpAnyN_take 39 91 (v := hval x) rfl rfl (by kernel_rfl) (by kernel_rfl) (by kernel_rfl) (by kernel_rfl) (fun _ _ _ h => h) hS4 (by go_simp) (fun w hS => ?_) ?_
    · exact run_load_range 23 _ rfl hS.x (by go_simp) (.array 32 5) (by kernel_rfl) rfl 32 (by kernel_rfl) (by rw [List.length_map]; exact x.2)
    refine wpAnyN_take 41 93 (v := hval rt) rfl rfl (by kernel_rfl) (by kernel_rfl) (by kernel_rfl) (by kernel_rfl) (fun _ _ _ h => h) hS4 (by go_simp) (fun w hS => ?_) ?_
    · exact run_load_mid_blk 23 (.tmp 8) rfl hS.rt 0 (by go_simp) (rt.1.map b8) (fun j v h => by rw [Nat.zero_add, List.getElem?_toArray]; exact h) (.array 32 5) (by kernel_rfl) rfl 32 (by kernel_rfl) (by rw [List.length_map]; exact rt.2)
    simp only [Act.put, List.setIfInBounds_toArray, List.set_cons_succ, List.set_cons_zero]
    refine wpAnyN_callW 42 14 (some 94) [.tmp 85, .tmp 87, .tmp 91, .tmp 92, .tmp 93] [.int .i64 l.length, .int .i64 l.length, hval x, .slice b4 p.length n4, hval rt] (by kernel_rfl) rfl rfl rfl (by go_simp) (by go_simp) Tryd.call14 ?_
    refine (cP.out w7 l.length b4 n4 p p.length FB hP rfl (by omega) (by omega) (by omega) HW.out.2.2.1).mono ?_
    rintro e w8 ⟨rfl, G⟩
    refine ⟨_, rfl, fun _ h => h.below G, ?_⟩
    have FB' := FB.trans (G.mono (Nat.le_of_lt hS4.z.lt))
    have hS4' := hS4.below G
    have hP' := hP.below G (Nat.le_refl _)
    have hQ' := hQ.below G (Nat.le_refl _)
    clear G hS4 FB hP hQ
    clear w7
    have FB := FB'
    have hS4 := hS4'
    have hP := hP'
    have hQ := hQ'
    clear FB' hS4' hP' hQ'
    simp only [Act.put, List.setIfInBounds_toArray, List.set_cons_succ, List.set_cons_zero]
    refine wpAnyN_pureG 43 95 (v := ?_) rfl rfl (by kernel_rfl) (by kernel_rfl) (by kernel_rfl) (fun _ _ _ h => h) rfl (fun w => ?_) ?_
    rotate_left
    · go_simp
      try with_reducible rfl
    simp only [Act.put, List.setIfInBounds_toArray, List.set_cons_succ, List.set_cons_zero]
    refine wpAnyN_pureG 44 96 (v := ?_) rfl rfl (by kernel_rfl) (by kernel_rfl) (by kernel_rfl) (fun _ _ _ h => h) rfl (fun w => ?_) ?_
    rotate_left
    · go_simp
      try with_reducible rfl
    simp only [Act.put, List.setIfInBounds_toArray, List.set_cons_succ, List.set_cons_zero]
    refine wpAnyN_pure 45 97 (v := ?_) rfl rfl (by kernel_rfl) (by kernel_rfl) (by kernel_rfl) (fun _ _ _ h => h) (by go_simp) (fun w => ?_) ?_
    rotate_left
    · go_simp
      try with_reducible rfl
    refine wpAnyN_pure 47 99 (v := ?_) rfl rfl (by kernel_rfl) (by kernel_rfl) (by kernel_rfl) (fun _ _ _ h => h) (by go_simp) (fun w => ?_) ?_
    rotate_left
    · go_simp
      try with_reducible rfl
    refine wpAnyN_pure 48 100 (v := ?_) rfl rfl (by kernel_rfl) (by kernel_rfl) (by kernel_rfl) (fun _ _ _ h => h) (by go_simp) (fun w => ?_) ?_
    rotate_left
    · go_simp
      try with_reducible rfl
    refine wpAnyN_pure 51 103 (v := ?_) rfl rfl (by kernel_rfl) (by kernel_rfl) (by kernel_rfl) (fun _ _ _ h => h) (by go_simp) (fun w => ?_) ?_
    rotate_left
    · go_simp
      try with_reducible rfl
    simp only [Act.put, List.setIfInBounds_toArray, List.set_cons_succ, List.set_cons_zero]
    refine wpAnyN_pure 46 98 (v := ?_) rfl rfl (by kernel_rfl) (by kernel_rfl) (by kernel_rfl) (fun _ _ _ h => h) (by go_simp) (fun w => ?_) ?_
    rotate_left
    · go_simp
      try with_reducible rfl
    simp only [Act.put, List.setIfInBounds_toArray, List.set_cons_succ, List.set_cons_zero]
    refine wpAnyN_pure 49 101 (v := .pointer (some ⟨g, off + i * 32, none⟩)) rfl rfl (by kernel_rfl) (by kernel_rfl) (by kernel_rfl) (fun _ _ _ h => h) (by go_simp) (fun w => ?_) ?_
    · go_simp
      try (intro h; omega)
    simp only [Act.put, List.setIfInBounds_toArray, List.set_cons_succ, List.set_cons_zero]
    refine wpAnyN_take 50 102 (v := hval x) rfl rfl (by kernel_rfl) (by kernel_rfl) (by kernel_rfl) (by kernel_rfl) (fun _ _ _ h => h) hS4 (by go_simp) (fun w hS => ?_) ?_
    · exact run_load_range 23 _ rfl hS.x (by go_simp) (.array 32 5) (by kernel_rfl) rfl 32 (by kernel_rfl) (by rw [List.length_map]; exact x.2)
    refine wpAnyN_take 52 104 (v := hval rt) rfl rfl (by kernel_rfl) (by kernel_rfl) (by kernel_rfl) (by kernel_rfl) (fun _ _ _ h => h) hS4 (by go_simp) (fun w hS => ?_) ?_
    · exact run_load_mid_blk 23 (.tmp 8) rfl hS.rt 0 (by go_simp) (rt.1.map b8) (fun j v h => by rw [Nat.zero_add, List.getElem?_toArray]; exact h) (.array 32 5) (by kernel_rfl) rfl 32 (by kernel_rfl) (by rw [List.length_map]; exact rt.2)
    simp only [Act.put, List.setIfInBounds_toArray, List.set_cons_succ, List.set_cons_zero]
    refine wpAnyN_callW 53 14 (some 105) [.const (.int .i64 (-1)), .tmp 98, .tmp 102, .tmp 103, .tmp 104] [.int .i64 (-1), .int .i64 l.length, hval x, .slice b4 p.length n4, hval rt] (by kernel_rfl) rfl rfl rfl (by go_simp) (by go_simp) Tryd.call14 ?_
    refine (cP.out w8 (-1) b4 n4 p p.length FB hP rfl (by omega) (by omega) (by omega) HW.out.2.2.2.1).mono ?_
    rintro e w9 ⟨rfl, G⟩
    refine ⟨_, rfl, fun _ h => h.below G, ?_⟩
    have FB' := FB.trans (G.mono (Nat.le_of_lt hS4.z.lt))
    have hS4' := hS4.below G
    have hP' := hP.below G (Nat.le_refl _)
    have hQ' := hQ.below G (Nat.le_refl _)
    clear G hS4 FB hP hQ
    clear w8
    have FB := FB'
    have hS4 := hS4'
    have hP := hP'
    have hQ := hQ'
    clear FB' hS4' hP' hQ'
    simp only [Act.put, List.setIfInBounds_toArray, List.set_cons_succ, List.set_cons_zero]
    refine wpAnyN_pureG 54 106 (v := ?_) rfl rfl (by kernel_rfl) (by kernel_rfl) (by kernel_rfl) (fun _ _ _ h => h) rfl (fun w => ?_) ?_
    rotate_left
    · go_simp
      try with_reducible rfl
    refine wpAnyN_done (by kernel_rfl) ?_
    simp only [Act.put, List.setIfInBounds_toArray, List.set_cons_succ, List.set_cons_zero]
    go_upto_region 10 with (fail)
    refine wp_region_N (FourS r b c g (off + i * 32) z rt ro x) [] (by kernel_rfl) ?_
    obtain ⟨wd, hwd⟩ : ∃ wd, wd = w9.drew := ⟨_, rfl⟩
    replace hS4 : FourS r b c g (off + i * 32) z rt ro x wd := by rw [hwd]; exact ⟨hS4.z, hS4.rt, hS4.ro, hS4.x⟩
    replace FB : Below r w wd := by rw [hwd]; exact FB.drew
    replace hP : Hts wd b4 p := by rw [hwd]; exact hP
    replace hQ : Hts wd b5 q := by rw [hwd]; exact hQ
    rw [← hwd]
    clear hwd
    clear w9
    obtain ⟨w3, rfl⟩ : ∃ w3, w3 = wd := ⟨_, rfl⟩
    refine wpAnyN_pureG 0 107 (v := ?_) rfl rfl (by kernel_rfl) (by kernel_rfl) (by kernel_rfl) (fun _ _ _ h => h) rfl (fun w => ?_) ?_
    rotate_left
    · go_simp
      try with_reducible rfl
    refine wpAnyN_pureG 2 109 (v := ?_) rfl rfl (by kernel_rfl) (by kernel_rfl) (by kernel_rfl) (fun _ _ _ h => h) rfl (fun w => ?_) ?_
    rotate_left
    · go_simp
      try with_reducible rfl
    refine wpAnyN_pureG 6 113 (v := ?_) rfl rfl (by kernel_rfl) (by kernel_rfl) (by kernel_rfl) (fun _ _ _ h => h) rfl (fun w => ?_) ?_
    rotate_left
    · go_simp
      try with_reducible rfl
    simp only [Act.put, List.setIfInBounds_toArray, List.set_cons_succ, List.set_cons_zero]
    refine wpAnyN_pureG 1 108 (v := ?_) rfl rfl (by kernel_rfl) (by kernel_rfl) (by kernel_rfl) (fun _ _ _ h => h) rfl (fun w => ?_) ?_
    rotate_left
    · go_simp
      try with_reducible rfl
    refine wpAnyN_pureG 3 110 (v := ?_) rfl rfl (by kernel_rfl) (by kernel_rfl) (by kernel_rfl) (fun _ _ _ h => h) rfl (fun w => ?_) ?_
    rotate_left
    · go_simp
      try with_reducible rfl
    simp only [Act.put, List.setIfInBounds_toArray, List.set_cons_succ, List.set_cons_zero]
    refine wpAnyN_takeG 4 111 (v := hval ro) rfl rfl (by kernel_rfl) (by kernel_rfl) (by kernel_rfl) (by kernel_rfl) (fun _ _ _ h => h) hS4 rfl (fun w hS => ?_) ?_
    · exact run_load_mid_blk 23 (.tmp 13) rfl hS.ro 0 (by go_simp) (ro.1.map b8) (fun j v h => by rw [Nat.zero_add, List.getElem?_toArray]; exact h) (.array 32 5) (by kernel_rfl) rfl 32 (by kernel_rfl) (by rw [List.length_map]; exact ro.2)
    refine wpAnyN_takeG 8 115 (v := hval z) rfl rfl (by kernel_rfl) (by kernel_rfl) (by kernel_rfl) (by kernel_rfl) (fun _ _ _ h => h) hS4 rfl (fun w hS => ?_) ?_
    · exact run_load_mid_blk 23 (.tmp 5) rfl hS.z 0 (by go_simp) (z.1.map b8) (fun j v h => by rw [Nat.zero_add, List.getElem?_toArray]; exact h) (.array 32 5) (by kernel_rfl) rfl 32 (by kernel_rfl) (by rw [List.length_map]; exact z.2)
    refine wpAnyN_takeG 11 118 (v := hval rt) rfl rfl (by kernel_rfl) (by kernel_rfl) (by kernel_rfl) (by kernel_rfl) (fun _ _ _ h => h) hS4 rfl (fun w hS => ?_) ?_
    · exact run_load_mid_blk 23 (.tmp 8) rfl hS.rt 0 (by go_simp) (rt.1.map b8) (fun j v h => by rw [Nat.zero_add, List.getElem?_toArray]; exact h) (.array 32 5) (by kernel_rfl) rfl 32 (by kernel_rfl) (by rw [List.length_map]; exact rt.2)
    simp only [Act.put, List.setIfInBounds_toArray, List.set_cons_succ, List.set_cons_zero]
    have hsz : FourS.lt r b c g w3 := ⟨hS4.z.lt, hS4.rt.lt, hS4.ro.lt, hash_lt x hS4.x⟩
    have hzl := z.2
    refine wpAnyN_dag3 [5, 7, 9] (fun i => match i with | 5 => some 112 | 7 => some 114 | 9 => some 116 | _ => none) (fun i => match i with | 7 => [5] | _ => []) (fun i v w => match i with
      | 5 => EmptyS w3.heap.size 23 v w
      | 7 => RowS w3.heap.size 23 32 q.length ((flat q).map b8) v w
      | 9 => ∃ c, v = .slice (some ⟨c, 0, none⟩) 1 1 ∧ Blk w c 23 (z.1.map b8).toArray
      | _ => True) (fun _ => false) (g := 21) (by kernel_rfl) (by kernel_rfl) rfl
      ⟨fun _ _ _ hb h => EmptyS.below hb h, fun _ _ _ hb h => RowS.below hb h, fun _ _ _ hb ⟨c, h1, h2⟩ => ⟨c, h1, h2.below hb h2.lt⟩, trivial⟩
      (fun w w' hb h => h.belowN hb hsz) ⟨?_, ?_, ?_, trivial⟩ ?_
    · intro vs w hb _ o ho
      cases ho
      simp only [putsD]
      refine vwp_run rfl (v := .slice (some ⟨w.heap.size, 0, none⟩) 0 0) (w' := w.alloc (.cells #[] 23)) ?_ ⟨below_alloc1 _ _, ⟨_, rfl, heap_alloc_new w _, hb.size⟩, fun h => by cases h⟩
      go_simp
    · intro vs w hb hd o ho
      cases ho
      obtain ⟨⟨g, hv, hg, hrg⟩, -⟩ := hd
      simp only [putsD]
      rw [hv]
      refine vwp_append_empty rfl (.tmp 112) (.tmp 113) 24 24 rfl 23 i0 (.agg zero32) 32 32 (by kernel_rfl) hi hz0 hz1 hz2 rfl hg rfl ((hQ.below hb (Nat.le_refl _)).src q.length n5 rfl) (by go_simp) (by simp only [maxLen]; omega) (by omega) fun v' w' hrow hbel hown => ⟨hbel, ⟨hrow, fun g' e' => ?_⟩, fun h => by cases h⟩
      have := hb.size
      rcases hown with e1 | ⟨e1, -⟩
      · have := Option.some.inj (e1.symm.trans e'); omega
      · have := Option.some.inj (e1.symm.trans e'); omega
    · intro vs w hb _ o ho
      cases ho
      simp only [putsD]
      exact vwp_run rfl (run_build_one w z.1 hzl _ _ (.tmp 115) rfl (by go_simp)) ⟨below_alloc1 _ _, ⟨_, rfl, Blk.new _ _ _⟩, fun h => by cases h⟩
    intro vs wx hb hR hz1' hz2'
    clear hz1' hz2'
    obtain ⟨-, ⟨hrow4, hrg4⟩, ⟨cc, h32, hc4⟩, -⟩ := hR
    have hrs : r ≤ w3.heap.size := Nat.le_of_lt hsz.1
    have F4 : Below r w wx := FB.trans (hb.mono hrs)
    have hS5 := hS4.below hb
    have hP5 := hP.below hb (Nat.le_refl _)
    have hQ5 := hQ.below hb (Nat.le_refl _)
    have hsx : w3.heap.size ≤ wx.heap.size := hb.size
    have hO4 : OwnH w3.heap.size w3 wx (vs 7) q := ⟨hrow4, hrg4, hb, hsx⟩
    have hne4 : ∀ g', (vs 7).ownBlock = some g' → g' ≠ r ∧ g' ≠ b ∧ g' ≠ c ∧ g' ≠ g := fun g' e => by have := hrg4 g' e; obtain ⟨h1, h2, h3, h4⟩ := hsz; omega
    clear hrow4 hrg4
    simp only [putsD]
    obtain ⟨vx, hvx⟩ : ∃ vx, vx = vs 7 := ⟨_, rfl⟩
    rw [← hvx] at hO4 hne4 ⊢
    rw [h32]
    generalize vs 5 = vy
    clear h32 hvx
    simp only [Act.put, List.setIfInBounds_toArray, List.set_cons_succ, List.set_cons_zero]
    refine wpAnyN_append 10 (some 117) (.tmp 114) (.tmp 116) 24 24 (by kernel_rfl) rfl rfl rfl rfl 23 i0 (.agg zero32) 32 32 (by kernel_rfl) hi hz0 hz1 hz2 rfl (by decide) hO4.row rfl (xv := .slice (some ⟨cc, 0, none⟩) 1 1) (m := 1) (news := z.1.map b8)
      (Src.ofSlice _ (e' := 23) (by kernel_rfl) ⟨cc, 0, none⟩ 1 1 (z.1.map b8) (by simp [hzl]) (fun j x hx => by rw [Addr.add_lit, Nat.zero_add, hc4.cell j]; simpa using hx) (b8_one _)) (by go_simp) (by simp only [maxLen]; omega) (by omega) ?_
    intro v5 w5 hrow5 hg5 hv5
    have hO5 : OwnH w3.heap.size w3 w5 v5 qz := by
      rw [HQZ.out]
      exact OwnH.app (k := [z]) hO4 (by rw [flat_one]; exact hrow5) hg5 hv5
    have hbk : ∀ k, k < w3.heap.size → some k ≠ vx.ownBlock := fun k hk e => by have := hO4.own k e.symm; omega
    have FB' : Below r w w5 := FB.trans (hO5.bel.mono hrs)
    have hS6 := hS5.grown hg5 (fun k e => hne4 k e)
    have hP6 := hP.below hO5.bel (Nat.le_refl _)
    have hQ6 := hQ.below hO5.bel (Nat.le_refl _)
    refine ⟨fun _ h => h.grown hg5 (fun k e => hne4 k e), ?_⟩
    obtain ⟨a5, n9, e5, -, hn9, hn9', hZ5⟩ := hO5.row.hts
    subst e5
    clear hrow5 hg5 hv5 hO4 hne4 hc4 hS5 hP5 hQ5 F4 hsx hrs hO5 hbk hb FB hS4 hP hQ hsz
    clear wx w3
    have FB := FB'
    have hS4 := hS6
    have hP := hP6
    have hQ := hQ6
    clear FB' hS6 hP6 hQ6
    simp only [Act.put, List.setIfInBounds_toArray, List.set_cons_succ, List.set_cons_zero]
    refine wpAnyN_call 12 23 (some 119) [.tmp 108, .tmp 110, .tmp 111, .tmp 117, .tmp 118] [.int .i64 i1, .int .i64 l.length, hval ro, .slice a5 qz.length n9, hval rt] (by kernel_rfl) rfl rfl rfl rfl (by go_simp) Tryd.call23 ?_
    refine (cQ.out w5 i1 a5 n9 qz qz.length FB hZ5 rfl hn9 hn9' (by have := HLN.out.2.1; omega) (by omega) (by omega) HW.out.2.2.2.2.1).mono ?_
    rintro e w6 ⟨rfl, G⟩
    refine ⟨_, rfl, fun _ h => h.below G, ?_⟩
    have FB' := FB.trans (G.mono (Nat.le_of_lt hS4.z.lt))
    have hS4' := hS4.below G
    have hP' := hP.below G (Nat.le_refl _)
    have hQ' := hQ.below G (Nat.le_refl _)
    clear G hS4 FB hP hQ
    clear hZ5
    clear w5
    have FB := FB'
    have hS4 := hS4'
    have hP := hP'
    have hQ := hQ'
    clear FB' hS4' hP' hQ'
    simp only [Act.put, List.setIfInBounds_toArray, List.set_cons_succ, List.set_cons_zero]
    refine wpAnyN_pureG 13 120 (v := ?_) rfl rfl (by kernel_rfl) (by kernel_rfl) (by kernel_rfl) (fun _ _ _ h => h) rfl (fun w => ?_) ?_
    rotate_left
    · go_simp
      try with_reducible rfl
    simp only [Act.put, List.setIfInBounds_toArray, List.set_cons_succ, List.set_cons_zero]
    refine wpAnyN_pure 14 121 (v := ?_) rfl rfl (by kernel_rfl) (by kernel_rfl) (by kernel_rfl) (fun _ _ _ h => h) (by go_simp) (fun w => ?_) ?_
    rotate_left
    · go_simp
      try with_reducible rfl
    simp only [Act.put, List.setIfInBounds_toArray, List.set_cons_succ, List.set_cons_zero]
    refine wpAnyN_pure 15 122 (v := ?_) rfl rfl (by kernel_rfl) (by kernel_rfl) (by kernel_rfl) (fun _ _ _ h => h) (by go_simp) (fun w => ?_) ?_
    rotate_left
    · go_simp
      try with_reducible rfl
    simp only [Act.put, List.setIfInBounds_toArray, List.set_cons_succ, List.set_cons_zero]
    by_cases hq0 : 0 < q.length
    · have hd3 : decide ((0 : Int) < (q.length : Int)) = true := by rw [decide_eq_true_eq]; omega
      obtain ⟨q1', hq1⟩ : ∃ q1', q1' = q.length - 1 := ⟨_, rfl⟩
      have qq : IntKind.i64.wrap ((q.length : Int) - 1) = (q1' : Int) := by rw [show (q.length : Int) - 1 = q1' by omega]; exact IntWalk.i64_in _ (by omega)
      have hQ2 := HW.out.2.2.2.2.2.1 hq0
      rw [← hq1] at hQ2
      have hql : (q.take q1').length = q1' := by rw [List.length_take]; omega
      obtain ⟨a8, hs8, -, ht8⟩ := run_upto_hts (P := Tryd.prog) (t := 24) (by kernel_rfl) hi b5 q.length n5 q1' (by omega)
      have HQ2 := Lib.hid (And.intro hQ2 hql)
      replace ht8 := Lib.hid ht8
      have hq1b : q1' ≤ q.length := by omega
      clear hQ2 hql hq1
      refine wpAnyN_pure 16 123 (v := ?_) rfl rfl (by kernel_rfl) (by kernel_rfl) (by kernel_rfl) (fun _ _ _ h => h) (by go_simp) (fun w => ?_) ?_
      rotate_left
      · go_simp
        try with_reducible rfl
      simp only [Act.put, List.setIfInBounds_toArray, List.set_cons_succ, List.set_cons_zero]
      refine wpAnyN_pure 17 124 (v := ?_) rfl rfl (by kernel_rfl) (by kernel_rfl) (by kernel_rfl) (fun _ _ _ h => h) (by go_simp) (fun w => ?_) ?_
      rotate_left
      · go_simp
        try with_reducible rfl
      simp only [Act.put, List.setIfInBounds_toArray, List.set_cons_succ, List.set_cons_zero]
      refine wpAnyN_pure 18 125 (v := ?_) rfl rfl (by kernel_rfl) (by kernel_rfl) (by kernel_rfl) (fun _ _ _ h => h) (by go_simp) (fun w => ?_) ?_
      rotate_left
      · go_simp
        try with_reducible rfl
      refine wpAnyN_pure 20 127 (v := ?_) rfl rfl (by kernel_rfl) (by kernel_rfl) (by kernel_rfl) (fun _ _ _ h => h) (by go_simp) (fun w => ?_) ?_
      rotate_left
      · go_simp
        try with_reducible rfl
      refine wpAnyN_pure 23 130 (v := ?_) rfl rfl (by kernel_rfl) (by kernel_rfl) (by kernel_rfl) (fun _ _ _ h => h) (by go_simp) (fun w => ?_) ?_
      rotate_left
      · go_simp
        try with_reducible rfl
      refine wpAnyN_pure 24 131 (v := ?_) rfl rfl (by kernel_rfl) (by kernel_rfl) (by kernel_rfl) (fun _ _ _ h => h) (by go_simp) (fun w => ?_) ?_
      rotate_left
      · go_simp
        try with_reducible rfl
      simp only [Act.put, List.setIfInBounds_toArray, List.set_cons_succ, List.set_cons_zero]
      refine wpAnyN_pure 19 126 (v := ?_) rfl rfl (by kernel_rfl) (by kernel_rfl) (by kernel_rfl) (fun _ _ _ h => h) (by go_simp) (fun w => ?_) ?_
      rotate_left
      · go_simp
        try with_reducible rfl
      refine wpAnyN_pure 21 128 (v := ?_) rfl rfl (by kernel_rfl) (by kernel_rfl) (by kernel_rfl) (fun _ _ _ h => h) (by go_simp) (fun w => ?_) ?_
      rotate_left
      · go_simp
        try with_reducible rfl
      refine wpAnyN_pure 25 132 (v := ?_) rfl rfl (by kernel_rfl) (by kernel_rfl) (by kernel_rfl) (fun _ _ _ h => h) (by go_simp) (fun w => ?_) ?_
      rotate_left
      · go_simp
        try with_reducible rfl
      simp only [Act.put, List.setIfInBounds_toArray, List.set_cons_succ, List.set_cons_zero]
      refine wpAnyN_pure 26 133 (v := ?_) rfl rfl (by kernel_rfl) (by kernel_rfl) (by kernel_rfl) (fun _ _ _ h => h) (by go_simp) (fun w => ?_) ?_
      rotate_left
      · go_simp
        try with_reducible rfl
      simp only [Act.put, List.setIfInBounds_toArray, List.set_cons_succ, List.set_cons_zero]
      refine wpAnyN_pure 27 134 (v := ?_) rfl rfl (by kernel_rfl) (by kernel_rfl) (by kernel_rfl) (fun _ _ _ h => h) (by go_simp) (fun w => ?_) ?_
      rotate_left
      · go_simp
        try with_reducible rfl
      simp only [Act.put, List.setIfInBounds_toArray, List.set_cons_succ, List.set_cons_zero]
      refine wpAnyN_take 22 129 (v := hval ro) rfl rfl (by kernel_rfl) (by kernel_rfl) (by kernel_rfl) (by kernel_rfl) (fun _ _ _ h => h) hS4 (by go_simp) (fun w hS => ?_) ?_
      · exact run_load_mid_blk 23 (.tmp 13) rfl hS.ro 0 (by go_simp) (ro.1.map b8) (fun j v h => by rw [Nat.zero_add, List.getElem?_toArray]; exact h) (.array 32 5) (by kernel_rfl) rfl 32 (by kernel_rfl) (by rw [List.length_map]; exact ro.2)
      refine wpAnyN_take 28 135 (v := hval rt) rfl rfl (by kernel_rfl) (by kernel_rfl) (by kernel_rfl) (by kernel_rfl) (fun _ _ _ h => h) hS4 (by go_simp) (fun w hS => ?_) ?_
      · exact run_load_mid_blk 23 (.tmp 8) rfl hS.rt 0 (by go_simp) (rt.1.map b8) (fun j v h => by rw [Nat.zero_add, List.getElem?_toArray]; exact h) (.array 32 5) (by kernel_rfl) rfl 32 (by kernel_rfl) (by rw [List.length_map]; exact rt.2)
      simp only [Act.put, List.setIfInBounds_toArray, List.set_cons_succ, List.set_cons_zero]
      refine wpAnyN_callW 29 23 (some 136) [.tmp 126, .tmp 128, .tmp 129, .tmp 134, .tmp 135] [.int .i64 i1, .int .i64 l.length, hval ro, .slice a8 q1' n5, hval rt] (by kernel_rfl) rfl rfl rfl (by go_simp) (by go_simp) Tryd.call23 ?_
      refine (cQ.out w6 i1 a8 n5 (q.take q1') q1' FB (ht8.out w6 q hQ) HQ2.out.2 (by omega) hn5' (by omega) (by omega) (by omega) HQ2.out.1).mono ?_
      rintro e w7 ⟨rfl, G⟩
      refine ⟨_, rfl, fun _ h => h.below G, ?_⟩
      have FB' := FB.trans (G.mono (Nat.le_of_lt hS4.z.lt))
      have hS4' := hS4.below G
      have hP' := hP.below G (Nat.le_refl _)
      have hQ' := hQ.below G (Nat.le_refl _)
      clear G hS4 FB hP hQ
      clear w6
      have FB := FB'
      have hS4 := hS4'
      have hP := hP'
      have hQ := hQ'
      clear FB' hS4' hP' hQ'
      simp only [Act.put, List.setIfInBounds_toArray, List.set_cons_succ, List.set_cons_zero]
      refine wpAnyN_pure 30 137 (v := ?_) rfl rfl (by kernel_rfl) (by kernel_rfl) (by kernel_rfl) (fun _ _ _ h => h) (by go_simp) (fun w => ?_) ?_
      rotate_left
      · go_simp
        try with_reducible rfl
      simp only [Act.put, List.setIfInBounds_toArray, List.set_cons_succ, List.set_cons_zero]
      refine wpAnyN_pureG 31 138 (v := ?_) rfl rfl (by kernel_rfl) (by kernel_rfl) (by kernel_rfl) (fun _ _ _ h => h) rfl (fun w => ?_) ?_
      rotate_left
      · go_simp
        try with_reducible rfl
      refine wpAnyN_done (by kernel_rfl) ?_
      simp only [Act.put, List.setIfInBounds_toArray, List.set_cons_succ, List.set_cons_zero]
      have cc := cQ.out w7 0 b5 n5 q q.length FB hQ rfl hn5 hn5' (by omega) (by omega) (by omega) HW.out.2.2.2.2.2.2.1
      have hRo := hS4.ro
      have hRt := hS4.rt
      have hs := Nat.le_of_lt hS4.z.lt
      go_wp2_with (first | (refine wpList_load_mid_blk rfl 23 (.tmp 13) rfl hRo 0 rfl (ro.1.map b8) (fun j v hv => by rw [Nat.zero_add, List.getElem?_toArray]; exact hv) (.array 32 5) (by kernel_rfl) rfl 32 (by kernel_rfl) (by simp [hol]) ?_) | (refine wpList_load_mid_blk rfl 23 (.tmp 8) rfl hRt 0 rfl (rt.1.map b8) (fun j v hv => by rw [Nat.zero_add, List.getElem?_toArray]; exact hv) (.array 32 5) (by kernel_rfl) rfl 32 (by kernel_rfl) (by simp [hrl]) ?_))
      refine cc.mono ?_
      rintro e wy ⟨rfl, G⟩
      have FY := FB.trans (G.mono hs)
      have hQy := hQ.below G (Nat.le_refl _)
      have hRo' := hRo.below G hRo.lt
      have hRt' := hRt.below G hRt.lt
      have hs' := Nat.le_trans hs G.size
      have cd := cQ.out wy ((l.length : Int) + 1) b5 n5 q q.length FY hQy rfl hn5 hn5' (by omega) (by omega) (by omega) HW.out.2.2.2.2.2.2.2
      clear cc FB hQ hRo hRt hs G hS4 hP
      clear w7
      go_wp2_with (first | (refine wpList_load_blkW (by go_simp) 23 (.tmp 13) rfl hRo' rfl (ro.1.map b8) rfl (.array 32 5) (by kernel_rfl) rfl 32 (by kernel_rfl) (by simp [hol]) ?_) | (refine wpList_load_blkW (by go_simp) 23 (.tmp 8) rfl hRt' rfl (rt.1.map b8) rfl (.array 32 5) (by kernel_rfl) rfl 32 (by kernel_rfl) (by simp [hrl]) ?_))
      refine cd.mono ?_
      rintro e wz ⟨rfl, G⟩
      have FZ := FY.trans (G.mono hs')
      rw [HR.out] at FZ
      clear cd FY hQy hRo' hRt' hs' G
      go_wp2
      go_ret
      exact ⟨rfl, FZ⟩
    · have hd3 : decide ((0 : Int) < (q.length : Int)) = false := by rw [decide_eq_false_iff_not]; omega
      refine wpAnyN_pure 16 123 (v := ?_) rfl rfl (by kernel_rfl) (by kernel_rfl) (by kernel_rfl) (fun _ _ _ h => h) (by go_simp) (fun w => ?_) ?_
      rotate_left
      · go_simp
        try with_reducible rfl
      simp only [Act.put, List.setIfInBounds_toArray, List.set_cons_succ, List.set_cons_zero]
      refine wpAnyN_pure 17 124 (v := ?_) rfl rfl (by kernel_rfl) (by kernel_rfl) (by kernel_rfl) (fun _ _ _ h => h) (by go_simp) (fun w => ?_) ?_
      rotate_left
      · go_simp
        try with_reducible rfl
      simp only [Act.put, List.setIfInBounds_toArray, List.set_cons_succ, List.set_cons_zero]
      refine wpAnyN_skipD 18 125 rfl rfl (by kernel_rfl) (by kernel_rfl) (by kernel_rfl) (fun _ _ _ h => h) (by (go_simp; try (unfold undef; simp))) ?_
      refine wpAnyN_skipD 19 126 rfl rfl (by kernel_rfl) (by kernel_rfl) (by kernel_rfl) (fun _ _ _ h => h) (by (go_simp; try (unfold undef; simp))) ?_
      refine wpAnyN_skipD 20 127 rfl rfl (by kernel_rfl) (by kernel_rfl) (by kernel_rfl) (fun _ _ _ h => h) (by (go_simp; try (unfold undef; simp))) ?_
      refine wpAnyN_skipD 21 128 rfl rfl (by kernel_rfl) (by kernel_rfl) (by kernel_rfl) (fun _ _ _ h => h) (by (go_simp; try (unfold undef; simp))) ?_
      refine wpAnyN_skipD 22 129 rfl rfl (by kernel_rfl) (by kernel_rfl) (by kernel_rfl) (fun _ _ _ h => h) (by (go_simp; try (unfold undef; simp))) ?_
      refine wpAnyN_skipD 23 130 rfl rfl (by kernel_rfl) (by kernel_rfl) (by kernel_rfl) (fun _ _ _ h => h) (by (go_simp; try (unfold undef; simp))) ?_
      refine wpAnyN_skipD 24 131 rfl rfl (by kernel_rfl) (by kernel_rfl) (by kernel_rfl) (fun _ _ _ h => h) (by (go_simp; try (unfold undef; simp))) ?_
      refine wpAnyN_skipD 25 132 rfl rfl (by kernel_rfl) (by kernel_rfl) (by kernel_rfl) (fun _ _ _ h => h) (by (go_simp; try (unfold undef; simp))) ?_
      refine wpAnyN_skipD 26 133 rfl rfl (by kernel_rfl) (by kernel_rfl) (by kernel_rfl) (fun _ _ _ h => h) (by (go_simp; try (unfold undef; simp))) ?_
      refine wpAnyN_skipD 27 134 rfl rfl (by kernel_rfl) (by kernel_rfl) (by kernel_rfl) (fun _ _ _ h => h) (by (go_simp; try (unfold undef; simp))) ?_
      refine wpAnyN_skipD 28 135 rfl rfl (by kernel_rfl) (by kernel_rfl) (by kernel_rfl) (fun _ _ _ h => h) (by (go_simp; try (unfold undef; simp))) ?_
      refine wpAnyN_skipD 29 136 rfl rfl (by kernel_rfl) (by kernel_rfl) (by kernel_rfl) (fun _ _ _ h => h) (by (go_simp; try (unfold undef; simp))) ?_
      simp only [Act.put, List.setIfInBounds_toArray, List.set_cons_succ, List.set_cons_zero]
      refine wpAnyN_pure 30 137 (v := ?_) rfl rfl (by kernel_rfl) (by kernel_rfl) (by kernel_rfl) (fun _ _ _ h => h) (by go_simp) (fun w => ?_) ?_
      rotate_left
      · go_simp
        try with_reducible rfl
      simp only [Act.put, List.setIfInBounds_toArray, List.set_cons_succ, List.set_cons_zero]
      refine wpAnyN_pureG 31 138 (v := ?_) rfl rfl (by kernel_rfl) (by kernel_rfl) (by kernel_rfl) (fun _ _ _ h => h) rfl (fun w => ?_) ?_
      rotate_left
      · go_simp
        try with_reducible rfl
      refine wpAnyN_done (by kernel_rfl) ?_
      simp only [Act.put, List.setIfInBounds_toArray, List.set_cons_succ, List.set_cons_zero]
      have cc := cQ.out w6 0 b5 n5 q q.length FB hQ rfl hn5 hn5' (by omega) (by omega) (by omega) HW.out.2.2.2.2.2.2.1
      have hRo := hS4.ro
      have hRt := hS4.rt
      have hs := Nat.le_of_lt hS4.z.lt
      go_wp2_with (first | (refine wpList_load_mid_blk rfl 23 (.tmp 13) rfl hRo 0 rfl (ro.1.map b8) (fun j v hv => by rw [Nat.zero_add, List.getElem?_toArray]; exact hv) (.array 32 5) (by kernel_rfl) rfl 32 (by kernel_rfl) (by simp [hol]) ?_) | (refine wpList_load_mid_blk rfl 23 (.tmp 8) rfl hRt 0 rfl (rt.1.map b8) (fun j v hv => by rw [Nat.zero_add, List.getElem?_toArray]; exact hv) (.array 32 5) (by kernel_rfl) rfl 32 (by kernel_rfl) (by simp [hrl]) ?_))
      refine cc.mono ?_
      rintro e wy ⟨rfl, G⟩
      have FY := FB.trans (G.mono hs)
      have hQy := hQ.below G (Nat.le_refl _)
      have hRo' := hRo.below G hRo.lt
      have hRt' := hRt.below G hRt.lt
      have hs' := Nat.le_trans hs G.size
      have cd := cQ.out wy ((l.length : Int) + 1) b5 n5 q q.length FY hQy rfl hn5 hn5' (by omega) (by omega) (by omega) HW.out.2.2.2.2.2.2.2
      clear cc FB hQ hRo hRt hs G hS4 hP
      clear w6
      go_wp2_with (first | (refine wpList_load_blkW (by go_simp) 23 (.tmp 13) rfl hRo' rfl (ro.1.map b8) rfl (.array 32 5) (by kernel_rfl) rfl 32 (by kernel_rfl) (by simp [hol]) ?_) | (refine wpList_load_blkW (by go_simp) 23 (.tmp 8) rfl hRt' rfl (rt.1.map b8) rfl (.array 32 5) (by kernel_rfl) rfl 32 (by kernel_rfl) (by simp [hrl]) ?_))
      refine cd.mono ?_
      rintro e wz ⟨rfl, G⟩
      have FZ := FY.trans (G.mono hs')
      rw [HR.out] at FZ
      clear cd FY hQy hRo' hRt' hs' G
      go_wp2
      go_ret
      exact ⟨rfl, FZ⟩
  · have HF1 := Lib.hid F1
    have k1 := awake19_any w1 (hL.below F1 HR0.out)
    go_enter Tryd.func8, Tryd.ntmps8
    go_upto_region 1 with (fail)
    change Code.wp _ _ _ _ (w.alloc (.cells (z.1.map b8).toArray 23))
    rw [← HR.out.1, ← HR.out.2]
    replace HR := Lib.hid HR.out.2
    go_wp2_with fail
    refine k1.mono ?_
    rintro e w2 ⟨rfl, G2⟩
    have F2 := F1.trans (G2.mono (Nat.le_of_lt hZ1.lt))
    have hs2 : r ≤ w2.heap.size := Nat.le_trans (Nat.le_of_lt hZ1.lt) G2.size
    have k2 := awake19_any w2 (hL.below F2 HR0.out)
    clear k1 F1 HF1 hZ1 G2
    by_cases hl : l.length ≤ 60
    · have hd : decide ((60 : Int) < (l.length : Int)) = false := by rw [decide_eq_false_iff_not]; omega
      have hd1 : decide ((l.length : Int) < 2) = true := by rw [decide_eq_true_eq]; omega
      go_wp2_with fail
      refine k2.mono ?_
      rintro e w3 ⟨rfl, G3⟩
      have F3 := F2.trans (G3.mono hs2)
      rw [HR.out] at F3
      clear k2 F2 G3
      go_wp2
      go_ret
      exact ⟨rfl, F3⟩
    · have hd : decide ((60 : Int) < (l.length : Int)) = true := by rw [decide_eq_true_eq]; omega
      go_wp2_with fail
      refine k2.mono ?_
      rintro e w3 ⟨rfl, G3⟩
      have F3 := F2.trans (G3.mono hs2)
      rw [HR.out] at F3
      clear k2 F2 G3
      go_wp2
      go_ret
      exact ⟨rfl, F3⟩
end Go.Proofs.YtadiijieldldhaaDoor
