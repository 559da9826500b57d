/-
  The walk of the statement Sha256Parts.
-/
import Derived.Test.YtahlllbigkgobaaDoorLSame
namespace Go.Proofs.YtahlllbigkgobaaDoor
open Go.RowKit
attribute [local irreducible] sha
theorem Dig.grown {w w' : World} {b : Nat} {v : Value} {xs : List B} {row : Option Nat} (h : Dig w b v xs) (hg : w.grownBy w' row) (h1 : some b ≠ row) (h2 : ∀ g, v.ownBlock = some g → some g ≠ row) : Dig w' b v xs := by
  obtain ⟨⟨s, k1, k2⟩, h3, h4, h5⟩ := h
  exact ⟨⟨s, k1.grown hg h1, k2⟩, h3.grown hg h2, h4, h5⟩
set_option maxRecDepth 100000 in
set_option maxHeartbeats 4000000 in
theorem parts05_any (w : World) (hL : Laid w) (ao : Option Addr) (cp : Nat) (L : List (Option Addr × Nat × List B)) (hP : Parts w ao L) (hc : L.length ≤ cp) (hm : cp ≤ maxLen) (_he : ∀ p ∈ L, p.2.2.length ≤ p.2.1 ∧ p.2.1 ≤ maxLen) :
    Calls Tryd.prog 4 #[.slice ao L.length cp] w fun e w' => e = .returned (.bool true) ∧ Below w.heap.size w w' := by
  replace hm : L.length ≤ 9223372036854775807 := Nat.le_trans hc hm
  by_cases hlen : L.length ≤ 40
  · have hd : decide ((40 : Int) < (L.length : Int)) = false := by rw [decide_eq_false_iff_not]; omega
    obtain ⟨i0, hi, hz0, hz1, hz2⟩ := info_parts infoU8
    go_enter Tryd.func4, Tryd.ntmps4
    go_wp2_with fail
    refine (awake05_any w hL).mono ?_
    rintro e w1 ⟨rfl, F1⟩
    go_wp2
    obtain ⟨b, hb⟩ : ∃ b, b = w1.heap.size := ⟨_, rfl⟩
    obtain ⟨wA, hwA⟩ : ∃ wA, wA = w1.alloc (.cells zeroD 36) := ⟨_, rfl⟩
    have hLt := hL.lt
    have hbw : w.heap.size ≤ b := by rw [hb]; exact F1.size
    have hDA : Dig wA b (.slice none 0 0) [] := by rw [hwA, hb]; exact Dig.new (Blk.new w1 zeroD 36) (by have := F1.size; omega) (by have := F1.size; omega)
    have FA : Below w.heap.size w wA := by rw [hwA]; exact F1.alloc F1.size _
    change Code.wp _ _ _ _ (w1.alloc (.cells zeroD 36))
    rw [← hwA, ← hb]
    clear hwA hb F1
    clear w1
    have hLA : ∀ wx, Below w.heap.size w wx → Laid wx := fun wx h => hL.below h (Nat.le_refl _)
    have hPA : ∀ wx, Below w.heap.size w wx → Parts wx ao L := fun wx h => hP.below h (Nat.le_refl _)
    have HA := Lib.hid (And.intro hLA hPA)
    clear hLA hPA
    go_loopg [4, 5] L.length (fun k t i wr => ∃ (m : Nat) (v : Value) (a : Option Addr) (c : Nat) (xs : List B), i = .int .i64 m ∧ t = .slice a xs.length c ∧ m + k = L.length ∧ xs = cat (L.take m) ∧ xs.length ≤ 4000 ∧ Dig wr b v xs ∧ (∀ g, v.ownBlock = some g → w.heap.size ≤ g) ∧
      OwnB w.heap.size w wr t xs ∧ (∀ g, t.ownBlock = some g → g ≠ b ∧ v.ownBlock ≠ some g))
    case atStart => exact ⟨0, _, none, 0, [], rfl, rfl, by omega, rfl, by simp, hDA, (fun _ e => by cases e), Own.start _ _ FA FA.size, (fun _ e => by cases e)⟩
    case round =>
      clear hDA FA
      obtain ⟨m, v, a, c, xs, rfl, rfl, hmk, hxs, hxl, hD, hv, hO, hsep⟩ := hrel
      have F := hO.bel
      by_cases hq : m < L.length
      · have hdl : decide ((m : Int) < (L.length : Int)) = true := by rw [decide_eq_true_eq]; omega
        obtain ⟨bb, off, hao, hcell⟩ := hP.cells.resolve_left (by rintro rfl; simp at hq)
        have c0w := hcell m hq
        have hbb := World.block_lt_of_cell? w _ c0w
        have hY0 := hP.each _ (List.getElem_mem hq)
        have hsn := cat_snoc L m hq
        have hlt : ∀ (k o : Nat), L[m].2.2 ≠ [] → L[m].1 = some ⟨k, o, none⟩ → k < w.heap.size := by
          intro k o hz e
          rcases hY0 with h | ⟨k', off', e', h⟩
          · exact absurd h hz
          · obtain ⟨rfl, rfl⟩ : k' = k ∧ off' = o := by rw [e] at e'; simpa using e'.symm
            exact World.block_lt_of_cell? w _ (h 0 (List.length_pos_iff.2 hz))
        obtain ⟨p, hp⟩ : ∃ p, p = L[m] := ⟨_, rfl⟩
        rw [← hp] at c0w hY0 hsn hlt
        obtain ⟨ap, cpp, ys⟩ := p
        dsimp only at c0w hY0 hsn hlt hbb
        rw [← hxs] at hsn
        have c0 := (F.cell (p := ⟨bb, off + m, none⟩) hbb).trans c0w
        have HM := Lib.hid (And.intro hmk (And.intro hxs (And.intro hsn (And.intro hlt (And.intro hv (And.intro c0w hY0))))))
        clear hcell hY0 hp hmk hxs hsn hlt hv c0w
        subst hao
        by_cases hp1 : ys.length ≤ 2000
        · have hd1 : decide ((2000 : Int) < (ys.length : Int)) = false := by rw [decide_eq_false_iff_not]; omega
          by_cases hp2 : xs.length ≤ 2000
          · have hd2 : decide ((2000 : Int) < (xs.length : Int)) = false := by rw [decide_eq_false_iff_not]; omega
            go_wp2_with fail
            obtain ⟨hmk, hxs, hsn, hlt, hv, c0w, hY0⟩ := HM.out
            refine (write_any b v xs ys ap cpp wr (HA.out.1 wr F) hD (hY0.below F (Nat.le_refl _)) (fun hz k o e => by have := hlt k o hz e; omega) (by omega)).mono ?_
            rintro e w5 ⟨rfl, v5, hD5, hF5, hv5⟩
            have F5 := Below.fr F hF5 F.size (by rintro x (h | h); omega; exact hv x h.symm)
            have hO5 : OwnB w.heap.size w w5 (.slice a xs.length c) xs := ⟨hO.row.fr hF5 (fun g hg => by rintro (h | h); exact (hsep g hg).1 h; exact (hsep g hg).2 h.symm), hO.own, F5, Nat.le_trans F.size hF5.size⟩
            have hv5' : ∀ g, v5.ownBlock = some g → w.heap.size ≤ g := fun g hg => by
              rcases hv5 with h | ⟨g', h, hg'⟩
              · exact hv g (h ▸ hg)
              · obtain rfl : g' = g := Option.some.inj (h.symm.trans hg)
                exact Nat.le_trans F.size hg'
            have hsep5 : ∀ g, (Value.slice a xs.length c).ownBlock = some g → g ≠ b ∧ v5.ownBlock ≠ some g := fun g hg => ⟨(hsep g hg).1, fun e => by
              rcases hv5 with h | ⟨g', h, hg'⟩
              · exact (hsep g hg).2 (h ▸ e)
              · obtain rfl : g' = g := Option.some.inj (h.symm.trans e)
                have := hO.row.lt g' hg; omega⟩
            have c5 := (F5.cell (p := ⟨bb, off + m, none⟩) hbb).trans c0w
            have hsrc := (hY0.below F5 (Nat.le_refl _)).src (P := Tryd.prog) (tx := 22) (e' := 5) (by kernel_rfl) ys.length cpp rfl
            have hl1 : xs.length + ys.length ≤ maxLen := by simp only [maxLen]; omega
            have hl2 : (xs.length + ys.length) * 1 ≤ 140737488355328 := by omega
            have HV := Lib.hid (And.intro hv5' hsep5)
            clear hv5' hsep5 hv5 hF5 hsep hv hlt hsn hxs hmk c0w hY0 c0 hD hO F
            go_wp2_with (at_builtin; refine wpList_append_row rfl _ _ 22 22 rfl 5 i0 (.int .u8 0) 1 1 (by kernel_rfl) hi hz0 hz1 hz2 rfl (by decide) hO5.row rfl hsrc rfl hl1 hl2 ?_)
            intro t6 w6 hrow6 hg6 hv6
            have hO6 := OwnB.app (us := ys) hO5 (by simpa using hrow6) hg6 hv6
            have hD6 := hD5.grown hg6 (fun e => (HV.out.2 b e.symm).1 rfl) (fun g hg e => (HV.out.2 g e.symm).2 hg)
            have hsep6 : ∀ g, t6.ownBlock = some g → g ≠ b ∧ v5.ownBlock ≠ some g := fun g hg => by
              rcases hv6 with h | ⟨h, _⟩
              · exact HV.out.2 g (h ▸ hg)
              · obtain rfl : w5.heap.size = g := Option.some.inj (h.symm.trans hg)
                exact ⟨fun e => by obtain ⟨s, h1, _⟩ := hD5.st; have := h1.lt; omega, fun e => by have := hD5.row.lt _ e; omega⟩
            obtain ⟨zs, hzs⟩ : ∃ zs, zs = xs ++ ys := ⟨_, rfl⟩
            have hzl : zs.length ≤ 4000 := by rw [hzs, List.length_append]; omega
            rw [← hzs] at hO6 hD6
            obtain ⟨a6, c6, rfl, -, -, -, hY6⟩ := hO6.row.bts
            have hz2' : zs = cat (L.take (m + 1)) := by rw [hzs, HM.out.2.2.1]
            have HZ := Lib.hid (And.intro hz2' (And.intro hzl (And.intro HV.out.1 (And.intro hsep6 HM.out.1))))
            clear hz2' hzl hsep6 hv6 hg6 hrow6 hsrc hl1 hl2 hzs HV HM hO5 hD5 c5 F5
            have F6 := hO6.bel
            by_cases h3 : (m : Int) % 3 = 0
            · have hd3 : ((m : Int) % 3 == 0) = true := by rw [beq_iff_eq]; exact h3
              clear h3
              go_wp2_with fail
              refine (sum_any b v5 zs w6 (HA.out.1 w6 F6) hD6 (by have := HZ.out.2.1; omega)).mono ?_
              rintro e w7 ⟨rfl, GF7⟩
              have F7 := Below.then F6 GF7
              go_wp2_with fail
              refine (refsum_any a6 c6 zs w7 (hY6.below GF7 (Nat.le_refl _)) (by have := HZ.out.2.1; omega)).mono ?_
              rintro e w8 ⟨rfl, GF8⟩
              have F8 := Below.then F7 GF8
              go_wp2_with fail
              have hO8 := (hO6.below GF7).below GF8
              have hD8 := (hD6.below GF7 (Nat.le_refl _)).below GF8 (Nat.le_refl _)
              go_roundg (gk - 1)
              case measure => have := HZ.out.2.2.2.2; omega
              case rel =>
                obtain ⟨h1, h2, h3, h4, h5⟩ := HZ.out
                exact ⟨m + 1, v5, a6, c6, zs, by go_num, rfl, by omega, h1, h2, hD8, h3, hO8, h4⟩
            · have hd3 : ((m : Int) % 3 == 0) = false := by rw [beq_eq_false_iff_ne]; exact h3
              clear h3
              go_wp2
              go_roundg (gk - 1)
              case measure => have := HZ.out.2.2.2.2; omega
              case rel =>
                obtain ⟨h1, h2, h3, h4, h5⟩ := HZ.out
                exact ⟨m + 1, v5, a6, c6, zs, by go_num, rfl, by omega, h1, h2, hD6, h3, hO6, h4⟩
          · have hd2 : decide ((2000 : Int) < (xs.length : Int)) = true := by rw [decide_eq_true_eq]; omega
            go_wp2
            go_ret
            exact ⟨rfl, F⟩
        · have hd1 : decide ((2000 : Int) < (ys.length : Int)) = true := by rw [decide_eq_true_eq]; omega
          go_wp2
          go_ret
          exact ⟨rfl, F⟩
      · have hdl : decide (m < L.length) = false := by rw [decide_eq_false_iff_not]; omega
        obtain rfl : m = L.length := by omega
        rw [List.take_length] at hxs
        obtain ⟨a2', c2', he2, -, -, -, hY⟩ := hO.row.bts
        obtain ⟨rfl, rfl⟩ : a = a2' ∧ c = c2' := by injection he2 with h1 _ h3; exact ⟨h1, h3⟩
        clear he2
        have HX := Lib.hid (And.intro hxs hxl)
        have hx2 : xs.length ≤ 1099511627776 := by omega
        clear hq hmk hxs hsep hv
        go_wp2_with fail
        refine (sum_any b v xs wr (HA.out.1 wr F) hD hx2).mono ?_
        rintro e w5 ⟨rfl, GF5⟩
        have F5 := Below.then F GF5
        go_wp2_with fail
        refine (refsum_any a c xs w5 (hY.below GF5 (Nat.le_refl _)) hx2).mono ?_
        rintro e w6 ⟨rfl, GF6⟩
        have F6 := Below.then F5 GF6
        go_wp2_with fail
        have hY6 := (hY.below GF5 (Nat.le_refl _)).below GF6 (Nat.le_refl _)
        have hD6 := (hD.below GF5 (Nat.le_refl _)).below GF6 (Nat.le_refl _)
        refine (sum_any b v xs w6 (HA.out.1 w6 F6) hD6 hx2).mono ?_
        rintro e w7 ⟨rfl, GF7⟩
        have F7 := Below.then F6 GF7
        go_wp2_with fail
        have hY7 := hY6.below GF7 (Nat.le_refl _)
        refine (sum_one_any w7 (HA.out.1 w7 F7) hY7 hx2).mono ?_
        rintro e w8 ⟨rfl, GF8⟩
        have F8 := Below.then F7 GF8
        go_wp2_with fail
        have hY8 := hY7.below GF8 (Nat.le_refl _)
        refine (sums_any ao cp L w8 (HA.out.1 w8 F8) (HA.out.2 w8 F8) (by rw [← HX.out.1]; exact hx2) hm).mono ?_
        rintro e w9 ⟨rfl, G9⟩
        have F9 := Below.then F8 G9
        have hY9 := hY8.below G9 (Nat.le_refl _)
        rw [← HX.out.1]
        go_wp2_with fail
        refine (sum_one_any w9 (HA.out.1 w9 F9) hY9 hx2).mono ?_
        rintro e wf ⟨rfl, GFf⟩
        have Ff := Below.then F9 GFf
        go_wp2_with fail
        go_ret
        exact ⟨rfl, Ff⟩
  · have hd : decide ((40 : Int) < (L.length : Int)) = true := by rw [decide_eq_true_eq]; omega
    go_enter Tryd.func4, Tryd.ntmps4
    go_wp2_with fail
    refine (awake05_any w hL).mono ?_
    rintro e w1 ⟨rfl, F1⟩
    go_wp2_with fail
    refine (awake05_any w1 (hL.below F1 (Nat.le_refl _))).mono ?_
    rintro e w2 ⟨rfl, F2⟩
    go_wp2
    go_ret
    exact ⟨rfl, F1.trans (F2.mono F1.size)⟩
end Go.Proofs.YtahlllbigkgobaaDoor
