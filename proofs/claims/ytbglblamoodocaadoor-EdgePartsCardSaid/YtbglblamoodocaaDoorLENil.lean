/-
  The walk of the statement EdgeNil.
-/
import Derived.Test.YtbglblamoodocaaDoorTreeO
namespace Go.Proofs.YtbglblamoodocaaDoor
open Go Go.RowKit
attribute [local irreducible] sha
def Sep (va : Value) (ta : Nat) (vb : Value) (tb : Nat) : Prop := ta ≠ tb ∧ va.ownBlock ≠ some tb ∧ vb.ownBlock ≠ some ta ∧ ∀ g, va.ownBlock = some g → vb.ownBlock ≠ some g
theorem Sep.symm {va vb : Value} {ta tb : Nat} (h : Sep va ta vb tb) : Sep vb tb va ta := ⟨h.1.symm, h.2.2.1, h.2.1, fun g e e2 => h.2.2.2 g e2 e⟩
theorem Sep.next {va va' vb : Value} {ta tb n : Nat} (h : Sep va ta vb tb) (ho : va'.ownBlock = va.ownBlock ∨ ∃ y, va'.ownBlock = some y ∧ n ≤ y) (h1 : tb < n) (h2 : ∀ g, vb.ownBlock = some g → g < n) : Sep va' ta vb tb := by
  rcases ho with e | ⟨y, e, hy⟩
  · exact ⟨h.1, by rw [e]; exact h.2.1, h.2.2.1, fun g e2 => h.2.2.2 g (e ▸ e2)⟩
  · refine ⟨h.1, fun e2 => ?_, h.2.2.1, fun g e2 e3 => ?_⟩
    · have := Option.some.inj (e.symm.trans e2); omega
    · have h4 := Option.some.inj (e.symm.trans e2); have := h2 g e3; omega
theorem TreeO.keep {r : Nat} {w0 w w' : World} {ta tb : Nat} {va vb : Value} {l : List Hs} (h : TreeO r w0 w tb vb l) (hF : Fr (fun y => y = ta ∨ va.ownBlock = some y) w w') (hs : Sep va ta vb tb) (hb : Below r w0 w') : TreeO r w0 w' tb vb l :=
  ⟨h.tree.fr hF (fun e => by
    rcases e with e | e
    · exact hs.1 e.symm
    · exact hs.2.1 e) (fun g e1 e => by
    rcases e with e | e
    · exact hs.2.2.1 (e ▸ e1)
    · exact hs.2.2.2 g e e1), h.ge, h.own, hb⟩
theorem TreeO.rlt {r : Nat} {w0 w : World} {t : Nat} {v : Value} {l : List Hs} (h : TreeO r w0 w t v l) : ∀ g, v.ownBlock = some g → g < w.heap.size := h.tree.row.lt
set_option maxRecDepth 100000 in
set_option maxHeartbeats 4000000 in
theorem enil_any (w : World) (hL : Laid w) (ao : Option Addr) (cp : Nat) (l : List Hs) (hB : Hts w ao l) (hc : l.length ≤ cp) (hm : cp ≤ maxLen) :
    Calls Tryd.prog 16 #[.slice ao l.length cp] w fun e w' => e = .returned (.bool true) ∧ Below w.heap.size w w' := by
  have hl9 : l.length ≤ 9223372036854775807 := Nat.le_trans hc hm
  have hm0 : cp ≤ 9223372036854775807 := hm
  by_cases hlen : l.length ≤ 60
  · have hd : decide ((60 : Int) < (l.length : Int)) = false := by rw [decide_eq_false_iff_not]; omega
    obtain ⟨r, hr⟩ : ∃ r, r = w.heap.size := ⟨_, rfl⟩
    have HR := Lib.hid hr
    have hr0 : w.heap.size ≤ r := by omega
    have HR0 := Lib.hid hr0
    have hzt := fun w => run_zeroT w
    have HBB : ∀ w', Below r w w' → Hts w' ao l := fun w' h => hB.below h hr0
    have HB := Lib.hid HBB
    clear hr hr0 HBB
    go_enter Tryd.func16, Tryd.ntmps16
    go_wp2_with fail
    refine (awake17_any w hL).mono ?_
    rintro e w1 ⟨rfl, F1⟩
    rw [← HR.out] at F1
    have hs1 := F1.size
    rw [← HR.out] at hs1
    obtain ⟨t, ht⟩ : ∃ t, t = w1.heap.size := ⟨_, rfl⟩
    have hA0 : TreeO r w (w1.alloc (.cells zeroT 46)) t (.slice none 0 0) [] := by rw [ht]; exact TreeO.new F1 hs1
    have hsz : (w1.alloc (.cells zeroT 46)).heap.size = t + 1 := by rw [alloc_size, ht]
    have hB0 : TreeO r w ((w1.alloc (.cells zeroT 46)).alloc (.cells zeroT 46)) (t + 1) (.slice none 0 0) [] := by
      rw [← hsz]; exact TreeO.new hA0.bel hA0.le
    have hA1 := hA0.below (below_alloc1 _ (.cells zeroT 46))
    have HT0 := Lib.hid (And.intro hA1 (And.intro hB0 ht))
    clear hA0 hA1 hB0 ht hs1 F1 hsz
    go_wp2
    rw [← HT0.out.2.2]
    go_loopg [6] l.length (fun g i wr => ∃ (m : Nat) (va vb : Value), i = .int .i64 m ∧ m + g = l.length ∧ TreeO r w wr t va (l.take m) ∧ TreeO r w wr (t + 1) vb (l.take m) ∧ Sep va t vb (t + 1))
    case atStart => exact ⟨0, .slice none 0 0, .slice none 0 0, rfl, by omega, by rw [List.take_zero]; exact HT0.out.1, by rw [List.take_zero]; exact HT0.out.2.1, by omega, (fun e => by cases e), (fun e => by cases e), fun g e => by cases e⟩
    case round =>
      clear HT0
      obtain ⟨m, va, vb, rfl, hmk, hA, hBt, hS⟩ := hrel
      by_cases hml : m < l.length
      · have hd2 : decide ((m : Int) < (l.length : Int)) = true := by rw [decide_eq_true_eq]; omega
        obtain ⟨g, off, rfl, hg, hrg⟩ := (HB.out wr hA.bel).place (by omega)
        have hts := take_succ_eq l m hml
        have hy0 := hrg m hml
        have hry : ∀ w', Below r w w' → w'.rangeAt g (off + m * 32) ((l[m]).1.map b8) := fun w' h => by
          obtain ⟨g', off', e', -, hrg'⟩ := (HB.out w' h).place (by omega)
          cases e'
          exact hrg' m hml
        obtain ⟨y, hy⟩ : ∃ y : Hs, y = l[m] := ⟨_, rfl⟩
        rw [← hy] at hry hts hy0
        have hyl := y.2
        have HU := Lib.hid (And.intro hts (And.intro hry (show m + 1 + (gk - 1) = l.length ∧ gk - 1 < gk by omega)))
        have HT := Lib.hid (And.intro hA (And.intro hBt hS))
        have hPl : (l.take m).length ≤ 1000000 := by rw [List.length_take]; omega
        have HPl := Lib.hid hPl
        clear hrg hg hy hts hA hBt hS hry hPl hmk
        go_wp2_with (refine wpList_load_mid rfl 28 _ rfl g (off + m * 32) rfl (y.1.map b8) (.array 32 5) hy0 (by kernel_rfl) rfl (by rw [List.length_map, hyl]; kernel_rfl) ?_)
        refine (push_nil wr y).mono ?_
        rintro e w2 ⟨rfl, G2⟩
        have HT2 := Lib.hid (And.intro (HT.out.1.below G2) (And.intro (HT.out.2.1.below G2) HT.out.2.2))
        have hy2 := HU.out.2.1 w2 HT2.out.1.bel
        clear G2 HT hy0
        clear wr
        go_wp2_with (refine wpList_load_mid rfl 28 _ rfl g (off + m * 32) rfl (y.1.map b8) (.array 32 5) hy2 (by kernel_rfl) rfl (by rw [List.length_map, hyl]; kernel_rfl) ?_)
        refine (HT2.out.1.push hL HR0.out y HPl.out).mono ?_
        rintro e w3 ⟨rfl, va3, hA3, hF3, ho3⟩
        have hB3 := HT2.out.2.1.keep hF3 HT2.out.2.2 hA3.bel
        have hS3 := HT2.out.2.2.next ho3 HT2.out.2.1.lt HT2.out.2.1.rlt
        have hy3 := HU.out.2.1 w3 hA3.bel
        have HT3 := Lib.hid (And.intro hA3 (And.intro hB3 hS3))
        clear hF3 ho3 HT2 hy2 hA3 hB3 hS3
        clear w2
        go_wp2_with (refine wpList_load_mid rfl 28 _ rfl g (off + m * 32) rfl (y.1.map b8) (.array 32 5) hy3 (by kernel_rfl) rfl (by rw [List.length_map, hyl]; kernel_rfl) ?_)
        refine (HT3.out.2.1.push hL HR0.out y HPl.out).mono ?_
        rintro e w4 ⟨rfl, vb4, hB4, hF4, ho4⟩
        have hA4 := HT3.out.1.keep hF4 HT3.out.2.2.symm hB4.bel
        have hS4 := (HT3.out.2.2.symm.next ho4 HT3.out.1.lt HT3.out.1.rlt).symm
        rw [← HU.out.1] at hA4 hB4
        have HT4 := Lib.hid (And.intro hA4 (And.intro hB4 hS4))
        clear hF4 ho4 HT3 hy3 hA4 hB4 hS4
        clear w3
        go_wp2
        go_roundg (gk - 1)
        case measure => exact HU.out.2.2.2
        case rel => exact ⟨m + 1, va3, vb4, by go_num, HU.out.2.2.1, HT4.out.1, HT4.out.2.1, HT4.out.2.2⟩
      · have hd2 : decide (m < l.length) = false := by rw [decide_eq_false_iff_not]; omega
        obtain rfl : m = l.length := by omega
        rw [List.take_length] at hA hBt
        obtain ⟨z, hz⟩ : ∃ z, z = rootH l := ⟨_, rfl⟩
        obtain ⟨z0, hz0⟩ : ∃ z0, z0 = rootH [] := ⟨_, rfl⟩
        have hzl := z.2
        have hz0l := z0.2
        have HZ := Lib.hid (And.intro hz hz0)
        have HT := Lib.hid (And.intro hA hBt)
        clear hz hz0 hA hBt hS hmk hml
        go_wp2_with fail
        refine (tlen_nil wr).mono ?_
        rintro e w' ⟨rfl, hw'⟩
        rw [hw']
        clear hw'
        clear w'
        go_wp2_with fail
        refine (tedge_nil wr).mono ?_
        rintro e w' ⟨rfl, hw'⟩
        rw [hw']
        clear hw'
        clear w'
        go_wp2_with fail
        refine (troot_zero wr (hL.below HT.out.1.bel HR0.out) none (tlen_nil _)).mono ?_
        rintro e w2 ⟨rfl, G2⟩
        rw [← HZ.out.2]
        have HT2 := Lib.hid (And.intro (HT.out.1.below G2) (HT.out.2.below G2))
        clear HT G2
        clear wr
        go_wp2_with fail
        refine (refroot_any w2 none 0 [] (hL.below HT2.out.1.bel HR0.out) (Hts.nil _ _) (Nat.le_refl _) (by decide)).mono ?_
        rintro e w3 ⟨rfl, G3⟩
        rw [← HZ.out.2]
        have HT3 := Lib.hid (And.intro (HT2.out.1.below G3) (HT2.out.2.below G3))
        clear HT2 G3
        clear w2
        go_wp2_with fail
        refine (HT3.out.1.root hL HR0.out (by omega)).mono ?_
        rintro e w4 ⟨rfl, G4⟩
        rw [← HZ.out.1]
        have HT4 := Lib.hid (And.intro (HT3.out.1.below G4) (HT3.out.2.below G4))
        clear HT3 G4
        clear w3
        go_wp2_with fail
        refine (HT4.out.2.root hL HR0.out (by omega)).mono ?_
        rintro e w5 ⟨rfl, G5⟩
        rw [← HZ.out.1]
        have HT5 := Lib.hid (HT4.out.1.below G5)
        clear HT4 G5
        clear w4
        go_wp2_with fail
        refine (tlen_any w5 t va l HT5.out.tree).mono ?_
        rintro e w' ⟨rfl, hw'⟩
        rw [hw']
        have F := HT5.out.bel
        rw [HR.out] at F
        clear hw'
        clear w'
        go_wp2
        go_ret
        exact ⟨rfl, F⟩
  · have hd : decide ((60 : Int) < (l.length : Int)) = true := by rw [decide_eq_true_eq]; omega
    go_enter Tryd.func16, Tryd.ntmps16
    go_wp2_with fail
    refine (awake17_any w hL).mono ?_
    rintro e w1 ⟨rfl, F1⟩
    go_wp2_with fail
    refine (awake17_any w1 (hL.below F1 (Nat.le_refl _))).mono ?_
    rintro e w2 ⟨rfl, GF2⟩
    have F2 := Below.then F1 GF2
    go_wp2_with fail
    go_ret
    exact ⟨rfl, F2⟩
end Go.Proofs.YtbglblamoodocaaDoor
