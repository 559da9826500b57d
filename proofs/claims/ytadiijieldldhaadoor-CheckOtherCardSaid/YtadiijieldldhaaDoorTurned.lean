/-
  A list of hashes the other way round (the reference of layer 18).
-/
import Derived.Test.YtadiijieldldhaaDoorPathD
namespace Go.Proofs.YtadiijieldldhaaDoor
open Go Go.RowKit
attribute [local irreducible] sha
set_option maxRecDepth 100000 in
set_option maxHeartbeats 4000000 in
theorem turnedH_any (w : World) (ao : Option Addr) (cp : Nat) (l : List Hs) (hB : Hts w ao l) (hbig : l.length ≤ 1000000) :
    Calls Tryd.prog 37 #[.slice ao l.length cp] w fun e w' => ∃ v, e = .returned v ∧ OwnH w.heap.size w w' v l.reverse := by
  obtain ⟨i0, hi, hz0, hz1, hz2⟩ := info_parts infoHs
  obtain ⟨r, hr⟩ : ∃ r, r = w.heap.size := ⟨_, rfl⟩
  have hr0 : w.heap.size ≤ r := by omega
  have HR0 := Lib.hid (And.intro hr0 hr)
  have O0 : OwnH r w w (.slice none 0 0) [] := Own.nil _ _ _ hr
  rw [← hr]
  clear hr hr0
  have q0 : IntKind.i64.wrap ((l.length : Int) - 1) = (l.length : Int) - 1 := IntWalk.i64_in _ (by omega)
  go_enter Tryd.func37, Tryd.ntmps37
  go_wp2
  go_loopg [3, 4] l.length (fun k v i wr => ∃ (a : Option Addr) (c n : Nat), k ≤ l.length ∧ n + k = l.length ∧ v = .slice a n c ∧ i = .int .i64 ((k : Int) - 1) ∧ OwnH r w wr (.slice a n c) (l.drop k).reverse)
  case atStart => exact ⟨none, 0, 0, Nat.le_refl _, by omega, rfl, rfl, by rw [List.drop_length]; exact O0⟩
  case round =>
    clear O0
    obtain ⟨a, c, n, hkl, hnk, rfl, rfl, O⟩ := hrel
    by_cases hk0 : gk = 0
    · subst hk0
      have hd : decide ((0 : Int) ≤ ((0 : Nat) : Int) - 1) = false := rfl
      rw [List.drop_zero] at O
      go_wp2
      go_ret
      exact ⟨_, rfl, O⟩
    · obtain ⟨j, rfl⟩ : ∃ j, gk = j + 1 := ⟨gk - 1, by omega⟩
      have hcast : ((j + 1 : Nat) : Int) - 1 = (j : Int) := by omega
      rw [hcast]
      have hd : decide ((0 : Int) ≤ (j : Int)) = true := by rw [decide_eq_true_eq]; omega
      obtain ⟨b, off, rfl, hb, hrg⟩ := hB.place (by omega)
      have hrj := hrg j (by omega)
      have hrev : (l.drop j).reverse = (l.drop (j + 1)).reverse ++ [l[j]] := by
        rw [List.drop_eq_getElem_cons (show j < l.length by omega), List.reverse_cons]
      obtain ⟨u, hu⟩ : ∃ u, u = l[j] := ⟨_, rfl⟩
      rw [← hu] at hrev hrj
      have hul := u.2
      have hrw : wr.rangeAt b (off + j * 32) (u.1.map b8) := fun i v hv => (O.bel.cell (p := ⟨b, off + j * 32 + i, none⟩) (Nat.lt_of_lt_of_le hb HR0.out.1)).trans (hrj i v hv)
      obtain ⟨q, hq⟩ : ∃ q, q = (l.drop (j + 1)).reverse := ⟨_, rfl⟩
      have hql : q.length = n := by rw [hq, List.length_reverse, List.length_drop]; omega
      rw [← hq] at O hrev
      have O' : Own r w wr 23 32 (.slice a n c) n ((flat q).map b8) := by rw [← hql]; rw [← hql] at O; exact O
      have q1 : IntKind.i64.wrap ((j : Int) - 1) = (j : Int) - 1 := IntWalk.i64_in _ (by omega)
      have HU := Lib.hid (And.intro hrev (And.intro hql O))
      clear hrg hrj hu hq hrev hb hcast O hql
      have hjl : (j : Int) < (l.length : Int) := by omega
      have hn1 : n + 1 ≤ maxLen := by simp only [maxLen]; omega
      have hn2 : (n + 1) * 32 ≤ 140737488355328 := by omega
      go_wp2_with (first | (refine wpList_load_mid rfl 23 _ rfl b (off + j * 32) rfl (u.1.map b8) (.array 32 5) hrw (by kernel_rfl) rfl (by rw [List.length_map, hul]; kernel_rfl) ?_) | (refine wpList_build_one rfl u.1 hul _ rfl rfl ?_) | (at_builtin; refine wpList_append_row rfl _ _ 24 24 rfl 23 i0 (.agg zero32) 32 32 (by kernel_rfl) hi hz0 hz1 hz2 rfl (by decide) (O'.row.alloc _) rfl (src_one wr u) rfl hn1 hn2 ?_))
      intro v4 w4 hrow4 hg4 hv4
      obtain ⟨a4, c4, rfl⟩ := hrow4.shape
      have O4 : OwnH r w w4 (.slice a4 (n + 1) c4) (l.drop j).reverse := by
        rw [HU.out.1]
        have := OwnH.push (l := q) HU.out.2.2 (.cells (u.1.map b8).toArray 23) (by rw [HU.out.2.1]; exact hrow4) hg4 (by first | exact hv4 | (rw [alloc_size] at hv4; exact hv4))
        exact this
      have HO := Lib.hid O4
      clear hrow4 hg4 hv4 O' O4 hrw
      go_wp2
      go_roundg j
      case measure => omega
      case rel => exact ⟨a4, c4, n + 1, by omega, by omega, rfl, rfl, HO.out⟩
end Go.Proofs.YtadiijieldldhaaDoor
