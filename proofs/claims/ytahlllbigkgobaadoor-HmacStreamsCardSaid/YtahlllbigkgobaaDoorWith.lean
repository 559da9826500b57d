/-
  The walk of the reference's with (layer 7).
-/
import Derived.Test.YtahlllbigkgobaaDoorNew
namespace Go.Proofs.YtahlllbigkgobaaDoor
open Go.RowKit
attribute [local irreducible] sha compress absorb mac
set_option maxRecDepth 100000 in
set_option maxHeartbeats 4000000 in
theorem with_any (w : World) (k : List B) (hk : k.length = 32) (d : B) (ad : Option Addr) (cd : Nat) (data : List B) (hD : Bts w ad data) (hl : data.length ≤ 1000000) :
    Calls Tryd.prog 31 #[hashv k, b8 d, .slice ad data.length cd] w fun e w' => ∃ v, e = .returned v ∧ OwnB w.heap.size w w' v (k ++ d :: data) := by
  obtain ⟨i0, hi, hz0, hz1, hz2⟩ := info_parts infoU8
  obtain ⟨r, hr⟩ : ∃ r, r = w.heap.size := ⟨_, rfl⟩
  obtain ⟨w1, hw1⟩ : ∃ w1, w1 = w.alloc (.cells (k.map b8).toArray 25) := ⟨_, rfl⟩
  have hB1 : Blk w1 r 25 (k.map b8).toArray := by rw [hw1, hr]; exact Blk.new w _ _
  have F1 : Below r w w1 := by rw [hw1, hr]; exact below_alloc1 _ _
  have hD1 := hD.below F1 (by omega)
  have O1 : OwnB r w w1 (.slice none 0 0) [] := Own.start _ _ F1 (Nat.le_of_lt hB1.lt)
  have hY1 : Bts w1 (some ⟨r, 0, none⟩) k := Bts.of fun j hj => by rw [Nat.zero_add, hB1.cell j]; simp [List.getD, hj]
  have HR := Lib.hid (And.intro hw1 hr)
  clear hw1 hr
  go_enter Tryd.func31, Tryd.ntmps31
  go_upto_region 1 with (fail)
  change Code.wp _ _ _ _ (w.alloc (.cells (k.map b8).toArray 25))
  rw [← HR.out.1, ← HR.out.2]
  have hsrc := hY1.src (P := Tryd.prog) (tx := 22) (e' := 5) (by kernel_rfl) k.length 32 rfl
  rw [hk] at hsrc
  go_wp2_with (at_builtin; refine wpList_append_row rfl _ _ 22 22 rfl 5 i0 (.int .u8 0) 1 1 (by kernel_rfl) hi hz0 hz1 hz2 rfl (by decide) O1.row rfl hsrc rfl (by decide) (by decide) ?_)
  intro v2 w2 hrow2 hg2 hv2
  have hrow2' : Row w2 v2 5 1 (([] : List B).length + k.length) (([] : List B).map b8 ++ k.map b8) := by rw [hk]; exact hrow2
  have O2 : OwnB r w w2 v2 k := OwnB.app (ts := []) (us := k) O1 hrow2' hg2 hv2
  clear hrow2' hrow2 hg2 hv2 O1 hsrc hY1 hB1 F1 hD1
  obtain ⟨a2, c2, rfl, -, -, -, -⟩ := O2.row.bts
  rw [show Value.slice a2 k.length c2 = .slice a2 32 c2 by rw [hk]] at O2 ⊢
  go_wp2_with (at_builtin; refine wpList_append_row rfl _ _ 22 22 rfl 5 i0 (.int .u8 0) 1 1 (by kernel_rfl) hi hz0 hz1 hz2 rfl (by decide) (O2.row.alloc _) rfl ((Bts.one w2 d _ 5 rfl).src (e' := 5) (by kernel_rfl) 1 1 rfl) rfl (by rw [hk]; decide) (by rw [hk]; decide) ?_)
  intro v3 w3 hrow3 hg3 hv3
  have O3 := OwnB.push O2 _ (by rw [hk]; exact hrow3) hg3 hv3
  clear hrow3 hg3 hv3 O2
  obtain ⟨ts, hts⟩ : ∃ ts, ts = k ++ [d] := ⟨_, rfl⟩
  have htl : ts.length = 33 := by rw [hts]; simp [hk]
  rw [← hts] at O3
  have HT := Lib.hid hts
  clear hts
  obtain ⟨a3, c3, rfl, -, -, -, -⟩ := O3.row.bts
  rw [show Value.slice a3 ts.length c3 = .slice a3 33 c3 by rw [htl]] at O3 ⊢
  have hD3 := hD.below O3.bel (by rw [HR.out.2]; exact Nat.le_refl _)
  go_wp2_with (at_builtin; refine wpList_append_row rfl _ _ 22 22 rfl 5 i0 (.int .u8 0) 1 1 (by kernel_rfl) hi hz0 hz1 hz2 rfl (by decide) O3.row rfl (hD3.src (e' := 5) (by kernel_rfl) data.length cd rfl) rfl (by simp only [maxLen]; omega) (by omega) ?_)
  intro v4 w4 hrow4 hg4 hv4
  have hrow4' : Row w4 v4 5 1 (ts.length + data.length) (ts.map b8 ++ data.map b8) := by first | exact hrow4 | (rw [htl]; exact hrow4)
  have O4 := OwnB.app O3 hrow4' hg4 hv4
  clear hrow4 hrow4' hg4 hv4 O3
  go_wp2
  go_ret
  rw [HT.out, HR.out.2, List.append_assoc] at O4
  exact ⟨_, rfl, O4⟩
end Go.Proofs.YtahlllbigkgobaaDoor
