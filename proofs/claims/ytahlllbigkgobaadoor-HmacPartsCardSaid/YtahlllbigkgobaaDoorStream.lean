/-
  The walk of the stream of hashes with a key: turn.
-/
import Derived.Test.YtahlllbigkgobaaDoorLHmac
namespace Go.Proofs.YtahlllbigkgobaaDoor
open Go.RowKit
attribute [local irreducible] sha compress absorb mac
/-- the cells of a stream -/
abbrev scells (k v : List B) (m : Bool) : Array Value := (k.map b8 ++ (v.map b8 ++ [Value.bool m])).toArray
theorem Parts.three {w : World} {ao a1 a2 a3 : Option Addr} {c1 c2 c3 : Nat} {x y z : List B} {b : Nat} (hb : ao = some ⟨b, 0, none⟩) (h1 : w.cell? ⟨b, 0, none⟩ = some (.slice a1 x.length c1)) (h2 : w.cell? ⟨b, 1, none⟩ = some (.slice a2 y.length c2)) (h3 : w.cell? ⟨b, 2, none⟩ = some (.slice a3 z.length c3))
    (hx : Bts w a1 x) (hy : Bts w a2 y) (hz : Bts w a3 z) : Parts w ao [(a1, c1, x), (a2, c2, y), (a3, c3, z)] := by
  refine ⟨.inr ⟨b, 0, hb, fun i h => ?_⟩, fun p hp => ?_⟩
  · have : i = 0 ∨ i = 1 ∨ i = 2 := by simp at h; omega
    rcases this with rfl | rfl | rfl
    · exact h1
    · exact h2
    · exact h3
  · simp only [List.mem_cons, List.not_mem_nil, or_false] at hp
    rcases hp with rfl | rfl | rfl
    · exact hx
    · exact hy
    · exact hz
theorem scells_k {w : World} {b T : Nat} {k v : List B} {m : Bool} (h : Blk w b T (scells k v m)) : Bts w (some ⟨b, 0, none⟩) k := Bts.of fun j hj => by
  rw [Nat.zero_add, h.cell j, List.getElem?_toArray, List.getElem?_append_left (by rw [List.length_map]; exact hj)]
  simp [List.getD, hj]
theorem scells_v {w : World} {b T : Nat} {k v : List B} {m : Bool} (h : Blk w b T (scells k v m)) (hk : k.length = 32) : Bts w (some ⟨b, 32, none⟩) v := Bts.of fun j hj => by
  rw [h.cell (32 + j), List.getElem?_toArray, List.getElem?_append_right (by rw [List.length_map]; omega), List.length_map, hk, Nat.add_sub_cancel_left, List.getElem?_append_left (by rw [List.length_map]; exact hj)]
  simp [List.getD, hj]
theorem scells_setv (k v u : List B) (m : Bool) (hk : k.length = 32) (hv : v.length = 32) : scells k u m = ((scells k v m).toList.take 32 ++ (u.map b8).toArray.toList ++ (scells k v m).toList.drop (32 + 32)).toArray := by
  have h1 : (scells k v m).toList.take 32 = k.map b8 := by simp [hk]
  have h2 : (scells k v m).toList.drop (32 + 32) = [Value.bool m] := by
    show (k.map b8 ++ (v.map b8 ++ [Value.bool m])).drop 64 = _
    rw [← List.append_assoc]
    exact List.drop_left' (by simp [hk, hv])
  rw [h1, h2, List.toList_toArray, List.append_assoc]
theorem Blk.grown_ne {w w' : World} {b T c : Nat} {cs : Array Value} (h : Blk w b T cs) (hg : w.grownBy w' (some c)) (hne : b ≠ c) : Blk w' b T cs := h.grown hg (by intro e; exact hne (Option.some.inj e))
set_option maxRecDepth 100000 in
set_option maxHeartbeats 4000000 in
theorem turn_any (w : World) (hL : Laid w) (b : Nat) (k v : List B) (m : Bool) (hB : Blk w b 58 (scells k v m)) (hk : k.length = 32) (hv : v.length = 32) (hb0 : b ≠ 0) (hb1 : b ≠ 1)
    (d : B) (ad : Option Addr) (cd : Nat) (data : List B) (hD : Bts w ad data) (hdl : data.length ≤ 1000000) :
    Calls Tryd.prog 30 #[.pointer (some ⟨b, 0, none⟩), b8 d, .slice ad data.length cd] w fun e w' => e = .returned (.tuple #[]) ∧
      Blk w' b 58 (scells (mac k (v ++ d :: data)) (mac (mac k (v ++ d :: data)) v) m) ∧ Fr (fun x => x = b) w w' := by
  obtain ⟨K, hK⟩ : ∃ K, K = mac k (v ++ d :: data) := ⟨_, rfl⟩
  have hKl : K.length = 32 := by rw [hK]; exact mac_len _ _
  rw [← hK]
  have HK := Lib.hid hK
  clear hK
  go_enter Tryd.func30, Tryd.ntmps30
  go_upto_region 0 with (fail)
  refine wp_region_N (fun _ => True) [] (by kernel_rfl) ?_
  obtain ⟨wd, hwd⟩ : ∃ wd, wd = w.drew := ⟨_, rfl⟩
  replace hB : Blk wd b 58 (scells k v m) := by rw [hwd]; exact hB
  replace hD : Bts wd ad data := by rw [hwd]; exact hD
  replace hL : Laid wd := by rw [hwd]; exact hL
  have F0 : Fr (fun x => x = b) w wd := by rw [hwd]; exact Fr.drewN (Fr.refl _ _) 1
  rw [← hwd]
  clear hwd
  refine wpAnyN_pureG 0 6 (v := ?_) rfl rfl (by kernel_rfl) (by kernel_rfl) (by kernel_rfl) (fun _ _ _ h => h) rfl (fun w => ?_) ?_
  rotate_left
  · go_simp
    try with_reducible rfl
  refine wpAnyN_pureG 1 7 (v := ?_) rfl rfl (by kernel_rfl) (by kernel_rfl) (by kernel_rfl) (fun _ _ _ h => h) rfl (fun w => ?_) ?_
  rotate_left
  · go_simp
    try with_reducible rfl
  refine wpAnyN_pureG 2 8 (v := ?_) rfl rfl (by kernel_rfl) (by kernel_rfl) (by kernel_rfl) (fun _ _ _ h => h) rfl (fun w => ?_) ?_
  rotate_left
  · go_simp
    try with_reducible rfl
  refine wpAnyN_pureG 3 9 (v := ?_) rfl rfl (by kernel_rfl) (by kernel_rfl) (by kernel_rfl) (fun _ _ _ h => h) rfl (fun w => ?_) ?_
  rotate_left
  · go_simp
    try with_reducible rfl
  refine wpAnyN_pureG 4 10 (v := ?_) rfl rfl (by kernel_rfl) (by kernel_rfl) (by kernel_rfl) (fun _ _ _ h => h) rfl (fun w => ?_) ?_
  rotate_left
  · go_simp
    try with_reducible rfl
  refine wpAnyN_pureG 5 11 (v := ?_) rfl rfl (by kernel_rfl) (by kernel_rfl) (by kernel_rfl) (fun _ _ _ h => h) rfl (fun w => ?_) ?_
  rotate_left
  · go_simp
    try with_reducible rfl
  refine wpAnyN_pureG 6 12 (v := ?_) rfl rfl (by kernel_rfl) (by kernel_rfl) (by kernel_rfl) (fun _ _ _ h => h) rfl (fun w => ?_) ?_
  rotate_left
  · go_simp
    try with_reducible rfl
  refine wpAnyN_pureG 7 13 (v := ?_) rfl rfl (by kernel_rfl) (by kernel_rfl) (by kernel_rfl) (fun _ _ _ h => h) rfl (fun w => ?_) ?_
  rotate_left
  · go_simp
    try with_reducible rfl
  refine wpAnyN_pureG 8 14 (v := ?_) rfl rfl (by kernel_rfl) (by kernel_rfl) (by kernel_rfl) (fun _ _ _ h => h) rfl (fun w => ?_) ?_
  rotate_left
  · go_simp
    try with_reducible rfl
  refine wpAnyN_pureG 9 15 (v := ?_) rfl rfl (by kernel_rfl) (by kernel_rfl) (by kernel_rfl) (fun _ _ _ h => h) rfl (fun w => ?_) ?_
  rotate_left
  · go_simp
    try with_reducible rfl
  refine wpAnyN_pureG 11 17 (v := ?_) rfl rfl (by kernel_rfl) (by kernel_rfl) (by kernel_rfl) (fun _ _ _ h => h) rfl (fun w => ?_) ?_
  rotate_left
  · go_simp
    try with_reducible rfl
  refine wpAnyN_run 10 (some 16) (v := .slice (some ⟨wd.heap.size, 0, none⟩) 1 1) (w' := wd.alloc (.cells #[b8 d] 5)) (by kernel_rfl) rfl rfl rfl ?_ ⟨fun _ _ => trivial, ?_⟩
  · go_simp
  have hsz : b < wd.heap.size := hB.lt
  have W1 := below_alloc1 wd (.cells #[b8 d] 5)
  have hY1 := Bts.one wd d _ 5 rfl
  obtain ⟨we, hwe⟩ : ∃ we, we = wd.alloc (.cells #[b8 d] 5) := ⟨_, rfl⟩
  rw [← hwe] at hY1 W1 ⊢
  have hze : we.heap.size = wd.heap.size + 1 := by rw [hwe, alloc_size]
  obtain ⟨z, hz⟩ : ∃ z, z = wd.heap.size := ⟨_, rfl⟩
  rw [← hz] at hY1 hze hsz W1 ⊢
  have hB1 := hB.below W1 hsz
  have hL1 := hL.below W1 (by omega)
  have hD1 := hD.below W1 (by omega)
  have F1 := F0.below W1 (fun x hx hle => by have := F0.size; omega)
  clear hwe hB hL hD F0 W1 hz
  clear wd
  refine wpAnyN_run 12 (some 18) (v := .slice (some ⟨we.heap.size, 0, none⟩) 3 3) (w' := we.alloc (.cells #[.slice (some ⟨b, 32, none⟩) 32 32, .slice (some ⟨z, 0, none⟩) 1 1, .slice ad data.length cd] 22)) (by kernel_rfl) rfl rfl rfl ?_ ⟨fun _ _ => trivial, ?_⟩
  · go_simp
  have W2 := below_alloc1 we (.cells #[.slice (some ⟨b, 32, none⟩) 32 32, .slice (some ⟨z, 0, none⟩) 1 1, .slice ad data.length cd] 22)
  have hC := Blk.new we #[.slice (some ⟨b, 32, none⟩) 32 32, .slice (some ⟨z, 0, none⟩) 1 1, .slice ad data.length cd] 22
  obtain ⟨wf, hwf⟩ : ∃ wf, wf = we.alloc (.cells #[.slice (some ⟨b, 32, none⟩) 32 32, .slice (some ⟨z, 0, none⟩) 1 1, .slice ad data.length cd] 22) := ⟨_, rfl⟩
  rw [← hwf] at hC W2 ⊢
  have hB2 := hB1.below W2 hB1.lt
  have hL2 := hL1.below W2 (Nat.le_refl _)
  have hD2 := hD1.below W2 (Nat.le_refl _)
  have hY2 := hY1.below W2 (Nat.le_refl _)
  have F2 := F1.below W2 (fun x hx hle => by have := F1.size; omega)
  obtain ⟨y, hy⟩ : ∃ y, y = we.heap.size := ⟨_, rfl⟩
  rw [← hy] at hC ⊢
  clear hwf hB1 hL1 hD1 hY1 F1 W2 hy
  have hP : Parts wf (some ⟨y, 0, none⟩) [(some ⟨b, 32, none⟩, 32, v), (some ⟨z, 0, none⟩, 1, [d]), (ad, cd, data)] :=
    Parts.three rfl (by rw [hv]; exact hC.cell 0) (hC.cell 1) (hC.cell 2) (scells_v hB2 hk) hY2 hD2
  have hc : cat [(some (⟨b, 32, none⟩ : Addr), 32, v), (some ⟨z, 0, none⟩, 1, [d]), (ad, cd, data)] = v ++ d :: data := by simp [cat]
  have h1 := mac_any wf hL2 (some ⟨b, 0, none⟩) 32 k (scells_k hB2) (some ⟨y, 0, none⟩) 3 _ hP (by omega) (by rw [hc, List.length_append, List.length_cons]; omega) (by simp)
  rw [hc, hk, ← HK.out] at h1
  refine wpAnyN_call 13 19 (some 19) [.tmp 10, .tmp 18] [.slice (some ⟨b, 0, none⟩) 32 32, .slice (some ⟨y, 0, none⟩) 3 3] (by kernel_rfl) rfl rfl rfl rfl (by go_simp) Tryd.call19 ?_
  refine h1.mono ?_
  rintro e wg ⟨rfl, W3⟩
  refine ⟨_, rfl, fun _ _ => trivial, ?_⟩
  have hB3 := hB2.below W3 hB2.lt
  have hL3 := hL2.below W3 (Nat.le_refl _)
  have F3 := F2.below W3 (fun x hx hle => by have := F2.size; omega)
  clear h1 hP hc hC hB2 hL2 hD2 hY2 F2 W3 hze hsz
  clear wf we
  refine wpAnyN_pureG 14 20 (v := ?_) rfl rfl (by kernel_rfl) (by kernel_rfl) (by kernel_rfl) (fun _ _ _ h => h) rfl (fun w => ?_) ?_
  rotate_left
  · go_simp
    try with_reducible rfl
  refine wpAnyN_pureG 15 21 (v := ?_) rfl rfl (by kernel_rfl) (by kernel_rfl) (by kernel_rfl) (fun _ _ _ h => h) rfl (fun w => ?_) ?_
  rotate_left
  · go_simp
    try with_reducible rfl
  refine wpAnyN_store_blk 16 25 (.tmp 21) (.tmp 19) (by kernel_rfl) rfl rfl rfl rfl hB3 0 (K.map b8).toArray (by go_simp) (by go_simp) 32 (by kernel_rfl) (by simp [hKl]) (by simp [hk, hv]) (by rw [List.toList_toArray]; exact b8_one _) (scells K v m) (by simp [scells, hk]) ?_
  intro wh hB4 hg4
  have hL4 := hL3.fr ((Fr.refl (fun x => x = b) wg).grown hg4 (fun x _ e => Option.some.inj e)) (Ne.symm hb0) (Ne.symm hb1)
  have F4 := F3.grown hg4 (fun x _ e => Option.some.inj e)
  refine ⟨fun _ _ => trivial, wpAnyN_done (by kernel_rfl) ?_⟩
  clear hg4 F3 hB3 hL3
  clear wg
  simp only [Act.put, List.setIfInBounds_toArray, List.set_cons_succ, List.set_cons_zero]
  go_upto_region 1 with (fail)
  refine wp_region_N (fun _ => True) [] (by kernel_rfl) ?_
  obtain ⟨wd, hwd⟩ : ∃ wd, wd = wh.drew := ⟨_, rfl⟩
  replace hB : Blk wd b 58 (scells K v m) := by rw [hwd]; exact hB4
  replace hL : Laid wd := by rw [hwd]; exact hL4
  have F0 : Fr (fun x => x = b) w wd := by rw [hwd]; exact Fr.drewN F4 1
  rw [← hwd]
  clear hwd hL4 F4 hB4
  clear wh
  refine wpAnyN_pureG 0 22 (v := ?_) rfl rfl (by kernel_rfl) (by kernel_rfl) (by kernel_rfl) (fun _ _ _ h => h) rfl (fun w => ?_) ?_
  rotate_left
  · go_simp
    try with_reducible rfl
  refine wpAnyN_pureG 1 23 (v := ?_) rfl rfl (by kernel_rfl) (by kernel_rfl) (by kernel_rfl) (fun _ _ _ h => h) rfl (fun w => ?_) ?_
  rotate_left
  · go_simp
    try with_reducible rfl
  refine wpAnyN_pureG 2 24 (v := ?_) rfl rfl (by kernel_rfl) (by kernel_rfl) (by kernel_rfl) (fun _ _ _ h => h) rfl (fun w => ?_) ?_
  rotate_left
  · go_simp
    try with_reducible rfl
  refine wpAnyN_pureG 3 25 (v := ?_) rfl rfl (by kernel_rfl) (by kernel_rfl) (by kernel_rfl) (fun _ _ _ h => h) rfl (fun w => ?_) ?_
  rotate_left
  · go_simp
    try with_reducible rfl
  refine wpAnyN_pureG 4 26 (v := ?_) rfl rfl (by kernel_rfl) (by kernel_rfl) (by kernel_rfl) (fun _ _ _ h => h) rfl (fun w => ?_) ?_
  rotate_left
  · go_simp
    try with_reducible rfl
  refine wpAnyN_pureG 5 27 (v := ?_) rfl rfl (by kernel_rfl) (by kernel_rfl) (by kernel_rfl) (fun _ _ _ h => h) rfl (fun w => ?_) ?_
  rotate_left
  · go_simp
    try with_reducible rfl
  refine wpAnyN_pureG 6 28 (v := ?_) rfl rfl (by kernel_rfl) (by kernel_rfl) (by kernel_rfl) (fun _ _ _ h => h) rfl (fun w => ?_) ?_
  rotate_left
  · go_simp
    try with_reducible rfl
  refine wpAnyN_pureG 7 29 (v := ?_) rfl rfl (by kernel_rfl) (by kernel_rfl) (by kernel_rfl) (fun _ _ _ h => h) rfl (fun w => ?_) ?_
  rotate_left
  · go_simp
    try with_reducible rfl
  refine wpAnyN_pureG 8 30 (v := ?_) rfl rfl (by kernel_rfl) (by kernel_rfl) (by kernel_rfl) (fun _ _ _ h => h) rfl (fun w => ?_) ?_
  rotate_left
  · go_simp
    try with_reducible rfl
  refine wpAnyN_run 9 (some 31) (v := .slice (some ⟨wd.heap.size, 0, none⟩) 1 1) (w' := wd.alloc (.cells #[.slice (some ⟨b, 32, none⟩) 32 32] 22)) (by kernel_rfl) rfl rfl rfl ?_ ⟨fun _ _ => trivial, ?_⟩
  · go_simp
  have h1 := mac_one_any (cp := 32) (cm := 32) wd hL (scells_k hB) (scells_v hB hKl) (by omega) (by omega)
  rw [hKl, hv] at h1
  obtain ⟨V, hV⟩ : ∃ V, V = mac K v := ⟨_, rfl⟩
  have hVl : V.length = 32 := by rw [hV]; exact mac_len _ _
  rw [← hV] at h1
  have HV := Lib.hid hV
  clear hV
  refine wpAnyN_call 10 19 (some 32) [.tmp 26, .tmp 31] [.slice (some ⟨b, 0, none⟩) 32 32, .slice (some ⟨wd.heap.size, 0, none⟩) 1 1] (by kernel_rfl) rfl rfl rfl rfl (by go_simp) Tryd.call19 ?_
  refine h1.mono ?_
  rintro e wg ⟨rfl, W3⟩
  refine ⟨_, rfl, fun _ _ => trivial, ?_⟩
  have hB5 := hB.below W3 hB.lt
  have F3 := F0.below W3 (fun x hx hle => by have := F0.size; omega)
  clear h1 hB hL F0 W3
  refine wpAnyN_pureG 11 33 (v := ?_) rfl rfl (by kernel_rfl) (by kernel_rfl) (by kernel_rfl) (fun _ _ _ h => h) rfl (fun w => ?_) ?_
  rotate_left
  · go_simp
    try with_reducible rfl
  refine wpAnyN_pureG 12 34 (v := ?_) rfl rfl (by kernel_rfl) (by kernel_rfl) (by kernel_rfl) (fun _ _ _ h => h) rfl (fun w => ?_) ?_
  rotate_left
  · go_simp
    try with_reducible rfl
  refine wpAnyN_store_blk 13 25 (.tmp 34) (.tmp 32) (by kernel_rfl) rfl rfl rfl rfl hB5 32 (V.map b8).toArray (by go_simp) (by go_simp) 32 (by kernel_rfl) (by simp [hVl]) (by simp [hKl, hv]) (by rw [List.toList_toArray]; exact b8_one _) (scells K V m) (scells_setv K v V m hKl hv) ?_
  intro wh hB6 hg4
  have F4 := F3.grown hg4 (fun x _ e => Option.some.inj e)
  refine ⟨fun _ _ => trivial, wpAnyN_done (by kernel_rfl) ?_⟩
  clear hg4 F3 hB5
  clear wg
  simp only [Act.put, List.setIfInBounds_toArray, List.set_cons_succ, List.set_cons_zero]
  go_wp2
  refine ⟨rfl, .tuple #[], results_nil Tryd.results30 _ _, rfl, by rw [← HV.out]; exact hB6, F4⟩
end Go.Proofs.YtahlllbigkgobaaDoor
