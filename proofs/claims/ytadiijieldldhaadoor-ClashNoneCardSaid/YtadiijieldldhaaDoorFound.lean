/-
  Steps of a proof in memory, the text of a pair, bytes compared; the first step, from the top down, that differs: clash.found.
-/
import Derived.Test.YtadiijieldldhaaDoorRef16
import Derived.Test.YtadiijieldldhaaDoorConcat
import Derived.Test.YtadiijieldldhaaDoorPlace
import Derived.Test.YtadiijieldldhaaDoorRefRoot
namespace Go.Proofs.YtadiijieldldhaaDoor
open Go Go.RowKit
attribute [local irreducible] sha
abbrev Pr := Hs × Hs
abbrev Stp := Pr × Pr
def pairB (p : Pr) : List B := p.1.1 ++ p.2.1
theorem pairB_len (p : Pr) : (pairB p).length = 64 := by simp [pairB, p.1.2, p.2.2]
abbrev pval (p : Pr) : Value := hashv (pairB p)
def stB (s : Stp) : List B := pairB s.1 ++ pairB s.2
theorem stB_len (s : Stp) : (stB s).length = 128 := by simp [stB, pairB_len]
abbrev sval (s : Stp) : Value := hashv (stB s)
def flatS (l : List Stp) : List B := l.flatMap stB
theorem flatS_cons (s : Stp) (l : List Stp) : flatS (s :: l) = stB s ++ flatS l := rfl
theorem flatS_append (a b : List Stp) : flatS (a ++ b) = flatS a ++ flatS b := List.flatMap_append
theorem flatS_one (s : Stp) : flatS [s] = stB s := by simp [flatS]
theorem flatS_len (l : List Stp) : (flatS l).length = l.length * 128 := by
  induction l with
  | nil => rfl
  | cons s l ih => rw [flatS_cons, List.length_append, ih, stB_len, List.length_cons]; omega
abbrev zero64 : Array Value := #[.int .u8 0, .int .u8 0, .int .u8 0, .int .u8 0, .int .u8 0, .int .u8 0, .int .u8 0, .int .u8 0, .int .u8 0, .int .u8 0, .int .u8 0, .int .u8 0, .int .u8 0, .int .u8 0, .int .u8 0, .int .u8 0, .int .u8 0, .int .u8 0, .int .u8 0, .int .u8 0, .int .u8 0, .int .u8 0, .int .u8 0, .int .u8 0, .int .u8 0, .int .u8 0, .int .u8 0, .int .u8 0, .int .u8 0, .int .u8 0, .int .u8 0, .int .u8 0, .int .u8 0, .int .u8 0, .int .u8 0, .int .u8 0, .int .u8 0, .int .u8 0, .int .u8 0, .int .u8 0, .int .u8 0, .int .u8 0, .int .u8 0, .int .u8 0, .int .u8 0, .int .u8 0, .int .u8 0, .int .u8 0, .int .u8 0, .int .u8 0, .int .u8 0, .int .u8 0, .int .u8 0, .int .u8 0, .int .u8 0, .int .u8 0, .int .u8 0, .int .u8 0, .int .u8 0, .int .u8 0, .int .u8 0, .int .u8 0, .int .u8 0, .int .u8 0]
abbrev zero128 : Array Value := #[.int .u8 0, .int .u8 0, .int .u8 0, .int .u8 0, .int .u8 0, .int .u8 0, .int .u8 0, .int .u8 0, .int .u8 0, .int .u8 0, .int .u8 0, .int .u8 0, .int .u8 0, .int .u8 0, .int .u8 0, .int .u8 0, .int .u8 0, .int .u8 0, .int .u8 0, .int .u8 0, .int .u8 0, .int .u8 0, .int .u8 0, .int .u8 0, .int .u8 0, .int .u8 0, .int .u8 0, .int .u8 0, .int .u8 0, .int .u8 0, .int .u8 0, .int .u8 0, .int .u8 0, .int .u8 0, .int .u8 0, .int .u8 0, .int .u8 0, .int .u8 0, .int .u8 0, .int .u8 0, .int .u8 0, .int .u8 0, .int .u8 0, .int .u8 0, .int .u8 0, .int .u8 0, .int .u8 0, .int .u8 0, .int .u8 0, .int .u8 0, .int .u8 0, .int .u8 0, .int .u8 0, .int .u8 0, .int .u8 0, .int .u8 0, .int .u8 0, .int .u8 0, .int .u8 0, .int .u8 0, .int .u8 0, .int .u8 0, .int .u8 0, .int .u8 0, .int .u8 0, .int .u8 0, .int .u8 0, .int .u8 0, .int .u8 0, .int .u8 0, .int .u8 0, .int .u8 0, .int .u8 0, .int .u8 0, .int .u8 0, .int .u8 0, .int .u8 0, .int .u8 0, .int .u8 0, .int .u8 0, .int .u8 0, .int .u8 0, .int .u8 0, .int .u8 0, .int .u8 0, .int .u8 0, .int .u8 0, .int .u8 0, .int .u8 0, .int .u8 0, .int .u8 0, .int .u8 0, .int .u8 0, .int .u8 0, .int .u8 0, .int .u8 0, .int .u8 0, .int .u8 0, .int .u8 0, .int .u8 0, .int .u8 0, .int .u8 0, .int .u8 0, .int .u8 0, .int .u8 0, .int .u8 0, .int .u8 0, .int .u8 0, .int .u8 0, .int .u8 0, .int .u8 0, .int .u8 0, .int .u8 0, .int .u8 0, .int .u8 0, .int .u8 0, .int .u8 0, .int .u8 0, .int .u8 0, .int .u8 0, .int .u8 0, .int .u8 0, .int .u8 0, .int .u8 0, .int .u8 0, .int .u8 0, .int .u8 0, .int .u8 0]
theorem pairU : ∃ fs, Tryd.prog.underlying 70 = some (.struct fs) := isStruct_spec (by kernel_rfl)
theorem stepU : ∃ fs, Tryd.prog.underlying 72 = some (.struct fs) := isStruct_spec (by kernel_rfl)
set_option maxRecDepth 100000 in
theorem infoSt : (Tryd.prog.info? 72).map (fun i => (i.zero, i.size, i.bytes)) = some (some (.agg zero128), 128, 128) := by kernel_rfl
theorem Own.rebase {r r' : Nat} {w wd wr : World} {e sz : Nat} {v : Value} {n : Nat} {xs : List Value} (h : Own r' wd wr e sz v n xs) (F : Below r w wd) (hr : r ≤ r') : Own r w wr e sz v n xs :=
  ⟨h.row, fun g e => Nat.le_trans hr (h.own g e), F.trans (h.bel.mono hr), Nat.le_trans hr h.le⟩
abbrev OwnS (r : Nat) (w wr : World) (v : Value) (l : List Stp) : Prop := Own r w wr 72 128 v l.length ((flatS l).map b8)
theorem OwnS.push {r : Nat} {w wr w' : World} {v v' : Value} {l : List Stp} {u : Stp} (h : OwnS r w wr v l) (o : Obj) (hrow : Row w' v' 72 128 (l.length + 1) ((flatS l).map b8 ++ (stB u).map b8)) (hg : (wr.alloc o).grownBy w' v.ownBlock)
    (hv : v'.ownBlock = v.ownBlock ∨ v'.ownBlock = some (wr.heap.size + 1) ∧ wr.heap.size + 1 < w'.heap.size) : OwnS r w w' v' (l ++ [u]) := by
  have := Own.push h o hrow hg hv
  unfold OwnS
  rw [List.length_append, flatS_append, flatS_one, List.map_append]; exact this
/-- the one step that a new block holds, as the source of append -/
theorem src_step (w : World) (s : Stp) : Src Tryd.prog 128 60 (.slice (some ⟨w.heap.size, 0, none⟩) 1 1) 1 ((stB s).map b8) (w.alloc (.cells ((stB s).map b8).toArray 72)) :=
  Src.ofSlice _ (e' := 72) (by kernel_rfl) ⟨w.heap.size, 0, none⟩ 1 1 ((stB s).map b8) (by simp [stB_len]) (fun j x hx => by
    rw [Addr.add_lit, Nat.zero_add, (Blk.new w ((stB s).map b8).toArray 72).cell j]; simpa using hx) (b8_one _)
theorem fold_at (vs : List Value) : ∀ (k : Nat) (pre mid post : List Value), pre.length = k → mid.length = vs.length → vs.zipIdx.foldl (fun cs x => cs.setIfInBounds (k + x.snd) x.fst) (pre ++ mid ++ post).toArray = (pre ++ vs ++ post).toArray := by
  suffices H : ∀ (vs : List Value) (j k : Nat) (pre mid post : List Value), pre.length = k + j → mid.length = vs.length → (vs.zipIdx j).foldl (fun cs x => cs.setIfInBounds (k + x.snd) x.fst) (pre ++ mid ++ post).toArray = (pre ++ vs ++ post).toArray from
    fun k pre mid post h1 h2 => H vs 0 k pre mid post h1 h2
  intro vs
  induction vs with
  | nil => intro j k pre mid post _ h; obtain rfl := List.eq_nil_of_length_eq_zero h; rfl
  | cons v vs ih =>
    intro j k pre mid post hp h
    cases mid with
    | nil => cases h
    | cons m mid =>
      rw [List.zipIdx_cons, List.foldl_cons]
      have := ih (j + 1) k (pre ++ [v]) mid post (by rw [List.length_append, List.length_singleton, hp]; omega) (by simpa using h)
      rw [List.append_assoc pre [v] vs, List.singleton_append] at this
      rw [← this]
      congr 1
      simp [← hp]
theorem fold_two (n k : Nat) (A : Array Value) (xs ys : List Value) (hx : xs.length = n) (hy : ys.length = k) (hA : A.size = n + k) :
    ys.zipIdx.foldl (fun cs x => cs.setIfInBounds (n + x.snd) x.fst) (xs.zipIdx.foldl (fun cs x => cs.setIfInBounds x.snd x.fst) A) = (xs ++ ys).toArray := by
  have h1 := fold_at xs 0 [] (A.toList.take n) (A.toList.drop n) rfl (by rw [List.length_take, Array.length_toList]; omega)
  simp only [Nat.zero_add, List.nil_append, List.take_append_drop] at h1
  have h2 := fold_at ys n xs (A.toList.drop n) [] hx (by rw [List.length_drop, Array.length_toList]; omega)
  rw [List.append_nil, List.append_nil] at h2
  rw [← h2, ← h1]
theorem fold_one_size (A : Array Value) (xs : List Value) : (xs.zipIdx.foldl (fun cs x => cs.setIfInBounds x.snd x.fst) A).size = A.size := by
  suffices H : ∀ (l : List (Value × Nat)) (A : Array Value), (l.foldl (fun cs x => cs.setIfInBounds x.snd x.fst) A).size = A.size from H _ A
  intro l
  induction l with
  | nil => intro A; rfl
  | cons x l ih => intro A; rw [List.foldl_cons, ih, Array.size_setIfInBounds]
theorem run_build_pair (w : World) (p : Pr) (a : Act) (o : Oper) (x y : Operand) (ho : o.op = .build 70 #[(0, x), (1, y)]) (hx : a.eval x = hval p.1) (hy : a.eval y = hval p.2) :
    (execOp a.eval o).run Tryd.prog w = .ok (.value (pval p)) w := by
  generalize a.eval = ev at hx hy ⊢
  obtain ⟨fs, hfs⟩ := pairU
  have h1 := p.1.2
  have h2 := p.2.2
  have hsz := fun A => fold_one_size A (p.1.1.map b8)
  have hf := fun A => fold_two 32 32 A (p.1.1.map b8) (p.2.1.map b8) (by simp [h1]) (by simp [h2])
  unfold execOp
  simp only [ho]
  go_simp
  simp [pairB]
theorem run_build_step (w : World) (s : Stp) (a : Act) (o : Oper) (x y : Operand) (ho : o.op = .build 72 #[(0, x), (1, y)]) (hx : a.eval x = pval s.1) (hy : a.eval y = pval s.2) :
    (execOp a.eval o).run Tryd.prog w = .ok (.value (sval s)) w := by
  generalize a.eval = ev at hx hy ⊢
  obtain ⟨fs, hfs⟩ := stepU
  have h1 := pairB_len s.1
  have h2 := pairB_len s.2
  have hsz := fun A => fold_one_size A ((pairB s.1).map b8)
  have hf := fun A => fold_two 64 64 A ((pairB s.1).map b8) ((pairB s.2).map b8) (by simp [h1]) (by simp [h2])
  unfold execOp
  simp only [ho]
  go_simp
  simp [stB]
theorem run_build_steps (w : World) (s : Stp) (a : Act) (o : Oper) (y : Operand) (ho : o.op = .buildSlice 60 1 #[(0, y)]) (hy : a.eval y = sval s) :
    (execOp a.eval o).run Tryd.prog w = .ok (.value (.slice (some ⟨w.heap.size, 0, none⟩) 1 1)) (w.alloc (.cells ((stB s).map b8).toArray 72)) := by
  generalize a.eval = ev at hy ⊢
  have h1 := stB_len s
  have hf : ∀ A : Array Value, A.size = 128 → ((stB s).map b8).zipIdx.foldl (fun cs x => cs.setIfInBounds x.snd x.fst) A = ((stB s).map b8).toArray := fun A hA => fold_set _ A (by simp [h1, hA])
  unfold execOp
  simp only [ho]
  go_simp
theorem run_zero_pair (w : World) (a : Act) (o : Oper) (ho : o.op = .build 70 #[]) : (execOp a.eval o).run Tryd.prog w = .ok (.value (.agg zero64)) w := by
  generalize a.eval = ev
  obtain ⟨fs, hfs⟩ := pairU
  unfold execOp
  simp only [ho]
  go_simp
theorem bts_mid {w : World} {b T o : Nat} {cs : Array Value} {xs : List B} (h : Blk w b T cs) (hm : ∀ j, j < xs.length → cs[o + j]? = some (b8 (xs.getD j 0))) : Bts w (some ⟨b, o, none⟩) xs := Bts.of fun j hj => by
  rw [h.cell]; exact hm j hj
set_option maxRecDepth 100000 in
set_option maxHeartbeats 4000000 in
theorem ptext_any (w : World) (p : Pr) : Calls Tryd.prog 49 #[pval p] w fun e w' => ∃ v, e = .returned v ∧ OwnB w.heap.size w w' v (textH p.1 p.2) := by
  obtain ⟨fs, hfs⟩ := pairU
  obtain ⟨r, hr⟩ : ∃ r, r = w.heap.size := ⟨_, rfl⟩
  obtain ⟨w1, hw1⟩ : ∃ w1, w1 = w.alloc (.cells ((pairB p).map b8).toArray 70) := ⟨_, rfl⟩
  have F1 : Below r w w1 := by rw [hw1, hr]; exact below_alloc1 _ _
  have hA1 : Blk w1 r 70 ((pairB p).map b8).toArray := by rw [hw1, hr]; exact Blk.new w _ _
  have hs1 : w1.heap.size = r + 1 := by rw [hw1, alloc_size, hr]
  have HR := Lib.hid (And.intro hw1 hr)
  clear hw1 hr
  have hal := p.1.2
  have hbl := p.2.2
  have hpl := pairB_len p
  obtain ⟨ts, hts⟩ : ∃ ts, ts = textH p.1 p.2 := ⟨_, rfl⟩
  have htl : ts.length = 65 := by rw [hts]; exact textH_len _ _
  rw [← hts]
  have HT := Lib.hid hts
  clear hts
  go_enter Tryd.func49, Tryd.ntmps49
  go_upto_region 1 with (fail)
  change Code.wp _ _ _ _ (w.alloc (.cells ((pairB p).map b8).toArray 70))
  rw [← HR.out.1, ← HR.out.2]
  replace HR := Lib.hid HR.out.2
  refine wp_region_N (fun _ => True) [] (by kernel_rfl) ?_
  obtain ⟨wd, hwd⟩ : ∃ wd, wd = w1.drew := ⟨_, rfl⟩
  replace hA1 : Blk wd r 70 ((pairB p).map b8).toArray := by rw [hwd]; exact hA1
  replace F1 : Below r w wd := by rw [hwd]; exact F1.drew
  replace hs1 : wd.heap.size = r + 1 := by rw [hwd]; exact hs1
  rw [← hwd]
  clear hwd
  clear w1
  refine wpAnyN_pureG 1 4 (v := ?_) rfl rfl (by kernel_rfl) (by kernel_rfl) (by kernel_rfl) (fun _ _ _ h => h) rfl (fun w => ?_) ?_
  rotate_left
  · go_simp
    try with_reducible rfl
  refine wpAnyN_pureG 3 6 (v := ?_) rfl rfl (by kernel_rfl) (by kernel_rfl) (by kernel_rfl) (fun _ _ _ h => h) rfl (fun w => ?_) ?_
  rotate_left
  · go_simp
    try with_reducible rfl
  simp only [Act.put, List.setIfInBounds_toArray, List.set_cons_succ, List.set_cons_zero]
  refine wpAnyN_pureG 2 5 (v := ?_) rfl rfl (by kernel_rfl) (by kernel_rfl) (by kernel_rfl) (fun _ _ _ h => h) rfl (fun w => ?_) ?_
  rotate_left
  · go_simp
    try with_reducible rfl
  refine wpAnyN_pureG 4 7 (v := ?_) rfl rfl (by kernel_rfl) (by kernel_rfl) (by kernel_rfl) (fun _ _ _ h => h) rfl (fun w => ?_) ?_
  rotate_left
  · go_simp
    try with_reducible rfl
  simp only [Act.put, List.setIfInBounds_toArray, List.set_cons_succ, List.set_cons_zero]
  refine wpAnyN_run 0 (some 3) (v := .slice (some ⟨wd.heap.size, 0, none⟩) 1 1) (w' := wd.alloc (.cells #[b8 1] 5)) (by kernel_rfl) rfl rfl rfl ?_ ⟨fun _ _ => trivial, ?_⟩
  · go_simp; rfl
  have W1 := below_alloc1 wd (.cells #[b8 1] 5)
  have hY1 := Bts.one wd 1 _ 5 rfl
  obtain ⟨we, hwe⟩ : ∃ we, we = wd.alloc (.cells #[b8 1] 5) := ⟨_, rfl⟩
  rw [← hwe] at hY1 W1 ⊢
  have hze : we.heap.size = r + 2 := by rw [hwe, alloc_size, hs1]
  have hA2 := hA1.below W1 hA1.lt
  have F2 := F1.trans (W1.mono (by omega))
  rw [hs1] at hY1 ⊢
  clear hwe hA1 F1 W1 hs1
  clear wd
  simp only [Act.put, List.setIfInBounds_toArray, List.set_cons_succ, List.set_cons_zero]
  refine wpAnyN_run 5 (some 8) (v := .slice (some ⟨we.heap.size, 0, none⟩) 3 3) (w' := we.alloc (.cells #[.slice (some ⟨r + 1, 0, none⟩) 1 1, .slice (some ⟨r, 0, none⟩) 32 32, .slice (some ⟨r, 32, none⟩) 32 32] 34)) (by kernel_rfl) rfl rfl rfl ?_ ⟨fun _ _ => trivial, ?_⟩
  · go_simp
  have W2 := below_alloc1 we (.cells #[.slice (some ⟨r + 1, 0, none⟩) 1 1, .slice (some ⟨r, 0, none⟩) 32 32, .slice (some ⟨r, 32, none⟩) 32 32] 34)
  have hC := Blk.new we #[.slice (some ⟨r + 1, 0, none⟩) 1 1, .slice (some ⟨r, 0, none⟩) 32 32, .slice (some ⟨r, 32, none⟩) 32 32] 34
  obtain ⟨wf, hwf⟩ : ∃ wf, wf = we.alloc (.cells #[.slice (some ⟨r + 1, 0, none⟩) 1 1, .slice (some ⟨r, 0, none⟩) 32 32, .slice (some ⟨r, 32, none⟩) 32 32] 34) := ⟨_, rfl⟩
  rw [← hwf] at hC W2 ⊢
  have hA3 := hA2.below W2 hA2.lt
  have hY3 := hY1.below W2 (Nat.le_refl _)
  have F3 := F2.trans (W2.mono (by omega))
  have hX : Bts wf (some ⟨r, 0, none⟩) p.1.1 := bts_mid hA3 fun j hj => by
    rw [Nat.zero_add, List.getElem?_toArray, List.getElem?_map, pairB, List.getElem?_append_left hj]; simp [List.getD, hj]
  have hZ : Bts wf (some ⟨r, 32, none⟩) p.2.1 := bts_mid hA3 fun j hj => by
    rw [List.getElem?_toArray, List.getElem?_map, pairB, List.getElem?_append_right (by omega), hal, Nat.add_sub_cancel_left]; simp [List.getD, hj]
  have hP : Parts wf (some ⟨we.heap.size, 0, none⟩) [(some ⟨r + 1, 0, none⟩, 1, [1]), (some ⟨r, 0, none⟩, 32, p.1.1), (some ⟨r, 32, none⟩, 32, p.2.1)] :=
    Parts.three' rfl (hC.cell 0) (by rw [hal]; exact hC.cell 1) (by rw [hbl]; exact hC.cell 2) hY3 hX hZ
  have hcat : cat [(some (⟨r + 1, 0, none⟩ : Addr), 1, ([1] : List B)), (some ⟨r, 0, none⟩, 32, p.1.1), (some ⟨r, 32, none⟩, 32, p.2.1)] = ts := by rw [HT.out]; simp [cat, textH]
  have h1 := concat_any (some ⟨we.heap.size, 0, none⟩) 3 _ wf hP (by rw [hcat]; omega) (by simp)
  rw [hcat] at h1
  refine wpAnyN_call 6 60 (some 9) [.tmp 8] [.slice (some ⟨we.heap.size, 0, none⟩) 3 3] (by kernel_rfl) rfl rfl rfl rfl (by go_simp) Tryd.call60 ?_
  refine h1.mono ?_
  rintro e wg ⟨v, rfl, O⟩
  have O4 : OwnB r w wg v ts := Own.rebase O F3 (by have := W2.size; omega)
  refine ⟨_, rfl, fun _ _ => trivial, ?_⟩
  clear h1 hcat hP hY3 hA3 F3 hC W2 hwf hY1 hA2 F2 hze O hX hZ
  refine wpAnyN_pureG 7 2 (v := ?_) rfl rfl (by kernel_rfl) (by kernel_rfl) (by kernel_rfl) (fun _ _ _ h => h) rfl (fun w => ?_) ?_
  rotate_left
  · go_simp
    try with_reducible rfl
  refine wpAnyN_done (by kernel_rfl) ?_
  simp only [Act.put, List.setIfInBounds_toArray, List.set_cons_succ, List.set_cons_zero]
  rw [HR.out] at O4
  go_wp2
  go_ret
  exact ⟨_, rfl, O4⟩
def twoFields (ty o2 : Nat) : List Field → Bool
  | [f1, f2] => f1.name != "_" && f2.name != "_" && f1.type == ty && f2.type == ty && f1.offset == 0 && f2.offset == o2
  | _ => false
theorem twoFields_spec {ty o2 : Nat} {l : List Field} (h : twoFields ty o2 l = true) : ∃ f1 f2 : Field, l = [f1, f2] ∧ f1.name ≠ "_" ∧ f2.name ≠ "_" ∧ f1.type = ty ∧ f2.type = ty ∧ f1.offset = 0 ∧ f2.offset = o2 := by
  match l with
  | [f1, f2] =>
    simp only [twoFields, Bool.and_eq_true, bne_iff_ne, beq_iff_eq] at h
    exact ⟨f1, f2, rfl, h.1.1.1.1.1, h.1.1.1.1.2, h.1.1.1.2, h.1.1.2, h.1.2, h.2⟩
  | [] => cases h
  | [_] => cases h
  | _ :: _ :: _ :: _ => cases h
theorem eq_hash_at (d : Nat) (xs ys : List B) (hx : xs.length = 32) (hy : ys.length = 32) (w : World) :
    (Op.equalIn (d + 2) 23 (.agg (xs.map b8).toArray) (.agg (ys.map b8).toArray)).run Tryd.prog w = .ok (xs == ys) w := by
  have h := run_equalIn_bytes (P := Tryd.prog) w d 23 5 32 (by kernel_rfl) (by kernel_rfl) (fun w => by kernel_rfl) (xs.map UInt8.ofBitVec) (ys.map UInt8.ofBitVec) (by simpa using hx) (by simpa using hy)
  rw [map_cell, map_cell, beq_u8] at h
  exact h
theorem part_hash (l : List B) (o : Nat) (x : List B) (h : (l.drop o).take 32 = x) (w : World) : (part 23 (l.map b8).toArray o).run Tryd.prog w = .ok (hashv x) w := by
  subst h
  have h1 : (isAgg 23).run Tryd.prog w = .ok true w := by go_simp
  have h2 : (sizeOf 23).run Tryd.prog w = .ok 32 w := by go_simp
  unfold part
  simp only [Sem.run_bind, h1, h2, Result.andThen_ok, if_true, Sem.run_pure]
  congr 2
  simp [List.map_take, List.map_drop]
theorem eq_pair_at (d : Nat) (p q : Pr) (w : World) : (Op.eqFields (d + 2) ((pairB p).map b8).toArray ((pairB q).map b8).toArray (Tryd.prog.fieldsOf 70).toList).run Tryd.prog w = .ok (p.1.1 == q.1.1 && p.2.1 == q.2.1) w := by
  have hF : twoFields 23 32 (Tryd.prog.fieldsOf 70).toList = true := by kernel_rfl
  obtain ⟨f1, f2, h, h1, h2, h3, h4, h5, h6⟩ := twoFields_spec hF
  rw [h]
  have a1 := p.1.2
  have a2 := q.1.2
  have b1 := p.2.2
  have b2 := q.2.2
  have hp1 : ∀ (r : Pr), (part 23 ((pairB r).map b8).toArray 0).run Tryd.prog w = .ok (hval r.1) w := fun r => part_hash _ _ _ (by simp [pairB, r.1.2]) w
  have hp2 : ∀ (r : Pr), (part 23 ((pairB r).map b8).toArray 32).run Tryd.prog w = .ok (hval r.2) w := fun r => part_hash _ _ _ (by rw [pairB, List.drop_left' r.1.2, List.take_of_length_le (by rw [r.2.2]; exact Nat.le_refl _)]) w
  have e1 := eq_hash_at d _ _ a1 a2 w
  have e2 := eq_hash_at d _ _ b1 b2 w
  rw [Op.eqFields, if_pos h1, Sem.run_bind, h3, h5, hp1, Result.andThen_ok, Sem.run_bind, hp1, Result.andThen_ok, Sem.run_bind, e1, Result.andThen_ok]
  cases hq : (p.1.1 == q.1.1)
  · rw [Bool.not_false, if_pos rfl, Sem.run_pure, Bool.false_and]
  · rw [Bool.not_true, if_neg Bool.false_ne_true, Op.eqFields, if_pos h2, Sem.run_bind, h4, h6, hp2, Result.andThen_ok, Sem.run_bind, hp2, Result.andThen_ok, Sem.run_bind, e2, Result.andThen_ok, Bool.true_and]
    cases hq2 : (p.2.1 == q.2.1)
    · rw [Bool.not_false, if_pos rfl, Sem.run_pure]
    · rw [Bool.not_true, if_neg Bool.false_ne_true, Op.eqFields, Sem.run_pure]
@[go_sem] theorem eq_pair (p q : Pr) (w : World) : (Op.equalIn 10000 70 (pval p) (pval q)).run Tryd.prog w = .ok (p.1.1 == q.1.1 && p.2.1 == q.2.1) w := by
  rw [run_equalIn_struct (P := Tryd.prog) w 9999 70 _ _ (by kernel_rfl) (by kernel_rfl)]
  exact eq_pair_at 9997 p q w
def differs (s : Stp) : Bool := !(s.1.1.1 == s.2.1.1 && s.1.2.1 == s.2.2.1)
theorem differs_iff (s : Stp) : differs s = true ↔ s.1 ≠ s.2 := by
  unfold differs
  rw [Bool.not_eq_true', Bool.and_eq_false_iff, beq_eq_false_iff_ne, beq_eq_false_iff_ne]
  constructor
  · rintro h e
    rw [e] at h
    rcases h with h | h <;> exact h rfl
  · intro h
    by_cases h1 : s.1.1.1 = s.2.1.1
    · exact .inr fun h2 => h (Prod.ext (Subtype.ext h1) (Subtype.ext h2))
    · exact .inl h1
set_option maxRecDepth 100000 in
set_option maxHeartbeats 4000000 in
theorem differs_any (w : World) (s : Stp) : Calls Tryd.prog 48 #[sval s] w fun e w' => e = .returned (.bool (differs s)) ∧ Below w.heap.size w w' := by
  obtain ⟨fs, hfs⟩ := stepU
  obtain ⟨fp, hfp⟩ := pairU
  have hsl := stB_len s
  have hl1 := pairB_len s.1
  have hl2 := pairB_len s.2
  have hA := Blk.new w ((stB s).map b8).toArray 72
  have HF := Lib.hid (below_alloc1 w (.cells ((stB s).map b8).toArray 72))
  have hfo : Tryd.prog.fieldsOf 70 = fp := by unfold Program.fieldsOf; rw [hfp]
  have hQ : ∀ W, (Op.eqFields 9999 ((pairB s.1).map b8).toArray ((pairB s.2).map b8).toArray fp.toList).run Tryd.prog W = .ok (s.1.1.1 == s.2.1.1 && s.1.2.1 == s.2.2.1) W := fun W => by
    rw [← hfo]; exact eq_pair_at 9997 s.1 s.2 W
  clear hfo
  go_enter Tryd.func48, Tryd.ntmps48
  go_wp2_with (first | (refine wpList_load_mid_blk rfl 70 (.tmp 3) rfl hA 0 rfl ((pairB s.1).map b8) (fun j v hv => by rw [Nat.zero_add, List.getElem?_toArray, stB, List.map_append, List.getElem?_append_left (List.getElem?_eq_some_iff.1 hv).1]; exact hv) (.struct fp) hfp rfl 64 (by kernel_rfl) (by simp [hl1]) ?_) | (refine wpList_load_mid_blk rfl 70 (.tmp 5) rfl hA 64 rfl ((pairB s.2).map b8) (fun j v hv => by rw [List.getElem?_toArray, stB, List.map_append, List.getElem?_append_right (by simp [hl1]), List.length_map, hl1, Nat.add_sub_cancel_left]; exact hv) (.struct fp) hfp rfl 64 (by kernel_rfl) (by simp [hl2]) ?_))
  go_ret
  exact ⟨by rw [differs, Bool.not_and]; rfl, HF.out⟩
def strB (xs : List B) : ByteArray := strOfNums (xs.map fun b => (b.toNat : Int))
theorem strB_eq (xs ys : List B) : ((strB xs).toList == (strB ys).toList) = (xs == ys) := by
  rw [ByteArray.toList_eq, ByteArray.toList_eq, Bool.eq_iff_iff, beq_iff_eq, beq_iff_eq]
  constructor
  · intro h
    have h1 := congrArg (List.map UInt8.toBitVec) h
    simp only [strB, strOfNums_data, List.map_map] at h1
    have h2 : (UInt8.toBitVec ∘ (fun n : Int => UInt8.ofNat n.toNat) ∘ fun b : B => (b.toNat : Int)) = id := by
      funext b
      apply BitVec.eq_of_toNat_eq
      simp [Function.comp]
    rw [h2, List.map_id, List.map_id] at h1
    exact h1
  · rintro rfl; rfl
theorem run_string_bts {w : World} {ao : Option Addr} {cp : Nat} {xs : List B} (h : Bts w ao xs) (h0 : xs ≠ []) : (convert 34 9 (.slice ao xs.length cp)).run Tryd.prog w = .ok (.string (strB xs)) w := by
  rcases h with h | ⟨b, off, rfl, h⟩
  · exact absurd h h0
  · refine run_convert_bytes_arg w 34 5 (by kernel_rfl) (by kernel_rfl) b off xs.length cp (xs.map fun b => (b.toNat : Int)) (by simp) (fun i hi => ?_) 9 (by kernel_rfl)
    rw [h i hi]
    simp [b8, List.getD, hi]
set_option maxRecDepth 100000 in
set_option maxHeartbeats 4000000 in
theorem byteseq_any (w : World) (a1 a2 : Option Addr) (c1 c2 n : Nat) (xs ys : List B) (hX : Bts w a1 xs) (hY : Bts w a2 ys) (h1 : xs.length = n) (h2 : ys.length = n) (h0 : 0 < n) :
    Calls Tryd.prog 50 #[.slice a1 n c1, .slice a2 n c2] w fun e w' => e = .returned (.bool (xs == ys)) ∧ w' = w := by
  have e1 := run_string_bts (cp := c1) hX (by rintro rfl; simp at h1; omega)
  have e2 := run_string_bts (cp := c2) hY (by rintro rfl; simp at h2; omega)
  rw [h1] at e1
  rw [h2] at e2
  obtain ⟨q, hq⟩ : ∃ q, q = (xs == ys) := ⟨_, rfl⟩
  have e3 : ((strB xs).toList == (strB ys).toList) = q := by rw [hq]; exact strB_eq xs ys
  rw [← hq]
  generalize strB xs = s1 at e1 e3
  generalize strB ys = s2 at e2 e3
  clear hq hX hY h1 h2
  go_enter Tryd.func50, Tryd.ntmps50
  go_wp2
  go_ret
  exact ⟨rfl, rfl⟩
set_option maxRecDepth 100000 in
set_option maxHeartbeats 4000000 in
theorem sameb_any (w : World) (ao ap : Option Addr) (ca cb : Nat) (a b : List B) (hA : Bts w ao a) (hB : Bts w ap b) (hal : a.length ≤ 1000000) (hbl : b.length ≤ 1000000) :
    Calls Tryd.prog 45 #[.slice ao a.length ca, .slice ap b.length cb] w fun e w' => e = .returned (.bool (decide (a = b))) ∧ Below w.heap.size w w' := by
  obtain ⟨r, hr⟩ : ∃ r, r = w.heap.size := ⟨_, rfl⟩
  have HR := Lib.hid hr
  obtain ⟨z, hz⟩ : ∃ z, z = decide (a = b) := ⟨_, rfl⟩
  rw [← hz]
  have HZ := Lib.hid hz
  clear hz hr
  by_cases hln : a.length = b.length
  · have hd : ((a.length : Int) != (b.length : Int)) = false := by rw [hln]; simp
    have HL := Lib.hid hln
    clear hln
    go_enter Tryd.func45, Tryd.ntmps45
    go_wp2
    go_loopg [5] a.length (fun k i wr => ∃ m : Nat, i = .int .i64 m ∧ m + k = a.length ∧ a.take m = b.take m ∧ Below r w wr)
    case atStart => exact ⟨0, rfl, by omega, by simp, Below.refl _ _⟩
    case round =>
      obtain ⟨m, rfl, hmk, ht, F⟩ := hrel
      by_cases hq : m < a.length
      · have hd2 : decide ((m : Int) < (a.length : Int)) = true := by rw [decide_eq_true_eq]; omega
        have hqb : m < b.length := by have := HL.out; omega
        obtain ⟨g, off, rfl, hra⟩ := (hA.below F (by rw [HR.out]; exact Nat.le_refl _)).resolve_left (by rintro rfl; simp at hq)
        obtain ⟨g2, off2, rfl, hrb⟩ := (hB.below F (by rw [HR.out]; exact Nat.le_refl _)).resolve_left (by rintro rfl; simp at hqb)
        have ra := hra m hq
        have rb := hrb m hqb
        rw [show a.getD m 0 = a[m] by simp [List.getD, hq]] at ra
        rw [show b.getD m 0 = b[m] by simp [List.getD, hqb]] at rb
        have t1 := take_succ_eq a m hq
        have t2 := take_succ_eq b m hqb
        obtain ⟨x, hx⟩ : ∃ x, x = a[m] := ⟨_, rfl⟩
        obtain ⟨y, hy⟩ : ∃ y, y = b[m] := ⟨_, rfl⟩
        rw [← hx] at ra t1
        rw [← hy] at rb t2
        have hab : ¬ x = y → z = false := fun hne => by
          rw [HZ.out, decide_eq_false_iff_not]
          rintro rfl
          exact hne (by rw [hx, hy])
        have HU := Lib.hid (And.intro hab (And.intro t1 (And.intro t2 (And.intro ht (show gk - 1 < gk ∧ m + 1 + (gk - 1) = a.length by omega)))))
        clear hra hrb hx hy t1 t2 hab ht hmk
        go_upto_region 6 with (fail)
        refine wp_region_N (fun w' => w'.cell? ⟨g, off + m, none⟩ = some (b8 x) ∧ w'.cell? ⟨g2, off2 + m, none⟩ = some (b8 y)) [] (by kernel_rfl) ?_
        obtain ⟨wd, hwd⟩ : ∃ wd, wd = wr.drew := ⟨_, rfl⟩
        replace ra : wd.cell? ⟨g, off + m, none⟩ = some (b8 x) := by rw [hwd]; exact ra
        replace rb : wd.cell? ⟨g2, off2 + m, none⟩ = some (b8 y) := by rw [hwd]; exact rb
        replace F : Below r w wd := by rw [hwd]; exact F.drew
        rw [← hwd]
        clear hwd
        clear wr
        refine wpAnyN_pureG 0 17 (v := ?_) rfl rfl (by kernel_rfl) (by kernel_rfl) (by kernel_rfl) (fun _ _ _ h => h) rfl (fun w => ?_) ?_
        rotate_left
        · go_simp
          try with_reducible rfl
        refine wpAnyN_pureG 1 18 (v := ?_) rfl rfl (by kernel_rfl) (by kernel_rfl) (by kernel_rfl) (fun _ _ _ h => h) rfl (fun w => ?_) ?_
        rotate_left
        · go_simp
          try with_reducible rfl
        refine wpAnyN_pureG 4 21 (v := ?_) rfl rfl (by kernel_rfl) (by kernel_rfl) (by kernel_rfl) (fun _ _ _ h => h) rfl (fun w => ?_) ?_
        rotate_left
        · go_simp
          try with_reducible rfl
        refine wpAnyN_pureG 5 22 (v := ?_) rfl rfl (by kernel_rfl) (by kernel_rfl) (by kernel_rfl) (fun _ _ _ h => h) rfl (fun w => ?_) ?_
        rotate_left
        · go_simp
          try with_reducible rfl
        refine wpAnyN_pureG 2 19 (v := .pointer (some ⟨g, off + m, none⟩)) rfl rfl (by kernel_rfl) (by kernel_rfl) (by kernel_rfl) (fun _ _ _ h => h) rfl (fun w => ?_) ?_
        · go_simp
        refine wpAnyN_pureG 6 23 (v := .pointer (some ⟨g2, off2 + m, none⟩)) rfl rfl (by kernel_rfl) (by kernel_rfl) (by kernel_rfl) (fun _ _ _ h => h) rfl (fun w => ?_) ?_
        · go_simp
        simp only [Act.put, List.setIfInBounds_toArray, List.set_cons_succ, List.set_cons_zero]
        refine wpAnyN_takeG 3 20 (v := b8 x) rfl rfl (by kernel_rfl) (by kernel_rfl) (by kernel_rfl) (by kernel_rfl) (fun _ _ _ h => h) ⟨ra, rb⟩ rfl (fun w hS => ?_) ?_
        · obtain ⟨hs1, hs2⟩ := hS
          go_simp
        refine wpAnyN_takeG 7 24 (v := b8 y) rfl rfl (by kernel_rfl) (by kernel_rfl) (by kernel_rfl) (by kernel_rfl) (fun _ _ _ h => h) ⟨ra, rb⟩ rfl (fun w hS => ?_) ?_
        · obtain ⟨hs1, hs2⟩ := hS
          go_simp
        obtain ⟨q, hqv⟩ : ∃ q, q = (x == y) := ⟨_, rfl⟩
        refine wpAnyN_pureG 8 25 (v := .bool (!q)) rfl rfl (by kernel_rfl) (by kernel_rfl) (by kernel_rfl) (fun _ _ _ h => h) rfl (fun w => ?_) ?_
        · rw [hqv]; go_simp
          try rfl
        refine wpAnyN_done (by kernel_rfl) ?_
        simp only [Act.put, List.setIfInBounds_toArray, List.set_cons_succ, List.set_cons_zero]
        have HQ := Lib.hid hqv
        clear hqv
        cases q with
        | true =>
          have hxy : x = y := eq_of_beq HQ.out.symm
          go_wp2
          go_roundg (gk - 1)
          case measure => exact HU.out.2.2.2.2.1
          case rel =>
            exact ⟨m + 1, by go_num, HU.out.2.2.2.2.2, by rw [HU.out.2.1, HU.out.2.2.1, HU.out.2.2.2.1, hxy], F⟩
        | false =>
          have hzf : z = false := HU.out.1 (by intro e; have := HQ.out; rw [e] at this; simp at this)
          go_wp2
          go_ret
          exact ⟨by rw [hzf]; rfl, by rw [← HR.out]; exact F⟩
      · have hd2 : decide ((m : Int) < (a.length : Int)) = false := by rw [decide_eq_false_iff_not]; omega
        obtain rfl : m = a.length := by omega
        have hzt : z = true := by
          rw [HZ.out, decide_eq_true_eq]
          rw [List.take_length, HL.out, List.take_length] at ht
          exact ht
        clear ht hmk
        go_wp2
        go_ret
        exact ⟨by rw [hzt]; rfl, by rw [← HR.out]; exact F⟩
  · have hd : ((a.length : Int) != (b.length : Int)) = true := by rw [bne_iff_ne]; omega
    have hzf : z = false := by rw [HZ.out, decide_eq_false_iff_not]; rintro rfl; exact hln rfl
    go_enter Tryd.func45, Tryd.ntmps45
    go_wp2
    go_ret
    exact ⟨by rw [hzf]; rfl, Below.refl _ _⟩
/-- steps that are only read -/
def Sts (w : World) (ao : Option Addr) (l : List Stp) : Prop := Bts w ao (flatS l)
theorem flatS_at (l : List Stp) (i : Nat) (hi : i < l.length) (j : Nat) (hj : j < 128) : (flatS l).getD (i * 128 + j) 0 = (stB l[i]).getD j 0 := by
  have h : flatS l = flatS (l.take i) ++ (stB l[i] ++ flatS (l.drop (i + 1))) := by
    rw [← flatS_cons, ← flatS_append, List.getElem_cons_drop, List.take_append_drop]
  have hx := stB_len l[i]
  have ht : (flatS (l.take i)).length = i * 128 := by rw [flatS_len, List.length_take, Nat.min_eq_left (by omega)]
  unfold List.getD
  rw [h, List.getElem?_append_right (by omega), ht, List.getElem?_append_left (by omega)]
  rw [show i * 128 + j - i * 128 = j by omega]
theorem Sts.place {w : World} {ao : Option Addr} {l : List Stp} (h : Sts w ao l) (h0 : 0 < l.length) : ∃ b off, ao = some ⟨b, off, none⟩ ∧ b < w.heap.size ∧ ∀ i (hi : i < l.length), w.rangeAt b (off + i * 128) ((stB l[i]).map b8) := by
  have hfl := flatS_len l
  rcases h with h | ⟨b, off, e, h⟩
  · rw [h] at hfl; simp at hfl; omega
  · refine ⟨b, off, e, World.block_lt_of_cell? w _ (h 0 (by omega)), fun i hi j v hv => ?_⟩
    have hx := stB_len l[i]
    have hj : j < 128 := by
      have := (List.getElem?_eq_some_iff.1 hv).1
      rw [List.length_map] at this; omega
    rw [Nat.add_assoc, h (i * 128 + j) (by omega), flatS_at l i hi j hj]
    rw [List.getElem?_map, Option.map_eq_some_iff] at hv
    obtain ⟨u, hu, rfl⟩ := hv
    simp [List.getD, hu]
theorem Row.sts {w : World} {v : Value} {e n : Nat} {l : List Stp} (h : Row w v e 128 n ((flatS l).map b8)) : ∃ ao cp, v = .slice ao n cp ∧ n = l.length ∧ n ≤ cp ∧ cp ≤ maxLen ∧ Sts w ao l := by
  have hl := h.1
  rw [List.length_map, flatS_len] at hl
  have hl' : n = l.length := by omega
  rcases h.2 with ⟨rfl, rfl⟩ | ⟨g, off, cap, cur, rfl, hg, h1, h2, _, hc⟩
  · obtain rfl := List.eq_nil_of_length_eq_zero hl'.symm
    exact ⟨none, 0, rfl, hl', Nat.le_refl _, Nat.zero_le _, Bts.nil _ _⟩
  · refine ⟨_, cap, rfl, hl', h1, h2, Bts.of fun j hj => ?_⟩
    have := hc j (by simpa using hj)
    simp [World.cell?, hg, this, List.getD, hj]
/-- what is found -/
def FoundR (o : Option Stp) (e : Ending) (w' : World) : Prop := match o with
  | none => e = .returned (.tuple #[.slice none 0 0, .slice none 0 0, .bool false])
  | some s => ∃ a1 c1 a2 c2, e = .returned (.tuple #[.slice a1 65 c1, .slice a2 65 c2, .bool true]) ∧ Bts w' a1 (textH s.1.1 s.1.2) ∧ Bts w' a2 (textH s.2.1 s.2.2)
theorem textH_inj {a b c d : Hs} (h : textH a b = textH c d) : a = c ∧ b = d := by
  unfold textH at h
  injection h with _ h
  obtain ⟨h1, h2⟩ := List.append_inj h (by rw [a.2, c.2])
  exact ⟨Subtype.ext h1, Subtype.ext h2⟩
theorem found_step (s : Stp) (r : List Stp) : Tree.found (s :: r) = if differs s = true then some s else Tree.found r := by
  rw [Tree.found]
  by_cases h : s.1 = s.2
  · rw [if_pos h, if_neg (by rw [differs_iff]; exact fun h' => h' h)]
  · rw [if_neg h, if_pos ((differs_iff s).2 h)]
theorem take_rev (l : List Stp) (k : Nat) (h : k < l.length) : (l.take (k + 1)).reverse = l[k] :: (l.take k).reverse := by
  rw [take_succ_eq l k h, List.reverse_append]; rfl
set_option maxRecDepth 100000 in
set_option maxHeartbeats 8000000 in
theorem found_any (w : World) (ao : Option Addr) (cp : Nat) (l : List Stp) (hS : Sts w ao l) (hl : l.length ≤ 1000000) :
    Calls Tryd.prog 40 #[.slice ao l.length cp] w fun e w' => FoundR (Tree.found l.reverse) e w' ∧ Below w.heap.size w w' := by
  obtain ⟨r, hr⟩ : ∃ r, r = w.heap.size := ⟨_, rfl⟩
  have HR := Lib.hid hr
  obtain ⟨F, hF⟩ : ∃ F, F = Tree.found l.reverse := ⟨_, rfl⟩
  have hF0 : Tree.found (l.take l.length).reverse = F := by rw [hF, List.take_length]
  rw [← hF]
  have HF0 := Lib.hid hF0
  clear hr hF hF0
  obtain ⟨fs, hfs⟩ := stepU
  obtain ⟨fp, hfp⟩ := pairU
  have qi : IntKind.i64.wrap ((l.length : Int) - 1) = (l.length : Int) - 1 := IntWalk.i64_in _ (by omega)
  go_enter Tryd.func40, Tryd.ntmps40
  go_wp2
  go_loopg [5, 6] l.length (fun k i _ wr => k ≤ l.length ∧ i = .int .i64 ((k : Int) - 1) ∧ Below r w wr ∧ Hid (Tree.found (l.take k).reverse = F))
  case atStart => exact ⟨Nat.le_refl _, rfl, Below.refl _ _, HF0⟩
  case round =>
    clear HF0
    obtain ⟨hkl, rfl, G, HF⟩ := hrel
    rcases Nat.eq_zero_or_pos gk with rfl | hk
    · have hd : decide ((((0 : Nat) : Int) - 1) ≥ 0) = false := by decide
      have hFn : F = none := HF.out.symm
      rw [HR.out] at G
      go_wp2
      go_ret3
      exact ⟨by rw [hFn]; rfl, G⟩
    · obtain ⟨m, rfl⟩ : ∃ m, gk = m + 1 := ⟨gk - 1, by omega⟩
      have e0 : (((m + 1 : Nat) : Int) - 1) = (m : Int) := by omega
      have hml : m < l.length := by omega
      rw [e0]
      have hd : decide ((m : Int) ≥ 0) = true := by rw [decide_eq_true_eq]; omega
      have hfs2 := found_step l[m] (l.take m).reverse
      rw [← take_rev l m hml, HF.out] at hfs2
      obtain ⟨g, off, rfl, hg, hra⟩ := (show Sts wr ao l from Bts.below hS G (by rw [HR.out]; exact Nat.le_refl _)).place (by omega)
      have hy := hra m hml
      obtain ⟨s, hs⟩ : ∃ s, s = l[m] := ⟨_, rfl⟩
      rw [← hs] at hfs2 hy
      have hsl := stB_len s
      have H2 := Lib.hid hfs2
      have qm : IntKind.i64.wrap ((m : Int) - 1) = (m : Int) - 1 := IntWalk.i64_in _ (by omega)
      clear hra hs hfs2 HF e0
      have hS' : Blk (wr.alloc (.cells zero128 72)) wr.heap.size 72 zero128 := Blk.new wr _ _
      go_wp2_with (first | (refine wpList_load_mid rfl 72 _ rfl g (off + m * 128) rfl ((stB s).map b8) (.struct fs) hy hfs rfl (by rw [List.length_map, hsl]; kernel_rfl) ?_) | (refine wpList_store_blk rfl 72 _ _ rfl hS' ((stB s).map b8).toArray rfl rfl 128 (by kernel_rfl) (by simp) (by simp [hsl]) (by rw [List.toList_toArray]; exact b8_one _) ?_))
      intro w2 hB2 hg2
      obtain ⟨b, hb⟩ : ∃ b, b = wr.heap.size := ⟨_, rfl⟩
      rw [← hb] at hB2 hg2 ⊢
      have hrb : r ≤ b := by have := G.size; have := HR.out; omega
      have F2 : Below r w w2 := below_upd (G.alloc (by omega) _) hg2 hrb (by rw [alloc_size]; omega)
      clear hg2 hS' hy G hg hb
      clear wr
      have hl1 := pairB_len s.1
      have hl2 := pairB_len s.2
      have cd := differs_any w2 s
      obtain ⟨q, hq⟩ : ∃ q, q = differs s := ⟨_, rfl⟩
      rw [← hq] at cd
      have HQ := Lib.hid hq
      clear hq
      go_wp2_with (refine wpList_load_mid_blk rfl 72 (.tmp 6) rfl hB2 0 rfl ((stB s).map b8) (fun j v hv => by rw [Nat.zero_add, List.getElem?_toArray]; exact hv) (.struct fs) hfs rfl 128 (by kernel_rfl) (by simp [hsl]) ?_)
      refine cd.mono ?_
      rintro e w3 ⟨rfl, G3⟩
      have hB3 := hB2.below G3 hB2.lt
      have F3 := F2.trans (G3.mono (by have := hB2.lt; omega))
      clear cd hB2 F2 G3
      clear w2
      cases q with
      | false =>
        have hFm : Tree.found (l.take m).reverse = F := by rw [H2.out, ← HQ.out]; rfl
        have HFm := Lib.hid hFm
        clear hFm
        go_wp2
        go_roundg m
        case measure => omega
        case rel => exact ⟨by omega, rfl, F3, HFm⟩
      | true =>
        have hFm : F = some s := by rw [H2.out, ← HQ.out]; rfl
        have HFm := Lib.hid hFm
        clear hFm
        go_upto_region 6 with (fail)
        refine wp_region_N (fun w' => Blk w' b 72 ((stB s).map b8).toArray) [] (by kernel_rfl) ?_
        obtain ⟨wd, hwd⟩ : ∃ wd, wd = w3.drew := ⟨_, rfl⟩
        replace hB3 : Blk wd b 72 ((stB s).map b8).toArray := by rw [hwd]; exact hB3
        replace F3 : Below r w wd := by rw [hwd]; exact F3.drew
        rw [← hwd]
        clear hwd
        clear w3
        refine wpAnyN_pureG 0 22 (v := ?_) rfl rfl (by kernel_rfl) (by kernel_rfl) (by kernel_rfl) (fun _ _ _ h => h) rfl (fun w => ?_) ?_
        rotate_left
        · go_simp
          try with_reducible rfl
        refine wpAnyN_pureG 3 25 (v := ?_) rfl rfl (by kernel_rfl) (by kernel_rfl) (by kernel_rfl) (fun _ _ _ h => h) rfl (fun w => ?_) ?_
        rotate_left
        · go_simp
          try with_reducible rfl
        simp only [Act.put, List.setIfInBounds_toArray, List.set_cons_succ, List.set_cons_zero]
        refine wpAnyN_takeG 1 23 (v := pval s.1) rfl rfl (by kernel_rfl) (by kernel_rfl) (by kernel_rfl) (by kernel_rfl) (fun _ _ _ h => h) hB3 rfl (fun w hS => ?_) ?_
        · exact run_load_mid_blk 70 _ rfl hS 0 (by go_simp) ((pairB s.1).map b8) (fun j v hv => by rw [Nat.zero_add, List.getElem?_toArray, stB, List.map_append, List.getElem?_append_left (List.getElem?_eq_some_iff.1 hv).1]; exact hv) (.struct fp) hfp rfl 64 (by kernel_rfl) (by simp [hl1])
        refine wpAnyN_takeG 4 26 (v := pval s.2) rfl rfl (by kernel_rfl) (by kernel_rfl) (by kernel_rfl) (by kernel_rfl) (fun _ _ _ h => h) hB3 rfl (fun w hS => ?_) ?_
        · exact run_load_mid_blk 70 _ rfl hS 64 (by go_simp) ((pairB s.2).map b8) (fun j v hv => by rw [List.getElem?_toArray, stB, List.map_append, List.getElem?_append_right (by simp [hl1]), List.length_map, hl1, Nat.add_sub_cancel_left]; exact hv) (.struct fp) hfp rfl 64 (by kernel_rfl) (by simp [hl2])
        simp only [Act.put, List.setIfInBounds_toArray, List.set_cons_succ, List.set_cons_zero]
        have hbs := hB3.lt
        have t1 := textH_len s.1.1 s.1.2
        have t2 := textH_len s.2.1 s.2.2
        have hne : ¬ textH s.1.1 s.1.2 = textH s.2.1 s.2.2 := fun e => by
          obtain ⟨e1, e2⟩ := textH_inj e
          exact (differs_iff s).1 HQ.out.symm (Prod.ext e1 e2)
        obtain ⟨x1, hx1⟩ : ∃ x1, x1 = textH s.1.1 s.1.2 := ⟨_, rfl⟩
        obtain ⟨x2, hx2⟩ : ∃ x2, x2 = textH s.2.1 s.2.2 := ⟨_, rfl⟩
        have c1 := ptext_any wd s.1
        have c2 := fun W => ptext_any W s.2
        rw [← hx1] at c1 t1 hne
        simp only [← hx2] at c2 t2 hne
        have HX := Lib.hid (And.intro hx1 (And.intro hx2 hne))
        clear hx1 hx2 hne
        refine wpAnyN_call 2 49 (some 24) [.tmp 23] [pval s.1] (by kernel_rfl) rfl rfl rfl rfl (by go_simp) Tryd.call49 ?_
        refine c1.mono ?_
        rintro e w4 ⟨v1, rfl, O4⟩
        refine ⟨_, rfl, fun _ h => h.below O4.bel h.lt, ?_⟩
        have F4 := F3.trans (O4.bel.mono (by omega))
        obtain ⟨a1, p1, rfl, -, -, -, hT1⟩ := O4.row.bts
        have hs4 := O4.le
        have g4 := O4.bel.size
        clear c1 F3 O4 hB3
        simp only [Act.put, List.setIfInBounds_toArray, List.set_cons_succ, List.set_cons_zero]
        refine wpAnyN_call 5 49 (some 27) [.tmp 26] [pval s.2] (by kernel_rfl) rfl rfl rfl rfl (by go_simp) Tryd.call49 ?_
        refine (c2 w4).mono ?_
        rintro e w5 ⟨v2, rfl, O5⟩
        refine ⟨_, rfl, fun _ h => h.below O5.bel h.lt, ?_⟩
        have F5 := F4.trans (O5.bel.mono (by omega))
        replace hT1 := hT1.below O5.bel (Nat.le_refl _)
        obtain ⟨a2, p2, rfl, -, -, -, hT2⟩ := O5.row.bts
        clear c2 F4 O5 hs4 g4 hbs
        clear w4
        clear wd
        refine wpAnyN_pureG 6 7 (v := ?_) rfl rfl (by kernel_rfl) (by kernel_rfl) (by kernel_rfl) (fun _ _ _ h => h) rfl (fun w => ?_) ?_
        rotate_left
        · go_simp
          try with_reducible rfl
        refine wpAnyN_pureG 7 8 (v := ?_) rfl rfl (by kernel_rfl) (by kernel_rfl) (by kernel_rfl) (fun _ _ _ h => h) rfl (fun w => ?_) ?_
        rotate_left
        · go_simp
          try with_reducible rfl
        refine wpAnyN_done (by kernel_rfl) ?_
        rw [t1, t2]
        simp only [Act.put, List.setIfInBounds_toArray, List.set_cons_succ, List.set_cons_zero]
        have ce := byteseq_any w5 a1 a2 p1 p2 65 x1 x2 hT1 hT2 t1 t2 (by decide)
        have hbf : (x1 == x2) = false := by rw [beq_eq_false_iff_ne]; exact HX.out.2.2
        rw [hbf] at ce
        clear hbf
        go_wp2_with fail
        refine ce.mono ?_
        rintro e w6 ⟨rfl, e6⟩
        rw [e6]
        clear e6 ce
        clear w6
        rw [HR.out] at F5
        go_wp2
        go_ret3
        refine ⟨?_, F5⟩
        rw [HFm.out]
        exact ⟨a1, p1, a2, p2, rfl, by rw [← HX.out.1]; exact hT1, by rw [← HX.out.2.1]; exact hT2⟩
end Go.Proofs.YtadiijieldldhaaDoor
