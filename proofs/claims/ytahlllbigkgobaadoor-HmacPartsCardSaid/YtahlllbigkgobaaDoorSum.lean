/-
  The walk of (*sha256.Digest).Sum: the hash of what a digest has taken in.
-/
import Derived.Test.YtahlllbigkgobaaDoorWrite
namespace Go.Proofs.YtahlllbigkgobaaDoor
open Go.RowKit

/-- thirty-two bytes as a value -/
abbrev hashv (bs : List B) : Value := .agg (bs.map b8).toArray
theorem dcells_one (s : St) (a : Option Addr) (n c m : Nat) : ∀ u ∈ (dcells s (.slice a n c) m).toList, u.oneCell' = true := by
  intro u hu
  simp only [List.mem_cons, List.not_mem_nil, or_false] at hu
  rcases hu with rfl | rfl | rfl | rfl | rfl | rfl | rfl | rfl | rfl | rfl <;> rfl
theorem bts_new1 (w : World) (u : B) (c : Value) (T : TypeId) (hc : c = b8 u) : Bts (w.alloc (.cells #[c] T)) (some ⟨w.heap.size, 0, none⟩) [u] := by
  refine Bts.of fun j hj => ?_
  obtain rfl : j = 0 := by simpa using hj
  have := (Blk.new w #[c] T).cell 0
  rw [Nat.zero_add, this, hc]; rfl
theorem len8_cell (n m : Nat) (hm : m < 8) (hn : n ≤ 1099511627776) : Value.int .u8 (8 * (n : Int) / 2 ^ (56 - 8 * m) % 256) = b8 ((len8 n).getD m 0) := by
  have h1 : (len8 n).getD m 0 = (BitVec.ofNat 64 (8 * n) >>> (56 - 8 * m)).setWidth 8 := by
    unfold len8 List.getD
    rw [List.getElem?_map, List.getElem?_range hm]; rfl
  have h2 : ((BitVec.ofNat 64 (8 * n) >>> (56 - 8 * m)).setWidth 8).toNat = 8 * n / 2 ^ (56 - 8 * m) % 256 := by
    rw [BitVec.toNat_setWidth, BitVec.toNat_ushiftRight, BitVec.toNat_ofNat, Nat.shiftRight_eq_div_pow, Nat.mod_eq_of_lt (show 8 * n < 2 ^ 64 by omega)]
  rw [h1]; unfold b8
  rw [h2]
  congr 1
abbrev zero32 : Array Value := #[.int .u8 0, .int .u8 0, .int .u8 0, .int .u8 0, .int .u8 0, .int .u8 0, .int .u8 0, .int .u8 0, .int .u8 0, .int .u8 0, .int .u8 0, .int .u8 0, .int .u8 0, .int .u8 0, .int .u8 0, .int .u8 0, .int .u8 0, .int .u8 0, .int .u8 0, .int .u8 0, .int .u8 0, .int .u8 0, .int .u8 0, .int .u8 0, .int .u8 0, .int .u8 0, .int .u8 0, .int .u8 0, .int .u8 0, .int .u8 0, .int .u8 0, .int .u8 0]
abbrev zeroD : Array Value := #[.int .u32 0, .int .u32 0, .int .u32 0, .int .u32 0, .int .u32 0, .int .u32 0, .int .u32 0, .int .u32 0, .slice none 0 0, .int .u64 0]
attribute [local irreducible] compress absorb

/-- a slice of bytes under way, beside the two blocks of Sum's own -/
structure Pad (r : Nat) (w : World) (D : Array Value) (t : Value) (ts : List B) (wr : World) : Prop where
  row : Row wr t 5 1 ts.length (ts.map b8)
  own : ∀ g, t.ownBlock = some g → r + 2 ≤ g
  xb : Blk wr (r + 1) 36 D
  rb : Blk wr r 25 zero32
  bel : Below r w wr
  sz : r + 2 ≤ wr.heap.size
theorem Pad.app {r : Nat} {w : World} {D : Array Value} {t : Value} {ts : List B} {wr : World} (h : Pad r w D t ts wr) (o : Obj) {u : B} {v' : Value} {w' : World} (hrow : Row w' v' 5 1 (ts.length + 1) (ts.map b8 ++ [u].map b8))
    (hg : (wr.alloc o).grownBy w' t.ownBlock) (hv : v'.ownBlock = t.ownBlock ∨ v'.ownBlock = some (wr.heap.size + 1) ∧ wr.heap.size + 1 < w'.heap.size) : Pad r w D v' (ts ++ [u]) w' := by
  have hsz := h.sz
  have hne : ∀ k, k < r + 2 → some k ≠ t.ownBlock := fun k hk e => by have h3 := h.own k e.symm; omega
  have hs2 := hg.size
  rw [alloc_size] at hs2
  refine ⟨by rw [List.length_append, List.map_append]; exact hrow, ?_, (h.xb.alloc o).grown hg (hne _ (by omega)), (h.rb.alloc o).grown hg (hne _ (by omega)), ?_, by omega⟩
  · intro g hg'
    rcases hv with e | ⟨e, -⟩
    · exact h.own g (e ▸ hg')
    · obtain rfl := Option.some.inj (e.symm.trans hg'); omega
  · have hb := h.bel.alloc (by omega) o
    exact ⟨hg.os.trans hb.os, hg.tape.trans hb.tape, hg.output.trans hb.output, Nat.le_trans hb.size hg.size, fun k hk => (hg.block k (by rw [alloc_size]; omega) (hne k (by omega))).trans (hb.block k hk)⟩
theorem Pad.step {r : Nat} {w : World} {D D' : Array Value} {t : Value} {ts : List B} {wd w5 w6 : World} (h : Pad r w D t ts wd) (h5 : Below wd.heap.size wd w5) (hx : Blk w6 (r + 1) 36 D') (hg : w5.grownBy w6 (some (r + 1))) : Pad r w D' t ts w6 := by
  have hs := h.sz
  have hs5 := h5.size
  have hs6 := hg.size
  refine ⟨(h.row.below h5 (fun k e => h.row.lt k e)).grown hg (fun k e e' => ?_), h.own, hx, (h.rb.below h5 h.rb.lt).grown hg (by intro e; have h : r = r + 1 := Option.some.inj e; omega), ?_, by omega⟩
  · have h3 := h.own k e
    have h4 : k = r + 1 := Option.some.inj e'
    omega
  · refine ⟨hg.os.trans (h5.os.trans h.bel.os), hg.tape.trans (h5.tape.trans h.bel.tape), hg.output.trans (h5.output.trans h.bel.output), by have := h.bel.size; omega, fun k hk => (hg.block k (by omega) ?_).trans ((h5.block k (by omega)).trans (h.bel.block k hk))⟩
    intro e; have h : k = r + 1 := Option.some.inj e; omega
theorem Pad.drop {r : Nat} {w : World} {D : Array Value} {t t' : Value} {ts ts' : List B} {wr : World} (h : Pad r w D t ts wr) (hr : Row wr t' 5 1 ts'.length (ts'.map b8)) (ho : t'.ownBlock = t.ownBlock) : Pad r w D t' ts' wr :=
  ⟨hr, by rw [ho]; exact h.own, h.xb, h.rb, h.bel, h.sz⟩
/-- bytes at the head of a row of n -/
def rowB (bs : List B) (n : Nat) : Array Value := ((bs ++ List.replicate (n - bs.length) 0).map b8).toArray
theorem rowB_snoc (bs : List B) (n : Nat) (x : B) (h : bs.length < n) : (rowB bs n).setIfInBounds bs.length (b8 x) = rowB (bs ++ [x]) n := by
  unfold rowB
  obtain ⟨m, hm⟩ : ∃ m, n - bs.length = m + 1 := ⟨n - bs.length - 1, by omega⟩
  have hm2 : n - (bs ++ [x]).length = m := by simp; omega
  rw [hm, hm2, List.setIfInBounds_toArray]
  congr 1
  simp [List.replicate_succ]
theorem rowB_get (bs : List B) (n i : Nat) (h : i < n) : ∃ v, (rowB bs n)[i]? = some v := by
  unfold rowB
  simp only [List.getElem?_toArray]
  exact ⟨_, List.getElem?_eq_getElem (by simp; omega)⟩
theorem rowB_four (bs : List B) (n i : Nat) (a b c d : B) (hi : bs.length = i) (h : i + 3 < n) :
    ((((rowB bs n).setIfInBounds i (b8 a)).setIfInBounds (i + 1) (b8 b)).setIfInBounds (i + 2) (b8 c)).setIfInBounds (i + 3) (b8 d) = rowB (bs ++ [a, b, c, d]) n := by
  subst hi
  rw [rowB_snoc _ _ _ (by omega)]
  have e1 := rowB_snoc (bs ++ [a]) n b (by simp; omega)
  rw [List.length_append] at e1
  rw [show bs.length + 1 = bs.length + [a].length from rfl, e1]
  have e2 := rowB_snoc (bs ++ [a] ++ [b]) n c (by simp; omega)
  rw [List.length_append, List.length_append] at e2
  rw [show bs.length + 2 = bs.length + [a].length + [b].length from rfl, e2]
  have e3 := rowB_snoc (bs ++ [a] ++ [b] ++ [c]) n d (by simp; omega)
  rw [List.length_append, List.length_append, List.length_append] at e3
  rw [show bs.length + 3 = bs.length + [a].length + [b].length + [c].length from rfl, e3]
  simp
theorem rowB_full (bs : List B) (h : bs.length = 32) : rowB bs 32 = (bs.map b8).toArray := by
  unfold rowB; rw [h]; simp
theorem out_len (ws : List W) : ((ws.map bytesOf).flatten).length = 4 * ws.length := by
  induction ws with
  | nil => rfl
  | cons x ws ih => rw [List.map_cons, List.flatten_cons, List.length_append, ih]; simp [bytesOf]; omega
theorem out_snoc (ws : List W) (k : Nat) (x : W) (h : ws[k]? = some x) : ((ws.take (k + 1)).map bytesOf).flatten = ((ws.take k).map bytesOf).flatten ++ bytesOf x := by
  obtain ⟨hk, rfl⟩ := List.getElem?_eq_some_iff.1 h
  rw [List.take_succ_eq_append_getElem hk, List.map_append, List.flatten_append]; simp
theorem sha_len (xs : List B) : (sha xs).length = 32 := by
  unfold sha; rw [out_len]; rfl
theorem sum_final (xs : List B) (T : List B) (hT : T = rest xs ++ pad xs.length) (hq : T.length = 64 * (T.length / 64)) : ((st8 (absorb (absd xs) T (T.length / 64))).map bytesOf).flatten = sha xs := by
  unfold sha
  have h1 : xs ++ pad xs.length = xs.take (64 * full xs) ++ T := by
    rw [hT, rest, ← List.append_assoc, List.take_append_drop]
  have h2 : (xs.take (64 * full xs)).length = 64 * full xs := by rw [List.length_take]; unfold full; omega
  have h3 : (xs ++ pad xs.length).length / 64 = full xs + T.length / 64 := by rw [h1, List.length_append, h2]; omega
  rw [h3, absorb_add, absorb_append _ _ _ _ (by unfold full; omega), h1, List.drop_left' h2]
  rfl
theorem run_index_one {P : Program} {t e : TypeId} {n : Nat} {k : IntKind} (ht : P.underlying t = some (.array n e)) (hu : P.underlying e = some (.int k)) (hs : (P.info? e).map (·.size) = some 1)
    (cs : Array Value) (i : Nat) (hi : i < n) (v : Value) (hv : cs[i]? = some v) (w : World) : (Instr.index t (.agg cs) (.int .i64 i)).run P w = .ok v w := by
  obtain ⟨q, hq, hs⟩ := Option.map_eq_some_iff.1 hs
  have h2 : (i : Int) < (n : Int) := by omega
  unfold Instr.index part
  simp_all [run_underlying ht, run_underlying hu, asIntOf, isAgg, sizeOf, typeInfo]
theorem slice_two (a7 : Option Addr) (g off n c n' : Nat) (ha : a7 = if c = 64 then some ⟨g, off, none⟩ else (some (⟨g, off, none⟩ : Addr)).map (·.add (64 * 1))) (hn : n - 64 = n') :
    (c = 64 → Value.slice (some ⟨g, off, none⟩) (n - 64) 0 = .slice a7 n' (c - 64)) ∧ (¬ c = 64 → Value.slice (some ⟨g, off + 64, none⟩) (n - 64) (c - 64) = .slice a7 n' (c - 64)) := by
  subst ha hn
  exact ⟨fun h => by rw [if_pos h, h], fun h => by rw [if_neg h]; simp [Addr.add_lit]⟩
set_option maxRecDepth 100000 in
set_option maxHeartbeats 4000000 in
theorem sum_any (b : Nat) (v : Value) (xs : List B) (w : World) (hL : Laid w) (hD : Dig w b v xs) (hlen : xs.length ≤ 1099511627776) :
    Calls Tryd.prog 17 #[.pointer (some ⟨b, 0, none⟩)] w fun e w' => e = .returned (hashv (sha xs)) ∧ Below w.heap.size w w' := by
  obtain ⟨⟨s, hblk, hs⟩, hrow, hown, hb0, hb1⟩ := hD
  go_enter Tryd.func17, Tryd.ntmps17
  go_upto_region 3 with (fail)
  generalize hr : w.heap.size = r
  obtain ⟨w1, hw1⟩ : ∃ w1, w1 = (w.alloc (.cells zero32 25)).alloc (.cells zeroD 36) := ⟨_, rfl⟩
  have e1 : w1.heap.size = r + 2 := by rw [hw1, alloc_size, alloc_size, hr]
  have hr1 : Blk w1 r 25 zero32 := by rw [hw1, ← hr]; exact (Blk.new w zero32 25).alloc _
  have hx1 : Blk w1 (r + 1) 36 zeroD := by rw [hw1, ← hr]; exact Blk.new1 w _ _ _
  have hbw := hblk.lt
  rw [hr] at hbw
  have hb1 : Blk w1 b 36 (dcells s v xs.length) := by rw [hw1]; exact (hblk.alloc _).alloc _
  have hv1 : Row w1 v 5 1 (rest xs).length ((rest xs).map b8) := by rw [hw1]; exact (hrow.alloc _).alloc _
  have F1 : Below r w w1 := by rw [hw1, ← hr]; exact below_alloc2 _ _ _
  have hvr : ∀ g, v.ownBlock = some g → g < r := fun g hg => hr ▸ hrow.lt g hg
  change Code.wp _ _ _ _ ((w.alloc (.cells zero32 25)).alloc (.cells zeroD 36))
  rw [← hw1]
  clear hw1 hblk hrow
  obtain ⟨ao, cp, rfl, -, hcp1, hcp2, hbt⟩ := hv1.bts
  obtain ⟨i0, hi, hz0, hz1, hz2⟩ := info_parts infoU8
  obtain ⟨S, hSd⟩ : ∃ S : World → Prop, S = fun w' => Blk w' b 36 (dcells s (.slice ao (rest xs).length cp) xs.length) := ⟨_, rfl⟩
  refine wp_region_N S [15] (by kernel_rfl) ?_
  obtain ⟨w2, hw2⟩ : ∃ w2, w2 = w1.drew := ⟨_, rfl⟩
  have hS2 : S w2 := by rw [hSd, hw2]; exact hb1
  have e2 : w2.heap.size = r + 2 := by rw [hw2]; exact e1
  have hr2 : Blk w2 r 25 zero32 := by rw [hw2]; exact hr1
  have hx2 : Blk w2 (r + 1) 36 zeroD := by rw [hw2]; exact hx1
  have hbt2 : Bts w2 ao (rest xs) := by rw [hw2]; exact hbt.below (Below.refl _ _).drew (Nat.le_refl _)
  have F2 : Below r w w2 := by rw [hw2]; exact F1.drew
  rw [← hw2]
  have HS := Lib.hid hSd
  clear hw2 hSd e1 hr1 hx1 hb1 hbt F1 hv1
  clear w1
  refine wpAnyN_pureG 0 11 (v := ?_) rfl rfl (by kernel_rfl) (by kernel_rfl) (by kernel_rfl) (fun _ _ _ h => h) rfl (fun w => ?_) ?_
  rotate_left
  · go_simp
    try with_reducible rfl
  refine wpAnyN_pureG 1 12 (v := ?_) rfl rfl (by kernel_rfl) (by kernel_rfl) (by kernel_rfl) (fun _ _ _ h => h) rfl (fun w => ?_) ?_
  rotate_left
  · go_simp
    try with_reducible rfl
  refine wpAnyN_pureG 2 13 (v := ?_) rfl rfl (by kernel_rfl) (by kernel_rfl) (by kernel_rfl) (fun _ _ _ h => h) rfl (fun w => ?_) ?_
  rotate_left
  · go_simp
    try with_reducible rfl
  refine wpAnyN_takeG 3 14 (v := ?_) rfl rfl (by kernel_rfl) (by kernel_rfl) (by kernel_rfl) (by kernel_rfl) (fun _ _ _ h => h) (by assumption) rfl (fun w hS => ?_) ?_
  rotate_left
  · (refine run_load_mid_blk 33 (.tmp 13) ?_ (by rw [HS.out] at hS; exact hS) 0 ?_ [w32 s.a, w32 s.b, w32 s.c, w32 s.d, w32 s.e, w32 s.f, w32 s.g, w32 s.h] (dcells_st _ _ _) (.array 8 31) (by kernel_rfl) rfl 8 (by kernel_rfl) rfl <;> rfl)
  refine wpAnyN_pureG 5 16 (v := ?_) rfl rfl (by kernel_rfl) (by kernel_rfl) (by kernel_rfl) (fun _ _ _ h => h) rfl (fun w => ?_) ?_
  rotate_left
  · go_simp
    try with_reducible rfl
  refine wpAnyN_pureG 6 17 (v := ?_) rfl rfl (by kernel_rfl) (by kernel_rfl) (by kernel_rfl) (fun _ _ _ h => h) rfl (fun w => ?_) ?_
  rotate_left
  · go_simp
    try with_reducible rfl
  refine wpAnyN_pureG 7 18 (v := ?_) rfl rfl (by kernel_rfl) (by kernel_rfl) (by kernel_rfl) (fun _ _ _ h => h) rfl (fun w => ?_) ?_
  rotate_left
  · go_simp
    try with_reducible rfl
  refine wpAnyN_takeG 8 19 (v := ?_) rfl rfl (by kernel_rfl) (by kernel_rfl) (by kernel_rfl) (by kernel_rfl) (fun _ _ _ h => h) (by assumption) rfl (fun w hS => ?_) ?_
  rotate_left
  · (rw [HS.out] at hS; have c8 := hS.cell 8; go_simp; try with_reducible rfl)
  refine wpAnyN_pureG 10 21 (v := ?_) rfl rfl (by kernel_rfl) (by kernel_rfl) (by kernel_rfl) (fun _ _ _ h => h) rfl (fun w => ?_) ?_
  rotate_left
  · go_simp
    try with_reducible rfl
  refine wpAnyN_pureG 11 22 (v := ?_) rfl rfl (by kernel_rfl) (by kernel_rfl) (by kernel_rfl) (fun _ _ _ h => h) rfl (fun w => ?_) ?_
  rotate_left
  · go_simp
    try with_reducible rfl
  refine wpAnyN_pureG 12 23 (v := ?_) rfl rfl (by kernel_rfl) (by kernel_rfl) (by kernel_rfl) (fun _ _ _ h => h) rfl (fun w => ?_) ?_
  rotate_left
  · go_simp
    try with_reducible rfl
  refine wpAnyN_takeG 13 24 (v := ?_) rfl rfl (by kernel_rfl) (by kernel_rfl) (by kernel_rfl) (by kernel_rfl) (fun _ _ _ h => h) (by assumption) rfl (fun w hS => ?_) ?_
  rotate_left
  · (rw [HS.out] at hS; have c9 := hS.cell 9; go_simp; try with_reducible rfl)
  refine wpAnyN_run 4 (some 15) (v := .slice (some ⟨w2.heap.size, 0, none⟩) 0 0) (w' := w2.alloc (.cells #[] 5)) (by kernel_rfl) rfl rfl rfl ?_ ⟨fun _ hS => ?_, ?_⟩
  · go_simp
  · rw [HS.out] at hS ⊢; exact hS.alloc _
  obtain ⟨w3, hw3⟩ : ∃ w3, w3 = w2.alloc (.cells #[] 5) := ⟨_, rfl⟩
  have e3 : w3.heap.size = r + 3 := by rw [hw3, alloc_size, e2]
  have hr3 : Blk w3 r 25 zero32 := by rw [hw3]; exact hr2.alloc _
  have hx3 : Blk w3 (r + 1) 36 zeroD := by rw [hw3]; exact hx2.alloc _
  have hbt3 : Bts w3 ao (rest xs) := by rw [hw3]; exact hbt2.below ((Below.refl _ _).alloc (Nat.le_refl _) _) (Nat.le_refl _)
  have F3 : Below r w w3 := by rw [hw3]; exact F2.alloc (by omega) _
  have hrow3 : Row w3 (.slice (some ⟨w2.heap.size, 0, none⟩) 0 0) 5 1 0 [] := by
    rw [hw3]; exact ⟨rfl, .inr ⟨_, 0, 0, #[], rfl, heap_alloc_new w2 _, Nat.le_refl _, Nat.zero_le _, Nat.zero_le _, fun j hj => absurd hj (by simp)⟩⟩
  rw [← hw3]
  rw [e2] at hrow3 ⊢
  clear hw3 e2 hr2 hx2 hbt2 F2 hS2
  clear w2
  have hl0 : (rest xs).length ≤ xs.length := by unfold rest; rw [List.length_drop]; omega
  refine wpAnyN_append 9 (some 20) (.tmp 15) (.tmp 19) 22 22 (by kernel_rfl) rfl rfl rfl rfl 5 i0 (.int .u8 0) 1 1 (by kernel_rfl) hi hz0 hz1 hz2 rfl (by decide) hrow3 (by go_simp) (hbt3.src (e' := 5) (by kernel_rfl) (rest xs).length cp rfl) (by go_simp) (by simp only [maxLen]; omega) (by omega) ?_
  intro v4 w4 hrow4 hg4 hv4
  refine ⟨fun _ hS => by rw [HS.out] at hS ⊢; exact hS.grown hg4 (by intro e; have h : b = r + 2 := Option.some.inj e; omega), ?_⟩
  simp only [List.nil_append, Nat.zero_add] at hrow4
  obtain ⟨a4, cp4, rfl, -, hc4, hc5, hbt4⟩ := hrow4.bts
  refine wpAnyN_pureG 14 25 (v := ?_) rfl rfl (by kernel_rfl) (by kernel_rfl) (by kernel_rfl) (fun _ _ _ h => h) rfl (fun w => ?_) ?_
  rotate_left
  · go_simp
    try with_reducible rfl
  have hx4 := hx3.grown hg4 (by intro e; have h : r + 1 = r + 2 := Option.some.inj e; omega)
  have hr4 := hr3.grown hg4 (by intro e; have h : r = r + 2 := Option.some.inj e; omega)
  have F4 : Below r w w4 := by
    refine ⟨hg4.os.trans F3.os, hg4.tape.trans F3.tape, hg4.output.trans F3.output, Nat.le_trans F3.size hg4.size, fun k hk => (hg4.block k (by omega) ?_).trans (F3.block k hk)⟩
    intro e; have h : k = r + 2 := Option.some.inj e; omega
  have ho4 : ∃ g, (Value.slice a4 (rest xs).length cp4).ownBlock = some g ∧ r + 2 ≤ g := by
    rcases hv4 with h | ⟨h, -⟩
    · exact ⟨r + 2, h, Nat.le_refl _⟩
    · exact ⟨_, h, by omega⟩
  have e4 : r + 2 ≤ w4.heap.size := by have := hg4.size; omega
  refine wpAnyN_store_blk 15 36 (.tmp 3) (.tmp 25) (by kernel_rfl) rfl rfl rfl rfl hx4 0 (dcells s (.slice a4 (rest xs).length cp4) xs.length) (by go_simp) (by go_simp) 10 (by kernel_rfl) rfl (by simp) (dcells_one _ _ _ _ _) (dcells s (.slice a4 (rest xs).length cp4) xs.length) rfl ?_
  intro w5 hx5 hg5
  refine ⟨fun h => absurd (by simp) h, wpAnyN_done (by kernel_rfl) ?_⟩
  have hr5 := hr4.grown hg5 (by intro e; have h : r = r + 1 := Option.some.inj e; omega)
  have hrow5 := hrow4.grown hg5 (by intro g e e'; obtain ⟨g', h1, h2⟩ := ho4; have h3 : g' = g := Option.some.inj (h1.symm.trans e); have h4 : g = r + 1 := Option.some.inj e'; omega)
  have F5 : Below r w w5 := by
    refine ⟨hg5.os.trans F4.os, hg5.tape.trans F4.tape, hg5.output.trans F4.output, Nat.le_trans F4.size hg5.size, fun k hk => (hg5.block k (by omega) ?_).trans (F4.block k hk)⟩
    intro e; have h : k = r + 1 := Option.some.inj e; omega
  have e5 : r + 2 ≤ w5.heap.size := by have := hg5.size; omega
  clear hx4 hr4 F4 hg5 hrow4 hbt4 hg4 e4 F3 hbt3 hrow3 hr3 hx3 e3 HS hv4
  clear w4 w3
  have c9 := hx5.cell 9
  have ho5 : ∀ g, (Value.slice a4 (rest xs).length cp4).ownBlock = some g → r + 2 ≤ g := fun g e => by
    obtain ⟨g', h1, h2⟩ := ho4; have h3 : g' = g := Option.some.inj (h1.symm.trans e); omega
  go_upto_if 28 with (fail)
  go_cut [] from 9 (fun wc => Blk wc (r + 1) 36 (dcells (absd xs) (.slice a4 (rest xs).length cp4) xs.length) ∧ Blk wc r 25 zero32 ∧ Row wc (.slice a4 (rest xs).length cp4) 5 1 (rest xs).length ((rest xs).map b8) ∧ Below r w wc ∧ r + 2 ≤ wc.heap.size)
  case first =>
    by_cases hx : xs = []
    · have e0 : ((xs.length : Int) == 0) = true := by subst hx; rfl
      have EA := Lib.hid (show absd xs = st0 by subst hx; exact absd_nil)
      have hm : ∀ j u, ((st8 st0).map w32)[j]? = some u → w5.cell? ⟨0, 0 + j, none⟩ = some u := by
        intro j u hu
        have hj : j < 8 := by have := (List.getElem?_eq_some_iff.1 hu).1; simpa [st8] using this
        rw [Nat.zero_add]
        have h0 := hL.1 j hj
        rw [F5.cell (by have := World.block_lt_of_cell? w _ h0; omega), h0, ← hu]
        simp [List.getD, show j < (st8 st0).length from hj]
      clear hx
      go_wp2_with (first | (refine wpList_load_mid rfl 33 _ rfl 0 0 rfl ((st8 st0).map w32) (.array 8 31) hm (by kernel_rfl) rfl (by kernel_rfl) ?_) | (refine wpList_store_mid_blk rfl 33 _ _ rfl hx5 0 _ rfl rfl 8 (by kernel_rfl) rfl (by simp) (st8_one _) (dcells st0 (.slice a4 (rest xs).length cp4) xs.length) rfl ?_))
      intro w6 hx6 hg6
      have hr6 := hr5.grown hg6 (by intro e; have h : r = r + 1 := Option.some.inj e; omega)
      have hrow6 := hrow5.grown hg6 (by intro g e e'; obtain ⟨g', h1, h2⟩ := ho4; have h3 : g' = g := Option.some.inj (h1.symm.trans e); have h4 : g = r + 1 := Option.some.inj e'; omega)
      have F6 : Below r w w6 := by
        refine ⟨hg6.os.trans F5.os, hg6.tape.trans F5.tape, hg6.output.trans F5.output, Nat.le_trans F5.size hg6.size, fun k hk => (hg6.block k (by omega) ?_).trans (F5.block k hk)⟩
        intro e; have h : k = r + 1 := Option.some.inj e; omega
      have e6 : r + 2 ≤ w6.heap.size := by have := hg6.size; omega
      clear hg6 hm
      go_wp2
      go_meet
      case rel => exact ⟨by rw [EA.out]; exact hx6, hr6, hrow6, F6, e6⟩
    · have e0 : ((xs.length : Int) == 0) = false := by
        have : 0 < xs.length := List.length_pos_iff.2 hx
        rw [beq_eq_false_iff_ne]; omega
      have EA := hs hx
      subst EA
      go_wp2
      go_meet
      case rel => exact ⟨hx5, hr5, hrow5, F5, e5⟩
  case rest =>
    obtain ⟨hxc, hrc, hrowc, Fc, ec⟩ := hcut
    clear hx5 hr5 hrow5 F5 e5 c9 hs
    clear w5
    clear ho4
    have c8 := hxc.cell 8
    have hl1 : (rest xs).length + 1 ≤ maxLen := by simp only [maxLen]; omega
    have hl2 : ((rest xs).length + 1) * 1 ≤ 140737488355328 := by omega
    go_wp2_with (at_builtin; refine wpList_append_row rfl _ _ 22 22 rfl 5 i0 (.int .u8 0) 1 1 (by kernel_rfl) hi hz0 hz1 hz2 rfl (by decide) (hrowc.alloc _) rfl ((bts_new1 wc 128 _ 5 rfl).src (e' := 5) (by kernel_rfl) 1 1 rfl) rfl hl1 hl2 ?_)
    intro v6 w6 hrow6 hg6 hv6
    have P6 := Pad.app ⟨hrowc, ho5, hxc, hrc, Fc, ec⟩ _ hrow6 hg6 hv6
    clear hrow6 hg6 hv6 hrowc hxc hrc Fc ec c8 hl1 hl2
    obtain ⟨a6, c6, rfl, -, h6, h7, -⟩ := P6.row.bts
    rw [show (rest xs ++ [128#8]).length = (rest xs).length + 1 from by simp] at P6 ⊢
    go_wp2
    go_loopg [4] (padz xs.length) (fun k t wr => ∃ (j c : Nat) (a : Option Addr), t = .slice a ((rest xs).length + 1 + j) c ∧ j + k = padz xs.length ∧ Pad r w (dcells (absd xs) (.slice a4 (rest xs).length cp4) xs.length) t (rest xs ++ [128] ++ List.replicate j 0) wr)
    case atStart => exact ⟨0, c6, a6, by simp, by omega, by simpa using P6⟩
    case round =>
      obtain ⟨j, c, a, rfl, hj, hP⟩ := hrel
      generalize hL1 : (rest xs).length + 1 + j = L at hP ⊢
      have hxl : (rest xs).length = xs.length % 64 := by unfold rest full; rw [List.length_drop]; omega
      have hj2 := hj
      unfold padz at hj2
      obtain ⟨ts, hts⟩ : ∃ ts, ts = rest xs ++ [128] ++ List.replicate j 0 := ⟨_, rfl⟩
      rw [← hts] at hP
      have htl : ts.length = L := by rw [hts, ← hL1]; simp; omega
      by_cases hq : L % 64 = 56
      · have hd : ((L : Int) % 64 != 56) = false := by rw [bne_eq_false_iff_eq]; omega
        have hk : j = padz xs.length := by unfold padz; omega
        have H1 := Lib.hid (And.intro hts (And.intro hL1 (And.intro htl (And.intro hxl (And.intro hj hk)))))
        clear hts hL1 htl hxl hj hj2 hk hq
        go_wp2
        go_loopg [4, 42] 8 (fun k t i wr => ∃ (m c : Nat) (a : Option Addr), t = .slice a (L + m) c ∧ i = .int .i64 m ∧ m + k = 8 ∧ Pad r w (dcells (absd xs) (.slice a4 (rest xs).length cp4) xs.length) t (ts ++ (len8 xs.length).take m) wr)
        case atStart => exact ⟨0, c, a, rfl, rfl, rfl, by simpa using hP⟩
        case round =>
          obtain ⟨m, c, a, rfl, rfl, hm, hP⟩ := hrel
          by_cases hq : m < 8
          · have hd : decide ((m : Int) < 8) = true := by rw [decide_eq_true_eq]; omega
            have c9 := hP.xb.cell 9
            have hlen8 : (len8 xs.length).length = 8 := by simp [len8]
            have hcell : Value.int .u8 (8 * (xs.length : Int) / 2 ^ (56 - 8 * m) % 256) = b8 ((len8 xs.length).getD m 0) := len8_cell xs.length m hq hlen
            obtain ⟨u, hu⟩ : ∃ u, u = (len8 xs.length).getD m 0 := ⟨_, rfl⟩
            rw [← hu] at hcell
            obtain ⟨us, hus⟩ : ∃ us, us = ts ++ (len8 xs.length).take m := ⟨_, rfl⟩
            rw [← hus] at hP
            have hul : us.length = L + m := by rw [hus, List.length_append, H1.out.2.2.1, List.length_take, hlen8]; omega
            have hl0 : L ≤ xs.length + 65 := by obtain ⟨-, h1, -, h2, -, h3⟩ := H1.out; have : padz xs.length < 64 := Nat.mod_lt _ (by decide); omega
            have hl1 : us.length + 1 ≤ maxLen := by simp only [maxLen]; omega
            have hl2 : (us.length + 1) * 1 ≤ 140737488355328 := by omega
            have hu2 : us ++ [u] = ts ++ (len8 xs.length).take (m + 1) := by
              rw [hus, hu, List.take_succ_eq_append_getElem (by omega), ← List.append_assoc]
              simp [List.getD, show m < (len8 xs.length).length by omega]
            have H2 := Lib.hid (And.intro hul hu2)
            clear hlen8 hu hus hul hu2 hl0
            go_wp2_with (at_builtin; refine wpList_append_row rfl _ _ 22 22 rfl 5 i0 (.int .u8 0) 1 1 (by kernel_rfl) hi hz0 hz1 hz2 rfl (by decide) (hP.row.alloc _) rfl ((bts_new1 wr u _ 5 rfl).src (e' := 5) (by kernel_rfl) 1 1 rfl) rfl hl1 hl2 ?_)
            intro v7 w7 hrow7 hg7 hv7
            have P7 := hP.app _ hrow7 hg7 hv7
            obtain ⟨a7, c7, rfl, -, -, -, -⟩ := P7.row.bts
            clear hrow7 hg7 hv7 hcell c9
            go_wp2
            go_roundg (gk - 1)
            case measure => omega
            case rel =>
              refine ⟨m + 1, c7, a7, by rw [List.length_append, H2.out.1]; rfl, rfl, by omega, ?_⟩
              rw [← H2.out.2]
              exact P7
          · have hd : decide ((m : Int) < 8) = false := by rw [decide_eq_false_iff_not]; omega
            obtain rfl : m = 8 := by omega
            go_wp2
            obtain ⟨T, hT⟩ : ∃ T, T = rest xs ++ pad xs.length := ⟨_, rfl⟩
            have hT2 : ts ++ (len8 xs.length).take 8 = T := by
              obtain ⟨h1, -, -, -, -, h6⟩ := H1.out
              rw [hT, h1, h6, List.take_of_length_le (by simp [len8])]; simp [pad]
            have hTl : L + 8 = T.length := by rw [← hT2, List.length_append, H1.out.2.2.1]; simp [len8]
            have hTq : T.length = 64 * (T.length / 64) := by
              obtain ⟨-, h2, -, h4, -, h6⟩ := H1.out
              unfold padz at h6; omega
            rw [hT2, hTl] at hP
            rw [hTl]
            have HT := Lib.hid (And.intro hT (And.intro hTl hTq))
            clear hT hT2 hTl hTq hq hd H1
            go_loopg [4] (T.length / 64) (fun k t wr => ∃ (m c : Nat) (a : Option Addr) (R : List B), t = .slice a R.length c ∧ R = T.drop (64 * m) ∧ m + k = T.length / 64 ∧ Pad r w (dcells (absorb (absd xs) T m) (.slice a4 (rest xs).length cp4) xs.length) t R wr)
            case atStart => exact ⟨0, c, a, T, rfl, by simp, by omega, by rw [absorb_zero]; exact hP⟩
            case round =>
              obtain ⟨m, c, a, R, rfl, hR, hm, hP⟩ := hrel
              have hRl : R.length = T.length - 64 * m := by rw [hR, List.length_drop]
              have hTq := HT.out.2.2
              by_cases hq : m < T.length / 64
              · have h64 : 64 ≤ R.length := by omega
                have hpos : 0 < R.length := by omega
                have hd : decide ((0 : Int) < (R.length : Int)) = true := by rw [decide_eq_true_eq]; omega
                have HM := Lib.hid (And.intro hR (And.intro hm (And.intro hRl hq)))
                clear hR hm hRl hTq hq
                go_upto_region 15 with (fail)
                obtain ⟨g, off, cur, rfl, hg0, hc1, hc2, hc3, hcell⟩ := hP.row.place hpos
                have hsl : ∀ W : World, (Instr.slice 22 (.slice (some ⟨g, off, none⟩) R.length c) none (some (.int .i64 64)) none).run Tryd.prog W = .ok (.slice (some ⟨g, off, none⟩) 64 c) W := fun W => run_upto_row (by kernel_rfl) hi g off _ c 64 h64 hc1 W
                obtain ⟨S, hSd⟩ : ∃ S : World → Prop, S = fun w => Blk w (r + 1) 36 (dcells (absorb (absd xs) T m) (.slice a4 (rest xs).length cp4) xs.length) := ⟨_, rfl⟩
                refine wp_region_N S [6] (by kernel_rfl) ?_
                obtain ⟨wd, hwd⟩ : ∃ wd, wd = wr.drew := ⟨_, rfl⟩
                replace hP : Pad r w (dcells (absorb (absd xs) T m) (.slice a4 (rest xs).length cp4) xs.length) (.slice (some ⟨g, off, none⟩) R.length c) R wd := by rw [hwd]; exact ⟨hP.row, hP.own, hP.xb, hP.rb, hP.bel.drew, hP.sz⟩
                replace hcell : ∀ j, j < (R.map b8).length → wd.cell? ⟨g, off + j, none⟩ = (R.map b8)[j]? := by rw [hwd]; exact hcell
                rw [← hwd]
                clear hwd hg0
                clear wr
                have hSw : S wd := by rw [hSd]; exact hP.xb
                have HR := Lib.hid (And.intro hSd hcell)
                clear hSd hcell
                refine wpAnyN_pureG 0 60 (v := ?_) rfl rfl (by kernel_rfl) (by kernel_rfl) (by kernel_rfl) (fun _ _ _ h => h) rfl (fun w => ?_) ?_
                rotate_left
                · go_simp
                  try with_reducible rfl
                refine wpAnyN_takeG 1 61 (v := ?_) rfl rfl (by kernel_rfl) (by kernel_rfl) (by kernel_rfl) (by kernel_rfl) (fun _ _ _ h => h) (by assumption) rfl (fun w hS => ?_) ?_
                rotate_left
                · (refine run_load_mid_blk 33 (.tmp 60) ?_ (by rw [HR.out.1] at hS; exact hS) 0 ?_ ((st8 (absorb (absd xs) T m)).map w32) (dcells_st _ _ _) (.array 8 31) (by kernel_rfl) rfl 8 (by kernel_rfl) rfl <;> rfl)
                refine wpAnyN_pureG 2 62 (v := ?_) rfl rfl (by kernel_rfl) (by kernel_rfl) (by kernel_rfl) (fun _ _ _ h => h) rfl (fun w => ?_) ?_
                rotate_left
                · go_simp
                  try with_reducible rfl
                refine wpAnyN_pureG 3 63 (v := ?_) rfl rfl (by kernel_rfl) (by kernel_rfl) (by kernel_rfl) (fun _ _ _ h => h) rfl (fun w => ?_) ?_
                rotate_left
                · go_simp
                  try with_reducible rfl
                have hcb : ∀ j, j < 64 → wd.cell? ⟨g, off + j, none⟩ = some (b8 (R.getD j 0)) := fun j hj => by
                  have := HR.out.2 j (by simp; omega)
                  rw [this]
                  simp [List.getD, show j < R.length by omega]
                have hsz := hP.sz
                have hLr : Laid wd := hL.below (hP.bel) (by omega)
                refine wpAnyN_call 4 27 (some 64) [.tmp 61, .tmp 63] [.agg ((st8 (absorb (absd xs) T m)).map w32).toArray, .slice (some ⟨g, off, none⟩) 64 c] (by kernel_rfl) rfl rfl rfl rfl (by go_simp) Tryd.call27 ?_
                rw [← stv_eq]
                refine (takes_any (absorb (absd xs) T m) g off c wd R (by omega) (by simp only [maxLen] at hc2; omega) hLr hcb).mono ?_
                rintro e w5 ⟨rfl, hw5⟩
                refine ⟨_, rfl, fun _ hS => ?_, ?_⟩
                · rw [HR.out.1] at hS ⊢
                  exact hS.below hw5 hS.lt
                refine wpAnyN_pureG 5 65 (v := ?_) rfl rfl (by kernel_rfl) (by kernel_rfl) (by kernel_rfl) (fun _ _ _ h => h) rfl (fun w => ?_) ?_
                rotate_left
                · go_simp
                  try with_reducible rfl
                have hB5 := hP.xb.below hw5 hP.xb.lt
                refine wpAnyN_store_blk 6 33 (.tmp 65) (.tmp 64) (by kernel_rfl) rfl rfl rfl rfl hB5 0 ((st8 (compress (absorb (absd xs) T m) R)).map w32).toArray (by go_simp) (by go_simp; rfl) 8 (by kernel_rfl) rfl (dcells_size _ _ _) (st8_one _) (dcells (compress (absorb (absd xs) T m) R) (.slice a4 (rest xs).length cp4) xs.length) (dcells_store _ _ _ _) ?_
                intro w6 hB6 hg6
                refine ⟨fun h => absurd (by simp) h, wpAnyN_done (by kernel_rfl) ?_⟩
                have hP6 := hP.step hw5 hB6 hg6
                obtain ⟨a7, ha7, -, ho7, hk7⟩ := run_from_row (P := Tryd.prog) (t := 22) (by kernel_rfl) hi hz1 (some ⟨g, off, none⟩) R.length c 64 h64 hc1
                have hR7 := hk7 _ _ hP6.row
                obtain ⟨hR, hm, hRl, hq⟩ := HM.out
                have hTq := HT.out.2.2
                have e1 : R.length - 64 = (T.drop (64 * (m + 1))).length := by rw [List.length_drop]; omega
                have e2 : (R.map b8).drop (64 * 1) = (T.drop (64 * (m + 1))).map b8 := by rw [← List.map_drop, hR, List.drop_drop]; congr 2
                have e3 : compress (absorb (absd xs) T m) R = absorb (absd xs) T (m + 1) := by rw [absorb_snoc, compress_take, hR]
                rw [e2, e1] at hR7
                rw [e3] at hP6
                rw [e1] at ho7
                have hP7 := hP6.drop hR7 ho7
                have HE := Lib.hid (And.intro e1 (show m + 1 + (gk - 1) = T.length / 64 by omega))
                have hmg : gk - 1 < gk := by omega
                have HG := Lib.hid hmg
                clear hR7 ho7 hk7 hP6 hB6 hg6 hB5 hw5 hP HR hLr hcb hsl e1 e2 e3 hR hm hRl hq hTq hmg HM hc3
                have HA := Lib.hid (slice_two a7 g off R.length c _ ha7 HE.out.1)
                clear ha7
                go_wp2
                all_goals
                  go_roundg (gk - 1)
                  case measure => exact HG.out
                  case rel =>
                    first
                    | exact ⟨m + 1, c - 64, a7, _, HA.out.1 (by first | rfl | assumption), rfl, HE.out.2, by rw [HA.out.1 (by first | rfl | assumption)]; exact hP7⟩
                    | exact ⟨m + 1, c - 64, a7, _, HA.out.2 (by assumption), rfl, HE.out.2, by rw [HA.out.2 (by assumption)]; exact hP7⟩
              · have hR0 : R.length = 0 := by omega
                have hm2 : m = T.length / 64 := by omega
                have HM := Lib.hid (And.intro hm2 hR)
                clear hR hm hRl hTq hq hm2
                obtain rfl : R = [] := List.eq_nil_of_length_eq_zero hR0
                clear hR0
                go_wp2_with (refine wpList_load_mid_blk rfl 33 _ rfl (hP.xb.alloc _) 0 rfl ((st8 (absorb (absd xs) T m)).map w32) (dcells_st _ _ _) (.array 8 31) (by kernel_rfl) rfl 8 (by kernel_rfl) rfl ?_)
                obtain ⟨e, he⟩ : ∃ e, e = wr.heap.size := ⟨_, rfl⟩
                obtain ⟨w8, hw8⟩ : ∃ w8, w8 = wr.alloc (.cells zero32 25) := ⟨_, rfl⟩
                have hr8 : Blk w8 r 25 zero32 := by rw [hw8]; exact hP.rb.alloc _
                have he8 : Blk w8 e 25 (rowB [] 32) := by rw [hw8, he]; exact Blk.new wr zero32 25
                have F8 : Below r w w8 := by rw [hw8]; exact hP.bel.alloc (by have := hP.sz; omega) _
                have hre : r < e := by have := hP.sz; omega
                change Code.wp _ _ _ _ (wr.alloc (.cells zero32 25))
                rw [← hw8, ← he]
                obtain ⟨ws, hws⟩ : ∃ ws, ws = st8 (absorb (absd xs) T m) := ⟨_, rfl⟩
                have hwl : ws.length = 8 := by rw [hws]; rfl
                have hwf : (ws.map bytesOf).flatten = sha xs := by rw [hws, HM.out.1]; exact sum_final xs T HT.out.1 HT.out.2.2
                rw [← hws]
                have HW := Lib.hid (And.intro hwl hwf)
                have hrw : r < w8.heap.size := hr8.lt
                clear hw8 he hws hwl hwf hP HM HT
                clear wr
                go_loopg [7, 8, 70] 8 (fun k _ _ i wr => ∃ m : Nat, i = .int .i64 m ∧ m + k = 8 ∧ Blk wr e 25 (rowB (((ws.take m).map bytesOf).flatten) 32) ∧ Blk wr r 25 zero32 ∧ Below r w wr)
                case atStart => exact ⟨0, rfl, rfl, he8, hr8, F8⟩
                case round =>
                  clear he8 hr8 F8
                  obtain ⟨m, rfl, hm, he8, hr8, F8⟩ := hrel
                  obtain ⟨hwl, hwf⟩ := HW.out
                  by_cases hq : m < 8
                  · have hd : decide ((m : Int) < 8) = true := by rw [decide_eq_true_eq]; omega
                    obtain ⟨x, hx⟩ : ∃ x, ws[m]? = some x := ⟨_, List.getElem?_eq_getElem (show m < ws.length by omega)⟩
                    have hix : ∀ W : World, (Instr.index 33 (.agg (ws.map w32).toArray) (.int .i64 (m : Nat))).run Tryd.prog W = .ok (w32 x) W := fun W =>
                      run_index_one (n := 8) (by kernel_rfl) (show Tryd.prog.underlying 31 = some (.int .u32) by kernel_rfl) (by kernel_rfl) _ m hq (w32 x) (by simp [hx]) W
                    obtain ⟨us, hus⟩ : ∃ us, us = ((ws.take m).map bytesOf).flatten := ⟨_, rfl⟩
                    have hul : us.length = 4 * m := by rw [hus, out_len, List.length_take]; omega
                    have hus2 : us ++ bytesOf x = ((ws.take (m + 1)).map bytesOf).flatten := by rw [out_snoc ws m x hx, hus]
                    rw [← hus] at he8
                    obtain ⟨v0, c0⟩ := rowB_get us 32 (4 * m) (by omega)
                    obtain ⟨v1, c1⟩ := rowB_get us 32 (4 * m + 1) (by omega)
                    obtain ⟨v2, c2⟩ := rowB_get us 32 (4 * m + 2) (by omega)
                    obtain ⟨v3, c3⟩ := rowB_get us 32 (4 * m + 3) (by omega)
                    replace c0 := (he8.cell (4 * m)).trans c0
                    replace c1 := (he8.cell (4 * m + 1)).trans c1
                    replace c2 := (he8.cell (4 * m + 2)).trans c2
                    replace c3 := (he8.cell (4 * m + 3)).trans c3
                    have f0 := he8.free (4 * m)
                    have f1 := he8.free (4 * m + 1)
                    have f2 := he8.free (4 * m + 2)
                    have f3 := he8.free (4 * m + 3)
                    have HX := Lib.hid (And.intro hx (And.intro hul (And.intro hus2 (show m + 1 + (gk - 1) = 8 by omega))))
                    have hmg : gk - 1 < gk := by omega
                    have HG := Lib.hid hmg
                    clear hx hul hus2 hus hmg hm hwl hwf
                    go_wp2
                    go_roundg (gk - 1)
                    case measure => exact HG.out
                    case rel =>
                      obtain ⟨hx, hul, hus2, hm1⟩ := HX.out
                      refine ⟨m + 1, by go_num, hm1, ?_, (((hr8.set_other _ (by dsimp only; omega) _).set_other _ (by dsimp only; omega) _).set_other _ (by dsimp only; omega) _).set_other _ (by dsimp only; omega) _,
                        (((F8.setCell (by dsimp only; omega) _).setCell (by dsimp only; omega) _).setCell (by dsimp only; omega) _).setCell (by dsimp only; omega) _⟩
                      rw [← hus2, show bytesOf x = [(x >>> 24).setWidth 8, (x >>> 16).setWidth 8, (x >>> 8).setWidth 8, x.setWidth 8] from rfl, ← rowB_four us 32 (4 * m) _ _ _ _ hul (by omega)]
                      exact (((he8.set (4 * m) _).set (4 * m + 1) _).set (4 * m + 2) _).set (4 * m + 3) _
                  · have hd : decide ((m : Int) < 8) = false := by rw [decide_eq_false_iff_not]; omega
                    obtain rfl : m = 8 := by omega
                    clear hq hm
                    rw [List.take_of_length_le (by omega), hwf, rowB_full _ (sha_len xs)] at he8
                    clear hwl hwf
                    go_wp2_with (first | (refine wpList_load_blk rfl 25 _ rfl he8 rfl (.array 32 5) (by kernel_rfl) rfl 32 (by kernel_rfl) (by simp [sha_len]) ?_) | (refine wpList_store_blk rfl 25 _ _ rfl hr8 _ rfl rfl 32 (by kernel_rfl) rfl (by simp [sha_len]) (by rw [List.toList_toArray]; exact b8_one _) ?_))
                    intro w9 hr9 hg9
                    have F9 := below_upd F8 hg9 (Nat.le_refl _) hr8.lt
                    go_wp2
                    rw [← hr] at F9
                    refine (ret_blk rfl hr9 rfl (.array 32 5) (by kernel_rfl) rfl 32 (by kernel_rfl) (by simp [sha_len]) ⟨rfl, F9⟩).2
      · have hd : ((L : Int) % 64 != 56) = true := by rw [bne_iff_ne]; omega
        have hl1 : ts.length + 1 ≤ maxLen := by simp only [maxLen]; omega
        have hl2 : (ts.length + 1) * 1 ≤ 140737488355328 := by omega
        have hm : gk - 1 < gk := by omega
        have H1 := Lib.hid (And.intro hts (And.intro hL1 (And.intro htl (And.intro hj hm))))
        clear hts hL1 htl hxl hj hj2 hq hm
        go_wp2_with (at_builtin; refine wpList_append_row rfl _ _ 22 22 rfl 5 i0 (.int .u8 0) 1 1 (by kernel_rfl) hi hz0 hz1 hz2 rfl (by decide) (hP.row.alloc _) rfl ((bts_new1 wr 0 _ 5 rfl).src (e' := 5) (by kernel_rfl) 1 1 rfl) rfl hl1 hl2 ?_)
        intro v7 w7 hrow7 hg7 hv7
        have P7 := hP.app _ hrow7 hg7 hv7
        obtain ⟨a7, c7, rfl, -, -, -, -⟩ := P7.row.bts
        go_wp2
        go_roundg (gk - 1)
        case measure => exact H1.out.2.2.2.2
        case rel =>
          obtain ⟨hts, hL1, htl, hj, hm⟩ := H1.out
          refine ⟨j + 1, c7, a7, by rw [List.length_append, htl, ← hL1]; rfl, by omega, ?_⟩
          rw [List.replicate_succ', ← List.append_assoc, ← hts]
          exact P7
end Go.Proofs.YtahlllbigkgobaaDoor
