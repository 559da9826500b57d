/-
  What the statements of layer 18 ask first.
-/
import Derived.Test.YtbglblamoodocaaDoorPaths
namespace Go.Proofs.YtbglblamoodocaaDoor
open Go Go.RowKit
attribute [local irreducible] sha
theorem wpList_load_midW {P : Program} {ops : Array Oper} {rest : List Oper} {op : Oper} {a : Act} {w : World} {Q : Exit → Act → World → Prop} (hw : Region.wanted op (yielded ops a.tmps) = true) (ty : TypeId) (x : Operand) (ho : op.op = .load ty x)
    (b o : Nat) (hx : a.eval x = .pointer (some ⟨b, o, none⟩)) (cs : List Value) (d : TypeDesc) (hc : w.rangeAt b o cs) (hu : P.underlying ty = some d) (hd : d.isRow = true) (hi : (P.info? ty).map (·.size) = some cs.length)
    (h : wpList P ops Q rest (a.put op.dst (.agg cs.toArray)) w) : wpList P ops Q (op :: rest) a w := by
  refine wpList_step fun K hK => ?_
  rw [if_pos hw]
  exact wp_load_mid ty x ho b o hx cs d hc hu hd hi (hK _ _ h)
def oneH (x : B) : Hs := ⟨x :: List.replicate 31 0, by simp⟩
def twoL : List B := (oneH 2).1
@[go_sem] theorem eq_hash_two (xs : List B) (hx : xs.length = 32) (w : World) :
    (Op.equalIn 10000 28 (.agg (xs.map b8).toArray) (.agg #[Value.int IntKind.u8 2, Value.int IntKind.u8 0, Value.int IntKind.u8 0, Value.int IntKind.u8 0, Value.int IntKind.u8 0, Value.int IntKind.u8 0, Value.int IntKind.u8 0, Value.int IntKind.u8 0, Value.int IntKind.u8 0, Value.int IntKind.u8 0, Value.int IntKind.u8 0, Value.int IntKind.u8 0, Value.int IntKind.u8 0, Value.int IntKind.u8 0, Value.int IntKind.u8 0, Value.int IntKind.u8 0, Value.int IntKind.u8 0, Value.int IntKind.u8 0, Value.int IntKind.u8 0, Value.int IntKind.u8 0, Value.int IntKind.u8 0, Value.int IntKind.u8 0, Value.int IntKind.u8 0, Value.int IntKind.u8 0, Value.int IntKind.u8 0, Value.int IntKind.u8 0, Value.int IntKind.u8 0, Value.int IntKind.u8 0, Value.int IntKind.u8 0, Value.int IntKind.u8 0, Value.int IntKind.u8 0, Value.int IntKind.u8 0])).run Tryd.prog w = .ok (xs == twoL) w :=
  eq_hash xs twoL hx (by simp [twoL, oneH]) w
theorem path_awake (a b : Hs) : pathOut [a, b] 0 = [b] := by
  unfold pathOut pathH
  rw [if_pos ⟨Int.le_refl _, by simp⟩]
  have h2 : Tree.split ([a, b] : List Hs).length = 1 := by show Tree.split 2 = 1; decide
  rw [Tree.path_lo nodeH nilH (l := [a, b]) (Nat.le_refl 2) (by rw [h2]; exact Nat.zero_lt_one), h2]
  rw [show ([a, b] : List Hs).take 1 = [a] from rfl, show ([a, b] : List Hs).drop 1 = [b] from rfl, Tree.path_one nodeH nilH (show ([a] : List Hs).length < 2 from Nat.lt_succ_self 1), Tree.root_one]
  rfl
set_option maxRecDepth 100000 in
set_option maxHeartbeats 4000000 in
theorem awake18_any (w : World) (hL : Laid w) : Calls Tryd.prog 28 #[] w fun e w' => e = .returned (.bool true) ∧ Below w.heap.size w w' := by
  obtain ⟨r, hr⟩ : ∃ r, r = w.heap.size := ⟨_, rfl⟩
  obtain ⟨w1, hw1⟩ : ∃ w1, w1 = w.alloc (.cells ((flat [oneH 1, oneH 2]).map b8).toArray 28) := ⟨_, rfl⟩
  have F1 : Below r w w1 := by rw [hw1, hr]; exact below_alloc1 _ _
  have hb1 : Blk w1 r 28 ((flat [oneH 1, oneH 2]).map b8).toArray := by rw [hw1, hr]; exact Blk.new w _ _
  have hH : Hts w1 (some ⟨r, 0, none⟩) [oneH 1, oneH 2] := hb1.bts
  have c1 := paths_any w1 (some ⟨r, 0, none⟩) 2 [oneH 1, oneH 2] 0 (hL.below F1 (by omega)) hH (by decide) (by decide) (by decide)
  rw [path_awake, show pathErr [oneH 1, oneH 2] 0 = 0 from rfl] at c1
  have HR := Lib.hid (And.intro hw1 hr)
  have hs1 : r ≤ w1.heap.size := Nat.le_of_lt hb1.lt
  clear hw1 hr hb1 hH
  go_enter Tryd.func28, Tryd.ntmps28
  go_wp2_with fail
  change Calls _ _ _ (w.alloc (.cells ((flat [oneH 1, oneH 2]).map b8).toArray 28)) _
  rw [← HR.out.1, ← HR.out.2]
  refine c1.mono ?_
  rintro e w2 ⟨v2, rfl, O2⟩
  have F2 : Below r w w2 := F1.trans (O2.bel.mono hs1)
  obtain ⟨a2, c2, rfl, -, -, -, hY⟩ := O2.row.hts
  obtain ⟨b, off, rfl, hb, hrg⟩ := hY.place (by decide)
  have hr0 := hrg 0 (by decide)
  rw [Nat.zero_mul, Nat.add_zero] at hr0
  obtain ⟨u, hu⟩ : ∃ u, u = oneH 2 := ⟨_, rfl⟩
  have hul := u.2
  have hut : (u.1 == twoL) = true := by rw [beq_iff_eq, hu]; rfl
  replace hr0 : w2.rangeAt b off (u.1.map b8) := by rw [hu]; exact hr0
  rw [HR.out.2] at F2
  have HF := Lib.hid F2
  clear c1 O2 hY hb hrg F1 F2 hu
  go_wp2_with (refine wpList_load_midW (by go_simp) 28 _ rfl b off rfl (u.1.map b8) (.array 32 5) hr0 (by kernel_rfl) rfl (by rw [List.length_map, hul]; kernel_rfl) ?_)
  go_ret
  exact ⟨rfl, HF.out⟩
end Go.Proofs.YtbglblamoodocaaDoor
