/-
  What the statements of layer 16 ask first; and the statement MerkleSplits.
-/
import Derived.Test.YtbglblamoodocaaDoorRoot
import Derived.Test.YtbglblamoodocaaDoorShaZ
namespace Go.Proofs.YtbglblamoodocaaDoor
open Go Go.RowKit
attribute [local irreducible] sha
theorem bits_and_i64_nat (a b : Nat) (ha : a < 9223372036854775808) (hb : b < 9223372036854775808) : bits .and .i64 (a : Int) (b : Int) = ((a &&& b : Nat) : Int) := by
  have hx : a &&& b < 2 ^ 63 := Nat.and_lt_two_pow _ (by omega)
  have h1 : (BitVec.ofInt 64 (a : Int)).toNat = a := by
    rw [BitVec.ofInt_natCast, BitVec.toNat_ofNat]; exact Nat.mod_eq_of_lt (by omega)
  have h2 : (BitVec.ofInt 64 (b : Int)).toNat = b := by
    rw [BitVec.ofInt_natCast, BitVec.toNat_ofNat]; exact Nat.mod_eq_of_lt (by omega)
  show IntKind.i64.wrap ((BitVec.ofInt 64 (a : Int) &&& BitVec.ofInt 64 (b : Int)).toNat : Int) = _
  rw [BitVec.toNat_and, h1, h2]
  exact IntWalk.i64_in _ (by omega)
def zeroL : List B := List.replicate 32 0
def zeroH : Hs := ⟨zeroL, by simp [zeroL]⟩
@[go_sem] theorem eq_hash_zero (xs : List B) (hx : xs.length = 32) (w : World) :
    (Op.equalIn 10000 28 (.agg (xs.map b8).toArray) (.agg #[Value.int IntKind.u8 0, Value.int IntKind.u8 0, Value.int IntKind.u8 0, Value.int IntKind.u8 0, Value.int IntKind.u8 0, Value.int IntKind.u8 0, Value.int IntKind.u8 0, Value.int IntKind.u8 0, Value.int IntKind.u8 0, Value.int IntKind.u8 0, Value.int IntKind.u8 0, Value.int IntKind.u8 0, Value.int IntKind.u8 0, Value.int IntKind.u8 0, Value.int IntKind.u8 0, Value.int IntKind.u8 0, Value.int IntKind.u8 0, Value.int IntKind.u8 0, Value.int IntKind.u8 0, Value.int IntKind.u8 0, Value.int IntKind.u8 0, Value.int IntKind.u8 0, Value.int IntKind.u8 0, Value.int IntKind.u8 0, Value.int IntKind.u8 0, Value.int IntKind.u8 0, Value.int IntKind.u8 0, Value.int IntKind.u8 0, Value.int IntKind.u8 0, Value.int IntKind.u8 0, Value.int IntKind.u8 0, Value.int IntKind.u8 0])).run Tryd.prog w = .ok (xs == zeroL) w :=
  eq_hash xs (List.replicate 32 0) hx (by simp) w
set_option maxRecDepth 100000 in
set_option maxHeartbeats 4000000 in
theorem awake16_any (w : World) (hL : Laid w) : Calls Tryd.prog 19 #[] w fun e w' => e = .returned (.bool true) ∧ Below w.heap.size w w' := by
  have hs : Tree.split (5 : Int).toNat = 4 := by decide
  have h1 := split_any w 5 (by decide) (by decide)
  rw [hs] at h1
  obtain ⟨zs, hzs⟩ : ∃ zs, zs = leafH [] := ⟨_, rfl⟩
  have hzl := zs.2
  have hne : (zs.1 == zeroL) = false := by
    rw [beq_eq_false_iff_ne, hzs]; exact sha_z
  have h2 := leaf_any w hL none 0 [] (Bts.nil _ _) (by decide)
  rw [← hzs] at h2
  clear hzs hs
  go_enter Tryd.func19, Tryd.ntmps19
  go_wp2_with fail
  refine h1.mono ?_
  rintro e w' ⟨rfl, rfl⟩
  clear h1
  go_wp2_with fail
  refine h2.mono ?_
  rintro e w2 ⟨rfl, F2⟩
  clear h2
  go_wp2
  go_ret
  exact ⟨rfl, F2⟩
set_option maxRecDepth 100000 in
set_option maxHeartbeats 4000000 in
theorem msplits_any (w : World) (hL : Laid w) (n : Int) (hn0 : 0 ≤ n) (hn1 : n ≤ 4294967295) : Calls Tryd.prog 3 #[.int .u32 n] w fun e w' => e = .returned (.bool true) ∧ Below w.heap.size w w' := by
  have h1 := split_any w n (by omega) (by omega)
  have q1 : IntKind.i64.wrap n = n := IntWalk.i64_in _ (by omega)
  by_cases hn : n < 2
  · have hs : Tree.split n.toNat = 0 := by unfold Tree.split; rw [if_pos (by omega)]
    have hd : decide (n < 2) = true := decide_eq_true hn
    rw [hs] at h1
    clear hs
    go_enter Tryd.func3, Tryd.ntmps3
    go_wp2_with fail
    refine h1.mono ?_
    rintro e w' ⟨rfl, rfl⟩
    clear h1
    go_wp2_with fail
    refine (awake16_any w' hL).mono ?_
    rintro e w2 ⟨rfl, F2⟩
    go_wp2
    go_ret
    exact ⟨rfl, F2⟩
  · have hd : decide (n < 2) = false := decide_eq_false hn
    have k0 := Tree.split_pos (n := n.toNat) (by omega)
    have k1 := Tree.split_lt (n := n.toNat) (by omega)
    have k2 := Tree.split_le (n := n.toNat) (by omega)
    obtain ⟨j, k3, -, -⟩ := Tree.split_spec (n := n.toNat) (by omega)
    obtain ⟨k, hk⟩ : ∃ k, k = Tree.split n.toNat := ⟨_, rfl⟩
    rw [← hk] at h1 k0 k1 k2 k3
    have k4 := (Tree.and_pred k0).1 ⟨j, k3⟩
    clear hk k3
    have d1 : decide ((1 : Int) ≤ (k : Int)) = true := by rw [decide_eq_true_eq]; omega
    have d2 : decide ((k : Int) < n) = true := by rw [decide_eq_true_eq]; omega
    have q2 : IntKind.i64.wrap (2 * (k : Int)) = 2 * k := IntWalk.i64_in _ (by omega)
    have d3 : decide (n ≤ 2 * (k : Int)) = true := by rw [decide_eq_true_eq]; omega
    have eAnd : bits .and .i64 (k : Int) ((k : Int) - 1) = 0 := by
      rw [show ((k : Int) - 1) = ((k - 1 : Nat) : Int) by omega, bits_and_i64_nat _ _ (by omega) (by omega), k4]; rfl
    have q3 : IntKind.i64.wrap ((k : Int) - 1) = k - 1 := IntWalk.i64_in _ (by omega)
    go_enter Tryd.func3, Tryd.ntmps3
    go_wp2_with fail
    refine h1.mono ?_
    rintro e w' ⟨rfl, rfl⟩
    clear h1
    go_wp2_with fail
    refine (awake16_any w' hL).mono ?_
    rintro e w2 ⟨rfl, F2⟩
    go_wp2
    go_ret
    exact ⟨rfl, F2⟩
end Go.Proofs.YtbglblamoodocaaDoor
