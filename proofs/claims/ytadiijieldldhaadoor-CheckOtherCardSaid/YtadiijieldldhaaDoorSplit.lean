/-
  The greatest power of two below a number: merkle.Split, and the reference's.
-/
import Derived.Test.YtadiijieldldhaaDoorLen
import Derived.Test.YtadiijieldldhaaDoorHs
import Derived.Test.YtadiijieldldhaaDoorTree
namespace Go.Proofs.YtadiijieldldhaaDoor
open Go Go.RowKit
theorem wrap_two (j : Nat) (h : j ≤ 62) : wrap64 (2 ^ j) = ((2 ^ j : Nat) : Int) := by
  have h1 : 2 ^ j ≤ 2 ^ 62 := Nat.pow_le_pow_right (by omega) h
  have h2 : (2 : Int) ^ j = ((2 ^ j : Nat) : Int) := by rw [Int.natCast_pow]; rfl
  rw [h2]
  generalize 2 ^ j = p at h1
  unfold wrap64
  omega
set_option maxRecDepth 100000 in
set_option maxHeartbeats 4000000 in
theorem split_any (w : World) (n : Int) (h0 : -9223372036854775808 ≤ n) (h1 : n ≤ 9223372036854775807) :
    Calls Tryd.prog 35 #[.int .i64 n] w fun e w' => e = .returned (.int .i64 (Tree.split n.toNat)) ∧ w' = w := by
  by_cases hn : n < 2
  · have hd : decide (n < 2) = true := decide_eq_true hn
    have hs : Tree.split n.toNat = 0 := by unfold Tree.split; rw [if_pos (by omega)]
    go_enter Tryd.func35, Tryd.ntmps35
    go_wp2
    go_ret
    exact ⟨by rw [hs]; rfl, rfl⟩
  · have hd : decide (n < 2) = false := decide_eq_false hn
    obtain ⟨j, hj, hj62⟩ : ∃ j, j = (n.toNat - 1).log2 ∧ j ≤ 62 := ⟨_, rfl, by
      have := (Nat.log2_lt (n := n.toNat - 1) (k := 63) (by omega)).2 (by omega)
      omega⟩
    have hs : Tree.split n.toNat = 2 ^ j := by unfold Tree.split; rw [if_neg (by omega), hj]
    have hb : Lib.bitLen (n - 1).toNat = j + 1 := by
      rw [show (n - 1).toNat = n.toNat - 1 by omega, bitLen_log _ (by omega) (by omega), hj]
    clear hj
    have q1 : IntKind.i64.wrap (n - 1) = n - 1 := IntWalk.i64_in _ (by omega)
    have q2 : IntKind.u64.wrap (n - 1) = n - 1 := by rw [IntKind.wrap_u64]; omega
    go_enter Tryd.func35, Tryd.ntmps35
    go_wp2_with (go_at_call 47; refine (len_any (n - 1) _ (by omega) (by omega)).mono ?_; rintro e w' ⟨rfl, rfl⟩; rw [hb])
    go_ret
    exact ⟨by rw [hs, ← wrap_two j hj62]; rfl, rfl⟩
set_option maxRecDepth 100000 in
set_option maxHeartbeats 4000000 in
theorem refsplit_any (w : World) (n : Int) (h0 : -9223372036854775808 ≤ n) (h1 : n ≤ 9223372036854775807) :
    Calls Tryd.prog 36 #[.int .i64 n] w fun e w' => e = .returned (.int .i64 (Tree.split n.toNat)) ∧ w' = w := by
  by_cases hn : n < 2
  · have hd : decide (n < 2) = true := decide_eq_true hn
    have hs : Tree.split n.toNat = 0 := by unfold Tree.split; rw [if_pos (by omega)]
    go_enter Tryd.func36, Tryd.ntmps36
    go_wp2
    go_ret
    exact ⟨by rw [hs]; rfl, rfl⟩
  · have hd : decide (n < 2) = false := decide_eq_false hn
    go_enter Tryd.func36, Tryd.ntmps36
    go_wp2
    go_loopg [3] 63 (fun g v wr => ∃ (i p : Nat), v = .int .i64 p ∧ p = 2 ^ i ∧ i + g = 63 ∧ (p : Int) < n ∧ wr = w)
    case atStart => exact ⟨0, 1, rfl, rfl, rfl, by omega, rfl⟩
    case round =>
      obtain ⟨i, p, rfl, hp, hi, hpn, rfl⟩ := hrel
      have hi62 : i ≤ 62 := by
        have : i < 63 := (Nat.pow_lt_pow_iff_right (a := 2) (by omega)).1 (by omega)
        omega
      have q1 : IntKind.i64.wrap (n - p) = n - p := IntWalk.i64_in _ (by omega)
      by_cases hq : (p : Int) < n - p
      · have hd2 : decide ((p : Int) < n - p) = true := decide_eq_true hq
        have q2 : IntKind.i64.wrap (2 * p) = 2 * p := IntWalk.i64_in _ (by omega)
        have HP := Lib.hid (And.intro hp (And.intro hi hi62))
        clear hp hi
        go_wp2
        go_roundg (gk - 1)
        case measure => have := HP.out; omega
        case rel => exact ⟨i + 1, 2 * p, by go_num, by rw [Tree.two_succ, ← HP.out.1], by have := HP.out; omega, by omega, rfl⟩
      · have hd2 : decide ((p : Int) < n - p) = false := decide_eq_false hq
        have hs : Tree.split n.toNat = p := by rw [hp]; exact Tree.split_eq (by omega) (by rw [Tree.two_succ]; omega)
        clear hp
        go_wp2
        go_ret
        exact ⟨by first | rfl | (rw [hs]; rfl), rfl⟩
end Go.Proofs.YtadiijieldldhaaDoor
