/-
  Claims of layer 19, and what fits them: with the root to which the path leads.
-/
import Derived.Test.YtadiijieldldhaaDoorRef19
namespace Go.Proofs.YtadiijieldldhaaDoor
open Go Go.RowKit
attribute [local irreducible] sha
/-- the cells of a claim -/
def clm (M N : Int) (x : Hs) (s : Value) (y : Hs) : List Value := .int .i64 M :: .int .i64 N :: (x.1.map b8 ++ (s :: y.1.map b8))
theorem clm_len (M N : Int) (x : Hs) (s : Value) (y : Hs) : (clm M N x s y).length = 67 := by simp [clm, x.2, y.2]
theorem clm_hash (M N : Int) (x : Hs) (s : Value) (y : Hs) (j : Nat) (v : Value) (h : (x.1.map b8)[j]? = some v) : (clm M N x s y).toArray[2 + j]? = some v := by
  have hj := (List.getElem?_eq_some_iff.1 h).1
  rw [List.getElem?_toArray, clm, Nat.add_comm, List.getElem?_cons_succ, List.getElem?_cons_succ, List.getElem?_append_left hj, h]
theorem clm_root (M N : Int) (x : Hs) (s : Value) (y : Hs) (j : Nat) (v : Value) (h : (y.1.map b8)[j]? = some v) : (clm M N x s y).toArray[35 + j]? = some v := by
  have hl : (x.1.map b8).length = 32 := by rw [List.length_map, x.2]
  rw [List.getElem?_toArray, clm, show 35 + j = (32 + 1 + j) + 1 + 1 by omega, List.getElem?_cons_succ, List.getElem?_cons_succ, List.getElem?_append_right (by omega), hl, show 32 + 1 + j - 32 = j + 1 by omega, List.getElem?_cons_succ, h]
theorem clm_list (M N : Int) (x : Hs) (s : Value) (y : Hs) : (clm M N x s y).toArray[34]? = some s := by
  have hl : (x.1.map b8).length = 32 := by rw [List.length_map, x.2]
  rw [List.getElem?_toArray, clm, show 34 = 32 + 1 + 1 by omega, List.getElem?_cons_succ, List.getElem?_cons_succ, List.getElem?_append_right (by omega), hl]; rfl
theorem clm_set_root (M N : Int) (x : Hs) (s : Value) (y z : Hs) : (clm M N x s z).toArray = ((clm M N x s y).toArray.toList.take 35 ++ (z.1.map b8).toArray.toList ++ (clm M N x s y).toArray.toList.drop (35 + 32)).toArray := by
  have hl : (x.1.map b8).length = 32 := by rw [List.length_map, x.2]
  have e : ∀ u : Hs, clm M N x s u = (.int .i64 M :: .int .i64 N :: (x.1.map b8 ++ [s])) ++ u.1.map b8 := fun u => by simp [clm]
  have hp : (Value.int .i64 M :: Value.int .i64 N :: (x.1.map b8 ++ [s])).length = 35 := by simp [x.2]
  rw [List.toList_toArray, List.toList_toArray, List.drop_of_length_le (Nat.le_of_eq (clm_len _ _ _ _ _)), List.append_nil, e y, List.take_left' hp, ← e z]
theorem clm_set_hash (M N : Int) (x x' : Hs) (s : Value) (y : Hs) : (clm M N x' s y).toArray = ((clm M N x s y).toArray.toList.take 2 ++ (x'.1.map b8).toArray.toList ++ (clm M N x s y).toArray.toList.drop (2 + 32)).toArray := by
  have hl : (x.1.map b8).length = 32 := by rw [List.length_map, x.2]
  have e : ∀ u : Hs, clm M N u s y = ([.int .i64 M, .int .i64 N] ++ u.1.map b8) ++ (s :: y.1.map b8) := fun u => by simp [clm]
  have hp : (([.int .i64 M, .int .i64 N] : List Value) ++ x.1.map b8).length = 2 + 32 := by simp [x.2]
  rw [List.toList_toArray, List.toList_toArray, e x, List.drop_left' hp, show List.take 2 ([.int .i64 M, .int .i64 N] ++ x.1.map b8 ++ (s :: y.1.map b8)) = [.int .i64 M, .int .i64 N] from rfl, e x']
theorem clm_one (M N : Int) (x : Hs) (ao : Option Addr) (n cp : Nat) (y : Hs) : ∀ v ∈ (clm M N x (.slice ao n cp) y).toArray.toList, v.oneCell' = true := by
  intro v hv
  rw [List.toList_toArray, clm] at hv
  rcases List.mem_cons.1 hv with rfl | hv
  · rfl
  rcases List.mem_cons.1 hv with rfl | hv
  · rfl
  rcases List.mem_append.1 hv with hv | hv
  · exact b8_one _ v hv
  rcases List.mem_cons.1 hv with rfl | hv
  · rfl
  · exact b8_one _ v hv
theorem claimU : ∃ fs, Tryd.prog.underlying 26 = some (.struct fs) := isStruct_spec (by kernel_rfl)
abbrev clmA (M N : Int) (x : Hs) (ao : Option Addr) (n cp : Nat) (y : Hs) : Array Value := (clm M N x (.slice ao n cp) y).toArray
theorem clmA_size (M N : Int) (x : Hs) (ao : Option Addr) (n cp : Nat) (y : Hs) : (clmA M N x ao n cp y).size = 67 := by rw [List.size_toArray, clm_len]
/-- a claim in a block: what its fields hold -/
theorem Blk.claim {w : World} {b T : Nat} {M N : Int} {x y : Hs} {ao : Option Addr} {n cp : Nat} (h : Blk w b T (clmA M N x ao n cp y)) :
    w.cell? ⟨b, 0, none⟩ = some (.int .i64 M) ∧ w.cell? ⟨b, 1, none⟩ = some (.int .i64 N) ∧ w.cell? ⟨b, 34, none⟩ = some (.slice ao n cp) :=
  ⟨h.cell 0, h.cell 1, (h.cell 34).trans (clm_list _ _ _ _ _)⟩
def zeroC : Array Value := (.int .i64 0 :: .int .i64 0 :: (List.replicate 32 (.int .u8 0) ++ (.slice none 0 0 :: List.replicate 32 (.int .u8 0))) : List Value).toArray
def fitP (M N : Int) (x : Hs) (p : List Hs) (y : Hs) : Hs := if 0 ≤ M ∧ M < N then (leadsH M.toNat N.toNat x p).1 else y
end Go.Proofs.YtadiijieldldhaaDoor
