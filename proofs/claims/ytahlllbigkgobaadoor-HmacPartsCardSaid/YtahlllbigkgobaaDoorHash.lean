/-
  Hashes as values: two hashes are held against each other; the hash of nothing else than bytes.
-/
import Derived.Test.YtahlllbigkgobaaDoorRefSum
import Derived.Test.YtahlllbigkgobaaDoorSums
import Derived.Test.YtahlllbigkgobaaDoorShaNat
import Derived.Stop.BytesEq
namespace Go.Proofs.YtahlllbigkgobaaDoor
open Go.RowKit

theorem Below.then {w a b : World} (h : Below w.heap.size w a) (k : Below a.heap.size a b) : Below w.heap.size w b := h.trans (k.mono h.size)
theorem Dig.below {w w' : World} {b n : Nat} {v : Value} {xs : List B} (h : Dig w b v xs) (hb : Below n w w') (hn : w.heap.size ≤ n) : Dig w' b v xs := by
  obtain ⟨⟨s, h1, h2⟩, h3, h4, h5⟩ := h
  exact ⟨⟨s, h1.below hb (Nat.lt_of_lt_of_le h1.lt hn), h2⟩, h3.below hb (fun g e => Nat.lt_of_lt_of_le (h3.lt g e) hn), h4, h5⟩
@[go_sem] theorem eql_b8 (t : TypeId) (x y : BitVec 8) : binOp .eql t (b8 x) (b8 y) = pure (.bool (x == y)) := by
  unfold b8; rw [binOp_eql]
  congr 2
  rw [Bool.eq_iff_iff, beq_iff_eq, beq_iff_eq]
  exact ⟨fun h => BitVec.eq_of_toNat_eq (by omega), fun h => by rw [h]⟩
@[go_sem] theorem neq_b8 (t : TypeId) (x y : BitVec 8) : binOp .neq t (b8 x) (b8 y) = pure (.bool (x != y)) := by
  unfold b8; rw [binOp_neq]
  congr 2
  rw [Bool.eq_iff_iff, bne_iff_ne, bne_iff_ne]
  exact not_congr ⟨fun h => BitVec.eq_of_toNat_eq (by omega), fun h => by rw [h]⟩
@[go_sem] theorem run_eqGuard_b8 (P : Program) (op : BinOp) (t : TypeId) (x y : Operand) (a b : BitVec 8) (w : World) : (eqGuard op t x y (b8 a) (b8 b)).run P w = .ok () w := by
  unfold b8; cases op <;> simp [eqGuard]
theorem cell_b8 (x : B) : Extern.Stop.cell (UInt8.ofBitVec x) = b8 x := rfl
theorem map_cell (xs : List B) : (xs.map UInt8.ofBitVec).map Extern.Stop.cell = xs.map b8 := by
  rw [List.map_map]; rfl
theorem beq_u8 (xs ys : List B) : (xs.map UInt8.ofBitVec == ys.map UInt8.ofBitVec) = (xs == ys) := by
  rw [Bool.eq_iff_iff, beq_iff_eq, beq_iff_eq]
  constructor
  · intro h
    have := congrArg (List.map UInt8.toBitVec) h
    simpa [List.map_map, Function.comp_def] using this
  · rintro rfl; rfl
@[go_sem] theorem eq_hash (xs ys : List B) (hx : xs.length = 32) (hy : ys.length = 32) (w : World) :
    (Op.equalIn 10000 25 (.agg (xs.map b8).toArray) (.agg (ys.map b8).toArray)).run Tryd.prog w = .ok (xs == ys) w := by
  have h := run_equalIn_bytes (P := Tryd.prog) w 9998 25 5 32 (by kernel_rfl) (by kernel_rfl) (fun w => by kernel_rfl) (xs.map UInt8.ofBitVec) (ys.map UInt8.ofBitVec) (by simpa using hx) (by simpa using hy)
  rw [map_cell, map_cell, beq_u8] at h
  exact h
@[go_sem] theorem len_sha (xs : List B) : (sha xs).length = 32 := sha_len xs
/-- one part -/
theorem Parts.one {w : World} {ao ao1 : Option Addr} {cp1 : Nat} {bs : List B} {b : Nat} (hb : ao = some ⟨b, 0, none⟩) (hc : w.cell? ⟨b, 0, none⟩ = some (.slice ao1 bs.length cp1)) (hB : Bts w ao1 bs) : Parts w ao [(ao1, cp1, bs)] := by
  refine ⟨.inr ⟨b, 0, hb, fun i h => ?_⟩, fun p hp => ?_⟩
  · obtain rfl : i = 0 := by simpa using h
    exact hc
  · obtain rfl : p = (ao1, cp1, bs) := by simpa using hp
    exact hB
theorem Parts.nil (w : World) (ao : Option Addr) : Parts w ao [] := ⟨.inl rfl, fun p hp => by cases hp⟩
theorem Parts.two {w : World} {ao ao1 ao2 : Option Addr} {cp1 cp2 : Nat} {bs cs : List B} {b : Nat} (hb : ao = some ⟨b, 0, none⟩) (h1 : w.cell? ⟨b, 0, none⟩ = some (.slice ao1 bs.length cp1)) (h2 : w.cell? ⟨b, 1, none⟩ = some (.slice ao2 cs.length cp2))
    (hB : Bts w ao1 bs) (hC : Bts w ao2 cs) : Parts w ao [(ao1, cp1, bs), (ao2, cp2, cs)] := by
  refine ⟨.inr ⟨b, 0, hb, fun i h => ?_⟩, fun p hp => ?_⟩
  · have : i = 0 ∨ i = 1 := by simp at h; omega
    rcases this with rfl | rfl
    · exact h1
    · exact h2
  · rcases (show p = (ao1, cp1, bs) ∨ p = (ao2, cp2, cs) by simpa using hp) with rfl | rfl
    · exact hB
    · exact hC
theorem Parts.below {w w' : World} {ao : Option Addr} {L : List (Option Addr × Nat × List B)} {n : Nat} (h : Parts w ao L) (hb : Below n w w') (hn : w.heap.size ≤ n) : Parts w' ao L := by
  refine ⟨?_, fun p hp => (h.each p hp).below hb hn⟩
  rcases h.cells with h1 | ⟨b, off, e, h1⟩
  · exact .inl h1
  · exact .inr ⟨b, off, e, fun i hi => (hb.cell (p := ⟨b, off + i, none⟩) (Nat.lt_of_lt_of_le (World.block_lt_of_cell? w _ (h1 i hi)) hn)).trans (h1 i hi)⟩
/-- the hash of one part, where its list has just been made -/
theorem sum_one_any {ao : Option Addr} {cp : Nat} {bs : List B} (w : World) (hL : Laid w) (hB : Bts w ao bs) (hlen : bs.length ≤ 1099511627776) :
    Calls Tryd.prog 14 #[.slice (some ⟨w.heap.size, 0, none⟩) 1 1] (w.alloc (.cells #[.slice ao bs.length cp] 22)) fun e w' => e = .returned (hashv (sha bs)) ∧ Below w.heap.size w w' := by
  have F := below_alloc1 w (.cells #[.slice ao bs.length cp] 22)
  have hP : Parts (w.alloc (.cells #[.slice ao bs.length cp] 22)) (some ⟨w.heap.size, 0, none⟩) [(ao, cp, bs)] :=
    Parts.one rfl ((Blk.new w #[.slice ao bs.length cp] 22).cell 0) (hB.below F (Nat.le_refl _))
  have hc : cat [(ao, cp, bs)] = bs := by simp [cat]
  refine (sums_any (some ⟨w.heap.size, 0, none⟩) 1 [(ao, cp, bs)] _ (hL.below F (Nat.le_refl _)) hP (by rw [hc]; exact hlen) (by simp)).mono ?_
  rintro e w' ⟨rfl, h⟩
  exact ⟨by rw [hc], F.trans (h.mono (by rw [alloc_size]; omega))⟩
theorem sum_two_any {ao ao2 : Option Addr} {cp cp2 : Nat} {bs cs : List B} (w : World) (hL : Laid w) (hB : Bts w ao bs) (hC : Bts w ao2 cs) (hlen : bs.length + cs.length ≤ 1099511627776) :
    Calls Tryd.prog 14 #[.slice (some ⟨w.heap.size, 0, none⟩) 2 2] (w.alloc (.cells #[.slice ao bs.length cp, .slice ao2 cs.length cp2] 22)) fun e w' => e = .returned (hashv (sha (bs ++ cs))) ∧ Below w.heap.size w w' := by
  have F := below_alloc1 w (.cells #[.slice ao bs.length cp, .slice ao2 cs.length cp2] 22)
  have hb := Blk.new w #[.slice ao bs.length cp, .slice ao2 cs.length cp2] 22
  have hP : Parts (w.alloc (.cells #[.slice ao bs.length cp, .slice ao2 cs.length cp2] 22)) (some ⟨w.heap.size, 0, none⟩) [(ao, cp, bs), (ao2, cp2, cs)] :=
    Parts.two rfl (hb.cell 0) (hb.cell 1) (hB.below F (Nat.le_refl _)) (hC.below F (Nat.le_refl _))
  have hc : cat [(ao, cp, bs), (ao2, cp2, cs)] = bs ++ cs := by simp [cat]
  refine (sums_any (some ⟨w.heap.size, 0, none⟩) 2 [(ao, cp, bs), (ao2, cp2, cs)] _ (hL.below F (Nat.le_refl _)) hP (by rw [hc, List.length_append]; exact hlen) (by simp)).mono ?_
  rintro e w' ⟨rfl, h⟩
  exact ⟨by rw [hc], F.trans (h.mono (by rw [alloc_size]; omega))⟩
theorem sum_none_any (w : World) (hL : Laid w) : Calls Tryd.prog 14 #[.slice none 0 0] w fun e w' => e = .returned (hashv (sha [])) ∧ Below w.heap.size w w' :=
  sums_any none 0 [] w hL (Parts.nil _ _) (by simp) (by simp)
theorem sum_one_at {ao : Option Addr} {cp : Nat} {bs : List B} {b : Nat} (w : World) (hL : Laid w) (hb : Blk w b 22 #[.slice ao bs.length cp]) (hB : Bts w ao bs) (hlen : bs.length ≤ 1099511627776) :
    Calls Tryd.prog 14 #[.slice (some ⟨b, 0, none⟩) 1 1] w fun e w' => e = .returned (hashv (sha bs)) ∧ Below w.heap.size w w' := by
  have hc : cat [(ao, cp, bs)] = bs := by simp [cat]
  refine (sums_any (some ⟨b, 0, none⟩) 1 [(ao, cp, bs)] w hL (Parts.one rfl (hb.cell 0) hB) (by rw [hc]; exact hlen) (by simp)).mono ?_
  rintro e w' ⟨rfl, h⟩
  exact ⟨by rw [hc], h⟩
theorem sum_two_at {ao ao2 : Option Addr} {cp cp2 : Nat} {bs cs : List B} {b : Nat} (w : World) (hL : Laid w) (hb : Blk w b 22 #[.slice ao bs.length cp, .slice ao2 cs.length cp2]) (hB : Bts w ao bs) (hC : Bts w ao2 cs) (hlen : bs.length + cs.length ≤ 1099511627776) :
    Calls Tryd.prog 14 #[.slice (some ⟨b, 0, none⟩) 2 2] w fun e w' => e = .returned (hashv (sha (bs ++ cs))) ∧ Below w.heap.size w w' := by
  have hc : cat [(ao, cp, bs), (ao2, cp2, cs)] = bs ++ cs := by simp [cat]
  refine (sums_any (some ⟨b, 0, none⟩) 2 [(ao, cp, bs), (ao2, cp2, cs)] w hL (Parts.two rfl (hb.cell 0) (hb.cell 1) hB hC) (by rw [hc, List.length_append]; exact hlen) (by simp)).mono ?_
  rintro e w' ⟨rfl, h⟩
  exact ⟨by rw [hc], h⟩
/-- a stretch of bytes that are only read -/
theorem Bts.take {w : World} {ao : Option Addr} {bs : List B} (h : Bts w ao bs) (k : Nat) : Bts w ao (bs.take k) := by
  rcases h with rfl | ⟨b, off, rfl, h⟩
  · left; simp
  · refine Bts.of fun j hj => ?_
    rw [List.length_take] at hj
    rw [h j (by omega)]
    simp [List.getD, show j < k by omega]
theorem run_upto_bts {P : Program} {t e : TypeId} {i : TypeInfo} (ht : P.underlying t = some (.slice e)) (hi : P.info? e = some i) (ao : Option Addr) (n c k : Nat) (hk : k ≤ c) :
    ∃ a', (∀ W : World, (Instr.slice t (.slice ao n c) none (some (.int .i64 k)) none).run P W = .ok (.slice a' k c) W) ∧ ∀ w (bs : List B), Bts w ao bs → Bts w a' (bs.take k) := by
  have ht' : P.underlying t = some (.slice (P.elem t)) := by simp [Program.elem, ht]
  have he : P.elem t = e := by simp [Program.elem, ht]
  refine ⟨if c = 0 then ao else ao.map (·.add (0 * i.size)), fun W => ?_, fun w bs h => ?_⟩
  · rw [run_slice_h W t ao n c ht' .i64 k (by omega) (by omega), he]
    simp [sizeOf, typeInfo, hi, Result.andThen, sliced]
  · have h2 := h.take k
    by_cases h0 : c = 0
    · rw [if_pos h0]; exact h2
    · rw [if_neg h0]
      rcases h2 with h3 | ⟨b, off, rfl, h3⟩
      · exact .inl h3
      · simp only [Option.map_some, Nat.zero_mul, Addr.add_lit, Nat.add_zero]
        exact Bts.of h3
theorem run_from_bts {P : Program} {t e : TypeId} {i : TypeInfo} (ht : P.underlying t = some (.slice e)) (hi : P.info? e = some i) (hsz : i.size = 1) (ao : Option Addr) (n c k : Nat) (hk : k ≤ n) (hn : n ≤ c) :
    ∃ a', (∀ W : World, (Instr.slice t (.slice ao n c) (some (.int .i64 k)) none none).run P W = .ok (.slice a' (n - k) (c - k)) W) ∧ ∀ w (bs : List B), bs.length = n → Bts w ao bs → Bts w a' (bs.drop k) := by
  have ht' : P.underlying t = some (.slice (P.elem t)) := by simp [Program.elem, ht]
  have he : P.elem t = e := by simp [Program.elem, ht]
  refine ⟨if c = k then ao else ao.map (·.add (k * i.size)), fun W => ?_, fun w bs hl h => ?_⟩
  · rw [run_slice_l W t ao n c ht' .i64 k (by omega) (by omega), he]
    simp [sizeOf, typeInfo, hi, Result.andThen, sliced]
  · by_cases h0 : c = k
    · left; apply List.drop_of_length_le; omega
    · rw [if_neg h0, hsz, Nat.mul_one]
      rcases h with rfl | ⟨b, off, rfl, h⟩
      · left; simp
      · refine .inr ⟨b, off + k, by simp [Addr.add_lit], fun j hj => ?_⟩
        rw [List.length_drop] at hj
        rw [Nat.add_assoc, h (k + j) (by omega)]
        simp [List.getD]
end Go.Proofs.YtahlllbigkgobaaDoor
