/-
  Plain laws on words and blocks: what the reference writes otherwise than the program comes to the same. No program, no memory.
-/
import Derived.Test.YtahlllbigkgobaaDoorSha
namespace Go.Proofs.YtahlllbigkgobaaDoor
theorem ch_ref (e f g : W) : (e &&& f) ||| ((BitVec.ofInt 32 4294967295 - e) &&& g) = chf e f g := by
  have h : BitVec.ofInt 32 4294967295 - e = ~~~e := by
    apply BitVec.eq_of_toNat_eq
    have := e.isLt
    rw [BitVec.toNat_sub, BitVec.toNat_not]
    have : (BitVec.ofInt 32 4294967295).toNat = 4294967295 := by decide
    rw [this]; omega
  rw [h]; unfold chf
  apply BitVec.eq_of_getLsbD_eq
  intro i hi
  simp only [BitVec.getLsbD_or, BitVec.getLsbD_and, BitVec.getLsbD_xor, BitVec.getLsbD_not, hi, decide_true, Bool.true_and]
  cases e.getLsbD i <;> cases f.getLsbD i <;> cases g.getLsbD i <;> rfl
theorem maj_ref (a b c : W) : (a &&& b) ||| (a &&& c) ||| (b &&& c) = majf a b c := by
  unfold majf
  apply BitVec.eq_of_getLsbD_eq
  intro i _
  simp
  cases a.getLsbD i <;> cases b.getLsbD i <;> cases c.getLsbD i <;> rfl
theorem div8 (x : W) : x / BitVec.ofInt 32 8 = x >>> 3 := by
  apply BitVec.eq_of_toNat_eq
  rw [BitVec.toNat_udiv, BitVec.toNat_ushiftRight, Nat.shiftRight_eq_div_pow]; rfl
theorem div1024 (x : W) : x / BitVec.ofInt 32 1024 = x >>> 10 := by
  apply BitVec.eq_of_toNat_eq
  rw [BitVec.toNat_udiv, BitVec.toNat_ushiftRight, Nat.shiftRight_eq_div_pow]; rfl

/-- a word gathered byte by byte -/
def wacc (bs : List B) (t : Nat) : Nat → W
  | 0 => 0
  | i + 1 => wacc bs t i * BitVec.ofInt 32 256 + (bs.getD (4 * t + i) 0).setWidth 32
theorem acc_step (x : W) (b : B) : x * BitVec.ofInt 32 256 + b.setWidth 32 = x <<< 8 ||| b.setWidth 32 := by
  have h1 : x * BitVec.ofInt 32 256 = x <<< 8 := by
    apply BitVec.eq_of_toNat_eq
    rw [BitVec.toNat_mul, BitVec.toNat_shiftLeft, Nat.shiftLeft_eq]; rfl
  rw [h1, BitVec.add_eq_or_of_and_eq_zero]
  apply BitVec.eq_of_getLsbD_eq
  intro i hi
  simp only [BitVec.getLsbD_and, BitVec.getLsbD_shiftLeft, BitVec.getLsbD_setWidth, BitVec.getLsbD_zero]
  by_cases h : i < 8
  · simp [h]
  · simp [BitVec.getLsbD_of_ge b i (by omega)]
theorem wacc4 (bs : List B) (t : Nat) : wacc bs t 4 = word4 (bs.getD (4*t) 0) (bs.getD (4*t+1) 0) (bs.getD (4*t+2) 0) (bs.getD (4*t+3) 0) := by
  simp only [wacc, acc_step, word4, Nat.add_zero]
  apply BitVec.eq_of_getLsbD_eq
  intro i hi
  simp only [BitVec.getLsbD_or, BitVec.getLsbD_shiftLeft, BitVec.getLsbD_setWidth]
  simp only [hi, decide_true, Bool.true_and, show (i - 8 < 32) from by omega, show i - 8 - 8 < 32 from by omega, show i - 8 - 8 - 8 < 32 from by omega, show i - 16 < 32 from by omega, show i - 24 < 32 from by omega]
  have e1 : i - 8 - 8 = i - 16 := by omega
  have e2 : i - 16 - 8 = i - 24 := by omega
  rw [e1, e2]
  by_cases a1 : i < 8
  · simp [a1, show i < 16 from by omega, show i < 24 from by omega]
  · by_cases a2 : i < 16
    · simp [a1, a2, show i < 24 from by omega, show i - 8 < 8 from by omega]
    · by_cases a3 : i < 24
      · simp [a1, a2, a3, show ¬ i - 8 < 8 from by omega, show i - 16 < 8 from by omega]
      · simp [a1, a2, a3, show ¬ i - 8 < 8 from by omega, show ¬ i - 16 < 8 from by omega]
/-! ### blocks, one behind the other -/
theorem absorb_snoc (n : Nat) : ∀ (s : St) (bs : List B), absorb s bs (n + 1) = compress (absorb s bs n) ((bs.drop (64 * n)).take 64) := by
  induction n with
  | zero => intro s bs; simp [absorb]
  | succ n ih =>
    intro s bs
    show absorb (compress s (bs.take 64)) (bs.drop 64) (n + 1) = _
    rw [ih]
    show compress _ _ = compress (absorb (compress s (bs.take 64)) (bs.drop 64) n) _
    rw [List.drop_drop, show 64 + 64 * n = 64 * (n + 1) from by omega]
theorem absorb_append (n : Nat) : ∀ (s : St) (xs ys : List B), 64 * n ≤ xs.length → absorb s (xs ++ ys) n = absorb s xs n := by
  induction n with
  | zero => intro s xs ys _; rfl
  | succ n ih =>
    intro s xs ys h
    show absorb (compress s ((xs ++ ys).take 64)) ((xs ++ ys).drop 64) n = absorb (compress s (xs.take 64)) (xs.drop 64) n
    rw [List.take_append_of_le_length (by omega), List.drop_append_of_le_length (by omega)]
    exact ih _ _ _ (by simp; omega)
theorem wsched_congr {b1 b2 : List B} (h : ∀ j, j < 64 → b1.getD j 0 = b2.getD j 0) (n : Nat) : wsched b1 n = wsched b2 n := by
  induction n with
  | zero =>
    show w16 b1 16 = w16 b2 16
    unfold w16
    apply List.map_congr_left
    intro t ht
    have : t < 16 := by simpa using ht
    rw [h (4*t) (by omega), h (4*t+1) (by omega), h (4*t+2) (by omega), h (4*t+3) (by omega)]
  | succ n ih => simp only [wsched, ih]
theorem compress_congr {s : St} {b1 b2 : List B} (h : ∀ j, j < 64 → b1.getD j 0 = b2.getD j 0) : compress s b1 = compress s b2 := by
  unfold compress; rw [wsched_congr h]
theorem compress_take (s : St) (bs : List B) : compress s (bs.take 64) = compress s bs :=
  compress_congr fun j hj => by simp [List.getD, hj]
end Go.Proofs.YtahlllbigkgobaaDoor
