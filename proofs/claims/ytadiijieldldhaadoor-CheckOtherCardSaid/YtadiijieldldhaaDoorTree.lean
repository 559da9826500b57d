/-
  Trees of hashes, plain: split, root, paths, proofs, where they lead, the edge. No program in sight.
-/
import Derived.Test.YtadiijieldldhaaDoorLib
namespace Go.Proofs.YtadiijieldldhaaDoor
namespace Tree
/-! ### the split -/
def split (n : Nat) : Nat := if n < 2 then 0 else 2 ^ (n - 1).log2
theorem split_spec {n : Nat} (h : 2 ≤ n) : ∃ j, split n = 2 ^ j ∧ 2 ^ j < n ∧ n ≤ 2 ^ (j + 1) := by
  refine ⟨(n - 1).log2, by unfold split; rw [if_neg (by omega)], ?_, ?_⟩
  · have := Nat.log2_self_le (n := n - 1) (by omega); omega
  · have := Nat.lt_log2_self (n := n - 1); omega
theorem two_pos (j : Nat) : 0 < 2 ^ j := Nat.pow_pos (by omega)
theorem two_succ (j : Nat) : 2 ^ (j + 1) = 2 * 2 ^ j := by rw [Nat.pow_succ]; omega
theorem split_pos {n : Nat} (h : 2 ≤ n) : 1 ≤ split n := by
  obtain ⟨j, e, -, -⟩ := split_spec h; rw [e]; exact two_pos j
theorem split_lt {n : Nat} (h : 2 ≤ n) : split n < n := by
  obtain ⟨j, e, h1, -⟩ := split_spec h; rw [e]; exact h1
theorem split_le {n : Nat} (h : 2 ≤ n) : n ≤ 2 * split n := by
  obtain ⟨j, e, -, h2⟩ := split_spec h; rw [e, ← two_succ]; exact h2
theorem pow_unique {i j n : Nat} (h1 : 2 ^ i < n) (h2 : n ≤ 2 ^ (i + 1)) (h3 : 2 ^ j < n) (h4 : n ≤ 2 ^ (j + 1)) : i = j := by
  have a : i < j + 1 := (Nat.pow_lt_pow_iff_right (a := 2) (by omega)).1 (by omega)
  have b : j < i + 1 := (Nat.pow_lt_pow_iff_right (a := 2) (by omega)).1 (by omega)
  omega
theorem split_eq {n j : Nat} (h1 : 2 ^ j < n) (h2 : n ≤ 2 ^ (j + 1)) : split n = 2 ^ j := by
  have := two_pos j
  obtain ⟨i, e, a, b⟩ := split_spec (n := n) (by omega)
  rw [e, pow_unique a b h1 h2]
theorem split_two {n k : Nat} (hk : ∃ j, k = 2 ^ j) (h1 : k < n) (h2 : n ≤ 2 * k) : split n = k := by
  obtain ⟨j, rfl⟩ := hk
  exact split_eq h1 (by rw [two_succ]; exact h2)

section
variable {H : Type} (node : H → H → H) (z : H)
/-! ### the root -/
def root (l : List H) : H :=
  if _h : l.length < 2 then l.headD z else node (root (l.take (split l.length))) (root (l.drop (split l.length)))
termination_by l.length
decreasing_by
  · have := split_lt (n := l.length) (by omega); have := split_pos (n := l.length) (by omega); simp only [List.length_take]; omega
  · have := split_lt (n := l.length) (by omega); have := split_pos (n := l.length) (by omega); simp only [List.length_drop]; omega
theorem root_nil : root node z [] = z := by rw [root]; simp
theorem root_one (x : H) : root node z [x] = x := by rw [root]; simp
theorem root_two {l : List H} (h : 2 ≤ l.length) : root node z l = node (root node z (l.take (split l.length))) (root node z (l.drop (split l.length))) := by
  rw [root, dif_neg (by omega)]
/-- two parts, the first a power of two -/
theorem root_append {a b : List H} (ha : ∃ j, a.length = 2 ^ j) (hb : 1 ≤ b.length) (hab : b.length ≤ a.length) : root node z (a ++ b) = node (root node z a) (root node z b) := by
  obtain ⟨j, hj⟩ := ha
  have hp := two_pos j
  have hs : split (a ++ b).length = a.length := split_two ⟨j, hj⟩ (by rw [List.length_append]; omega) (by rw [List.length_append]; omega)
  rw [root_two node z (by rw [List.length_append]; omega), hs]
  simp
/-! ### paths -/
def path (l : List H) (m : Nat) : List H :=
  if _h : l.length < 2 then [] else if m < split l.length then path (l.take (split l.length)) m ++ [root node z (l.drop (split l.length))] else path (l.drop (split l.length)) (m - split l.length) ++ [root node z (l.take (split l.length))]
termination_by l.length
decreasing_by
  · have := split_lt (n := l.length) (by omega); have := split_pos (n := l.length) (by omega); simp only [List.length_take]; omega
  · have := split_lt (n := l.length) (by omega); have := split_pos (n := l.length) (by omega); simp only [List.length_drop]; omega
theorem path_one {l : List H} {m : Nat} (h : l.length < 2) : path node z l m = [] := by rw [path, dif_pos h]
theorem path_lo {l : List H} {m : Nat} (h : 2 ≤ l.length) (hm : m < split l.length) : path node z l m = path node z (l.take (split l.length)) m ++ [root node z (l.drop (split l.length))] := by
  rw [path, dif_neg (by omega), if_pos hm]
theorem path_hi {l : List H} {m : Nat} (h : 2 ≤ l.length) (hm : split l.length ≤ m) : path node z l m = path node z (l.drop (split l.length)) (m - split l.length) ++ [root node z (l.take (split l.length))] := by
  rw [path, dif_neg (by omega), if_neg (by omega)]
/-! ### proofs -/
def prf (l : List H) (m : Nat) (whole : Bool) : List H :=
  if _h : l.length ≤ m ∨ l.length < 2 then (if whole then [] else [root node z l]) else if m ≤ split l.length then prf (l.take (split l.length)) m whole ++ [root node z (l.drop (split l.length))] else prf (l.drop (split l.length)) (m - split l.length) false ++ [root node z (l.take (split l.length))]
termination_by l.length
decreasing_by
  · have := split_lt (n := l.length) (by omega); have := split_pos (n := l.length) (by omega); simp only [List.length_take]; omega
  · have := split_lt (n := l.length) (by omega); have := split_pos (n := l.length) (by omega); simp only [List.length_drop]; omega
theorem prf_end {l : List H} {m : Nat} {whole : Bool} (h : m = l.length) : prf node z l m whole = if whole then [] else [root node z l] := by
  rw [prf, dif_pos (.inl (by omega))]
theorem prf_lo {l : List H} {m : Nat} {whole : Bool} (h1 : 1 ≤ m) (h : m < l.length) (hm : m ≤ split l.length) : prf node z l m whole = prf node z (l.take (split l.length)) m whole ++ [root node z (l.drop (split l.length))] := by
  rw [prf, dif_neg (by omega), if_pos hm]
theorem prf_hi {l : List H} {m : Nat} {whole : Bool} (h1 : 1 ≤ m) (h : m < l.length) (hm : split l.length < m) : prf node z l m whole = prf node z (l.drop (split l.length)) (m - split l.length) false ++ [root node z (l.take (split l.length))] := by
  rw [prf, dif_neg (by omega), if_neg (by omega)]

/-! ### where a path leads: the list the other way round -/
def leadsR (x0 : H) (m n : Nat) (leaf : H) : List H → H × Bool
  | [] => if n = 1 then (leaf, true) else (x0, false)
  | x :: r => if n = 1 then (leaf, false) else if m < split n then (node (leadsR x0 m (split n) leaf r).1 x, (leadsR x0 m (split n) leaf r).2) else (node x (leadsR x0 (m - split n) (n - split n) leaf r).1, (leadsR x0 (m - split n) (n - split n) leaf r).2)
def opt {S : Type} (p : S × Bool) : Option S := if p.2 then some p.1 else none

/-! ### the road up -/
def ends (a l : Nat) : Nat × Nat := if h : a % 2 = 0 ∧ a ≠ 0 then ends (a / 2) (l / 2) else (a, l)
termination_by a
decreasing_by omega
theorem ends_odd {a l : Nat} (h : a % 2 = 1) : ends a l = (a, l) := by rw [ends, dif_neg (by omega)]
theorem ends_zero (l : Nat) : ends 0 l = (0, l) := by rw [ends, dif_neg (by omega)]
theorem ends_even {a l : Nat} (h : a % 2 = 0) (h0 : a ≠ 0) : ends a l = ends (a / 2) (l / 2) := by rw [ends, dif_pos ⟨h, h0⟩]
variable {S : Type} (fL fR : H → S → S)
def run (a l : Nat) (s : S) : List H → Option S
  | [] => if l = 0 then some s else none
  | x :: p => if l = 0 then none else if a % 2 = 1 ∨ a = l then run ((ends a l).1 / 2) ((ends a l).2 / 2) (fL x s) p else run (a / 2) (l / 2) (fR x s) p
theorem run_nil {a l : Nat} {s : S} : run fL fR a l s [] = if l = 0 then some s else none := rfl
theorem run_zero {a : Nat} {s : S} {x : H} {p : List H} : run fL fR a 0 s (x :: p) = none := by simp [run]
theorem run_zero' {a : Nat} {s : S} {x : H} {p : List H} : run fL fR a 0 s (p ++ [x]) = none := by cases p <;> simp [run]
theorem run_left {a l : Nat} {s : S} {x : H} {p : List H} (hl : l ≠ 0) (h : a % 2 = 1 ∨ a = l) : run fL fR a l s (x :: p) = run fL fR ((ends a l).1 / 2) ((ends a l).2 / 2) (fL x s) p := by
  rw [run, if_neg hl, if_pos h]
theorem run_right {a l : Nat} {s : S} {x : H} {p : List H} (hl : l ≠ 0) (h : ¬ (a % 2 = 1 ∨ a = l)) : run fL fR a l s (x :: p) = run fL fR (a / 2) (l / 2) (fR x s) p := by
  rw [run, if_neg hl, if_neg h]
/-- a left part -/
theorem run_lo (i : Nat) : ∀ (a l : Nat) (s : S) (p : List H) (x : H), a < 2 ^ i → 2 ^ i ≤ l → l < 2 ^ (i + 1) → run fL fR a l s (p ++ [x]) = (run fL fR a (2 ^ i - 1) s p).map (fR x) := by
  induction i with
  | zero =>
    intro a l s p x ha h1 h2
    obtain rfl : a = 0 := by simp at ha; exact ha
    obtain rfl : l = 1 := by simp at h1 h2; omega
    cases p with
    | nil => simp [run]
    | cons y p =>
      rw [show (2 ^ 0 - 1 : Nat) = 0 from rfl, run_zero, List.cons_append, run_right fL fR (by omega) (by omega), show (1 / 2 : Nat) = 0 from rfl, run_zero']; rfl
  | succ i ih =>
    intro a l s p x ha h1 h2
    have hp := two_pos i
    have e1 := two_succ i
    have e2 := two_succ (i + 1)
    cases p with
    | nil =>
      rw [run_nil, if_neg (by omega), List.nil_append]
      by_cases ho : a % 2 = 1
      · rw [run_left fL fR (by omega) (.inl ho), ends_odd ho, run_nil, if_neg (by dsimp only; omega)]; rfl
      · rw [run_right fL fR (by omega) (by omega), run_nil, if_neg (by omega)]; rfl
    | cons y p =>
      rw [List.cons_append]
      have e3 : (2 ^ (i + 1) - 1) / 2 = 2 ^ i - 1 := by omega
      by_cases ho : a % 2 = 1
      · rw [run_left fL fR (by omega) (.inl ho), run_left fL fR (by omega) (.inl ho), ends_odd ho, ends_odd ho]
        dsimp only
        rw [e3]; exact ih _ _ _ _ _ (by omega) (by omega) (by omega)
      · rw [run_right fL fR (by omega) (by omega), run_right fL fR (by omega) (by omega), e3]
        exact ih _ _ _ _ _ (by omega) (by omega) (by omega)
theorem ends_pow (e : Nat) : ends (2 ^ e) (2 ^ e) = (1, 1) := by
  induction e with
  | zero => exact ends_odd rfl
  | succ e ih =>
    have hp := two_pos e
    have e1 := two_succ e
    rw [ends_even (by omega) (by omega), show 2 ^ (e + 1) / 2 = 2 ^ e by omega]; exact ih
theorem ends_add (a : Nat) : ∀ (l e : Nat), a ≠ 0 → a ≤ l → l < 2 ^ e → ∃ a' l' e', ends a l = (a', l') ∧ ends (a + 2 ^ e) (l + 2 ^ e) = (a' + 2 ^ (e' + 1), l' + 2 ^ (e' + 1)) ∧ l' < 2 ^ (e' + 1) ∧ a' ≤ l' := by
  induction a using Nat.strongRecOn with
  | ind a ih =>
    intro l e h0 hal hle
    rcases e with _ | e
    · simp at hle; omega
    have hp := two_pos e
    have e1 := two_succ e
    by_cases ho : a % 2 = 1
    · exact ⟨a, l, e, ends_odd ho, ends_odd (by omega), hle, hal⟩
    · obtain ⟨a', l', e', r1, r2, r3⟩ := ih (a / 2) (by omega) (l / 2) e (by omega) (by omega) (by omega)
      refine ⟨a', l', e', by rw [ends_even (by omega) h0]; exact r1, ?_, r3⟩
      rw [ends_even (by omega) (by omega), show (a + 2 ^ (e + 1)) / 2 = a / 2 + 2 ^ e by omega, show (l + 2 ^ (e + 1)) / 2 = l / 2 + 2 ^ e by omega]
      exact r2
/-- a right part -/
theorem run_hi (p : List H) : ∀ (e a l : Nat) (s : S) (x : H), a ≤ l → l < 2 ^ e → run fL fR (a + 2 ^ e) (l + 2 ^ e) s (p ++ [x]) = (run fL fR a l s p).map (fL x) := by
  induction p with
  | nil =>
    intro e a l s x hal hle
    have hp := two_pos e
    rw [run_nil, List.nil_append]
    by_cases h0 : l = 0
    · subst h0
      obtain rfl : a = 0 := by omega
      rw [run_left fL fR (by omega) (.inr rfl), Nat.zero_add, ends_pow, run_nil]; simp
    · rw [if_neg h0]
      rcases e with _ | e
      · simp at hle; omega
      have hp := two_pos e
      have e1 := two_succ e
      by_cases hc : a % 2 = 1 ∨ a = l
      · rw [run_left fL fR (by omega) (by omega), run_nil, if_neg]; rfl
        by_cases hz : a = 0
        · omega
        · obtain ⟨a', l', e', r1, r2, r3⟩ := ends_add a l (e + 1) hz hal hle
          have := two_pos e'; have := two_succ e'
          rw [r2]; dsimp only; omega
      · rw [run_right fL fR (by omega) (by omega), run_nil, if_neg (by omega)]; rfl
  | cons y p ih =>
    intro e a l s x hal hle
    have hp := two_pos e
    rw [List.cons_append]
    by_cases h0 : l = 0
    · subst h0
      obtain rfl : a = 0 := by omega
      rw [run_zero, run_left fL fR (by omega) (.inr rfl), Nat.zero_add, ends_pow, show (1 / 2 : Nat) = 0 from rfl, run_zero']; rfl
    · rcases e with _ | e
      · simp at hle; omega
      have hp := two_pos e
      have e1 := two_succ e
      by_cases hc : a % 2 = 1 ∨ a = l
      · rw [run_left fL fR (by omega) (by omega), run_left fL fR h0 hc]
        obtain ⟨a', l', e', r1, r2, r3, r4⟩ := ends_add a l (e + 1) (by omega) hal hle
        have := two_pos e'; have := two_succ e'
        rw [r1, r2]; dsimp only
        rw [show (a' + 2 ^ (e' + 1)) / 2 = a' / 2 + 2 ^ e' by omega, show (l' + 2 ^ (e' + 1)) / 2 = l' / 2 + 2 ^ e' by omega]
        exact ih _ _ _ _ _ (by omega) (by omega)
      · rw [run_right fL fR (by omega) (by omega), run_right fL fR h0 hc, show (a + 2 ^ (e + 1)) / 2 = a / 2 + 2 ^ e by omega, show (l + 2 ^ (e + 1)) / 2 = l / 2 + 2 ^ e by omega]
        exact ih _ _ _ _ _ (by omega) (by omega)
/-! ### paths are checked as they lead -/
theorem opt_map {S T : Type} (p : S × Bool) (f : S → T) : opt (f p.1, p.2) = (opt p).map f := by
  unfold opt; split <;> rfl
theorem run_leads (x0 leaf : H) : ∀ (r : List H) (m n : Nat), m < n → run (fun x h => node x h) (fun x h => node h x) m (n - 1) leaf r.reverse = opt (leadsR node x0 m n leaf r) := by
  intro r
  induction r with
  | nil =>
    intro m n hm
    by_cases h1 : n = 1
    · subst h1; simp [run, leadsR, opt]
    · rw [List.reverse_nil, run_nil, if_neg (by omega), leadsR, if_neg h1]; rfl
  | cons x r ih =>
    intro m n hm
    rw [List.reverse_cons, leadsR]
    by_cases h1 : n = 1
    · subst h1; rw [if_pos rfl, show (1 - 1 : Nat) = 0 from rfl, run_zero']; rfl
    · rw [if_neg h1]
      obtain ⟨j, e, ha, hb⟩ := split_spec (n := n) (by omega)
      have hp := two_pos j
      have e1 := two_succ j
      rw [e]
      by_cases hc : m < 2 ^ j
      · rw [if_pos hc, run_lo _ _ j m (n - 1) leaf r.reverse x hc (by omega) (by omega), ih m (2 ^ j) hc]
        exact (opt_map _ (fun h => node h x)).symm
      · rw [if_neg hc]
        have := run_hi (fun x h => node x h) (fun x h => node h x) r.reverse j (m - 2 ^ j) (n - 2 ^ j - 1) leaf x (by omega) (by omega)
        rw [show m - 2 ^ j + 2 ^ j = m by omega, show n - 2 ^ j - 1 + 2 ^ j = n - 1 by omega] at this
        rw [this, ih (m - 2 ^ j) (n - 2 ^ j) (by omega)]
        exact (opt_map _ (fun h => node x h)).symm
end
end Tree
end Go.Proofs.YtadiijieldldhaaDoor
