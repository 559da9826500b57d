/-
  The edge of a growing tree, and two texts with one hash, plain.
-/
import Derived.Test.YtadiijieldldhaaDoorTree2
namespace Go.Proofs.YtadiijieldldhaaDoor
namespace Tree
/-! ### the greatest power of two that fits -/
def fit (n : Nat) : Nat := 2 ^ n.log2
theorem fit_spec {n : Nat} (h : 1 ≤ n) : ∃ j, fit n = 2 ^ j ∧ 2 ^ j ≤ n ∧ n < 2 ^ (j + 1) := ⟨n.log2, rfl, Nat.log2_self_le (by omega), Nat.lt_log2_self⟩
theorem fit_eq {n j : Nat} (h1 : 2 ^ j ≤ n) (h2 : n < 2 ^ (j + 1)) : fit n = 2 ^ j := by
  have := two_pos j
  obtain ⟨i, e, a, b⟩ := fit_spec (n := n) (by omega)
  rw [e]
  have a' : i < j + 1 := (Nat.pow_lt_pow_iff_right (a := 2) (by omega)).1 (by omega)
  have b' : j < i + 1 := (Nat.pow_lt_pow_iff_right (a := 2) (by omega)).1 (by omega)
  rw [show i = j by omega]
theorem fit_pos {n : Nat} : 1 ≤ fit n := two_pos _
theorem fit_le {n : Nat} (h : 1 ≤ n) : fit n ≤ n := by obtain ⟨j, e, a, b⟩ := fit_spec h; omega
/-- how many ones are among a number's bits -/
def bits1 (n : Nat) : Nat := if h : n = 0 then 0 else n % 2 + bits1 (n / 2)
theorem bits1_zero : bits1 0 = 0 := by rw [bits1, dif_pos rfl]
theorem bits1_step {n : Nat} (h : n ≠ 0) : bits1 n = n % 2 + bits1 (n / 2) := by rw [bits1, dif_neg h]
theorem bits1_pow (t : Nat) : ∀ r, r < 2 ^ t → bits1 (2 ^ t + r) = 1 + bits1 r := by
  induction t with
  | zero => intro r h; obtain rfl : r = 0 := by simpa using h
            rw [bits1_step (by omega)]
  | succ t ih =>
    intro r h
    have hp := two_pos t
    have e := two_succ t
    rw [bits1_step (by omega), show (2 ^ (t + 1) + r) / 2 = 2 ^ t + r / 2 by omega, ih _ (by omega)]
    by_cases h0 : r = 0
    · subst h0; rw [show (0 : Nat) / 2 = 0 from rfl, bits1_zero]; omega
    · rw [bits1_step h0]; omega
section
variable {H : Type} (node : H → H → H) (z : H)
def edge (l : List H) : List H := if _h : l.length = 0 then [] else root node z (l.take (fit l.length)) :: edge (l.drop (fit l.length))
termination_by l.length
decreasing_by have := fit_pos (n := l.length); simp only [List.length_drop]; omega
theorem edge_nil : edge node z [] = [] := by rw [edge]; simp
theorem edge_cons {l : List H} (h : l.length ≠ 0) : edge node z l = root node z (l.take (fit l.length)) :: edge node z (l.drop (fit l.length)) := by rw [edge, dif_neg h]
theorem edge_len (N : Nat) : ∀ l : List H, l.length ≤ N → (edge node z l).length = bits1 l.length := by
  induction N with
  | zero => intro l h; obtain rfl := List.eq_nil_of_length_eq_zero (Nat.le_zero.1 h); rw [edge_nil]; exact bits1_zero.symm
  | succ N ih =>
    intro l h
    by_cases h0 : l.length = 0
    · obtain rfl := List.eq_nil_of_length_eq_zero h0; rw [edge_nil]; exact bits1_zero.symm
    · have h1 := fit_pos (n := l.length)
      have h2 := fit_le (n := l.length) (by omega)
      obtain ⟨j, e, a, b⟩ := fit_spec (n := l.length) (by omega)
      rw [edge_cons node z h0, List.length_cons, ih _ (by rw [List.length_drop]; omega), List.length_drop, e]
      have := two_succ j
      have := bits1_pow j (l.length - 2 ^ j) (by omega)
      rw [show 2 ^ j + (l.length - 2 ^ j) = l.length by omega] at this
      omega
/-- one whole part -/
theorem edge_pow {g : List H} {i : Nat} (h : g.length = 2 ^ i) : edge node z g = [root node z g] := by
  have hp := two_pos i
  have e : fit g.length = g.length := by rw [fit_eq (j := i) (by omega) (by rw [two_succ]; omega), h]
  rw [edge_cons node z (by omega), e, List.take_length, List.drop_length, edge_nil]
/-- a lesser part behind greater ones -/
theorem edge_app (i N : Nat) : ∀ (l g : List H), l.length ≤ N → g.length = 2 ^ i → (∃ q, l.length = q * 2 ^ (i + 1)) → edge node z (l ++ g) = edge node z l ++ [root node z g] := by
  induction N with
  | zero => intro l g h hg _; obtain rfl := List.eq_nil_of_length_eq_zero (Nat.le_zero.1 h); rw [List.nil_append, edge_pow node z hg, edge_nil]; rfl
  | succ N ih =>
    intro l g h hg hq
    by_cases h0 : l.length = 0
    · obtain rfl := List.eq_nil_of_length_eq_zero h0; rw [List.nil_append, edge_pow node z hg, edge_nil]; rfl
    · obtain ⟨q, hq⟩ := hq
      obtain ⟨j, e, a, b⟩ := fit_spec (n := l.length) (by omega)
      have hpi := two_pos i
      have ei := two_succ i
      have ej := two_succ j
      have hij : i + 1 ≤ j := by
        have hq1 : 1 ≤ q := Nat.pos_of_ne_zero (by rintro rfl; omega)
        have : 2 ^ (i + 1) ≤ l.length := by rw [hq]; exact Nat.le_mul_of_pos_left _ hq1
        have : i + 1 < j + 1 := (Nat.pow_lt_pow_iff_right (a := 2) (by omega)).1 (by omega)
        omega
      obtain ⟨d, rfl⟩ : ∃ d, j = i + 1 + d := ⟨j - (i + 1), by omega⟩
      have hp2 : 2 ^ (i + 1 + d) = 2 ^ d * 2 ^ (i + 1) := by rw [Nat.pow_add, Nat.mul_comm]
      have hroom : l.length + 2 ^ (i + 1) ≤ 2 * 2 ^ (i + 1 + d) := by
        rw [hq, hp2, ← Nat.mul_assoc]
        have : q < 2 * 2 ^ d := by
          have h3 : q * 2 ^ (i + 1) < (2 * 2 ^ d) * 2 ^ (i + 1) := by rw [← hq, Nat.mul_assoc, ← hp2]; omega
          exact Nat.lt_of_mul_lt_mul_right h3
        calc q * 2 ^ (i + 1) + 2 ^ (i + 1) = (q + 1) * 2 ^ (i + 1) := by rw [Nat.add_mul, Nat.one_mul]
          _ ≤ (2 * 2 ^ d) * 2 ^ (i + 1) := Nat.mul_le_mul_right _ this
      have e2 : fit (l ++ g).length = fit l.length := by
        rw [e]; exact fit_eq (by rw [List.length_append]; omega) (by rw [List.length_append]; omega)
      have hle := fit_le (n := l.length) (by omega)
      rw [edge_cons node z (by rw [List.length_append]; omega), edge_cons node z h0, e2, List.take_append_of_le_length hle, List.drop_append_of_le_length hle, List.cons_append]
      congr 1
      refine ih _ _ (by rw [List.length_drop]; have := fit_pos (n := l.length); omega) hg ⟨q - 2 ^ d, ?_⟩
      rw [List.length_drop, e, hq, hp2, Nat.sub_mul]
/-- a hash more -/
def push (n : Nat) (e : List H) (h : H) : List H := if n % 2 = 1 then push (n / 2) e.dropLast (node (e.getLastD z) h) else e ++ [h]
termination_by n
decreasing_by omega
theorem push_even {n : Nat} {e : List H} {h : H} (hn : n % 2 ≠ 1) : push node z n e h = e ++ [h] := by rw [push, if_neg hn]
theorem push_odd {n : Nat} {e : List H} {h : H} (hn : n % 2 = 1) : push node z n e h = push node z (n / 2) e.dropLast (node (e.getLastD z) h) := by rw [push, if_pos hn]
theorem push_edge (q : Nat) : ∀ (i : Nat) (l g : List H), g.length = 2 ^ i → l.length = q * 2 ^ i → push node z q (edge node z l) (root node z g) = edge node z (l ++ g) := by
  induction q using Nat.strongRecOn with
  | ind q ih =>
    intro i l g hg hl
    have hp := two_pos i
    have ei := two_succ i
    by_cases ho : q % 2 = 1
    · have hq : q = 2 * (q / 2) + 1 := by omega
      have hl1 : l.length = q / 2 * 2 ^ (i + 1) + 2 ^ i := by
        rw [hl, ei]
        calc q * 2 ^ i = (2 * (q / 2) + 1) * 2 ^ i := by rw [← hq]
          _ = q / 2 * (2 * 2 ^ i) + 2 ^ i := by rw [Nat.add_mul, Nat.one_mul, Nat.mul_comm 2 (q / 2), Nat.mul_assoc]
      obtain ⟨a, b, rfl, ha, hb⟩ : ∃ a b, l = a ++ b ∧ a.length = q / 2 * 2 ^ (i + 1) ∧ b.length = 2 ^ i :=
        ⟨l.take (q / 2 * 2 ^ (i + 1)), l.drop (q / 2 * 2 ^ (i + 1)), (List.take_append_drop _ _).symm, by rw [List.length_take]; omega, by rw [List.length_drop]; omega⟩
      rw [push_odd node z ho, edge_app node z i _ a b (Nat.le_refl _) hb ⟨_, ha⟩, List.dropLast_concat, List.getLastD_concat]
      rw [← root_append node z ⟨i, hb⟩ (by omega) (by omega), List.append_assoc]
      exact ih (q / 2) (by omega) (i + 1) a (b ++ g) (by rw [List.length_append]; omega) ha
    · rw [push_even node z ho]
      exact (edge_app node z i _ l g (Nat.le_refl _) hg ⟨q / 2, by rw [hl, ei, ← Nat.mul_assoc]; congr 1; omega⟩).symm
theorem push_one (l : List H) (h : H) : push node z l.length (edge node z l) h = edge node z (l ++ [h]) := by
  have := push_edge node z l.length 0 l [h] rfl (by simp)
  rwa [root_one] at this
/-- the root out of an edge -/
def rootE : List H → H
  | [] => z
  | [x] => x
  | x :: y :: r => node x (rootE (y :: r))
theorem rootE_cons {x : H} {r : List H} (h : r ≠ []) : rootE node z (x :: r) = node x (rootE node z r) := by
  cases r with
  | nil => exact absurd rfl h
  | cons y r => rfl
theorem rootE_edge (N : Nat) : ∀ l : List H, l.length ≤ N → rootE node z (edge node z l) = root node z l := by
  induction N with
  | zero => intro l h; obtain rfl := List.eq_nil_of_length_eq_zero (Nat.le_zero.1 h); rw [edge_nil, root_nil]; rfl
  | succ N ih =>
    intro l h
    by_cases h0 : l.length = 0
    · obtain rfl := List.eq_nil_of_length_eq_zero h0; rw [edge_nil, root_nil]; rfl
    · obtain ⟨j, e, a, b⟩ := fit_spec (n := l.length) (by omega)
      have hp := two_pos j
      have ej := two_succ j
      by_cases hq : l.length = 2 ^ j
      · rw [edge_pow node z hq]; rfl
      · have hn : edge node z (l.drop (fit l.length)) ≠ [] := by
          intro hz
          rw [edge_cons node z (by rw [List.length_drop]; omega)] at hz; cases hz
        rw [edge_cons node z h0, rootE_cons node z hn, ih _ (by rw [List.length_drop]; omega), e]
        have hs : split l.length = 2 ^ j := split_eq (by omega) (by omega)
        rw [root_two node z (l := l) (by omega), hs]
/-! ### two texts with one hash -/
def clashR (l : List H) (m : Nat) (leaf : H) : List H → List ((H × H) × (H × H)) × H
  | [] => ([], leaf)
  | x :: r => if l.length < 2 then ([], leaf) else
      if m < split l.length then
        ((((clashR (l.take (split l.length)) m leaf r).2, x), (root node z (l.take (split l.length)), root node z (l.drop (split l.length)))) :: (clashR (l.take (split l.length)) m leaf r).1, node (clashR (l.take (split l.length)) m leaf r).2 x)
      else
        (((x, (clashR (l.drop (split l.length)) (m - split l.length) leaf r).2), (root node z (l.take (split l.length)), root node z (l.drop (split l.length)))) :: (clashR (l.drop (split l.length)) (m - split l.length) leaf r).1, node x (clashR (l.drop (split l.length)) (m - split l.length) leaf r).2)
def clash2R (l : List H) (m : Nat) (whole : Bool) (old : H) : List H → List ((H × H) × (H × H)) × H
  | [] => ([], old)
  | x :: r => if m = l.length then (if whole then ([], old) else ([], (r.reverse ++ [x]).headD x)) else
      if m ≤ split l.length then
        ((((clash2R (l.take (split l.length)) m whole old r).2, x), (root node z (l.take (split l.length)), root node z (l.drop (split l.length)))) :: (clash2R (l.take (split l.length)) m whole old r).1, node (clash2R (l.take (split l.length)) m whole old r).2 x)
      else
        (((x, (clash2R (l.drop (split l.length)) (m - split l.length) false old r).2), (root node z (l.take (split l.length)), root node z (l.drop (split l.length)))) :: (clash2R (l.drop (split l.length)) (m - split l.length) false old r).1, node x (clash2R (l.drop (split l.length)) (m - split l.length) false old r).2)
variable [DecidableEq H]
/-- the first, from the top down, that differs -/
def found : List ((H × H) × (H × H)) → Option ((H × H) × (H × H))
  | [] => none
  | s :: r => if s.1 = s.2 then found r else some s
theorem clash_path (x0 leaf : H) : ∀ (r : List H) (l : List H) (m : Nat), m < l.length → (leadsR node x0 m l.length leaf r).2 = true →
    (clashR node z l m leaf r).2 = (leadsR node x0 m l.length leaf r).1 ∧ ((leadsR node x0 m l.length leaf r).1 = root node z l → l[m]? ≠ some leaf → ∃ s, found (clashR node z l m leaf r).1 = some s ∧ s.1 ≠ s.2 ∧ node s.1.1 s.1.2 = node s.2.1 s.2.2) := by
  intro r
  induction r with
  | nil =>
    intro l m hm h
    rw [leadsR] at h ⊢
    by_cases h1 : l.length = 1
    · rw [if_pos h1]
      refine ⟨rfl, fun he hne => ?_⟩
      obtain ⟨x, rfl⟩ := List.length_eq_one_iff.1 h1
      obtain rfl : m = 0 := by simpa using hm
      rw [root_one] at he
      exact absurd (by have he' : leaf = x := he; rw [he']; rfl) hne
    · rw [if_neg h1] at h; cases h
  | cons x r ih =>
    intro l m hm h
    rw [leadsR] at h ⊢
    rw [clashR]
    by_cases h1 : l.length = 1
    · rw [if_pos h1] at h; cases h
    · rw [if_neg h1] at h ⊢
      rw [if_neg (by omega)]
      have a1 := split_lt (n := l.length) (by omega)
      have a2 := split_pos (n := l.length) (by omega)
      by_cases hc : m < split l.length
      · rw [if_pos hc] at h ⊢
        rw [if_pos hc]
        have hl : (l.take (split l.length)).length = split l.length := by rw [List.length_take]; omega
        obtain ⟨i1, i2⟩ := ih (l.take (split l.length)) m (by omega) (by rw [hl]; exact h)
        rw [hl] at i1 i2
        dsimp only
        refine ⟨by rw [i1], fun he hne => ?_⟩
        rw [found]
        by_cases hs : (((clashR node z (l.take (split l.length)) m leaf r).2, x) : H × H) = (root node z (l.take (split l.length)), root node z (l.drop (split l.length)))
        · rw [if_pos hs]
          have hs1 := congrArg Prod.fst hs
          dsimp only at hs1
          exact i2 (i1 ▸ hs1) (by rw [List.getElem?_take, if_pos hc]; exact hne)
        · rw [if_neg hs]
          exact ⟨_, rfl, hs, by dsimp only; rw [i1, he, root_two node z (l := l) (by omega)]⟩
      · rw [if_neg hc] at h ⊢
        rw [if_neg hc]
        have hl : (l.drop (split l.length)).length = l.length - split l.length := List.length_drop
        obtain ⟨i1, i2⟩ := ih (l.drop (split l.length)) (m - split l.length) (by omega) (by rw [hl]; exact h)
        rw [hl] at i1 i2
        dsimp only
        refine ⟨by rw [i1], fun he hne => ?_⟩
        rw [found]
        by_cases hs : ((x, (clashR node z (l.drop (split l.length)) (m - split l.length) leaf r).2) : H × H) = (root node z (l.take (split l.length)), root node z (l.drop (split l.length)))
        · rw [if_pos hs]
          have hs1 := congrArg Prod.snd hs
          dsimp only at hs1
          refine i2 (i1 ▸ hs1) ?_
          rw [List.getElem?_drop, show split l.length + (m - split l.length) = m by omega]; exact hne
        · rw [if_neg hs]
          exact ⟨_, rfl, hs, by dsimp only; rw [i1, he, root_two node z (l := l) (by omega)]⟩
theorem clash_prf (old : H) : ∀ (r : List H) (l : List H) (m : Nat) (whole : Bool), 1 ≤ m → m ≤ l.length → (twoR node m l.length whole old r).2 = true →
    (clash2R node z l m whole old r).2 = (twoR node m l.length whole old r).1.2 ∧ ((twoR node m l.length whole old r).1.2 = root node z l → (twoR node m l.length whole old r).1.1 ≠ root node z (l.take m) → ∃ s, found (clash2R node z l m whole old r).1 = some s ∧ s.1 ≠ s.2 ∧ node s.1.1 s.1.2 = node s.2.1 s.2.2) := by
  intro r
  induction r with
  | nil =>
    intro l m whole h1 hm h
    rw [twoR] at h ⊢
    by_cases hq : m = l.length
    · rw [if_pos hq] at h ⊢
      cases whole with
      | false => cases h
      | true => exact ⟨rfl, fun he hne => absurd (by rw [hq, List.take_length]; exact he) hne⟩
    · rw [if_neg hq] at h; cases h
  | cons x r ih =>
    intro l m whole h1 hm h
    rw [twoR] at h ⊢
    rw [clash2R]
    by_cases hq : m = l.length
    · rw [if_pos hq] at h ⊢
      rw [if_pos hq]
      cases whole with
      | true => cases h
      | false =>
        cases r with
        | nil => exact ⟨rfl, fun he hne => absurd (by rw [hq, List.take_length]; exact he) hne⟩
        | cons y r => simp at h
    · rw [if_neg hq] at h ⊢
      rw [if_neg hq]
      have a1 := split_lt (n := l.length) (by omega)
      have a2 := split_pos (n := l.length) (by omega)
      have a3 := split_le (n := l.length) (by omega)
      by_cases hc : m ≤ split l.length
      · rw [if_pos hc] at h ⊢
        rw [if_pos hc]
        have hl : (l.take (split l.length)).length = split l.length := by rw [List.length_take]; omega
        obtain ⟨i1, i2⟩ := ih (l.take (split l.length)) m whole h1 (by omega) (by rw [hl]; exact h)
        rw [hl, List.take_take, Nat.min_eq_left hc] at i2
        rw [hl] at i1
        dsimp only
        refine ⟨by rw [i1], fun he hne => ?_⟩
        rw [found]
        by_cases hs : (((clash2R node z (l.take (split l.length)) m whole old r).2, x) : H × H) = (root node z (l.take (split l.length)), root node z (l.drop (split l.length)))
        · rw [if_pos hs]
          have hs1 := congrArg Prod.fst hs
          dsimp only at hs1
          exact i2 (i1 ▸ hs1) hne
        · rw [if_neg hs]
          exact ⟨_, rfl, hs, by dsimp only; rw [i1, he, root_two node z (l := l) (by omega)]⟩
      · rw [if_neg hc] at h ⊢
        rw [if_neg hc]
        have hl : (l.drop (split l.length)).length = l.length - split l.length := List.length_drop
        obtain ⟨i1, i2⟩ := ih (l.drop (split l.length)) (m - split l.length) false (by omega) (by omega) (by rw [hl]; exact h)
        rw [hl] at i1 i2
        dsimp only
        refine ⟨by rw [i1], fun he hne => ?_⟩
        rw [found]
        by_cases hs : ((x, (clash2R node z (l.drop (split l.length)) (m - split l.length) false old r).2) : H × H) = (root node z (l.take (split l.length)), root node z (l.drop (split l.length)))
        · rw [if_pos hs]
          have hs1 := congrArg Prod.fst hs
          have hs2 := congrArg Prod.snd hs
          dsimp only at hs1 hs2
          refine i2 (i1 ▸ hs2) (fun hy => hne ?_)
          rw [hy, hs1]
          obtain ⟨j, e, -, -⟩ := split_spec (n := l.length) (by omega)
          have hr := root_append node z (a := l.take (split l.length)) (b := (l.drop (split l.length)).take (m - split l.length)) ⟨j, by rw [List.length_take]; omega⟩ (by rw [List.length_take, hl]; omega) (by rw [List.length_take, List.length_take, hl]; omega)
          rw [← take_drop_add l _ m (by omega)] at hr
          rw [hr]
        · rw [if_neg hs]
          exact ⟨_, rfl, hs, by dsimp only; rw [i1, he, root_two node z (l := l) (by omega)]⟩
end
end Tree
end Go.Proofs.YtadiijieldldhaaDoor
