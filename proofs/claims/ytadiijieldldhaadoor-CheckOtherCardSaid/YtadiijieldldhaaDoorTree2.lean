/-
  Proofs of first ones, plain: they are checked as they lead; and what is right of a list.
-/
import Derived.Test.YtadiijieldldhaaDoorTree
namespace Go.Proofs.YtadiijieldldhaaDoor
namespace Tree
section
variable {H : Type} (node : H → H → H) (z : H)
/-! ### where a proof leads: the list the other way round -/
def twoR (m n : Nat) (whole : Bool) (old : H) : List H → (H × H) × Bool
  | [] => if m = n then (if whole then ((old, old), true) else ((old, old), false)) else ((old, old), false)
  | x :: r => if m = n then (if whole then ((old, old), false) else if r.length = 0 then ((x, x), true) else ((old, old), false)) else
      if m ≤ split n then (((twoR m (split n) whole old r).1.1, node (twoR m (split n) whole old r).1.2 x), (twoR m (split n) whole old r).2) else
      ((node x (twoR (m - split n) (n - split n) false old r).1.1, node x (twoR (m - split n) (n - split n) false old r).1.2), (twoR (m - split n) (n - split n) false old r).2)
/-- trailing ones away -/
def norm (a l : Nat) : Nat × Nat := if a % 2 = 1 then norm (a / 2) (l / 2) else (a, l)
termination_by a
decreasing_by omega
theorem norm_even {a l : Nat} (h : a % 2 = 0) : norm a l = (a, l) := by rw [norm, if_neg (by omega)]
theorem norm_odd {a l : Nat} (h : a % 2 = 1) : norm a l = norm (a / 2) (l / 2) := by rw [norm, if_pos h]
/-- in a left part -/
theorem norm_lo (i : Nat) : ∀ a l, a < 2 ^ i → 2 ^ i ≤ l → l < 2 ^ (i + 1) → ∃ a' l' i', norm a l = (a', l') ∧ norm a (2 ^ i - 1) = (a', 2 ^ i' - 1) ∧ a' < 2 ^ i' ∧ 2 ^ i' ≤ l' ∧ l' < 2 ^ (i' + 1) := by
  induction i with
  | zero =>
    intro a l ha h1 h2
    obtain rfl : a = 0 := by simp at ha; exact ha
    exact ⟨0, l, 0, norm_even rfl, norm_even rfl, ha, h1, h2⟩
  | succ i ih =>
    intro a l ha h1 h2
    have hp := two_pos i
    have e1 := two_succ i
    have e2 := two_succ (i + 1)
    by_cases ho : a % 2 = 1
    · obtain ⟨a', l', i', r1, r2, r⟩ := ih (a / 2) (l / 2) (by omega) (by omega) (by omega)
      refine ⟨a', l', i', by rw [norm_odd ho]; exact r1, ?_, r⟩
      rw [norm_odd ho, show (2 ^ (i + 1) - 1) / 2 = 2 ^ i - 1 by omega]; exact r2
    · exact ⟨a, l, i + 1, norm_even (by omega), norm_even (by omega), ha, h1, h2⟩
/-- in a right part -/
theorem norm_hi (e : Nat) : ∀ a l, a < l → l < 2 ^ e → ∃ a' l' e', norm a l = (a', l') ∧ norm (a + 2 ^ e) (l + 2 ^ e) = (a' + 2 ^ e', l' + 2 ^ e') ∧ l' < 2 ^ e' ∧ a' ≤ l' := by
  induction e with
  | zero => intro a l h1 h2; simp at h2; omega
  | succ e ih =>
    intro a l h1 h2
    have hp := two_pos e
    have e1 := two_succ e
    by_cases ho : a % 2 = 1
    · by_cases hq : a / 2 < l / 2
      · obtain ⟨a', l', e', r1, r2, r⟩ := ih (a / 2) (l / 2) hq (by omega)
        refine ⟨a', l', e', by rw [norm_odd ho]; exact r1, ?_, r⟩
        rw [norm_odd (by omega), show (a + 2 ^ (e + 1)) / 2 = a / 2 + 2 ^ e by omega, show (l + 2 ^ (e + 1)) / 2 = l / 2 + 2 ^ e by omega]; exact r2
      · omega
    · exact ⟨a, l, e + 1, norm_even (by omega), norm_even (by omega), h2, by omega⟩
theorem norm_ones (i : Nat) : norm (2 ^ i - 1) (2 ^ i - 1) = (0, 0) := by
  induction i with
  | zero => exact norm_even rfl
  | succ i ih =>
    have hp := two_pos i
    have e1 := two_succ i
    rw [norm_odd (by omega), show (2 ^ (i + 1) - 1) / 2 = 2 ^ i - 1 by omega]; exact ih
theorem norm_pos (a : Nat) : ∀ l, a < l → ∃ a' l', norm a l = (a', l') ∧ l' ≠ 0 := by
  induction a using Nat.strongRecOn with
  | ind a ih =>
    intro l h
    by_cases ho : a % 2 = 1
    · obtain ⟨a', l', r⟩ := ih (a / 2) (by omega) (l / 2) (by omega)
      exact ⟨a', l', by rw [norm_odd ho]; exact r⟩
    · exact ⟨a, l, norm_even (by omega), by omega⟩
def fL2 (x : H) (s : H × H) : H × H := (node x s.1, node x s.2)
def fR2 (x : H) (s : H × H) : H × H := (s.1, node s.2 x)
/-- behind the first one, if the first of the parts isn't all -/
theorem run_two_not (old p0 : H) : ∀ (r : List H) (m n : Nat), 1 ≤ m → (m < n ∨ m = n ∧ ∃ i, n = 2 ^ i) →
    run (fL2 node) (fR2 node) (norm (m - 1) (n - 1)).1 (norm (m - 1) (n - 1)).2 (p0, p0) r.reverse = opt (twoR node m n false old (r ++ [p0])) := by
  intro r
  induction r with
  | nil =>
    intro m n h1 hm
    rcases hm with hm | ⟨rfl, i, rfl⟩
    · obtain ⟨a', l', e, hl⟩ := norm_pos (m - 1) (n - 1) (by omega)
      rw [e, List.reverse_nil, run_nil, if_neg hl, List.nil_append, twoR, if_neg (by omega)]
      by_cases hc : m ≤ split n
      · rw [if_pos hc, twoR]; split <;> rfl
      · rw [if_neg hc, twoR]; split <;> rfl
    · rw [norm_ones, List.nil_append, twoR, if_pos rfl]; rfl
  | cons x r ih =>
    intro m n h1 hm
    rw [List.reverse_cons, List.cons_append]
    rcases hm with hm | ⟨rfl, i, rfl⟩
    · obtain ⟨j, e, ha, hb⟩ := split_spec (n := n) (by omega)
      have hp := two_pos j
      have e1 := two_succ j
      rw [twoR, if_neg (by omega), e]
      by_cases hc : m ≤ 2 ^ j
      · rw [if_pos hc]
        obtain ⟨a', l', i', r1, r2, r3, r4, r5⟩ := norm_lo j (m - 1) (n - 1) (by omega) (by omega) (by omega)
        have hi := ih m (2 ^ j) h1 (by rcases Nat.lt_or_ge m (2 ^ j) with h | h; · exact .inl h
                                       · exact .inr ⟨by omega, j, rfl⟩)
        rw [r2] at hi
        rw [r1, run_lo (fL2 node) (fR2 node) i' a' l' _ _ _ r3 r4 r5, hi]
        exact (opt_map (twoR node m (2 ^ j) false old (r ++ [p0])) (fR2 node x)).symm
      · rw [if_neg hc]
        obtain ⟨a', l', e', r1, r2, r3, r4⟩ := norm_hi j (m - 2 ^ j - 1) (n - 2 ^ j - 1) (by omega) (by omega)
        rw [show m - 2 ^ j - 1 + 2 ^ j = m - 1 by omega, show n - 2 ^ j - 1 + 2 ^ j = n - 1 by omega] at r2
        have hi := ih (m - 2 ^ j) (n - 2 ^ j) (by omega) (.inl (by omega))
        rw [r1] at hi
        rw [r2, run_hi (fL2 node) (fR2 node) _ e' a' l' _ _ r4 r3, hi]
        exact (opt_map (twoR node (m - 2 ^ j) (n - 2 ^ j) false old (r ++ [p0])) (fL2 node x)).symm
    · rw [norm_ones, run_zero', twoR, if_pos rfl]
      cases r <;> rfl
/-- the first ones are a whole part -/
theorem run_two_pow (old : H) (i : Nat) : ∀ (r : List H) (n : Nat), (2 ^ i < n ∨ 2 ^ i = n) →
    run (fL2 node) (fR2 node) (norm (2 ^ i - 1) (n - 1)).1 (norm (2 ^ i - 1) (n - 1)).2 (old, old) r.reverse = opt (twoR node (2 ^ i) n true old r) := by
  have hpi := two_pos i
  intro r
  induction r with
  | nil =>
    intro n hm
    rcases hm with hm | rfl
    · obtain ⟨a', l', e, hl⟩ := norm_pos (2 ^ i - 1) (n - 1) (by omega)
      rw [e, List.reverse_nil, run_nil, if_neg hl, twoR, if_neg (by omega)]; rfl
    · rw [norm_ones, twoR, if_pos rfl]; rfl
  | cons x r ih =>
    intro n hm
    rw [List.reverse_cons]
    rcases hm with hm | rfl
    · obtain ⟨j, e, ha, hb⟩ := split_spec (n := n) (by omega)
      have hp := two_pos j
      have e1 := two_succ j
      have hij : 2 ^ i ≤ 2 ^ j := Nat.pow_le_pow_right (by omega) (by
        have : i < j + 1 := (Nat.pow_lt_pow_iff_right (a := 2) (by omega)).1 (by omega)
        omega)
      rw [twoR, if_neg (by omega), e, if_pos hij]
      obtain ⟨a', l', i', r1, r2, r3, r4, r5⟩ := norm_lo j (2 ^ i - 1) (n - 1) (by omega) (by omega) (by omega)
      have hi := ih (2 ^ j) (by omega)
      rw [r2] at hi
      rw [r1, run_lo (fL2 node) (fR2 node) i' a' l' _ _ _ r3 r4 r5, hi]
      exact (opt_map (twoR node (2 ^ i) (2 ^ j) true old r) (fR2 node x)).symm
    · rw [norm_ones, run_zero', twoR, if_pos rfl]; rfl
/-- the first ones are no whole part: it is as if nothing were known of them -/
theorem two_whole (old : H) : ∀ (r : List H) (m n : Nat), 1 ≤ m → m < n → (¬ ∃ i, m = 2 ^ i) → twoR node m n true old r = twoR node m n false old r := by
  intro r
  induction r with
  | nil => intro m n h1 hm hn; simp only [twoR, if_neg (show ¬ m = n by omega)]
  | cons x r ih =>
    intro m n h1 hm hn
    simp only [twoR, if_neg (show ¬ m = n by omega)]
    obtain ⟨j, e, ha, hb⟩ := split_spec (n := n) (by omega)
    by_cases hc : m ≤ split n
    · have hlt : m < split n := by
        rcases Nat.lt_or_ge m (split n) with h | h
        · exact h
        · exact absurd ⟨j, by omega⟩ hn
      rw [if_pos hc, if_pos hc, ih m (split n) h1 hlt hn]
    · rw [if_neg hc, if_neg hc]
/-! ### a number's bits -/
theorem and_pred {m : Nat} (h : 1 ≤ m) : (∃ i, m = 2 ^ i) ↔ m &&& (m - 1) = 0 := by
  induction m using Nat.strongRecOn with
  | ind m ih =>
    by_cases h1 : m = 1
    · subst h1; exact ⟨fun _ => rfl, fun _ => ⟨0, rfl⟩⟩
    by_cases ho : m % 2 = 1
    · refine ⟨fun ⟨i, hi⟩ => ?_, fun hz => ?_⟩
      · rcases i with _ | i
        · simp at hi; omega
        · rw [two_succ] at hi; omega
      · exfalso
        have ht : (m &&& (m - 1)) / 2 = m / 2 := by
          rw [Nat.and_div_two, show (m - 1) / 2 = m / 2 by omega, Nat.and_self]
        rw [hz] at ht; omega
    · have hih := ih (m / 2) (by omega) (by omega)
      have h0 : (m &&& (m - 1)) % 2 = 0 := by
        have := Nat.and_mod_two_pow (a := m) (b := m - 1) (n := 1)
        simp only [Nat.pow_one] at this
        rw [this, show m % 2 = 0 by omega, Nat.zero_and]
      have ht : (m &&& (m - 1)) / 2 = (m / 2) &&& (m / 2 - 1) := by
        rw [Nat.and_div_two, show (m - 1) / 2 = m / 2 - 1 by omega]
      refine ⟨fun ⟨i, hi⟩ => ?_, fun hz => ?_⟩
      · rcases i with _ | i
        · simp at hi; omega
        · have := hih.1 ⟨i, by rw [two_succ] at hi; omega⟩
          omega
      · obtain ⟨i, hi⟩ := hih.2 (by omega)
        exact ⟨i + 1, by rw [two_succ]; omega⟩
/-! ### what a list gives is right -/
theorem take_drop_add (l : List H) (k m : Nat) (h : k ≤ m) : l.take m = l.take k ++ (l.drop k).take (m - k) := by
  rw [← List.take_append_drop k (l.take m), List.take_take, Nat.min_eq_left h, List.drop_take]
theorem leads_path (x0 : H) (N : Nat) : ∀ (l : List H) (m : Nat) (leaf : H), l.length ≤ N → l[m]? = some leaf → leadsR node x0 m l.length leaf (path node z l m).reverse = (root node z l, true) := by
  induction N with
  | zero => intro l m leaf hN hm; have := (List.getElem?_eq_some_iff.1 hm).1; omega
  | succ N ih =>
    intro l m leaf hN hm
    have hml := (List.getElem?_eq_some_iff.1 hm).1
    by_cases h2 : l.length < 2
    · rw [path_one node z h2]
      have h1 : l.length = 1 := by omega
      obtain ⟨x, rfl⟩ := List.length_eq_one_iff.1 h1
      obtain rfl : m = 0 := by simpa using hml
      have : x = leaf := by simpa using hm
      simp [leadsR, root_one, this]
    · have a1 := split_lt (n := l.length) (by omega)
      have a2 := split_pos (n := l.length) (by omega)
      by_cases hc : m < split l.length
      · rw [path_lo node z (by omega) hc, List.reverse_append, List.reverse_cons, List.reverse_nil, List.nil_append, List.singleton_append, leadsR, if_neg (by omega), if_pos hc]
        have := ih (l.take (split l.length)) m leaf (by rw [List.length_take]; omega) (by rw [List.getElem?_take, if_pos hc]; exact hm)
        rw [List.length_take, Nat.min_eq_left (by omega)] at this
        rw [this, ← root_two node z (by omega)]
      · rw [path_hi node z (by omega) (by omega), List.reverse_append, List.reverse_cons, List.reverse_nil, List.nil_append, List.singleton_append, leadsR, if_neg (by omega), if_neg hc]
        have := ih (l.drop (split l.length)) (m - split l.length) leaf (by rw [List.length_drop]; omega) (by rw [List.getElem?_drop, show split l.length + (m - split l.length) = m by omega]; exact hm)
        rw [List.length_drop] at this
        rw [this, ← root_two node z (by omega)]
theorem two_prf (N : Nat) : ∀ (l : List H) (m : Nat) (whole : Bool), l.length ≤ N → 1 ≤ m → m ≤ l.length → ∀ old, (whole = true → old = root node z (l.take m)) → twoR node m l.length whole old (prf node z l m whole).reverse = ((root node z (l.take m), root node z l), true) := by
  induction N with
  | zero => intro l m whole hN h1 hm; omega
  | succ N ih =>
    intro l m whole hN h1 hm old ho
    rcases Nat.eq_or_lt_of_le hm with rfl | hm
    · rw [prf_end node z rfl, List.take_length]
      rw [List.take_length] at ho
      cases whole with
      | true => rw [if_pos rfl, List.reverse_nil, twoR, if_pos rfl, if_pos rfl, ho rfl]
      | false => simp [twoR]
    · have a1 := split_lt (n := l.length) (by omega)
      have a2 := split_pos (n := l.length) (by omega)
      have a3 := split_le (n := l.length) (by omega)
      by_cases hc : m ≤ split l.length
      · rw [prf_lo node z h1 hm hc, List.reverse_append, List.reverse_cons, List.reverse_nil, List.nil_append, List.singleton_append, twoR, if_neg (by omega), if_pos hc]
        have hl : (l.take (split l.length)).length = split l.length := by rw [List.length_take]; omega
        have ht : (l.take (split l.length)).take m = l.take m := by rw [List.take_take, Nat.min_eq_left hc]
        have := ih (l.take (split l.length)) m whole (by omega) h1 (by omega) old (by rw [ht]; exact ho)
        rw [hl, ht] at this
        rw [this, ← root_two node z (by omega)]
      · rw [prf_hi node z h1 hm (by omega), List.reverse_append, List.reverse_cons, List.reverse_nil, List.nil_append, List.singleton_append, twoR, if_neg (by omega), if_neg hc]
        have hl : (l.drop (split l.length)).length = l.length - split l.length := List.length_drop
        have := ih (l.drop (split l.length)) (m - split l.length) false (by omega) (by omega) (by omega) old (fun e => by cases e)
        rw [hl] at this
        rw [this, ← root_two node z (by omega)]
        obtain ⟨j, e, -, -⟩ := split_spec (n := l.length) (by omega)
        have hr := root_append node z (a := l.take (split l.length)) (b := (l.drop (split l.length)).take (m - split l.length)) ⟨j, by rw [List.length_take]; omega⟩ (by rw [List.length_take, hl]; omega) (by rw [List.length_take, List.length_take, hl]; omega)
        rw [← take_drop_add l _ m (by omega)] at hr
        rw [hr]
/-! ### how many hashes -/
def deep (m n : Nat) : Nat := if h : n < 2 then 0 else (if m < split n then deep m (split n) else deep (m - split n) (n - split n)) + 1
termination_by n
decreasing_by
  · exact split_lt (by omega)
  · have := split_pos (n := n) (by omega); omega
theorem deep_one {m n : Nat} (h : n < 2) : deep m n = 0 := by rw [deep, dif_pos h]
theorem deep_two {m n : Nat} (h : 2 ≤ n) : deep m n = (if m < split n then deep m (split n) else deep (m - split n) (n - split n)) + 1 := by rw [deep, dif_neg (by omega)]
theorem leads_len (x0 leaf : H) : ∀ (r : List H) (m n : Nat), m < n → (leadsR node x0 m n leaf r).2 = decide (r.length = deep m n) := by
  intro r
  induction r with
  | nil =>
    intro m n hm
    rw [leadsR]
    by_cases h1 : n = 1
    · subst h1; rw [deep_one (by omega)]; rfl
    · rw [if_neg h1, deep_two (by omega)]; simp
  | cons x r ih =>
    intro m n hm
    rw [leadsR]
    by_cases h1 : n = 1
    · subst h1; rw [deep_one (by omega)]; simp
    · have a1 := split_lt (n := n) (by omega)
      rw [if_neg h1, deep_two (by omega), List.length_cons]
      by_cases hc : m < split n
      · rw [if_pos hc, if_pos hc]; dsimp only; rw [ih _ _ hc]; simp
      · rw [if_neg hc, if_neg hc]; dsimp only; rw [ih _ _ (by omega)]; simp
theorem path_len (N : Nat) : ∀ (l : List H) (m : Nat), l.length ≤ N → m < l.length → (path node z l m).length = deep m l.length := by
  induction N with
  | zero => intro l m hN hm; omega
  | succ N ih =>
    intro l m hN hm
    by_cases h2 : l.length < 2
    · rw [path_one node z h2, deep_one h2]; rfl
    · have a1 := split_lt (n := l.length) (by omega)
      have a2 := split_pos (n := l.length) (by omega)
      rw [deep_two (by omega)]
      by_cases hc : m < split l.length
      · rw [path_lo node z (by omega) hc, if_pos hc, List.length_append, ih _ _ (by rw [List.length_take]; omega) (by rw [List.length_take]; omega), List.length_take, Nat.min_eq_left (by omega)]; rfl
      · rw [path_hi node z (by omega) (by omega), if_neg hc, List.length_append, ih _ _ (by rw [List.length_drop]; omega) (by rw [List.length_drop]; omega), List.length_drop]; rfl
def deep2 (m n : Nat) (whole : Bool) : Nat := if h : n ≤ m ∨ n < 2 then (if whole then 0 else 1) else (if m ≤ split n then deep2 m (split n) whole else deep2 (m - split n) (n - split n) false) + 1
termination_by n
decreasing_by
  · exact split_lt (by omega)
  · have := split_pos (n := n) (by omega); omega
theorem deep2_end {m n : Nat} {whole : Bool} (h : m = n) : deep2 m n whole = if whole then 0 else 1 := by rw [deep2, dif_pos (.inl (by omega))]
theorem deep2_in {m n : Nat} {whole : Bool} (h1 : 1 ≤ m) (h : m < n) : deep2 m n whole = (if m ≤ split n then deep2 m (split n) whole else deep2 (m - split n) (n - split n) false) + 1 := by rw [deep2, dif_neg (by omega)]
theorem two_len (old : H) : ∀ (r : List H) (m n : Nat) (whole : Bool), 1 ≤ m → m ≤ n → (twoR node m n whole old r).2 = decide (r.length = deep2 m n whole) := by
  intro r
  induction r with
  | nil =>
    intro m n whole h1 hm
    rw [twoR]
    by_cases hq : m = n
    · rw [if_pos hq, deep2_end hq]; cases whole <;> rfl
    · rw [if_neg hq, deep2_in h1 (by omega)]; simp
  | cons x r ih =>
    intro m n whole h1 hm
    rw [twoR]
    by_cases hq : m = n
    · rw [if_pos hq, deep2_end hq]
      cases whole with
      | true => simp
      | false => cases r <;> simp
    · rw [if_neg hq, deep2_in h1 (by omega), List.length_cons]
      have a1 := split_lt (n := n) (by omega)
      by_cases hc : m ≤ split n
      · rw [if_pos hc, if_pos hc]; dsimp only; rw [ih _ _ _ h1 hc]; simp
      · rw [if_neg hc, if_neg hc]; dsimp only; rw [ih _ _ _ (by omega) (by omega)]; simp
theorem prf_len (N : Nat) : ∀ (l : List H) (m : Nat) (whole : Bool), l.length ≤ N → 1 ≤ m → m ≤ l.length → (prf node z l m whole).length = deep2 m l.length whole := by
  induction N with
  | zero => intro l m whole hN h1 hm; omega
  | succ N ih =>
    intro l m whole hN h1 hm
    rcases Nat.eq_or_lt_of_le hm with rfl | hm
    · rw [prf_end node z rfl, deep2_end rfl]; cases whole <;> rfl
    · have a1 := split_lt (n := l.length) (by omega)
      have a2 := split_pos (n := l.length) (by omega)
      rw [deep2_in h1 hm]
      by_cases hc : m ≤ split l.length
      · rw [prf_lo node z h1 hm hc, if_pos hc, List.length_append, ih _ _ _ (by rw [List.length_take]; omega) h1 (by rw [List.length_take]; omega), List.length_take, Nat.min_eq_left (by omega)]; rfl
      · rw [prf_hi node z h1 hm (by omega), if_neg hc, List.length_append, ih _ _ _ (by rw [List.length_drop]; omega) (by omega) (by rw [List.length_drop]; omega), List.length_drop]; rfl
/-- a path of n has no more hashes than n - 1 has bits -/
theorem deep_le (b : Nat) : ∀ m n, n ≤ 2 ^ b → deep m n ≤ b := by
  induction b with
  | zero => intro m n h; rw [deep_one (by simp at h; omega)]; omega
  | succ b ih =>
    intro m n h
    by_cases h2 : n < 2
    · rw [deep_one h2]; omega
    · obtain ⟨j, e, ha, hb⟩ := split_spec (n := n) (by omega)
      have hjb : j ≤ b := by
        have : j < b + 1 := (Nat.pow_lt_pow_iff_right (a := 2) (by omega)).1 (by omega)
        omega
      have hp : 2 ^ j ≤ 2 ^ b := Nat.pow_le_pow_right (by omega) hjb
      have e1 := two_succ j
      rw [deep_two (by omega), e]
      split
      · have := ih m (2 ^ j) hp; omega
      · have := ih (m - 2 ^ j) (n - 2 ^ j) (by omega); omega
theorem deep2_le (b : Nat) : ∀ m n whole, 1 ≤ m → m ≤ n → n ≤ 2 ^ b → deep2 m n whole ≤ b + 1 := by
  induction b with
  | zero =>
    intro m n whole h1 hm h
    simp at h
    rw [deep2_end (by omega)]; split <;> omega
  | succ b ih =>
    intro m n whole h1 hm h
    by_cases hq : m = n
    · rw [deep2_end hq]; split <;> omega
    · obtain ⟨j, e, ha, hb⟩ := split_spec (n := n) (by omega)
      have hjb : j ≤ b := by
        have : j < b + 1 := (Nat.pow_lt_pow_iff_right (a := 2) (by omega)).1 (by omega)
        omega
      have hp : 2 ^ j ≤ 2 ^ b := Nat.pow_le_pow_right (by omega) hjb
      have e1 := two_succ j
      rw [deep2_in h1 (by omega), e]
      split
      · have := ih m (2 ^ j) whole h1 (by omega) hp; omega
      · have := ih (m - 2 ^ j) (n - 2 ^ j) false (by omega) (by omega) (by omega); omega
end
end Tree
end Go.Proofs.YtadiijieldldhaaDoor
