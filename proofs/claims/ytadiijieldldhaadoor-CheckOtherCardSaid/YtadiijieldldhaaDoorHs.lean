/-
  Lists of hashes in memory: lists that are only read, and lists of the call's own.
-/
import Derived.Test.YtadiijieldldhaaDoorHash
import Derived.Test.YtadiijieldldhaaDoorOwn
import Derived.Test.YtadiijieldldhaaDoorWrite
import Derived.Test.YtadiijieldldhaaDoorTree3
namespace Go.Proofs.YtadiijieldldhaaDoor
open Go Go.RowKit
/-- a hash -/
abbrev Hs := {l : List B // l.length = 32}
def nodeH (a b : Hs) : Hs := ⟨sha (1 :: (a.1 ++ b.1)), sha_len _⟩
def nilH : Hs := ⟨sha [], sha_len _⟩
def leafH (bs : List B) : Hs := ⟨sha (0 :: bs), sha_len _⟩
abbrev hval (h : Hs) : Value := hashv h.1
def flat (l : List Hs) : List B := l.flatMap (·.1)
theorem flat_nil : flat [] = [] := rfl
theorem flat_cons (h : Hs) (l : List Hs) : flat (h :: l) = h.1 ++ flat l := rfl
theorem flat_append (a b : List Hs) : flat (a ++ b) = flat a ++ flat b := List.flatMap_append
theorem flat_one (h : Hs) : flat [h] = h.1 := by simp [flat]
theorem flat_len (l : List Hs) : (flat l).length = l.length * 32 := by
  induction l with
  | nil => rfl
  | cons h l ih => rw [flat_cons, List.length_append, ih, h.2, List.length_cons]; omega
theorem flat_take (l : List Hs) (k : Nat) : flat (l.take k) = (flat l).take (k * 32) := by
  by_cases hk : k ≤ l.length
  · have : flat l = flat (l.take k) ++ flat (l.drop k) := by rw [← flat_append, List.take_append_drop]
    rw [this, List.take_left' (by rw [flat_len, List.length_take, Nat.min_eq_left hk])]
  · rw [List.take_of_length_le (by omega), List.take_of_length_le (by rw [flat_len]; omega)]
theorem flat_drop (l : List Hs) (k : Nat) : flat (l.drop k) = (flat l).drop (k * 32) := by
  by_cases hk : k ≤ l.length
  · have : flat l = flat (l.take k) ++ flat (l.drop k) := by rw [← flat_append, List.take_append_drop]
    rw [this, List.drop_left' (by rw [flat_len, List.length_take, Nat.min_eq_left hk])]
  · rw [List.drop_of_length_le (by omega), List.drop_of_length_le (by rw [flat_len]; omega)]; rfl
theorem flat_inj : ∀ (a b : List Hs), flat a = flat b → a.length = b.length → a = b := by
  intro a
  induction a with
  | nil => intro b _ hl; exact (List.eq_nil_of_length_eq_zero hl.symm).symm
  | cons x a ih =>
    intro b h hl
    cases b with
    | nil => cases hl
    | cons y b =>
      rw [flat_cons, flat_cons] at h
      obtain ⟨h1, h2⟩ := List.append_inj h (by rw [x.2, y.2])
      rw [Subtype.ext h1, ih b h2 (by simpa using hl)]
theorem flat_at (l : List Hs) (i : Nat) (hi : i < l.length) (j : Nat) (hj : j < 32) : (flat l).getD (i * 32 + j) 0 = (l[i]).1.getD j 0 := by
  have h : flat l = flat (l.take i) ++ ((l[i]).1 ++ flat (l.drop (i + 1))) := by
    rw [← flat_cons, ← flat_append, List.getElem_cons_drop, List.take_append_drop]
  have hx := (l[i]).2
  have ht : (flat (l.take i)).length = i * 32 := by rw [flat_len, List.length_take, Nat.min_eq_left (by omega)]
  unfold List.getD
  rw [h, List.getElem?_append_right (by omega), ht, List.getElem?_append_left (by omega)]
  rw [show i * 32 + j - i * 32 = j by omega]
/-- hashes that are only read -/
def Hts (w : World) (ao : Option Addr) (l : List Hs) : Prop := Bts w ao (flat l)
theorem Hts.nil (w : World) (ao : Option Addr) : Hts w ao [] := Bts.nil _ _
theorem Hts.below {w w' : World} {ao : Option Addr} {l : List Hs} {n : Nat} (h : Hts w ao l) (hb : Below n w w') (hn : w.heap.size ≤ n) : Hts w' ao l := Bts.below h hb hn
theorem Hts.kept {w w' : World} {ao : Option Addr} {l : List Hs} (h : Hts w ao l) (hk : ∀ b off, ao = some ⟨b, off, none⟩ → b < w.heap.size → w'.heap[b]? = w.heap[b]?) : Hts w' ao l := Bts.kept h hk
theorem Hts.fr {S : Nat → Prop} {w w' : World} {ao : Option Addr} {l : List Hs} (h : Hts w ao l) (k : Fr S w w') (hS : ∀ b off, ao = some ⟨b, off, none⟩ → ¬ S b) : Hts w' ao l := Bts.fr h k hS
/-- the hash at a place -/
theorem Hts.place {w : World} {ao : Option Addr} {l : List Hs} (h : Hts w ao l) (h0 : 0 < l.length) : ∃ b off, ao = some ⟨b, off, none⟩ ∧ b < w.heap.size ∧ ∀ i (hi : i < l.length), w.rangeAt b (off + i * 32) ((l[i]).1.map b8) := by
  have hfl := flat_len l
  rcases h with h | ⟨b, off, e, h⟩
  · rw [h] at hfl; simp at hfl; omega
  · refine ⟨b, off, e, World.block_lt_of_cell? w _ (h 0 (by omega)), fun i hi j v hv => ?_⟩
    have hx := (l[i]).2
    have hj : j < 32 := by
      have := (List.getElem?_eq_some_iff.1 hv).1
      rw [List.length_map] at this; omega
    rw [Nat.add_assoc, h (i * 32 + j) (by omega), flat_at l i hi j hj]
    rw [List.getElem?_map, Option.map_eq_some_iff] at hv
    obtain ⟨u, hu, rfl⟩ := hv
    simp [List.getD, hu]
theorem hts_of {w : World} {b off : Nat} {l : List Hs} (h : ∀ i (hi : i < l.length), w.rangeAt b (off + i * 32) ((l[i]).1.map b8)) : Hts w (some ⟨b, off, none⟩) l := by
  refine Bts.of fun j hj => ?_
  rw [flat_len] at hj
  have hi : j / 32 < l.length := by omega
  have hx := (l[j / 32]).2
  have hq := flat_at l (j / 32) hi (j % 32) (by omega)
  rw [show j / 32 * 32 + j % 32 = j by omega] at hq
  have := h (j / 32) hi (j % 32) (b8 ((l[j / 32]).1.getD (j % 32) 0)) (by simp [List.getD, hx, show j % 32 < 32 by omega])
  rw [hq, ← this]
  congr 2; omega
theorem Hts.take {w : World} {ao : Option Addr} {l : List Hs} (h : Hts w ao l) (k : Nat) : Hts w ao (l.take k) := by
  unfold Hts; rw [flat_take]; exact Bts.take h _
theorem run_upto_hts {P : Program} {t e : TypeId} {i : TypeInfo} (ht : P.underlying t = some (.slice e)) (hi : P.info? e = some i) (ao : Option Addr) (n c k : Nat) (hk : k ≤ c) :
    ∃ a', (∀ W : World, (Instr.slice t (.slice ao n c) none (some (.int .i64 k)) none).run P W = .ok (.slice a' k c) W) ∧ (a' = ao ∨ (c = 0 ∨ ao.bind (·.spot) ≠ none)) ∧ ∀ w (l : List Hs), Hts w ao l → Hts w a' (l.take k) := by
  have ht' : P.underlying t = some (.slice (P.elem t)) := by simp [Program.elem, ht]
  have he : P.elem t = e := by simp [Program.elem, ht]
  refine ⟨if c = 0 then ao else ao.map (·.add (0 * i.size)), fun W => ?_, ?_, fun w l h => ?_⟩
  · rw [run_slice_h W t ao n c ht' .i64 k (by omega) (by omega), he]
    simp [sizeOf, typeInfo, hi, Result.andThen, sliced]
  · by_cases h0 : c = 0
    · exact .inr (.inl h0)
    · rw [if_neg h0]
      rcases ao with _ | ⟨b, off, _ | s⟩
      · exact .inl rfl
      · left; simp [Addr.add_lit]
      · right; right; simp
  · have h2 := h.take k
    by_cases h0 : c = 0
    · rw [if_pos h0]; exact h2
    · rw [if_neg h0]
      rcases h2 with h3 | ⟨b, off, rfl, h3⟩
      · exact .inl h3
      · simp only [Option.map_some, Nat.zero_mul, Addr.add_lit, Nat.add_zero]
        exact Bts.of h3
theorem run_from_hts {P : Program} {t e : TypeId} {i : TypeInfo} (ht : P.underlying t = some (.slice e)) (hi : P.info? e = some i) (hsz : i.size = 32) (ao : Option Addr) (n c k : Nat) (hk : k ≤ n) (hn : n ≤ c) :
    ∃ a', (∀ W : World, (Instr.slice t (.slice ao n c) (some (.int .i64 k)) none none).run P W = .ok (.slice a' (n - k) (c - k)) W) ∧ ∀ w (l : List Hs), l.length = n → Hts w ao l → Hts w a' (l.drop k) := by
  have ht' : P.underlying t = some (.slice (P.elem t)) := by simp [Program.elem, ht]
  have he : P.elem t = e := by simp [Program.elem, ht]
  refine ⟨if c = k then ao else ao.map (·.add (k * i.size)), fun W => ?_, fun w l hl h => ?_⟩
  · rw [run_slice_l W t ao n c ht' .i64 k (by omega) (by omega), he]
    simp [sizeOf, typeInfo, hi, Result.andThen, sliced]
  · by_cases h0 : c = k
    · rw [List.drop_of_length_le (by omega)]; exact Hts.nil _ _
    · rw [if_neg h0, hsz]
      unfold Hts
      rw [flat_drop]
      rcases h with h | ⟨b, off, rfl, h⟩
      · left; rw [h]; simp
      · refine .inr ⟨b, off + k * 32, by simp [Addr.add_lit], fun j hj => ?_⟩
        rw [List.length_drop] at hj
        rw [Nat.add_assoc, h (k * 32 + j) (by omega)]
        simp [List.getD]
/-- hashes of the call's own -/
abbrev OwnH (r : Nat) (w wr : World) (v : Value) (l : List Hs) : Prop := Own r w wr 23 32 v l.length ((flat l).map b8)
theorem Row.hts {w : World} {v : Value} {e n : Nat} {l : List Hs} (h : Row w v e 32 n ((flat l).map b8)) : ∃ ao cp, v = .slice ao n cp ∧ n = l.length ∧ n ≤ cp ∧ cp ≤ maxLen ∧ Hts w ao l := by
  have hl := h.1
  rw [List.length_map, flat_len] at hl
  have hl' : n = l.length := by omega
  rcases h.2 with ⟨rfl, rfl⟩ | ⟨g, off, cap, cur, rfl, hg, h1, h2, _, hc⟩
  · obtain rfl := List.eq_nil_of_length_eq_zero hl'.symm
    exact ⟨none, 0, rfl, hl', Nat.le_refl _, Nat.zero_le _, Hts.nil _ _⟩
  · refine ⟨_, cap, rfl, hl', h1, h2, Bts.of fun j hj => ?_⟩
    have := hc j (by simpa using hj)
    simp [World.cell?, hg, this, List.getD, hj]
theorem OwnH.app {r : Nat} {w wr w' : World} {v v' : Value} {l k : List Hs} (h : OwnH r w wr v l) (hrow : Row w' v' 23 32 (l.length + k.length) ((flat l).map b8 ++ (flat k).map b8)) (hg : wr.grownBy w' v.ownBlock)
    (hv : v'.ownBlock = v.ownBlock ∨ v'.ownBlock = some wr.heap.size ∧ wr.heap.size < w'.heap.size) : OwnH r w w' v' (l ++ k) := by
  have := Own.app h hrow hg hv
  unfold OwnH
  rw [List.length_append, flat_append, List.map_append]; exact this
theorem OwnH.push {r : Nat} {w wr w' : World} {v v' : Value} {l : List Hs} {u : Hs} (h : OwnH r w wr v l) (o : Obj) (hrow : Row w' v' 23 32 (l.length + 1) ((flat l).map b8 ++ u.1.map b8)) (hg : (wr.alloc o).grownBy w' v.ownBlock)
    (hv : v'.ownBlock = v.ownBlock ∨ v'.ownBlock = some (wr.heap.size + 1) ∧ wr.heap.size + 1 < w'.heap.size) : OwnH r w w' v' (l ++ [u]) := by
  have := Own.push h o hrow hg hv
  unfold OwnH
  rw [List.length_append, flat_append, flat_one, List.map_append]; exact this
theorem map_b8_one (h : Hs) : ∀ v ∈ (h.1.map b8), v.oneCell' = true := b8_one _
/-- the one hash that a new block holds, as the source of append -/
theorem src_one (w : World) (h : Hs) : Src Tryd.prog 32 24 (.slice (some ⟨w.heap.size, 0, none⟩) 1 1) 1 (h.1.map b8) (w.alloc (.cells (h.1.map b8).toArray 23)) :=
  Src.ofSlice _ (e' := 23) (by kernel_rfl) ⟨w.heap.size, 0, none⟩ 1 1 (h.1.map b8) (by simp [h.2]) (fun j x hx => by
    rw [Addr.add_lit, Nat.zero_add, (Blk.new w (h.1.map b8).toArray 23).cell j]; simpa using hx) (b8_one _)
/-- hashes that are read, as the source of append -/
theorem Hts.src {w : World} {ao : Option Addr} {l : List Hs} (h : Hts w ao l) (n cp : Nat) (hn : n = l.length) : Src Tryd.prog 32 24 (.slice ao n cp) n ((flat l).map b8) w := by
  subst hn
  have hk : Tryd.prog.underlying 24 = some (.slice 23) := by kernel_rfl
  have hfl := flat_len l
  rcases h with h | ⟨b, off, rfl, h⟩
  · have h0 : l.length = 0 := by rw [h] at hfl; simp at hfl; omega
    rw [h, h0]
    cases ao with
    | none => exact Src.ofNil w hk cp
    | some a => exact Src.ofSlice w hk a 0 cp [] rfl (fun j u hu => by simp at hu) (fun u hu => by cases hu)
  · refine Src.ofSlice w hk ⟨b, off, none⟩ _ cp ((flat l).map b8) (by rw [List.length_map, hfl]) (fun j u hu => ?_) (b8_one _)
    have hj := (List.getElem?_eq_some_iff.1 hu).1
    rw [List.length_map] at hj
    rw [Addr.add_lit, h j hj, ← hu]
    simp [List.getD, hj]
end Go.Proofs.YtadiijieldldhaaDoor
