/-
  Laws on memory, of whatever program: a slice that the code owns (nil, or a stretch of a block of its own, from any offset on), what append makes of it; a slice that is only read; a stretch in the middle of a block that is known whole.
-/
import Derived.Test.YtahlllbigkgobaaDoorLib
import Derived.Deep.AppendSrc
import Derived.Deep.MidRow
namespace Go.Proofs.YtahlllbigkgobaaDoor
open Go Go.RowKit

/-- an owned slice: n elements of type e, sz cells each; it reads as the cells xs -/
def Row (w : World) (v : Value) (e sz n : Nat) (xs : List Value) : Prop :=
  xs.length = n * sz ∧ ((v = .slice none 0 0 ∧ n = 0) ∨
    ∃ g off cap cur, v = .slice (some ⟨g, off, none⟩) n cap ∧ w.heap[g]? = some (.cells cur e (0, 0)) ∧ n ≤ cap ∧ cap ≤ maxLen ∧ off + cap * sz ≤ cur.size ∧ ∀ j, j < xs.length → cur[off + j]? = xs[j]?)
theorem Row.nil (w : World) (e sz : Nat) : Row w (.slice none 0 0) e sz 0 [] := ⟨by simp, .inl ⟨rfl, rfl⟩⟩
theorem Row.kept {w w' : World} {v : Value} {e sz n : Nat} {xs : List Value} (h : Row w v e sz n xs) (hk : ∀ g, v.ownBlock = some g → w'.heap[g]? = w.heap[g]?) : Row w' v e sz n xs := by
  refine ⟨h.1, ?_⟩
  rcases h.2 with hn | ⟨g, off, cap, cur, rfl, hg, r⟩
  · exact .inl hn
  · exact .inr ⟨g, off, cap, cur, rfl, by rw [hk g rfl]; exact hg, r⟩
theorem Row.lt {w : World} {v : Value} {e sz n : Nat} {xs : List Value} (h : Row w v e sz n xs) : ∀ g, v.ownBlock = some g → g < w.heap.size := by
  intro g hg
  rcases h.2 with ⟨rfl, _⟩ | ⟨g', off, cap, cur, rfl, hh, _⟩
  · cases hg
  · obtain rfl : g' = g := by simpa [Value.ownBlock] using hg
    exact (Array.getElem?_eq_some_iff.1 hh).1
theorem Row.alloc {w : World} {v : Value} {e sz n : Nat} {xs : List Value} (h : Row w v e sz n xs) (o : Obj) : Row (w.alloc o) v e sz n xs :=
  h.kept fun g hg => Below.heap_alloc _ _ _ (h.lt g hg)
theorem Row.drewN {w : World} {v : Value} {e sz n : Nat} {xs : List Value} (h : Row w v e sz n xs) (k : Nat) : Row (w.drewN k) v e sz n xs := h
theorem Row.below {w w' : World} {v : Value} {e sz n B : Nat} {xs : List Value} (h : Row w v e sz n xs) (hb : Below B w w') (hB : ∀ g, v.ownBlock = some g → g < B) : Row w' v e sz n xs :=
  h.kept fun g hg => hb.block g (hB g hg)
theorem Row.grown {w w' : World} {v : Value} {e sz n : Nat} {xs : List Value} {row : Option Nat} (h : Row w v e sz n xs) (hb : w.grownBy w' row) (hne : ∀ g, v.ownBlock = some g → some g ≠ row) : Row w' v e sz n xs :=
  h.kept fun g hg => hb.block g (h.lt g hg) (hne g hg)
theorem Row.setCell {w : World} {v : Value} {e sz n : Nat} {xs : List Value} (h : Row w v e sz n xs) (a : Addr) (u : Value) (hne : v.ownBlock ≠ some a.block) : Row (w.setCell a u) v e sz n xs :=
  h.kept fun g hg => Below.heap_setCell _ _ _ _ (by rintro rfl; exact hne hg)

section
variable {P : Program} (w : World)
theorem run_append_room_at (t tx ty e : TypeId) (i : TypeInfo) (ht : P.underlying t = some (.slice e)) (hi : P.info? e = some i) (g off sLen sCap : Nat) (cur : Array Value) (hg : w.heap[g]? = some (.cells cur e (0, 0)))
    (x : Value) (n : Nat) (news : List Value) (hs : Src P i.size tx x n news w) (hroom : sLen + n ≤ sCap) (hfit : off + sCap * i.size ≤ cur.size) :
    (Builtin.append_ #[t, tx] ty #[.slice (some ⟨g, off, none⟩) sLen sCap, x]).run P w =
      .ok (.slice (some ⟨g, off, none⟩) (sLen + n) sCap) (w.setRow g (cur.toList.take (off + sLen * i.size) ++ news ++ cur.toList.drop (off + sLen * i.size + news.length)).toArray) := by
  have hle : (sLen + n) * i.size ≤ sCap * i.size := Nat.mul_le_mul_right _ hroom
  rw [Nat.add_mul] at hle
  have hst := run_storeCells_at P g (off + sLen * i.size) e news 0 cur w hg (by rw [hs.newsLen]; omega) hs.one
  simp only [Nat.add_zero] at hst
  rcases hs.kind with ⟨e', hk⟩ | hk <;> simp [Builtin.append_, run_underlying ht, run_underlying hk, sizeOf, typeInfo, hi, hs.len, hroom, hs.cells, Addr.add_lit, hst]

/-- APPEND ONTO AN OWNED SLICE: both arms in one. -/
theorem run_append_row (t tx ty e : TypeId) (i : TypeInfo) (z : Value) (sz bytes : Nat) (ht : P.underlying t = some (.slice e)) (hi : P.info? e = some i) (hz : i.zero = some z) (hsz : i.size = sz) (hby : i.bytes = bytes) (hzs : z.cells.size = sz) (hpos : 0 < sz)
    (v : Value) (n : Nat) (xs : List Value) (hrow : Row w v e sz n xs) (x : Value) (m : Nat) (news : List Value) (hs : Src P sz tx x m news w) (h63 : n + m ≤ maxLen) (hbytes : (n + m) * bytes ≤ 140737488355328) :
    ∃ v' w', (Builtin.append_ #[t, tx] ty #[v, x]).run P w = .ok v' w' ∧ Row w' v' e sz (n + m) (xs ++ news) ∧ w.grownBy w' v.ownBlock ∧ (v'.ownBlock = v.ownBlock ∨ v'.ownBlock = some w.heap.size ∧ w.heap.size < w'.heap.size) := by
  subst hsz
  subst hby
  have hnl := hs.newsLen
  have hlen : (xs ++ news).length = (n + m) * i.size := by rw [List.length_append, hrow.1, hnl, Nat.add_mul]
  have hsmall : n + m ≤ 9223372036854775807 := by simp only [maxLen] at h63; omega
  have grow : ∀ (bs : Option Addr) (sc : Nat), v = .slice bs n sc → sc < n + m → (Builtin.firstCells i.size n (.slice bs n sc)).run P w.drew = .ok xs.toArray w.drew →
      ∃ v' w', (Builtin.append_ #[t, tx] ty #[v, x]).run P w = .ok v' w' ∧ Row w' v' e i.size (n + m) (xs ++ news) ∧ w.grownBy w' v.ownBlock ∧ (v'.ownBlock = v.ownBlock ∨ v'.ownBlock = some w.heap.size ∧ w.heap.size < w'.heap.size) := by
    rintro bs sc rfl hg hold
    have hrun := run_append_grow_src (P := P) w t tx ty e i z ht hi hz bs n sc xs hold x m news hs hg (by omega) (growslice_fits hg hbytes)
    have hge := grownCap_ge w (n + m) sc e
    have hcm := grownCap_le_maxLen w (n + m) sc e h63
    refine ⟨_, _, hrun, ⟨hlen, .inr ⟨w.heap.size, 0, _, _, rfl, heap_alloc_new w.drew _, hge, hcm, ?_, fun j hj => ?_⟩⟩, ⟨rfl, rfl, rfl, by simp, fun k hk _ => Below.heap_alloc w.drew _ k hk⟩, .inr ⟨rfl, by simp⟩⟩
    · simp only [Array.size_append, List.size_toArray, hlen, size_zeroCells, hzs, ← Nat.add_mul]
      rw [show n + m + (grownCap w (n + m) sc e - (n + m)) = grownCap w (n + m) sc e from by omega]; omega
    · rw [Nat.zero_add, Array.getElem?_append_left (by simpa using hj)]
      simp
  rcases hrow.2 with ⟨rfl, rfl⟩ | ⟨g, off, cap, cur, rfl, hg, hnc, hcm, hfit, hcells⟩
  · have hx : xs = [] := List.eq_nil_of_length_eq_zero (by simpa using hrow.1)
    subst hx
    by_cases hm : m = 0
    · subst hm
      have hn : news = [] := List.eq_nil_of_length_eq_zero (by simpa using hnl)
      subst hn
      refine ⟨.slice none 0 0, w, ?_, Row.nil _ _ _, ⟨rfl, rfl, rfl, Nat.le_refl _, fun _ _ _ => rfl⟩, .inl rfl⟩
      rcases hs.kind with ⟨e', hk⟩ | hk <;> simp [Builtin.append_, run_underlying ht, run_underlying hk, sizeOf, typeInfo, hi, hs.len, hs.cells]
    · exact grow none 0 rfl (by omega) (run_firstCells_none w.drew i.size 0 0 0)
  · by_cases hroom : n + m ≤ cap
    · have hle : (n + m) * i.size ≤ cap * i.size := Nat.mul_le_mul_right _ hroom
      rw [Nat.add_mul] at hle
      have hcl : cur.toList.length = cur.size := by simp
      refine ⟨_, _, run_append_room_at w t tx ty e i ht hi g off n cap cur hg x m news hs hroom hfit, ⟨hlen, .inr ⟨g, off, cap, _, rfl, setRow_heap w g cur _ e _ hg, hroom, hcm, ?_, fun j hj => ?_⟩⟩, setRow_grown _ _ _, .inl rfl⟩
      · simp only [List.size_toArray, List.length_append, List.length_take, List.length_drop, hcl]; omega
      · rw [hlen, Nat.add_mul] at hj
        have hxl := hrow.1
        simp only [List.getElem?_toArray]
        have htl : (cur.toList.take (off + n * i.size)).length = off + n * i.size := by rw [List.length_take, hcl]; omega
        by_cases hjx : j < xs.length
        · rw [List.append_assoc, List.getElem?_append_left (by rw [htl]; omega), List.getElem?_append_left hjx, List.getElem?_take, if_pos (by omega), ← hcells j hjx]
          simp
        · rw [List.append_assoc, List.getElem?_append_right (by rw [htl]; omega), htl, List.getElem?_append_left (l₁ := news) (by omega), List.getElem?_append_right (l₁ := xs) (by omega)]
          congr 1; omega
    · refine grow _ cap rfl (by omega) (run_firstCells_some (P := P) w.drew i.size n ⟨g, off, none⟩ n cap xs hrow.1 fun j u hu => ?_)
      have hj := (List.getElem?_eq_some_iff.1 hu).1
      rw [Addr.add_lit]
      have hc : w.drew.cell? ⟨g, off + j, none⟩ = cur[off + j]? := by
        have : w.drew.heap[g]? = some (.cells cur e (0, 0)) := hg
        simp [World.cell?, this]
      rw [hc, hcells j hj, hu]
end

/-- the law as the walk takes it -/
theorem wpList_append_row {P : Program} {w : World} {ops : Array Oper} {rest : List Oper} {o : Oper} {a : Act} {Q : Exit → Act → World → Prop}
    (hg : o.guard = none) (s x : Operand) (t tx : TypeId) (hop : o.op = Op.call { callee := Callee.builtin Builtin.append, args := #[s, x], argTypes := #[t, tx] })
    (e : TypeId) (i : TypeInfo) (z : Value) (sz bytes : Nat) (ht : P.underlying t = some (.slice e)) (hi : P.info? e = some i) (hz : i.zero = some z) (hsz : i.size = sz) (hby : i.bytes = bytes) (hzs : z.cells.size = sz) (hpos : 0 < sz)
    {v : Value} {n : Nat} {xs : List Value} (hrow : Row w v e sz n xs) (hv : a.eval s = v) {xv : Value} {m : Nat} {news : List Value} (hs : Src P sz tx xv m news w) (hx : a.eval x = xv) (h63 : n + m ≤ maxLen) (hbytes : (n + m) * bytes ≤ 140737488355328)
    (hK : ∀ v' w', Row w' v' e sz (n + m) (xs ++ news) → w.grownBy w' v.ownBlock → (v'.ownBlock = v.ownBlock ∨ v'.ownBlock = some w.heap.size ∧ w.heap.size < w'.heap.size) → wpList P ops Q rest (a.put o.dst v') w') :
    wpList P ops Q (o :: rest) a w := by
  refine wpList_plain hg fun K hK' => ?_
  obtain ⟨v', w', hrun, r1, r2, r3⟩ := run_append_row (P := P) w t tx o.type e i z sz bytes ht hi hz hsz hby hzs hpos v n xs hrow xv m news hs h63 hbytes
  unfold Oper.wp
  simp [execOp, hop, resolve, invoke, builtin, hv, hx, hrun, Result.andThen]
  exact hK' _ _ (hK v' w' r1 r2 r3)

/-! ### a stretch in the middle of a block -/
theorem run_storeVar_mid_blk {P : Program} {w : World} {b T ty o n : Nat} {old cells new : Array Value} (hb : Blk w b T old) (hi : (P.info? ty).map (·.size) = some n) (hc1 : cells.size = n) (hle : o + n ≤ old.size) (h1 : ∀ v ∈ cells.toList, v.oneCell' = true)
    (hnew : new = (old.toList.take o ++ cells.toList ++ old.toList.drop (o + n)).toArray) :
    (storeVar ty ⟨b, o, none⟩ (.agg cells)).run P w = .ok () (w.setRow b new) := by
  have hst := run_storeCells_at P b o T cells.toList 0 old w hb (by simp; omega) h1
  simp only [Nat.add_zero, Array.length_toList, hc1] at hst
  rw [← hnew] at hst
  cases hq : P.info? ty with
  | none => simp [hq] at hi
  | some i =>
    have hs : cells.size = i.size := by simp [hq] at hi; omega
    simp [storeVar, sizeOf, typeInfo, hq, Value.cells, hs, hst]
theorem wpList_store_mid_blk {P : Program} {ops : Array Oper} {rest : List Oper} {op : Oper} {a : Act} {w : World} {Q : Exit → Act → World → Prop} (hgd : op.guard = none) (ty : TypeId) (x y : Operand) (ho : op.op = .store ty x y)
    {b T : Nat} {old : Array Value} (hb : Blk w b T old) (o : Nat) (cells : Array Value) (hx : a.eval x = .pointer (some ⟨b, o, none⟩)) (hy : a.eval y = .agg cells) (n : Nat) (hi : (P.info? ty).map (·.size) = some n)
    (hc1 : cells.size = n) (hle : o + n ≤ old.size) (h1 : ∀ v ∈ cells.toList, v.oneCell' = true) (new : Array Value) (hnew : new = (old.toList.take o ++ cells.toList ++ old.toList.drop (o + n)).toArray)
    (h : ∀ w', Blk w' b T new → w.grownBy w' (some b) → wpList P ops Q rest (a.put op.dst undef) w') : wpList P ops Q (op :: rest) a w := by
  refine wpList_plain hgd fun K hK => ?_
  have hr := run_storeVar_mid_blk (P := P) hb hi hc1 hle h1 hnew
  unfold Oper.wp execOp
  simp only [ho, hx, hy, Instr.storeAt, Instr.sureAddr, Sem.run_bind, Sem.run_pure, Result.andThen_ok, hr]
  exact hK _ _ (h _ (setRow_heap w b old new T _ hb) (setRow_grown w b new))
theorem Blk.range {w : World} {b T o : Nat} {cs : Array Value} (h : Blk w b T cs) (mid : List Value) (hm : ∀ j v, mid[j]? = some v → cs[o + j]? = some v) : w.rangeAt b o mid :=
  fun j v hv => by rw [h.cell]; exact hm j v hv
theorem wpList_load_mid_blk {P : Program} {ops : Array Oper} {rest : List Oper} {op : Oper} {a : Act} {w : World} {Q : Exit → Act → World → Prop} (hgd : op.guard = none) (ty : TypeId) (x : Operand) (ho : op.op = .load ty x)
    {b T : Nat} {cs : Array Value} (hb : Blk w b T cs) (o : Nat) (hx : a.eval x = .pointer (some ⟨b, o, none⟩)) (mid : List Value) (hm : ∀ j v, mid[j]? = some v → cs[o + j]? = some v) (d : TypeDesc)
    (hu : P.underlying ty = some d) (hd : d.isRow = true) (n : Nat) (hi : (P.info? ty).map (·.size) = some n) (hc : mid.length = n)
    (h : wpList P ops Q rest (a.put op.dst (.agg mid.toArray)) w) : wpList P ops Q (op :: rest) a w :=
  wpList_load_mid hgd ty x ho b o hx mid d (hb.range mid hm) hu hd (by rw [hc]; exact hi) h

/-- a slice of bytes that is only read -/
def Bts (w : World) (ao : Option Addr) (bs : List B) : Prop := bs = [] ∨ ∃ b off, ao = some ⟨b, off, none⟩ ∧ ∀ j, j < bs.length → w.cell? ⟨b, off + j, none⟩ = some (b8 (bs.getD j 0))
theorem Bts.nil (w : World) (ao : Option Addr) : Bts w ao [] := .inl rfl
theorem Bts.of {w : World} {b off : Nat} {bs : List B} (h : ∀ j, j < bs.length → w.cell? ⟨b, off + j, none⟩ = some (b8 (bs.getD j 0))) : Bts w (some ⟨b, off, none⟩) bs := .inr ⟨b, off, rfl, h⟩
theorem Bts.kept {w w' : World} {ao : Option Addr} {bs : List B} (h : Bts w ao bs) (hk : ∀ b off, ao = some ⟨b, off, none⟩ → b < w.heap.size → w'.heap[b]? = w.heap[b]?) : Bts w' ao bs := by
  rcases h with h | ⟨b, off, rfl, h⟩
  · exact .inl h
  · by_cases hz : bs = []
    · exact .inl hz
    · refine .inr ⟨b, off, rfl, fun j hj => ?_⟩
      have hlt := World.block_lt_of_cell? w _ (h j hj)
      rw [← h j hj]
      exact World.cell?_of_block (a := ⟨b, off + j, none⟩) (hk b off rfl hlt)
theorem Bts.kept2 {w w' : World} {ao : Option Addr} {bs : List B} (h : Bts w ao bs) (hk : bs ≠ [] → ∀ b off, ao = some ⟨b, off, none⟩ → b < w.heap.size → w'.heap[b]? = w.heap[b]?) : Bts w' ao bs := by
  by_cases hz : bs = []
  · exact .inl hz
  · exact h.kept (hk hz)
theorem Bts.below {w w' : World} {ao : Option Addr} {bs : List B} {n : Nat} (h : Bts w ao bs) (hb : Below n w w') (hn : w.heap.size ≤ n) : Bts w' ao bs :=
  h.kept fun b _ _ hlt => hb.block b (Nat.lt_of_lt_of_le hlt hn)
theorem b8_one (bs : List B) : ∀ u ∈ bs.map b8, u.oneCell' = true := by
  intro u hu; obtain ⟨_, _, rfl⟩ := List.mem_map.1 hu; rfl
theorem Bts.src {P : Program} {w : World} {ao : Option Addr} {bs : List B} {tx e' : TypeId} (hk : P.underlying tx = some (.slice e')) (h : Bts w ao bs) (n cp : Nat) (hn : n = bs.length) : Src P 1 tx (.slice ao n cp) n (bs.map b8) w := by
  subst hn
  rcases h with rfl | ⟨b, off, rfl, h⟩
  · cases ao with
    | none => exact Src.ofNil w hk cp
    | some a => exact Src.ofSlice w hk a 0 cp [] rfl (fun j u hu => by simp at hu) (fun u hu => by cases hu)
  · refine Src.ofSlice w hk ⟨b, off, none⟩ _ cp (bs.map b8) (by simp) (fun j u hu => ?_) (b8_one bs)
    have hj := (List.getElem?_eq_some_iff.1 hu).1
    rw [List.length_map] at hj
    rw [Addr.add_lit, h j hj, ← hu]
    simp [List.getD, hj]
/-- an owned slice of bytes reads as bytes -/
theorem Row.bts {w : World} {v : Value} {e n : Nat} {bs : List B} (h : Row w v e 1 n (bs.map b8)) : ∃ ao cp, v = .slice ao n cp ∧ n = bs.length ∧ n ≤ cp ∧ cp ≤ maxLen ∧ Bts w ao bs := by
  have hl := h.1
  simp only [List.length_map, Nat.mul_one] at hl
  rcases h.2 with ⟨rfl, rfl⟩ | ⟨g, off, cap, cur, rfl, hg, h1, h2, _, hc⟩
  · exact ⟨none, 0, rfl, hl.symm, Nat.le_refl _, Nat.zero_le _, .inl (List.eq_nil_of_length_eq_zero hl)⟩
  · refine ⟨_, cap, rfl, hl.symm, h1, h2, Bts.of fun j hj => ?_⟩
    have := hc j (by simpa using hj)
    simp [World.cell?, hg, this, List.getD, hj]

/-! ### slices of an owned slice -/
theorem run_from_row {P : Program} {t e : TypeId} {i : TypeInfo} {sz : Nat} (ht : P.underlying t = some (.slice e)) (hi : P.info? e = some i) (hsz : i.size = sz) (ao : Option Addr) (n c l : Nat) (hl : l ≤ n) (hnc : n ≤ c) :
    ∃ a', a' = (if c = l then ao else ao.map (·.add (l * sz))) ∧ (∀ W : World, (Instr.slice t (.slice ao n c) (some (.int .i64 l)) none none).run P W = .ok (.slice a' (n - l) (c - l)) W) ∧ (Value.slice a' (n - l) (c - l)).ownBlock = (Value.slice ao n c).ownBlock ∧
      ∀ w xs, Row w (.slice ao n c) e sz n xs → Row w (.slice a' (n - l) (c - l)) e sz (n - l) (xs.drop (l * sz)) := by
  subst hsz
  have ht' : P.underlying t = some (.slice (P.elem t)) := by simp [Program.elem, ht]
  have he : P.elem t = e := by simp [Program.elem, ht]
  refine ⟨if c = l then ao else ao.map (·.add (l * i.size)), rfl, fun W => ?_, ?_, fun w xs h => ?_⟩
  · rw [run_slice_l W t ao n c ht' .i64 l (by omega) (by omega), he]
    simp [sizeOf, typeInfo, hi, Result.andThen, sliced]
  · rcases ao with _ | ⟨g, off, k⟩
    · simp [Value.ownBlock]
    · by_cases h0 : c = l
      · simp [h0, Value.ownBlock]
      · simp only [h0, if_false, Value.ownBlock, Option.map_some, Addr.add]
        split <;> rfl
  · have hlen : (xs.drop (l * i.size)).length = (n - l) * i.size := by rw [List.length_drop, h.1, Nat.sub_mul]
    refine ⟨hlen, ?_⟩
    rcases h.2 with ⟨hv, rfl⟩ | ⟨g, off, cap, cur, hv, hg, h1, h2, h3, hc⟩
    · cases hv
      obtain rfl : l = 0 := by omega
      left; simp
    · cases hv
      right
      by_cases h0 : c = l
      · obtain rfl : n = l := by omega
        refine ⟨g, off, c - n, cur, by simp [h0], hg, by omega, by omega, by have : (c - n) * i.size ≤ c * i.size := Nat.mul_le_mul_right _ (by omega); omega, fun j hj => ?_⟩
        rw [hlen, Nat.sub_self, Nat.zero_mul] at hj; omega
      · have hcl : l * i.size + (c - l) * i.size = c * i.size := by rw [← Nat.add_mul]; congr 1; omega
        refine ⟨g, off + l * i.size, c - l, cur, by simp [h0, Addr.add_lit], hg, by omega, by omega, by omega, fun j hj => ?_⟩
        rw [List.length_drop] at hj
        rw [List.getElem?_drop, ← hc _ (by omega), Nat.add_assoc]
theorem run_upto_row {P : Program} {t e : TypeId} {i : TypeInfo} (ht : P.underlying t = some (.slice e)) (hi : P.info? e = some i) (g off n c h : Nat) (hh : h ≤ n) (hnc : n ≤ c) (W : World) :
    (Instr.slice t (.slice (some ⟨g, off, none⟩) n c) none (some (.int .i64 h)) none).run P W = .ok (.slice (some ⟨g, off, none⟩) h c) W := by
  have ht' : P.underlying t = some (.slice (P.elem t)) := by simp [Program.elem, ht]
  have he : P.elem t = e := by simp [Program.elem, ht]
  rw [run_slice_h W t _ n c ht' .i64 h (by omega) (by omega), he]
  by_cases h0 : c = 0 <;> simp [sizeOf, typeInfo, hi, Result.andThen, sliced, Addr.add_lit, h0]
theorem run_mid_row {P : Program} {t e : TypeId} {i : TypeInfo} {sz : Nat} (ht : P.underlying t = some (.slice e)) (hi : P.info? e = some i) (hsz : i.size = sz) (g off n c l h : Nat) (hl : l ≤ h) (hlc : l < c) (hh : h ≤ c) (W : World) :
    (Instr.slice t (.slice (some ⟨g, off, none⟩) n c) (some (.int .i64 l)) (some (.int .i64 h)) none).run P W = .ok (.slice (some ⟨g, off + l * sz, none⟩) (h - l) (c - l)) W := by
  subst hsz
  have ht' : P.underlying t = some (.slice (P.elem t)) := by simp [Program.elem, ht]
  have he : P.elem t = e := by simp [Program.elem, ht]
  rw [run_slice_lh W t _ n c ht' .i64 .i64 l h (by omega) (by omega) (by omega), he]
  have hne : ¬ c = l := by omega
  simp [sizeOf, typeInfo, hi, Result.andThen, sliced, Addr.add_lit, hne]
/-- a slice of at least one element lies somewhere -/
theorem Row.place {w : World} {ao : Option Addr} {n c e sz : Nat} {xs : List Value} (h : Row w (.slice ao n c) e sz n xs) (hn : 0 < n) :
    ∃ g off cur, ao = some ⟨g, off, none⟩ ∧ w.heap[g]? = some (.cells cur e (0, 0)) ∧ n ≤ c ∧ c ≤ maxLen ∧ off + c * sz ≤ cur.size ∧ ∀ j, j < xs.length → w.cell? ⟨g, off + j, none⟩ = xs[j]? := by
  rcases h.2 with ⟨hv, h0⟩ | ⟨g, off, cap, cur, hv, hg, h1, h2, h3, hc⟩
  · omega
  · cases hv
    exact ⟨g, off, cur, rfl, hg, h1, h2, h3, fun j hj => by simp [World.cell?, hg, hc j hj]⟩
theorem Row.le {w : World} {ao : Option Addr} {n c e sz : Nat} {xs : List Value} (h : Row w (.slice ao n c) e sz n xs) : n ≤ c ∧ c ≤ maxLen := by
  rcases h.2 with ⟨hv, h0⟩ | ⟨g, off, cap, cur, hv, hg, h1, h2, h3, hc⟩
  · cases hv; exact ⟨Nat.le_refl _, Nat.zero_le _⟩
  · cases hv; exact ⟨h1, h2⟩
theorem results_nil {P : Program} {fn : Func} (h : fn.results = #[]) (tmps : Array Value) (w : World) : (results fn tmps).run P w = .ok (.tuple #[]) w := by
  unfold results; rw [h]; simp
/-! ### what has changed lies in S, or is new -/
structure Fr (S : Nat → Prop) (w w' : World) : Prop where
  os : w'.os = w.os
  tape : w'.tape = w.tape
  output : w'.output = w.output
  size : w.heap.size ≤ w'.heap.size
  block : ∀ k, k < w.heap.size → ¬ S k → w'.heap[k]? = w.heap[k]?
theorem Fr.refl (S : Nat → Prop) (w : World) : Fr S w w := ⟨rfl, rfl, rfl, Nat.le_refl _, fun _ _ _ => rfl⟩
theorem Fr.trans {S T : Nat → Prop} {a b c : World} (h : Fr S a b) (k : Fr T b c) (hT : ∀ x, x < a.heap.size → T x → S x) : Fr S a c :=
  ⟨k.os.trans h.os, k.tape.trans h.tape, k.output.trans h.output, Nat.le_trans h.size k.size,
   fun x hx hS => (k.block x (Nat.lt_of_lt_of_le hx h.size) (fun t => hS (hT x hx t))).trans (h.block x hx hS)⟩
theorem Fr.mono {S T : Nat → Prop} {a b : World} (h : Fr S a b) (hT : ∀ x, x < a.heap.size → S x → T x) : Fr T a b :=
  ⟨h.os, h.tape, h.output, h.size, fun x hx ht => h.block x hx (fun s => ht (hT x hx s))⟩
theorem Fr.below {S : Nat → Prop} {B : Nat} {a b c : World} (h : Fr S a b) (k : Below B b c) (hB : ∀ x, x < a.heap.size → B ≤ x → S x) : Fr S a c :=
  ⟨k.os.trans h.os, k.tape.trans h.tape, k.output.trans h.output, Nat.le_trans h.size k.size,
   fun x hx hS => (k.block x (Nat.lt_of_not_le fun hle => hS (hB x hx hle))).trans (h.block x hx hS)⟩
theorem Fr.of_below {w w' : World} (h : Below w.heap.size w w') : Fr (fun _ => False) w w' := (Fr.refl _ w).below h (fun x hx hle => by omega)
theorem Fr.to_below {w w' : World} (h : Fr (fun _ => False) w w') : Below w.heap.size w w' := ⟨h.os, h.tape, h.output, h.size, fun k hk => h.block k hk id⟩
theorem Fr.grown {S : Nat → Prop} {a b c : World} {row : Option Nat} (h : Fr S a b) (k : b.grownBy c row) (hr : ∀ x, x < a.heap.size → some x = row → S x) : Fr S a c :=
  ⟨k.os.trans h.os, k.tape.trans h.tape, k.output.trans h.output, Nat.le_trans h.size k.size,
   fun x hx hS => (k.block x (Nat.lt_of_lt_of_le hx h.size) (fun e => hS (hr x hx e))).trans (h.block x hx hS)⟩
theorem Fr.setCell {S : Nat → Prop} {a b : World} (h : Fr S a b) (p : Addr) (u : Value) (hp : p.block < a.heap.size → S p.block) : Fr S a (b.setCell p u) :=
  ⟨h.os, h.tape, h.output, by simpa [World.setCell] using h.size,
   fun x hx hS => (Below.heap_setCell _ _ _ _ (by rintro rfl; exact hS (hp hx))).trans (h.block x hx hS)⟩
theorem Fr.alloc {S : Nat → Prop} {a b : World} (h : Fr S a b) (o : Obj) : Fr S a (b.alloc o) :=
  ⟨h.os, h.tape, h.output, by rw [alloc_size]; exact Nat.le_succ_of_le h.size, fun x hx hS => (Below.heap_alloc _ _ _ (Nat.lt_of_lt_of_le hx h.size)).trans (h.block x hx hS)⟩
theorem Fr.drewN {S : Nat → Prop} {a b : World} (h : Fr S a b) (n : Nat) : Fr S a (b.drewN n) := ⟨h.os, h.tape, h.output, h.size, h.block⟩
theorem Blk.fr {S : Nat → Prop} {w w' : World} {b T : Nat} {cs : Array Value} (h : Blk w b T cs) (k : Fr S w w') (hS : ¬ S b) : Blk w' b T cs := by
  unfold Blk at *; rw [k.block b (Array.getElem?_eq_some_iff.1 h).1 hS]; exact h
theorem Row.fr {S : Nat → Prop} {w w' : World} {v : Value} {e sz n : Nat} {xs : List Value} (h : Row w v e sz n xs) (k : Fr S w w') (hS : ∀ g, v.ownBlock = some g → ¬ S g) : Row w' v e sz n xs :=
  h.kept fun g hg => k.block g (h.lt g hg) (hS g hg)
theorem Bts.fr {S : Nat → Prop} {w w' : World} {ao : Option Addr} {bs : List B} (h : Bts w ao bs) (k : Fr S w w') (hS : ∀ b off, ao = some ⟨b, off, none⟩ → ¬ S b) : Bts w' ao bs :=
  h.kept fun b off e hlt => k.block b hlt (hS b off e)
theorem Fr.cell {S : Nat → Prop} {w w' : World} (k : Fr S w w') {a : Addr} {v : Value} (h : w.cell? a = some v) (hS : ¬ S a.block) : w'.cell? a = some v := by
  rw [← h]; exact World.cell?_of_block (k.block _ (World.block_lt_of_cell? w _ h) hS)
end Go.Proofs.YtahlllbigkgobaaDoor
