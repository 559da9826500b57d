/-
  A region that draws its order, whose loads may be taken first although its last store writes what they read: the condition S on the world isn't asked behind an operation of the list 'tail'. Of whatever program.
-/
import Derived.Test.YtahlllbigkgobaaDoorMem
import Derived.OrdersHeld
namespace Go.Proofs.YtahlllbigkgobaaDoor
open Go Go.RowKit
section
variable {P : Program} {ops : Array Oper} {Q : Exit → Act → World → Prop} {md : Region.Mode} {S : World → Prop} {tail : List Nat}
def wpAnyN (P : Program) (md : Region.Mode) (ops : Array Oper) (Q : Exit → Act → World → Prop) (S : World → Prop) (tail : List Nat) : Nat → Array Bool → Act → World → Prop
  | 0, l, a, w => Region.ready md ops l = [] ∧ Q .normal a w
  | f + 1, l, a, w => (Region.ready md ops l = [] → Q .normal a w) ∧
    ∀ i ∈ Region.ready md ops l, wpOp P ops Q i (fun a' w' => (i ∉ tail → S w → S w') ∧ wpAnyN P md ops Q S tail f (l.setIfInBounds i true) a' w') a w
theorem wpAny_of_N : ∀ (f : Nat) (l : Array Bool) (a : Act) (w : World), wpAnyN P md ops Q S tail f l a w → wpAny P md ops Q f l a w
  | 0, _, _, _, h => h
  | f + 1, _, _, _, h => ⟨h.1, fun i hi => wpOp_mono (fun a' w' h' => wpAny_of_N f _ a' w' h'.2) (h.2 i hi)⟩
/-- operation i comes up ahead of every operation of the tail -/
def ahead (md : Region.Mode) (ops : Array Oper) (tail : List Nat) (i : Nat) : Bool :=
  tail.all fun j => match ops[j]? with
    | some oj => oj.after.any fun e => Region.binds md e && e.on == i
    | none => true
theorem wpAnyN_first {T : World → Prop} {i : Nat} {oi : Oper} {v : Value} (hi : ops[i]? = some oi) (hsel : ∀ (j : Nat) (o : Oper) cs b, ops[j]? = some o → o.op ≠ .select cs b)
    (hQ : ∀ c a w, Q (.panic c) (a.put oi.dst v) w → Q (.panic c) a w) (hT : (∀ w, T w) ∨ ((∀ w, T w → S w) ∧ (∀ w, S w → T w) ∧ ahead md ops tail i = true)) :
    ∀ (f : Nat) (l : Array Bool) (a : Act) (w : World),
      (∀ j oj, ops[j]? = some oj → j ≠ i → l.getD j true = false → (∀ e ∈ oj.after, Region.binds md e = true → e.on ≠ i) → oi.apart ops oj = true) →
      i ∈ Region.ready md ops l → YieldsIf P ops T oi v a → T w →
      wpAnyN P md ops Q S tail f (l.setIfInBounds i true) (a.put oi.dst v) w → wpAnyN P md ops Q S tail (f + 1) l a w := by
  intro f
  induction f with
  | zero =>
    intro l a w _ hr hy hS H
    refine ⟨fun h => (by rw [h] at hr; cases hr), fun j hj => ?_⟩
    by_cases hji : j = i
    · subst hji
      exact hy.wpOp hi hS ⟨fun _ h => h, H⟩
    · have h1 := ready_mono hj hji
      rw [H.1] at h1
      cases h1
  | succ f ih =>
    intro l a w hfree hr hy hS H
    refine ⟨fun h => (by rw [h] at hr; cases hr), fun j hj => ?_⟩
    by_cases hji : j = i
    · subst hji
      exact hy.wpOp hi hS ⟨fun _ h => h, H⟩
    · have h1 := H.2 j (ready_mono hj hji)
      obtain ⟨hjun, oj, hoj, hall⟩ := mem_ready.1 hj
      have hun := (mem_ready.1 hr).1
      have hlti : i < l.size := by
        rcases Nat.lt_or_ge i l.size with h' | h'
        · exact h'
        · simp [h'] at hun
      have hnot : ∀ e ∈ oj.after, Region.binds md e = true → e.on ≠ i := by
        rintro e he hb rfl
        have h2 := hall e he hb
        simp [hlti] at h2 hun
        rw [hun] at h2; cases h2
      have h2 := wpOp_putIf hoj (hfree j oj hoj hji hjun hnot) (fun cs b => hsel i oi cs b hi) (fun cs b => hsel j oj cs b hoj) hQ hy h1
      refine wpOp_mono (fun a' w' h3 => ?_) h2
      obtain ⟨hy', hS', H'⟩ := h3
      refine ⟨hS', ih (l.setIfInBounds j true) a' w' ?_ (ready_mono hr (Ne.symm hji)) hy' ?_ ?_⟩
      · intro k ok hk hki hkun hno
        refine hfree k ok hk hki ?_ hno
        by_cases hjk : j = k
        · subst hjk; exact hjun
        · rwa [getD_set_ne true hjk] at hkun
      · rcases hT with hT | ⟨hT1, hT2, hT3⟩
        · exact hT _
        · have hjt : j ∉ tail := by
            intro hjt
            have h4 := List.all_eq_true.1 hT3 j hjt
            simp only [hoj, Array.any_eq_true, Bool.and_eq_true, beq_iff_eq] at h4
            obtain ⟨q, hq, hb, he⟩ := h4
            exact hnot _ (Array.getElem_mem hq) hb he
          exact hT2 _ (hS' hjt (hT1 _ hS))
      · rw [Array.setIfInBounds_comm _ _ hji]
        exact H'
/-- what yields its value in every world that meets S is taken first, if it comes up ahead of the tail -/
theorem wpAnyN_take (i d : Nat) {oi : Oper} {v : Value} {f : Nat} {l : Array Bool} {a : Act} {w : World} (hi : ops[i]? = some oi) (hd : oi.dst = some d) (hs : Region.noSelect ops = true) (hf : Region.free md ops l i = true) (hr : (Region.ready md ops l).contains i = true)
    (hah : ahead md ops tail i = true) (hQ : ∀ c a w, Q (.panic c) (a.put (some d) v) w → Q (.panic c) a w) (hS : S w) (hw : Region.wanted oi (yielded ops a.tmps) = true) (hy : ∀ w, S w → (execOp a.eval oi).run P w = .ok (.value v) w)
    (h : wpAnyN P md ops Q S tail f (l.setIfInBounds i true) (a.put (some d) v) w) : wpAnyN P md ops Q S tail (f + 1) l a w :=
  wpAnyN_first hi (Region.noSelect_spec hs) (by rw [hd]; exact hQ) (.inr ⟨fun _ h => h, fun _ h => h, hah⟩) f l a w (Region.free_spec hi hf) (by simpa using hr) (.inl ⟨hw, hy⟩) hS (by rw [hd]; exact h)
/-- what yields its value in whatever world is taken first -/
theorem wpAnyN_pure (i d : Nat) {oi : Oper} {v : Value} {f : Nat} {l : Array Bool} {a : Act} {w : World} (hi : ops[i]? = some oi) (hd : oi.dst = some d) (hs : Region.noSelect ops = true) (hf : Region.free md ops l i = true) (hr : (Region.ready md ops l).contains i = true)
    (hQ : ∀ c a w, Q (.panic c) (a.put (some d) v) w → Q (.panic c) a w) (hw : Region.wanted oi (yielded ops a.tmps) = true) (hy : ∀ w, (execOp a.eval oi).run P w = .ok (.value v) w)
    (h : wpAnyN P md ops Q S tail f (l.setIfInBounds i true) (a.put (some d) v) w) : wpAnyN P md ops Q S tail (f + 1) l a w :=
  wpAnyN_first (T := fun _ => True) hi (Region.noSelect_spec hs) (by rw [hd]; exact hQ) (.inl fun _ => trivial) f l a w (Region.free_spec hi hf) (by simpa using hr) (.inl ⟨hw, fun w _ => hy w⟩) trivial (by rw [hd]; exact h)
theorem wpAnyN_takeG (i d : Nat) {oi : Oper} {v : Value} {f : Nat} {l : Array Bool} {a : Act} {w : World} (hi : ops[i]? = some oi) (hd : oi.dst = some d) (hs : Region.noSelect ops = true) (hf : Region.free md ops l i = true) (hr : (Region.ready md ops l).contains i = true)
    (hah : ahead md ops tail i = true) (hQ : ∀ c a w, Q (.panic c) (a.put (some d) v) w → Q (.panic c) a w) (hS : S w) (hg : oi.guard = none) (hy : ∀ w, S w → (execOp a.eval oi).run P w = .ok (.value v) w)
    (h : wpAnyN P md ops Q S tail f (l.setIfInBounds i true) (a.put (some d) v) w) : wpAnyN P md ops Q S tail (f + 1) l a w :=
  wpAnyN_take i d hi hd hs hf hr hah hQ hS (by simp [Region.wanted, hg]) hy h
theorem wpAnyN_pureG (i d : Nat) {oi : Oper} {v : Value} {f : Nat} {l : Array Bool} {a : Act} {w : World} (hi : ops[i]? = some oi) (hd : oi.dst = some d) (hs : Region.noSelect ops = true) (hf : Region.free md ops l i = true) (hr : (Region.ready md ops l).contains i = true)
    (hQ : ∀ c a w, Q (.panic c) (a.put (some d) v) w → Q (.panic c) a w) (hg : oi.guard = none) (hy : ∀ w, (execOp a.eval oi).run P w = .ok (.value v) w)
    (h : wpAnyN P md ops Q S tail f (l.setIfInBounds i true) (a.put (some d) v) w) : wpAnyN P md ops Q S tail (f + 1) l a w :=
  wpAnyN_pure i d hi hd hs hf hr hQ (by simp [Region.wanted, hg]) hy h
/-- a guarded operation that isn't carried out -/
theorem wpAnyN_skip {i : Nat} {oi : Oper} {f : Nat} {l : Array Bool} {a : Act} {w : World} (hi : ops[i]? = some oi) (hs : Region.noSelect ops = true) (hf : Region.free md ops l i = true) (hr : (Region.ready md ops l).contains i = true)
    (hQ : ∀ c a w, Q (.panic c) (a.put oi.dst undef) w → Q (.panic c) a w) (hw : Region.wanted oi (yielded ops a.tmps) = false)
    (h : wpAnyN P md ops Q S tail f (l.setIfInBounds i true) (a.put oi.dst undef) w) : wpAnyN P md ops Q S tail (f + 1) l a w :=
  wpAnyN_first (T := fun _ => True) hi (Region.noSelect_spec hs) hQ (.inl fun _ => trivial) f l a w (Region.free_spec hi hf) (by simpa using hr) (.inr ⟨hw, rfl⟩) trivial h
theorem wpAnyN_skipD (i d : Nat) {oi : Oper} {f : Nat} {l : Array Bool} {a : Act} {w : World} (hi : ops[i]? = some oi) (hd : oi.dst = some d) (hs : Region.noSelect ops = true) (hf : Region.free md ops l i = true) (hr : (Region.ready md ops l).contains i = true)
    (hQ : ∀ c a w, Q (.panic c) (a.put (some d) undef) w → Q (.panic c) a w) (hw : Region.wanted oi (yielded ops a.tmps) = false)
    (h : wpAnyN P md ops Q S tail f (l.setIfInBounds i true) (a.put (some d) undef) w) : wpAnyN P md ops Q S tail (f + 1) l a w :=
  wpAnyN_skip hi hs hf hr (by rw [hd]; exact hQ) hw (by rw [hd]; exact h)
/-- one alone may come up -/
theorem wpAnyN_one {i : Nat} {oi : Oper} {f : Nat} {l : Array Bool} {a : Act} {w : World} (hr : Region.ready md ops l = [i]) (hi : ops[i]? = some oi) (hg : oi.guard = none)
    (h : ∀ K : Act → World → Prop, (∀ a' w', (i ∉ tail → S w → S w') → wpAnyN P md ops Q S tail f (l.setIfInBounds i true) a' w' → K a' w') → oi.wp P a w K Q) : wpAnyN P md ops Q S tail (f + 1) l a w := by
  have hw : Region.wanted oi (yielded ops a.tmps) = true := by simp [Region.wanted, hg]
  refine ⟨fun h0 => (by rw [hr] at h0; cases h0), fun j hj => ?_⟩
  rw [hr] at hj
  obtain rfl : j = i := by simpa using hj
  unfold wpOp
  simp only [hi, hw, if_true]
  exact .inl (h _ fun a' w' h1 h2 => ⟨h1, h2⟩)
/-- a call, and nothing else, may come up -/
theorem wpAnyN_call (i fn : Nat) (d : Option Tmp) (xs : List Operand) (args : List Value) {ats : Array TypeId} {oi : Oper} {f : Nat} {l : Array Bool} {a : Act} {w : World} (hr : Region.ready md ops l = [i])
    (hi : ops[i]? = some oi) (ho : oi.op = .call { callee := .value (.func fn), args := xs.toArray, argTypes := ats }) (hd : oi.dst = d) (hg : oi.guard = none) (hxs : xs.map a.eval = args)
    (he : ∀ args w, (callFunc fn args).run P w = .ok (.enter fn args) w) (h : Calls P fn args.toArray w fun e w' => ∃ v, e = .returned v ∧ (i ∉ tail → S w → S w') ∧ wpAnyN P md ops Q S tail f (l.setIfInBounds i true) (a.put d v) w') : wpAnyN P md ops Q S tail (f + 1) l a w := by
  refine wpAnyN_one hr hi hg fun K hK => ?_
  obtain ⟨dst, op, ty, pos, after, guard⟩ := oi
  subst ho hd hg hxs
  unfold Oper.wp
  have e1 : execOp a.eval { dst := dst, op := .call { callee := .value (.func fn), args := xs.toArray, argTypes := ats }, type := ty, pos := pos, after := after, guard := none } = callFunc fn (#[] ++ xs.toArray.map a.eval ++ #[]) := rfl
  rw [e1, Array.empty_append, Array.append_empty, List.map_toArray, he]
  refine h.mono fun e w' ⟨v, he, h1, h2⟩ => ?_
  subst he
  exact hK _ _ h1 h2
theorem wp_store_mid_blk {P : Program} {op : Oper} {a : Act} {w : World} {K : Act → World → Prop} {Q : Exit → Act → World → Prop} (ty : TypeId) (x y : Operand) (ho : op.op = .store ty x y)
    {b T : Nat} {old : Array Value} (hb : Blk w b T old) (o : Nat) (cells : Array Value) (hx : a.eval x = .pointer (some ⟨b, o, none⟩)) (hy : a.eval y = .agg cells) (n : Nat) (hi : (P.info? ty).map (·.size) = some n)
    (hc1 : cells.size = n) (hle : o + n ≤ old.size) (h1 : ∀ v ∈ cells.toList, v.oneCell' = true) (new : Array Value) (hnew : new = (old.toList.take o ++ cells.toList ++ old.toList.drop (o + n)).toArray)
    (h : ∀ w', Blk w' b T new → w.grownBy w' (some b) → K (a.put op.dst undef) w') : op.wp P a w K Q := by
  have hr := run_storeVar_mid_blk (P := P) hb hi hc1 hle h1 hnew
  unfold Oper.wp execOp
  simp only [ho, hx, hy, Instr.storeAt, Instr.sureAddr, Sem.run_bind, Sem.run_pure, Result.andThen_ok, hr]
  exact h _ (setRow_heap w b old new T _ hb) (setRow_grown w b new)
/-- a store of a stretch of a known block, and nothing else, may come up -/
theorem wpAnyN_store_blk (i : Nat) (ty : TypeId) (x y : Operand) {oi : Oper} {f : Nat} {l : Array Bool} {a : Act} {w : World} (hr : Region.ready md ops l = [i]) (hi : ops[i]? = some oi) (ho : oi.op = .store ty x y) (hd : oi.dst = none) (hg : oi.guard = none)
    {b T : Nat} {old : Array Value} (hb : Blk w b T old) (o : Nat) (cells : Array Value) (hx : a.eval x = .pointer (some ⟨b, o, none⟩)) (hy : a.eval y = .agg cells) (n : Nat) (hn : (P.info? ty).map (·.size) = some n)
    (hc1 : cells.size = n) (hle : o + n ≤ old.size) (h1 : ∀ v ∈ cells.toList, v.oneCell' = true) (new : Array Value) (hnew : new = (old.toList.take o ++ cells.toList ++ old.toList.drop (o + n)).toArray)
    (h : ∀ w', Blk w' b T new → w.grownBy w' (some b) → (i ∉ tail → S w → S w') ∧ wpAnyN P md ops Q S tail f (l.setIfInBounds i true) a w') : wpAnyN P md ops Q S tail (f + 1) l a w := by
  refine wpAnyN_one hr hi hg fun K hK => ?_
  refine wp_store_mid_blk ty x y ho hb o cells hx hy n hn hc1 hle h1 new hnew fun w' h2 h3 => ?_
  rw [hd]
  exact hK _ _ (h w' h2 h3).1 (h w' h2 h3).2
/-- an operation that runs to a value, and nothing else, may come up -/
theorem wpAnyN_run (i : Nat) (d : Option Tmp) {oi : Oper} {f : Nat} {l : Array Bool} {a : Act} {w w' : World} {v : Value} (hr : Region.ready md ops l = [i]) (hi : ops[i]? = some oi) (hd : oi.dst = d) (hg : oi.guard = none)
    (hrun : (execOp a.eval oi).run P w = .ok (.value v) w') (h : (i ∉ tail → S w → S w') ∧ wpAnyN P md ops Q S tail f (l.setIfInBounds i true) (a.put d v) w') : wpAnyN P md ops Q S tail (f + 1) l a w := by
  subst hd
  refine wpAnyN_one hr hi hg fun K hK => ?_
  unfold Oper.wp
  rw [hrun]
  exact hK _ _ h.1 h.2
/-- append onto an owned slice, as an operation -/
theorem exec_append_row {P : Program} {w : World} {o : Oper} {a : Act} (s x : Operand) (t tx : TypeId) (hop : o.op = Op.call { callee := Callee.builtin Builtin.append, args := #[s, x], argTypes := #[t, tx] })
    (e : TypeId) (i : TypeInfo) (z : Value) (sz bytes : Nat) (ht : P.underlying t = some (.slice e)) (hi : P.info? e = some i) (hz : i.zero = some z) (hsz : i.size = sz) (hby : i.bytes = bytes) (hzs : z.cells.size = sz) (hpos : 0 < sz)
    {v : Value} {n : Nat} {xs : List Value} (hrow : Row w v e sz n xs) (hv : a.eval s = v) {xv : Value} {m : Nat} {news : List Value} (hs : Src P sz tx xv m news w) (hx : a.eval x = xv) (h63 : n + m ≤ maxLen) (hbytes : (n + m) * bytes ≤ 140737488355328) :
    ∃ v' w', (execOp a.eval o).run P w = .ok (.value v') w' ∧ Row w' v' e sz (n + m) (xs ++ news) ∧ w.grownBy w' v.ownBlock ∧ (v'.ownBlock = v.ownBlock ∨ v'.ownBlock = some w.heap.size ∧ w.heap.size < w'.heap.size) := by
  obtain ⟨v', w', hrun, r⟩ := run_append_row (P := P) w t tx o.type e i z sz bytes ht hi hz hsz hby hzs hpos v n xs hrow xv m news hs h63 hbytes
  refine ⟨v', w', ?_, r⟩
  simp [execOp, hop, resolve, invoke, builtin, hv, hx, hrun, Result.andThen]
theorem wpAnyN_append (i : Nat) (d : Option Tmp) (s x : Operand) (t tx : TypeId) {oi : Oper} {f : Nat} {l : Array Bool} {a : Act} {w : World} (hr : Region.ready md ops l = [i]) (hi : ops[i]? = some oi) (hd : oi.dst = d) (hg : oi.guard = none)
    (hop : oi.op = Op.call { callee := Callee.builtin Builtin.append, args := #[s, x], argTypes := #[t, tx] })
    (e : TypeId) (ii : TypeInfo) (z : Value) (sz bytes : Nat) (ht : P.underlying t = some (.slice e)) (hii : P.info? e = some ii) (hz : ii.zero = some z) (hsz : ii.size = sz) (hby : ii.bytes = bytes) (hzs : z.cells.size = sz) (hpos : 0 < sz)
    {v : Value} {n : Nat} {xs : List Value} (hrow : Row w v e sz n xs) (hv : a.eval s = v) {xv : Value} {m : Nat} {news : List Value} (hs : Src P sz tx xv m news w) (hx : a.eval x = xv) (h63 : n + m ≤ maxLen) (hbytes : (n + m) * bytes ≤ 140737488355328)
    (h : ∀ v' w', Row w' v' e sz (n + m) (xs ++ news) → w.grownBy w' v.ownBlock → (v'.ownBlock = v.ownBlock ∨ v'.ownBlock = some w.heap.size ∧ w.heap.size < w'.heap.size) → (i ∉ tail → S w → S w') ∧ wpAnyN P md ops Q S tail f (l.setIfInBounds i true) (a.put d v') w') :
    wpAnyN P md ops Q S tail (f + 1) l a w := by
  obtain ⟨v', w', hrun, h1, h2, h3⟩ := exec_append_row (P := P) s x t tx hop e ii z sz bytes ht hii hz hsz hby hzs hpos hrow hv hs hx h63 hbytes
  exact wpAnyN_run i d hr hi hd hg hrun (h v' w' h1 h2 h3)
theorem wpAnyN_done {f : Nat} {l : Array Bool} {a : Act} {w : World} (hr : Region.ready md ops l = []) (h : Q .normal a w) : wpAnyN P md ops Q S tail f l a w := by
  cases f with
  | zero => exact ⟨hr, h⟩
  | succ f => exact ⟨fun _ => h, by rw [hr]; simp⟩
/-- the beginning -/
theorem wp_region_N (S : World → Prop) (tail : List Nat) {id : Nat} {a : Act} {w : World} {l : List Oper} (hm : P.follows .mixedOrders = true)
    (h : wpAnyN P .any l.toArray Q S tail l.length (Array.replicate l.length false) a w.drew) : (Code.region id l.toArray true).wp P Q a w :=
  wp_region_any hm (wpAny_of_N _ _ _ _ (by simpa using h))
theorem run_load_mid_blk {P : Program} {op : Oper} {a : Act} {w : World} (ty : TypeId) (x : Operand) (ho : op.op = .load ty x)
    {b T : Nat} {cs : Array Value} (hb : Blk w b T cs) (o : Nat) (hx : a.eval x = .pointer (some ⟨b, o, none⟩)) (mid : List Value) (hm : ∀ j v, mid[j]? = some v → cs[o + j]? = some v) (d : TypeDesc)
    (hu : P.underlying ty = some d) (hd : d.isRow = true) (n : Nat) (hi : (P.info? ty).map (·.size) = some n) (hc : mid.length = n) : (execOp a.eval op).run P w = .ok (.value (.agg mid.toArray)) w := by
  unfold execOp
  simp only [ho, hx, Instr.loadAt, Instr.sureAddr, Sem.run_bind, Sem.run_pure, Result.andThen_ok, run_loadVar_mid w b o ty mid d (hb.range mid hm) hu hd (by rw [hc]; exact hi)]
end
end Go.Proofs.YtahlllbigkgobaaDoor
