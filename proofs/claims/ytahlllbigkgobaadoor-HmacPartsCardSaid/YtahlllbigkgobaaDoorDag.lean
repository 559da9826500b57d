/-
  A region that draws its order and whose operations make memory: each operation is shown for itself, in whatever world has grown out of the first, from what its own sources came to; then every order comes to the same. Of whatever program.
-/
import Derived.Test.YtahlllbigkgobaaDoorRegion
namespace Go.Proofs.YtahlllbigkgobaaDoor
open Go Go.RowKit
def blkOf : Value → Option Nat
  | .pointer (some a) => some a.block
  | .slice (some a) _ _ => some a.block
  | _ => none
def dstOf (ops : Array Oper) (j : Nat) : Option Tmp := (ops[j]?).bind (·.dst)
def puts (ops : Array Oper) (vs : Nat → Value) : List Nat → Act → Act
  | [], a => a
  | j :: L, a => puts ops vs L (a.put (dstOf ops j) (vs j))
def hangs (md : Region.Mode) (ops : Array Oper) (i j : Nat) : Bool := match ops[i]? with
  | some o => o.after.toList.any fun e => Region.binds md e && e.on == j
  | none => false
def hangsT (md : Region.Mode) (ops : Array Oper) : Nat → Nat → Nat → Bool
  | 0, i, j => hangs md ops i j
  | n + 1, i, j => hangs md ops i j || match ops[i]? with
    | some o => o.after.toList.any fun e => Region.binds md e && hangsT md ops n e.on j
    | none => false
def depsIn (md : Region.Mode) (ops : Array Oper) (D : List Nat) (i : Nat) : List Nat := D.filter fun j => hangs md ops i j
@[reducible] def AllL : List Nat → (Nat → Prop) → Prop
  | [], _ => True
  | i :: L, p => p i ∧ AllL L p
theorem AllL.get {p : Nat → Prop} : ∀ {L : List Nat}, AllL L p → ∀ i ∈ L, p i
  | _ :: _, h, i, hi => by
    rcases List.mem_cons.1 hi with rfl | hi
    · exact h.1
    · exact h.2.get i hi
theorem AllL.mk {p : Nat → Prop} : ∀ {L : List Nat}, (∀ i ∈ L, p i) → AllL L p
  | [], _ => trivial
  | i :: _, h => ⟨h i (List.mem_cons_self ..), AllL.mk fun j hj => h j (List.mem_cons_of_mem _ hj)⟩
/-- what an operation does with the values of its operands -/
def vwp (P : Program) (ops : Array Oper) (o : Oper) (a : Act) (w : World) (K : Value → World → Prop) : Prop :=
  (Region.wanted o (yielded ops a.tmps) = true ∧ match (execOp a.eval o).run P w with
    | .ok (.value v) w' => K v w'
    | .ok (.enter f args) w' => Calls P f args w' fun e w'' => ∃ v, e = .returned v ∧ K v w''
    | _ => False) ∨
  (Region.wanted o (yielded ops a.tmps) = false ∧ K undef w)
def isSel : Op → Bool
  | .select _ _ => true
  | _ => false
def dagOK (md : Region.Mode) (ops : Array Oper) (D : List Nat) (l0 : Array Bool) (n : Nat) : Bool :=
  decide D.Nodup && decide (l0.size = ops.size) &&
  D.all (fun i => decide (i < ops.size) && (l0.getD i true == false) &&
    (match dstOf ops i with | some d => decide (d < n) | none => true) &&
    (match ops[i]? with
      | some o => !isSel o.op && (o.looksAt ops).all (fun t => D.all fun j => !(dstOf ops j == some t) || hangs md ops i j)
      | none => false) &&
    D.all (fun j => i == j || !(dstOf ops i == dstOf ops j) || dstOf ops i == none)) &&
  (List.range ops.size).all (fun k =>
    (match ops[k]? with | some o => o.after.all (fun e => !(Region.binds md e) || decide (e.on < k)) | none => true) &&
    (D.contains k || l0.getD k true || D.all fun i => hangsT md ops 3 k i) &&
    (!(l0.getD k true) || match ops[k]? with | some o => o.after.toList.all (fun e => !(Region.binds md e) || l0.getD e.on false) | none => true))

structure Agree (ops : Array Oper) (D : List Nat) (a0 : Act) (done : Nat → Bool) (vs : Nat → Value) (a : Act) : Prop where
  defers : a.defers = a0.defers
  size : a.tmps.size = a0.tmps.size
  out : ∀ t, (∀ j ∈ D, done j = true → dstOf ops j ≠ some t) → a.tmps[t]? = a0.tmps[t]?
  own : ∀ j ∈ D, done j = true → ∀ t, dstOf ops j = some t → a.tmps[t]? = some (vs j)
theorem put_size (a : Act) (d : Option Tmp) (v : Value) : (a.put d v).tmps.size = a.tmps.size := by cases d <;> simp [Act.put]
theorem put_defers (a : Act) (d : Option Tmp) (v : Value) : (a.put d v).defers = a.defers := by cases d <;> rfl
theorem put_get (a : Act) (d : Option Tmp) (v : Value) (t : Nat) (h : d ≠ some t) : (a.put d v).tmps[t]? = a.tmps[t]? := by
  cases d with
  | none => rfl
  | some d =>
    have hne : d ≠ t := fun e => h (by rw [e])
    simp [Act.put, Array.getElem?_setIfInBounds_ne hne]
theorem put_own (a : Act) (t : Nat) (v : Value) (h : t < a.tmps.size) : (a.put (some t) v).tmps[t]? = some v := by
  simp [Act.put, h]
theorem puts_agree (ops : Array Oper) (vs : Nat → Value) : ∀ (L : List Nat) (a0 : Act), (∀ i ∈ L, ∀ j ∈ L, i ≠ j → dstOf ops i = dstOf ops j → dstOf ops i = none) → L.Nodup → (∀ i ∈ L, ∀ d, dstOf ops i = some d → d < a0.tmps.size) →
    Agree ops L a0 (fun _ => true) vs (puts ops vs L a0) := by
  intro L
  induction L with
  | nil => intro a0 _ _ _; exact ⟨rfl, rfl, fun _ _ => rfl, fun j hj => by cases hj⟩
  | cons j L ih =>
    intro a0 hd hn hs
    have hn2 := List.nodup_cons.1 hn
    have h := ih (a0.put (dstOf ops j) (vs j)) (fun i hi k hk => hd i (List.mem_cons_of_mem _ hi) k (List.mem_cons_of_mem _ hk)) hn2.2 (fun i hi d e => by rw [put_size]; exact hs i (List.mem_cons_of_mem _ hi) d e)
    refine ⟨h.defers.trans (put_defers _ _ _), h.size.trans (put_size _ _ _), fun t ht => ?_, fun k hk _ t e => ?_⟩
    · exact (h.out t fun i hi _ => ht i (List.mem_cons_of_mem _ hi) rfl).trans (put_get _ _ _ _ (ht j (List.mem_cons_self ..) rfl))
    · rcases List.mem_cons.1 hk with rfl | hk
      · refine (h.out t fun i hi _ e' => ?_).trans ?_
        · have hne : i ≠ k := fun e2 => hn2.1 (e2 ▸ hi)
          have := hd i (List.mem_cons_of_mem _ hi) k (List.mem_cons_self ..) hne (e'.trans e.symm)
          rw [this] at e'; cases e'
        · rw [e]; exact put_own _ _ _ (hs k (List.mem_cons_self ..) t e)
      · exact h.own k hk rfl t e
theorem agree_eq {ops : Array Oper} {D : List Nat} {a0 a b : Act} {vs : Nat → Value} {done : Nat → Bool} (ha : Agree ops D a0 done vs a) (hb : Agree ops D a0 (fun _ => true) vs b) (hall : ∀ j ∈ D, done j = true) : a = b := by
  have hd := ha.defers.trans hb.defers.symm
  have ht : a.tmps = b.tmps := by
    apply Array.ext_getElem?
    intro t
    by_cases h : ∃ j ∈ D, dstOf ops j = some t
    · obtain ⟨j, hj, e⟩ := h
      rw [ha.own j hj (hall j hj) t e, hb.own j hj rfl t e]
    · have hn : ∀ j ∈ D, dstOf ops j ≠ some t := fun j hj e => h ⟨j, hj, e⟩
      rw [ha.out t fun j hj _ => hn j hj, hb.out t fun j hj _ => hn j hj]
  cases a; cases b; simp_all
section
variable {P : Program} {ops : Array Oper} {Q : Exit → Act → World → Prop} {md : Region.Mode} {S : World → Prop} {tail : List Nat}
theorem wpOp_of_vwp {i : Nat} {o : Oper} (hi : ops[i]? = some o) {a b : Act} (hsel : ∀ cs x, o.op ≠ .select cs x) (hev : ∀ t ∈ o.looksAt ops, a.tmps[t]? = b.tmps[t]?) {w : World} {K : Act → World → Prop} {V : Value → World → Prop}
    (h : vwp P ops o b w V) (hK : ∀ v w', V v w' → K (a.put o.dst v) w') : wpOp P ops Q i K a w := by
  have e1 : execOp a.eval o = execOp b.eval o := execOp_congr o hsel fun x hx => by
    cases x with
    | tmp t =>
      have := hev t (List.mem_append_left _ (List.mem_filterMap.2 ⟨.tmp t, by simpa using hx, rfl⟩))
      simp only [Act.eval, Array.getD_eq_getD_getElem?, this]
    | _ => rfl
  have e2 : Region.wanted o (yielded ops a.tmps) = Region.wanted o (yielded ops b.tmps) := by
    unfold Region.wanted
    cases hg : o.guard with
    | none => rfl
    | some gw =>
      obtain ⟨g, want⟩ := gw
      have : yielded ops a.tmps g = yielded ops b.tmps g := by
        unfold yielded
        cases ht : (ops[g]?).bind (·.dst) with
        | none => rfl
        | some t =>
          have := hev t (by simp [Oper.looksAt, hg, ht])
          simp [this]
      simp only [this]
  unfold wpOp
  simp only [hi]
  rcases h with ⟨hw, h⟩ | ⟨hw, h⟩
  · rw [if_pos (by rw [e2]; exact hw)]
    left
    unfold Oper.wp
    rw [e1]
    generalize (execOp b.eval o).run P w = r at h ⊢
    cases r with
    | ok n w' =>
      cases n with
      | value v => exact hK _ _ h
      | enter f args =>
        refine Calls.mono h fun e w'' he => ?_
        obtain ⟨v, rfl, hv⟩ := he
        exact hK _ _ hv
      | _ => exact h.elim
    | halt x w' => exact h.elim
  · rw [if_neg (by rw [e2, hw]; simp)]
    exact hK _ _ h
theorem hangs_spec {i j : Nat} (h : hangs md ops i j = true) : ∃ o, ops[i]? = some o ∧ ∃ e ∈ o.after, Region.binds md e = true ∧ e.on = j := by
  unfold hangs at h
  split at h
  · rename_i o ho
    rw [List.any_eq_true] at h
    obtain ⟨q, hq, h⟩ := h
    simp only [Bool.and_eq_true, beq_iff_eq] at h
    exact ⟨o, ho, q, Array.mem_toList_iff.1 hq, h.1, h.2⟩
  · cases h
theorem hangsT_listed {l : Array Bool} (hdown : ∀ k o, ops[k]? = some o → l.getD k false = true → ∀ e ∈ o.after, Region.binds md e = true → l.getD e.on false = true) (j : Nat) :
    ∀ (n i : Nat), (∀ o, ops[i]? = some o → ∀ e ∈ o.after, Region.binds md e = true → l.getD e.on false = true) → hangsT md ops n i j = true → l.getD j false = true := by
  intro n
  induction n with
  | zero =>
    intro i hi h
    obtain ⟨o, ho, e, he, hb, rfl⟩ := hangs_spec h
    exact hi o ho e he hb
  | succ n ih =>
    intro i hi h
    unfold hangsT at h
    rcases Bool.or_eq_true_iff.1 h with h | h
    · obtain ⟨o, ho, e, he, hb, rfl⟩ := hangs_spec h
      exact hi o ho e he hb
    · split at h
      · rename_i o ho
        rw [List.any_eq_true] at h
        obtain ⟨e, he, h⟩ := h
        rw [Bool.and_eq_true] at h
        have hl := hi o ho e (Array.mem_toList_iff.1 he) h.1
        exact ih e.on (fun o' ho' e' he' hb' => hdown e.on o' ho' hl e' he' hb') h.2
      · cases h
/-- the least operation that isn't listed may come up -/
theorem ready_least (hb : ∀ k < ops.size, ∀ o, ops[k]? = some o → ∀ e ∈ o.after, Region.binds md e = true → e.on < k) (l : Array Bool) (n : Nat) : ∀ k, k < n → k < ops.size → l.getD k true = false → Region.ready md ops l ≠ [] := by
  induction n with
  | zero => intro k h; omega
  | succ n ih =>
    intro k hk hs hl
    by_cases hr : k ∈ Region.ready md ops l
    · exact fun e => by rw [e] at hr; cases hr
    · obtain ⟨o, ho⟩ : ∃ o, ops[k]? = some o := ⟨_, Array.getElem?_eq_getElem hs⟩
      by_cases hall : ∀ e ∈ o.after, Region.binds md e = true → l.getD e.on false = true
      · exact absurd (mem_ready.2 ⟨hl, o, ho, hall⟩) hr
      · simp only [Classical.not_forall] at hall
        obtain ⟨e, he, hb', hne⟩ := hall
        have h1 := hb k hs o ho e he hb'
        by_cases hs' : e.on < l.size
        · refine ih e.on (by omega) (by omega) ?_
          have : l.getD e.on false = l.getD e.on true := by simp [hs']
          rw [← this]; simpa using hne
        · have hls : l.size ≤ e.on := by omega
          have : l.getD k true = true := by simp [show ¬ k < l.size by omega]
          rw [this] at hl; cases hl
def markAll (l : Array Bool) : List Nat → Array Bool
  | [] => l
  | i :: L => markAll (l.setIfInBounds i true) L
theorem markAll_get (k : Nat) : ∀ (L : List Nat) (l : Array Bool), (markAll l L)[k]? = if k ∈ L ∧ k < l.size then some true else l[k]? := by
  intro L
  induction L with
  | nil => intro l; simp [markAll]
  | cons i L ih =>
    intro l
    rw [markAll, ih, Array.size_setIfInBounds, Array.getElem?_setIfInBounds]
    by_cases h1 : k ∈ L
    · by_cases h2 : k < l.size
      · simp [h1, h2]
      · by_cases h3 : i = k
        · simp [h2, h3]
        · simp [h2, h3]
    · by_cases h3 : i = k
      · subst h3; by_cases h2 : i < l.size <;> simp [h1, h2]
      · simp [h1, h3, Ne.symm h3]
def upd (vs : Nat → Value) (i : Nat) (v : Value) : Nat → Value := fun j => if j = i then v else vs j
theorem wpAnyN_dag (D : List Nat) (R : Nat → Value → World → Prop) (fresh : Nat → Bool) {f g : Nat} {l0 : Array Bool} {a0 : Act} {w0 : World} (hok : dagOK md ops D l0 a0.tmps.size = true) (hf : f = D.length + g)
    (hmono : AllL D fun i => ∀ v w w', Below w.heap.size w w' → R i v w → R i v w') (hS : ∀ w w', Below w.heap.size w w' → S w → S w')
    (hstep : AllL D fun i => ∀ (vs : Nat → Value) (w : World), Below w0.heap.size w0 w → AllL (depsIn md ops D i) (fun j => R j (vs j) w) →
      ∀ o, ops[i]? = some o → vwp P ops o (puts ops vs (depsIn md ops D i) a0) w fun v w' => Below w.heap.size w w' ∧ R i v w' ∧ (fresh i = true → ∃ b, blkOf v = some b ∧ w.heap.size ≤ b ∧ b < w'.heap.size))
    (hend : ∀ (vs : Nat → Value) (w : World), Below w0.heap.size w0 w → AllL D (fun j => R j (vs j) w) →
      (∀ i ∈ D, ∀ j ∈ D, i ≠ j → fresh i = true → fresh j = true → blkOf (vs i) ≠ blkOf (vs j)) → (∀ i ∈ D, fresh i = true → ∃ b, blkOf (vs i) = some b ∧ w0.heap.size ≤ b ∧ b < w.heap.size) → wpAnyN P md ops Q S tail g (markAll l0 D) (puts ops vs D a0) w) :
    wpAnyN P md ops Q S tail f l0 a0 w0 := by
  unfold dagOK at hok
  simp only [Bool.and_eq_true, decide_eq_true_eq, List.all_eq_true, List.mem_range] at hok
  obtain ⟨⟨⟨hnd, hls⟩, hD⟩, hops⟩ := hok
  have hback : ∀ k < ops.size, ∀ o, ops[k]? = some o → ∀ e ∈ o.after, Region.binds md e = true → e.on < k := by
    intro k hk o ho e he hbe
    have := (hops k hk).1.1
    rw [ho] at this
    have h2 := Array.all_eq_true_iff_forall_mem.1 this e he
    rw [hbe] at h2
    exact of_decide_eq_true h2
  have hdist : ∀ i ∈ D, ∀ j ∈ D, i ≠ j → dstOf ops i = dstOf ops j → dstOf ops i = none := by
    intro i hi j hj hne e
    have := (hD i hi).2 j hj
    simp only [Bool.or_eq_true, Bool.not_eq_true', beq_iff_eq, beq_eq_false_iff_ne] at this
    rcases this with (h | h) | h
    · exact absurd h hne
    · exact absurd e h
    · exact h
  have hsize : ∀ i ∈ D, ∀ d, dstOf ops i = some d → d < a0.tmps.size := by
    intro i hi d e
    have := (hD i hi).1.1.2
    rw [e] at this
    exact of_decide_eq_true this
  have hl0down : ∀ k o, ops[k]? = some o → l0.getD k false = true → ∀ e ∈ o.after, Region.binds md e = true → l0.getD e.on false = true := by
    intro k o ho hk e he hb
    have hks : k < ops.size := (Array.getElem?_eq_some_iff.1 ho).1
    have h1 := (hops k hks).2
    have h2 : l0.getD k true = true := by
      have : l0.getD k false = l0.getD k true := by simp [show k < l0.size by omega]
      rw [← this]; exact hk
    rw [ho, h2] at h1
    simp only [Bool.not_true, Bool.false_or, List.all_eq_true] at h1
    have := h1 e (Array.mem_toList_iff.2 he)
    rw [hb] at this
    simpa using this
  suffices H : ∀ (c : Nat) (l : Array Bool) (a : Act) (w : World) (vs : Nat → Value), (D.filter fun i => !(l.getD i true)).length = c → l.size = ops.size →
      (∀ k o, ops[k]? = some o → l.getD k false = true → ∀ e ∈ o.after, Region.binds md e = true → l.getD e.on false = true) → (∀ k, k ∉ D → l[k]? = l0[k]?) →
      Agree ops D a0 (fun j => l.getD j true) vs a → Below w0.heap.size w0 w → (∀ i ∈ D, l.getD i true = true → R i (vs i) w) →
      (∀ i ∈ D, l.getD i true = true → fresh i = true → ∃ b, blkOf (vs i) = some b ∧ w0.heap.size ≤ b ∧ b < w.heap.size) →
      (∀ i ∈ D, ∀ j ∈ D, i ≠ j → l.getD i true = true → l.getD j true = true → fresh i = true → fresh j = true → blkOf (vs i) ≠ blkOf (vs j)) → wpAnyN P md ops Q S tail (c + g) l a w by
    have h0 : ∀ i ∈ D, l0.getD i true = false := fun i hi => by
      have := (hD i hi).1.1.1.2
      simpa using this
    rw [hf]
    have hlen : (D.filter fun i => !(l0.getD i true)) = D := List.filter_eq_self.2 fun i hi => by rw [h0 i hi]; rfl
    refine H D.length l0 a0 w0 (fun _ => undef) (by rw [hlen]) hls hl0down (fun _ _ => rfl) ⟨rfl, rfl, fun _ _ => rfl, fun j hj e => ?_⟩ (Below.refl _ _) (fun i hi e => ?_) (fun i hi e => ?_) (fun i hi _ _ _ e => ?_)
    · rw [h0 j hj] at e; cases e
    · rw [h0 i hi] at e; cases e
    · rw [h0 i hi] at e; cases e
    · rw [h0 i hi] at e; cases e
  intro c
  induction c with
  | zero =>
    intro l a w vs hc hsz hdown hout hag hB hR hfr hne
    have hall : ∀ j ∈ D, l.getD j true = true := by
      intro j hj
      have h := List.length_eq_zero_iff.1 hc
      have := List.filter_eq_nil_iff.1 h j hj
      simpa using this
    have hl : l = markAll l0 D := by
      apply Array.ext_getElem?
      intro k
      rw [markAll_get]
      by_cases hk : k ∈ D
      · have h1 := (hD k hk).1.1.1.1
        rw [if_pos ⟨hk, by omega⟩]
        have h2 := hall k hk
        simp [show k < l.size by omega] at h2 ⊢
        exact h2
      · rw [if_neg (fun h => hk h.1)]
        exact hout k hk
    have ha := agree_eq hag (puts_agree ops vs D a0 hdist hnd hsize) hall
    rw [Nat.zero_add, hl, ha]
    exact hend vs w hB (AllL.mk fun i hi => hR i hi (hall i hi)) (fun i hi j hj hij => hne i hi j hj hij (hall i hi) (hall j hj)) (fun i hi => hfr i hi (hall i hi))
  | succ c ih =>
    intro l a w vs hc hsz hdown hout hag hB hR hfr hne
    obtain ⟨u, hu⟩ : ∃ u, u ∈ D.filter fun i => !(l.getD i true) := by
      cases h : D.filter fun i => !(l.getD i true) with
      | nil => rw [h] at hc; cases hc
      | cons u _ => exact ⟨u, List.mem_cons_self ..⟩
    have ⟨huD, hul⟩ := List.mem_filter.1 hu
    have hul2 : l.getD u true = false := by simpa using hul
    have husz := (hD u huD).1.1.1.1
    rw [show c + 1 + g = (c + g) + 1 by omega]
    refine ⟨fun h => absurd h (ready_least hback l (u + 1) u (Nat.lt_succ_self _) husz hul2), fun i hi => ?_⟩
    obtain ⟨hil, o, ho, hdeps⟩ := mem_ready.1 hi
    have hisz : i < ops.size := (Array.getElem?_eq_some_iff.1 ho).1
    have hiD : i ∈ D := by
      by_cases h : i ∈ D
      · exact h
      · exfalso
        have h1 := (hops i hisz).1.2
        simp only [Bool.or_eq_true, List.contains_iff_mem, List.all_eq_true] at h1
        have h2 : l0.getD i true = false := by
          have := hout i h
          rw [Array.getD_eq_getD_getElem?] at hil ⊢
          rw [← this]; exact hil
        rcases h1 with (h1 | h1) | h1
        · exact h h1
        · rw [h2] at h1; cases h1
        · have := hangsT_listed hdown u 3 i (fun o' ho' => by obtain rfl := Option.some.inj (ho.symm.trans ho'); exact hdeps) (h1 u huD)
          have h3 : l.getD u false = l.getD u true := by simp [show u < l.size by omega]
          rw [h3, hul2] at this; cases this
    have hdone : ∀ j ∈ depsIn md ops D i, l.getD j true = true := by
      intro j hj
      obtain ⟨hjD, hj2⟩ := List.mem_filter.1 hj
      obtain ⟨o', ho', e, he, hb, heq⟩ := hangs_spec hj2
      obtain rfl := Option.some.inj (ho.symm.trans ho')
      have := hdeps e he hb
      rw [heq] at this
      have hjsz := (hD j hjD).1.1.1.1
      have h3 : l.getD j false = l.getD j true := by simp [show j < l.size by omega]
      rw [← h3]; exact this
    have hjD : ∀ j ∈ depsIn md ops D i, j ∈ D := fun j hj => (List.mem_filter.1 hj).1
    have hi1 := (hD i hiD).1.2
    rw [ho] at hi1
    simp only [Bool.and_eq_true, Bool.not_eq_true', List.all_eq_true] at hi1
    obtain ⟨hsel, hlook⟩ := hi1
    have hfa := puts_agree ops vs (depsIn md ops D i) a0 (fun p hp q hq => hdist p (hjD p hp) q (hjD q hq)) (hnd.sublist List.filter_sublist) (fun p hp => hsize p (hjD p hp))
    have hv := hstep.get i hiD vs w hB (AllL.mk fun j hj => hR j (hjD j hj) (hdone j hj)) o ho
    refine wpOp_of_vwp ho (fun cs x e => by rw [e] at hsel; cases hsel) (fun t ht => ?_) hv ?_
    · have hl1 := hlook t ht
      by_cases hex : ∃ j ∈ D, dstOf ops j = some t
      · obtain ⟨j, hjd, e⟩ := hex
        have h2 := hl1 j hjd
        rw [e] at h2
        have h2' : hangs md ops i j = true := by simpa using h2
        have hj : j ∈ depsIn md ops D i := List.mem_filter.2 ⟨hjd, h2'⟩
        rw [hag.own j hjd (hdone j hj) t e, hfa.own j hj rfl t e]
      · have hn : ∀ j ∈ D, dstOf ops j ≠ some t := fun j hj e => hex ⟨j, hj, e⟩
        rw [hag.out t fun j hj _ => hn j hj, hfa.out t fun j hj _ => hn j (hjD j hj)]
    · rintro v w' ⟨hB', hRv, hfv⟩
      refine ⟨fun _ => hS w w' hB', ?_⟩
      have hdst : o.dst = dstOf ops i := by simp [dstOf, ho]
      have hget : ∀ k, (l.setIfInBounds i true).getD k true = if k = i then true else l.getD k true := by
        intro k
        by_cases hk : k = i
        · subst hk; rw [if_pos rfl, Array.getD_eq_getD_getElem?, Array.getElem?_setIfInBounds_self]; split <;> rfl
        · rw [if_neg hk, getD_set_ne true (Ne.symm hk)]
      have hvs : ∀ j, l.getD j true = true → upd vs i v j = vs j := fun j hj => by
        unfold upd; rw [if_neg]; rintro rfl; rw [hil] at hj; cases hj
      have hvi : upd vs i v i = v := by unfold upd; rw [if_pos rfl]
      refine ih (l.setIfInBounds i true) _ w' (upd vs i v) ?_ (by rw [Array.size_setIfInBounds]; exact hsz) (fun k ok hok hkl e he hb => ?_) (fun k hk => ?_) ⟨(put_defers _ _ _).trans hag.defers, (put_size _ _ _).trans hag.size, fun t ht => ?_, fun j hj hjl t e => ?_⟩
        (hB.trans (hB'.mono hB.size)) (fun j hj hjl => ?_) (fun j hj hjl hfj => ?_) (fun j hj k hk hjk hjl hkl hfj hfk => ?_)
      · have hcnt : ∀ (L : List Nat), L.Nodup → i ∈ L → (L.filter fun k => !((l.setIfInBounds i true).getD k true)).length + 1 = (L.filter fun k => !(l.getD k true)).length := by
          intro L
          induction L with
          | nil => intro _ h; cases h
          | cons x L ihL =>
            intro hn hm
            have hn2 := List.nodup_cons.1 hn
            by_cases hx : x = i
            · subst hx
              have hrest : (L.filter fun k => !((l.setIfInBounds x true).getD k true)) = L.filter fun k => !(l.getD k true) :=
                List.filter_congr fun k hk => by rw [hget, if_neg (show ¬ k = x from fun e => hn2.1 (e ▸ hk))]
              rw [List.filter_cons, List.filter_cons, hget, if_pos rfl, hil, hrest]; simp
            · have hm2 : i ∈ L := (List.mem_cons.1 hm).resolve_left (Ne.symm hx)
              have := ihL hn2.2 hm2
              rw [List.filter_cons, List.filter_cons, hget, if_neg hx]
              cases l.getD x true
              · simp only [Bool.not_false, if_true, List.length_cons]; omega
              · exact this
        have := hcnt D hnd hiD
        omega
      · have hgf : ∀ k, (l.setIfInBounds i true).getD k false = if k = i then true else l.getD k false := by
          intro k
          by_cases hk : k = i
          · subst hk; rw [if_pos rfl]; simp [show k < l.size by omega]
          · rw [if_neg hk, getD_set_ne false (Ne.symm hk)]
        rw [hgf] at hkl ⊢
        by_cases hei : e.on = i
        · rw [if_pos hei]
        · rw [if_neg hei]
          by_cases hki : k = i
          · subst hki
            obtain rfl := Option.some.inj (ho.symm.trans hok)
            exact hdeps e he hb
          · rw [if_neg hki] at hkl
            exact hdown k ok hok hkl e he hb
      · rw [Array.getElem?_setIfInBounds_ne (show i ≠ k from fun e => hk (e ▸ hiD))]; exact hout k hk
      · have hti : dstOf ops i ≠ some t := ht i hiD (by rw [hget, if_pos rfl])
        rw [hdst, put_get _ _ _ _ hti]
        refine hag.out t fun j hj hjl => ht j hj ?_
        rw [hget]; split <;> simp_all
      · rw [hdst]
        by_cases hji : j = i
        · subst hji
          rw [hvi, e]
          exact put_own _ _ _ (by rw [hag.size]; exact hsize j hj t e)
        · have hjl2 : l.getD j true = true := by
            have := hjl
            simp only [hget, if_neg hji] at this; exact this
          rw [hvs j hjl2, put_get _ _ _ _ (fun e2 => by have := hdist j hj i hiD hji (e.trans e2.symm); rw [this] at e; cases e)]
          exact hag.own j hj hjl2 t e
      · by_cases hji : j = i
        · subst hji; rw [hvi]; exact hRv
        · have hjl2 : l.getD j true = true := by
            have := hjl
            simp only [hget, if_neg hji] at this; exact this
          rw [hvs j hjl2]
          exact hmono.get j hj _ _ _ hB' (hR j hj hjl2)
      · by_cases hji : j = i
        · subst hji; rw [hvi]
          obtain ⟨b, h1, h2, h3⟩ := hfv hfj
          exact ⟨b, h1, Nat.le_trans hB.size h2, h3⟩
        · have hjl2 : l.getD j true = true := by
            have := hjl
            simp only [hget, if_neg hji] at this; exact this
          rw [hvs j hjl2]
          obtain ⟨b, h1, h2, h3⟩ := hfr j hj hjl2 hfj
          exact ⟨b, h1, h2, Nat.lt_of_lt_of_le h3 hB'.size⟩
      · by_cases hji : j = i
        · subst hji
          have hki : k ≠ j := Ne.symm hjk
          have hkl2 : l.getD k true = true := by
            have := hkl
            simp only [hget, if_neg hki] at this; exact this
          rw [hvi, hvs k hkl2]
          obtain ⟨b, h1, h2, h3⟩ := hfv hfj
          obtain ⟨b', h1', h2', h3'⟩ := hfr k hk hkl2 hfk
          rw [h1, h1']
          intro e; have := Option.some.inj e; omega
        · have hjl2 : l.getD j true = true := by
            have := hjl
            simp only [hget, if_neg hji] at this; exact this
          by_cases hki : k = i
          · subst hki
            rw [hvi, hvs j hjl2]
            obtain ⟨b, h1, h2, h3⟩ := hfv hfk
            obtain ⟨b', h1', h2', h3'⟩ := hfr j hj hjl2 hfj
            rw [h1, h1']
            intro e; have := Option.some.inj e; omega
          · have hkl2 : l.getD k true = true := by
              have := hkl
              simp only [hget, if_neg hki] at this; exact this
            rw [hvs j hjl2, hvs k hkl2]
            exact hne j hj k hk hjk hjl2 hkl2 hfj hfk
theorem vwp_run {o : Oper} {a : Act} {w w' : World} {v : Value} {K : Value → World → Prop} (hg : o.guard = none) (hr : (execOp a.eval o).run P w = .ok (.value v) w') (hK : K v w') : vwp P ops o a w K := by
  refine .inl ⟨by simp [Region.wanted, hg], ?_⟩; rw [hr]; exact hK
theorem vwp_call (fn : Nat) (xs : List Operand) (args : List Value) {ats : Array TypeId} {o : Oper} {a : Act} {w : World} {K : Value → World → Prop} (hg : o.guard = none)
    (ho : o.op = .call { callee := .value (.func fn), args := xs.toArray, argTypes := ats }) (hxs : xs.map a.eval = args) (he : ∀ args w, (callFunc fn args).run P w = .ok (.enter fn args) w)
    (h : Calls P fn args.toArray w fun e w' => ∃ v, e = .returned v ∧ K v w') : vwp P ops o a w K := by
  refine .inl ⟨by simp [Region.wanted, hg], ?_⟩
  obtain ⟨dst, op, ty, pos, after, guard⟩ := o
  subst ho hxs
  have e1 : execOp a.eval { dst := dst, op := .call { callee := .value (.func fn), args := xs.toArray, argTypes := ats }, type := ty, pos := pos, after := after, guard := guard } = callFunc fn (#[] ++ xs.toArray.map a.eval ++ #[]) := rfl
  rw [e1, Array.empty_append, Array.append_empty, List.map_toArray, he]
  exact h
theorem vwp_runW {o : Oper} {a : Act} {w w' : World} {v : Value} {K : Value → World → Prop} (hw : Region.wanted o (yielded ops a.tmps) = true) (hr : (execOp a.eval o).run P w = .ok (.value v) w') (hK : K v w') : vwp P ops o a w K := by
  refine .inl ⟨hw, ?_⟩; rw [hr]; exact hK
theorem vwp_callW (fn : Nat) (xs : List Operand) (args : List Value) {ats : Array TypeId} {o : Oper} {a : Act} {w : World} {K : Value → World → Prop} (hw : Region.wanted o (yielded ops a.tmps) = true)
    (ho : o.op = .call { callee := .value (.func fn), args := xs.toArray, argTypes := ats }) (hxs : xs.map a.eval = args) (he : ∀ args w, (callFunc fn args).run P w = .ok (.enter fn args) w)
    (h : Calls P fn args.toArray w fun e w' => ∃ v, e = .returned v ∧ K v w') : vwp P ops o a w K := by
  refine .inl ⟨hw, ?_⟩
  obtain ⟨dst, op, ty, pos, after, guard⟩ := o
  subst ho hxs
  have e1 : execOp a.eval { dst := dst, op := .call { callee := .value (.func fn), args := xs.toArray, argTypes := ats }, type := ty, pos := pos, after := after, guard := guard } = callFunc fn (#[] ++ xs.toArray.map a.eval ++ #[]) := rfl
  rw [e1, Array.empty_append, Array.append_empty, List.map_toArray, he]
  exact h
/-- the same, where somebody says which slots are written and what each operation hangs on -/
def putsD (dd : Nat → Option Tmp) (vs : Nat → Value) : List Nat → Act → Act
  | [], a => a
  | j :: L, a => putsD dd vs L (a.put (dd j) (vs j))
theorem putsD_eq (dd : Nat → Option Tmp) (vs : Nat → Value) : ∀ (L : List Nat) (a : Act), (∀ j ∈ L, dstOf ops j = dd j) → puts ops vs L a = putsD dd vs L a := by
  intro L
  induction L with
  | nil => intro a _; rfl
  | cons j L ih => intro a h; rw [puts, putsD, h j (List.mem_cons_self ..)]; exact ih _ fun k hk => h k (List.mem_cons_of_mem _ hk)
theorem wpAnyN_dag2 (D : List Nat) (dd : Nat → Option Tmp) (dl : Nat → List Nat) (R : Nat → Value → World → Prop) (fresh : Nat → Bool) {f g : Nat} {l0 : Array Bool} {a0 : Act} {w0 : World} (hok : dagOK md ops D l0 a0.tmps.size = true)
    (hdd : D.all (fun i => dstOf ops i == dd i && depsIn md ops D i == dl i) = true) (hf : f = D.length + g)
    (hmono : AllL D fun i => ∀ v w w', Below w.heap.size w w' → R i v w → R i v w') (hS : ∀ w w', Below w.heap.size w w' → S w → S w')
    (hstep : AllL D fun i => ∀ (vs : Nat → Value) (w : World), Below w0.heap.size w0 w → AllL (dl i) (fun j => R j (vs j) w) →
      ∀ o, ops[i]? = some o → vwp P ops o (putsD dd vs (dl i) a0) w fun v w' => Below w.heap.size w w' ∧ R i v w' ∧ (fresh i = true → ∃ b, blkOf v = some b ∧ w.heap.size ≤ b ∧ b < w'.heap.size))
    (hend : ∀ (vs : Nat → Value) (w : World), Below w0.heap.size w0 w → AllL D (fun j => R j (vs j) w) →
      (∀ i ∈ D, ∀ j ∈ D, i ≠ j → fresh i = true → fresh j = true → blkOf (vs i) ≠ blkOf (vs j)) → (∀ i ∈ D, fresh i = true → ∃ b, blkOf (vs i) = some b ∧ w0.heap.size ≤ b ∧ b < w.heap.size) → wpAnyN P md ops Q S tail g (markAll l0 D) (putsD dd vs D a0) w) :
    wpAnyN P md ops Q S tail f l0 a0 w0 := by
  simp only [List.all_eq_true, Bool.and_eq_true, beq_iff_eq] at hdd
  refine wpAnyN_dag D R fresh hok hf hmono hS (AllL.mk fun i hi vs w hb hd o ho => ?_) fun vs w hb hR h1 h2 => ?_
  · have e := (hdd i hi).2
    have h := hstep.get i hi vs w hb (by rw [← e]; exact hd) o ho
    have e0 : puts ops vs (depsIn md ops D i) a0 = putsD dd vs (depsIn md ops D i) a0 := putsD_eq dd vs _ _ (fun j hj => (hdd j (List.mem_filter.1 hj).1).1)
    rw [e0, e]
    exact h
  · rw [putsD_eq dd vs _ _ (fun j hj => (hdd j hj).1)]
    exact hend vs w hb hR h1 h2
end
end Go.Proofs.YtahlllbigkgobaaDoor
