/-
  A region that draws its order, as in the text before it, for deep regions: what hangs on an operation that cannot come up yet cannot come up; and an operation may write into the new memory of one that it alone hangs on. Of whatever program.
-/
import Derived.Test.YtahlllbigkgobaaDoorDag
namespace Go.Proofs.YtahlllbigkgobaaDoor
open Go Go.RowKit
def dagOKB (md : Region.Mode) (ops : Array Oper) (D : List Nat) (fresh : Nat → Bool) (br : Nat → Nat → Bool) (l0 : Array Bool) (n : Nat) : Bool :=
  decide D.Nodup && decide (l0.size = ops.size) &&
  D.all (fun i => decide (i < ops.size) && (l0.getD i true == false) &&
    (match dstOf ops i with | some d => decide (d < n) | none => true) &&
    (match ops[i]? with
      | some o => !isSel o.op && (o.looksAt ops).all (fun t => D.all fun j => !(dstOf ops j == some t) || hangs md ops i j)
      | none => false) &&
    D.all (fun j => i == j || !(dstOf ops i == dstOf ops j) || dstOf ops i == none)) &&
  (List.range ops.size).all (fun k =>
    (match ops[k]? with | some o => o.after.all (fun e => !(Region.binds md e) || decide (e.on < k)) | none => true) &&
    (D.contains k || l0.getD k true || (D.all fun i => hangsT md ops 2 k i) ||
      match ops[k]? with | some o => o.after.toList.any (fun e => Region.binds md e && !(D.contains e.on) && (l0.getD e.on true == false)) | none => false) &&
    (!(l0.getD k true) || match ops[k]? with | some o => o.after.toList.all (fun e => !(Region.binds md e) || l0.getD e.on false) | none => true)) &&
  D.all (fun i => D.all fun j => !(br i j) || (fresh j && D.all fun k => k == i || !(hangs md ops k j)))
/-- the new memory of others that operation i writes into -/
def Spoil (br : Nat → Nat → Bool) (deps : List Nat) (i : Nat) (vs : Nat → Value) (x : Nat) : Prop := ∃ d ∈ deps, br i d = true ∧ blkOf (vs d) = some x
section
variable {P : Program} {ops : Array Oper} {Q : Exit → Act → World → Prop} {md : Region.Mode} {S : World → Prop} {tail : List Nat}
theorem wpAnyN_dagB (D : List Nat) (R : Nat → Value → World → Prop) (fresh : Nat → Bool) (br : Nat → Nat → Bool) {f g : Nat} {l0 : Array Bool} {a0 : Act} {w0 : World} (hok : dagOKB md ops D fresh br l0 a0.tmps.size = true) (hf : f = D.length + g)
    (hmono : AllL D fun i => ∀ (T : Nat → Prop) v w w', Fr T w w' → (∀ b, T b → w0.heap.size ≤ b ∧ (fresh i = true → blkOf v ≠ some b) ∧ ∃ p ∈ D, ∃ q ∈ D, br p q = true) → R i v w → R i v w') (hS : ∀ w w', Below w0.heap.size w w' → S w → S w')
    (hstep : AllL D fun i => ∀ (vs : Nat → Value) (w : World), Below w0.heap.size w0 w → AllL (depsIn md ops D i) (fun j => R j (vs j) w) → (∀ j ∈ depsIn md ops D i, fresh j = true → ∃ b, blkOf (vs j) = some b ∧ w0.heap.size ≤ b ∧ b < w.heap.size) →
      ∀ o, ops[i]? = some o → vwp P ops o (puts ops vs (depsIn md ops D i) a0) w fun v w' => Fr (Spoil br (depsIn md ops D i) i vs) w w' ∧ R i v w' ∧ (fresh i = true → ∃ b, blkOf v = some b ∧ w.heap.size ≤ b ∧ b < w'.heap.size))
    (hend : ∀ (vs : Nat → Value) (w : World), Below w0.heap.size w0 w → AllL D (fun j => D.any (fun i => br i j) = false → R j (vs j) w) →
      (∀ i ∈ D, ∀ j ∈ D, i ≠ j → fresh i = true → fresh j = true → blkOf (vs i) ≠ blkOf (vs j)) → (∀ i ∈ D, fresh i = true → ∃ b, blkOf (vs i) = some b ∧ w0.heap.size ≤ b ∧ b < w.heap.size) → wpAnyN P md ops Q S tail g (markAll l0 D) (puts ops vs D a0) w) :
    wpAnyN P md ops Q S tail f l0 a0 w0 := by
  unfold dagOKB at hok
  simp only [Bool.and_eq_true, decide_eq_true_eq, List.all_eq_true, List.mem_range] at hok
  obtain ⟨⟨⟨⟨hnd, hls⟩, hD⟩, hops⟩, hbr⟩ := hok
  have hbrF : ∀ i ∈ D, ∀ j ∈ D, br i j = true → fresh j = true ∧ ∀ k ∈ D, k ≠ i → hangs md ops k j = false := by
    intro i hi j hj h
    have := hbr i hi j hj
    rw [h] at this
    simp only [Bool.not_true, Bool.false_or, Bool.and_eq_true, List.all_eq_true, Bool.or_eq_true, beq_iff_eq, Bool.not_eq_true'] at this
    exact ⟨this.1, fun k hk hne => (this.2 k hk).resolve_left hne⟩
  have hback : ∀ k < ops.size, ∀ o, ops[k]? = some o → ∀ e ∈ o.after, Region.binds md e = true → e.on < k := by
    intro k hk o ho e he hbe
    have := (hops k hk).1.1
    rw [ho] at this
    have h2 := Array.all_eq_true_iff_forall_mem.1 this e he
    rw [hbe] at h2
    exact of_decide_eq_true h2
  have hdist : ∀ i ∈ D, ∀ j ∈ D, i ≠ j → dstOf ops i = dstOf ops j → dstOf ops i = none := by
    intro i hi j hj hne e
    have := (hD i hi).2 j hj
    simp only [Bool.or_eq_true, Bool.not_eq_true', beq_iff_eq, beq_eq_false_iff_ne] at this
    rcases this with (h | h) | h
    · exact absurd h hne
    · exact absurd e h
    · exact h
  have hsize : ∀ i ∈ D, ∀ d, dstOf ops i = some d → d < a0.tmps.size := by
    intro i hi d e
    have := (hD i hi).1.1.2
    rw [e] at this
    exact of_decide_eq_true this
  have hl0down : ∀ k o, ops[k]? = some o → l0.getD k false = true → ∀ e ∈ o.after, Region.binds md e = true → l0.getD e.on false = true := by
    intro k o ho hk e he hb
    have hks : k < ops.size := (Array.getElem?_eq_some_iff.1 ho).1
    have h1 := (hops k hks).2
    have h2 : l0.getD k true = true := by
      have : l0.getD k false = l0.getD k true := by simp [show k < l0.size by omega]
      rw [← this]; exact hk
    rw [ho, h2] at h1
    simp only [Bool.not_true, Bool.false_or, List.all_eq_true] at h1
    have := h1 e (Array.mem_toList_iff.2 he)
    rw [hb] at this
    simpa using this
  suffices H : ∀ (c : Nat) (l : Array Bool) (a : Act) (w : World) (vs : Nat → Value), (D.filter fun i => !(l.getD i true)).length = c → l.size = ops.size →
      (∀ k o, ops[k]? = some o → l.getD k false = true → ∀ e ∈ o.after, Region.binds md e = true → l.getD e.on false = true) → (∀ k, k ∉ D → l[k]? = l0[k]?) →
      Agree ops D a0 (fun j => l.getD j true) vs a → Below w0.heap.size w0 w → (∀ i ∈ D, l.getD i true = true → (∀ b ∈ D, br b i = true → l.getD b true = false) → R i (vs i) w) →
      (∀ i ∈ D, l.getD i true = true → fresh i = true → ∃ b, blkOf (vs i) = some b ∧ w0.heap.size ≤ b ∧ b < w.heap.size) →
      (∀ i ∈ D, ∀ j ∈ D, i ≠ j → l.getD i true = true → l.getD j true = true → fresh i = true → fresh j = true → blkOf (vs i) ≠ blkOf (vs j)) → wpAnyN P md ops Q S tail (c + g) l a w by
    have h0 : ∀ i ∈ D, l0.getD i true = false := fun i hi => by
      have := (hD i hi).1.1.1.2
      simpa using this
    rw [hf]
    have hlen : (D.filter fun i => !(l0.getD i true)) = D := List.filter_eq_self.2 fun i hi => by rw [h0 i hi]; rfl
    refine H D.length l0 a0 w0 (fun _ => undef) (by rw [hlen]) hls hl0down (fun _ _ => rfl) ⟨rfl, rfl, fun _ _ => rfl, fun j hj e => ?_⟩ (Below.refl _ _) (fun i hi e => ?_) (fun i hi e => ?_) (fun i hi _ _ _ e => ?_)
    · rw [h0 j hj] at e; cases e
    · rw [h0 i hi] at e; cases e
    · rw [h0 i hi] at e; cases e
    · rw [h0 i hi] at e; cases e
  intro c
  induction c with
  | zero =>
    intro l a w vs hc hsz hdown hout hag hB hR hfr hne
    have hall : ∀ j ∈ D, l.getD j true = true := by
      intro j hj
      have h := List.length_eq_zero_iff.1 hc
      have := List.filter_eq_nil_iff.1 h j hj
      simpa using this
    have hl : l = markAll l0 D := by
      apply Array.ext_getElem?
      intro k
      rw [markAll_get]
      by_cases hk : k ∈ D
      · have h1 := (hD k hk).1.1.1.1
        rw [if_pos ⟨hk, by omega⟩]
        have h2 := hall k hk
        simp [show k < l.size by omega] at h2 ⊢
        exact h2
      · rw [if_neg (fun h => hk h.1)]
        exact hout k hk
    have ha := agree_eq hag (puts_agree ops vs D a0 hdist hnd hsize) hall
    rw [Nat.zero_add, hl, ha]
    exact hend vs w hB (AllL.mk fun i hi hnb => hR i hi (hall i hi) fun b hb hbi => by have := List.any_eq_false.1 hnb b hb; rw [hbi] at this; exact absurd rfl this) (fun i hi j hj hij => hne i hi j hj hij (hall i hi) (hall j hj)) (fun i hi => hfr i hi (hall i hi))
  | succ c ih =>
    intro l a w vs hc hsz hdown hout hag hB hR hfr hne
    obtain ⟨u, hu⟩ : ∃ u, u ∈ D.filter fun i => !(l.getD i true) := by
      cases h : D.filter fun i => !(l.getD i true) with
      | nil => rw [h] at hc; cases hc
      | cons u _ => exact ⟨u, List.mem_cons_self ..⟩
    have ⟨huD, hul⟩ := List.mem_filter.1 hu
    have hul2 : l.getD u true = false := by simpa using hul
    have husz := (hD u huD).1.1.1.1
    rw [show c + 1 + g = (c + g) + 1 by omega]
    refine ⟨fun h => absurd h (ready_least hback l (u + 1) u (Nat.lt_succ_self _) husz hul2), fun i hi => ?_⟩
    obtain ⟨hil, o, ho, hdeps⟩ := mem_ready.1 hi
    have hisz : i < ops.size := (Array.getElem?_eq_some_iff.1 ho).1
    have hiD : i ∈ D := by
      by_cases h : i ∈ D
      · exact h
      · exfalso
        have h1 := (hops i hisz).1.2
        simp only [Bool.or_eq_true, List.contains_iff_mem, List.all_eq_true] at h1
        have h2 : l0.getD i true = false := by
          have := hout i h
          rw [Array.getD_eq_getD_getElem?] at hil ⊢
          rw [← this]; exact hil
        rcases h1 with ((h1 | h1) | h1) | h1
        · exact h h1
        · rw [h2] at h1; cases h1
        · have := hangsT_listed hdown u 2 i (fun o' ho' => by obtain rfl := Option.some.inj (ho.symm.trans ho'); exact hdeps) (h1 u huD)
          have h3 : l.getD u false = l.getD u true := by simp [show u < l.size by omega]
          rw [h3, hul2] at this; cases this
        · rw [ho] at h1
          simp only [List.any_eq_true, Bool.and_eq_true, Bool.not_eq_true', beq_iff_eq] at h1
          obtain ⟨e, he, ⟨hbe, hne⟩, hl0e⟩ := h1
          have hne' : e.on ∉ D := fun hm => by rw [List.contains_iff_mem.2 hm] at hne; cases hne
          have h5 := hdeps e (Array.mem_toList_iff.1 he) hbe
          have h6 := hout e.on hne'
          rw [Array.getD_eq_getD_getElem?, h6] at h5
          rw [Array.getD_eq_getD_getElem?] at hl0e
          cases h7 : l0[e.on]? with
          | none => rw [h7] at hl0e; cases hl0e
          | some t => rw [h7] at hl0e h5; cases hl0e; cases h5
    have hdone : ∀ j ∈ depsIn md ops D i, l.getD j true = true := by
      intro j hj
      obtain ⟨hjD, hj2⟩ := List.mem_filter.1 hj
      obtain ⟨o', ho', e, he, hb, heq⟩ := hangs_spec hj2
      obtain rfl := Option.some.inj (ho.symm.trans ho')
      have := hdeps e he hb
      rw [heq] at this
      have hjsz := (hD j hjD).1.1.1.1
      have h3 : l.getD j false = l.getD j true := by simp [show j < l.size by omega]
      rw [← h3]; exact this
    have hjD : ∀ j ∈ depsIn md ops D i, j ∈ D := fun j hj => (List.mem_filter.1 hj).1
    have hi1 := (hD i hiD).1.2
    rw [ho] at hi1
    simp only [Bool.and_eq_true, Bool.not_eq_true', List.all_eq_true] at hi1
    obtain ⟨hsel, hlook⟩ := hi1
    have hfa := puts_agree ops vs (depsIn md ops D i) a0 (fun p hp q hq => hdist p (hjD p hp) q (hjD q hq)) (hnd.sublist List.filter_sublist) (fun p hp => hsize p (hjD p hp))
    have hdf : ∀ j ∈ depsIn md ops D i, fresh j = true → ∃ b, blkOf (vs j) = some b ∧ w0.heap.size ≤ b ∧ b < w.heap.size := fun j hj hfj => hfr j (hjD j hj) (hdone j hj) hfj
    have hv := hstep.get i hiD vs w hB (AllL.mk fun j hj => hR j (hjD j hj) (hdone j hj) fun b hb hbj => by
      by_cases hbi : b = i
      · rw [hbi]; exact hil
      · have := (hbrF b hb j (hjD j hj) hbj).2 i hiD (Ne.symm hbi)
        rw [(List.mem_filter.1 hj).2] at this; cases this) hdf o ho
    refine wpOp_of_vwp ho (fun cs x e => by rw [e] at hsel; cases hsel) (fun t ht => ?_) hv ?_
    · have hl1 := hlook t ht
      by_cases hex : ∃ j ∈ D, dstOf ops j = some t
      · obtain ⟨j, hjd, e⟩ := hex
        have h2 := hl1 j hjd
        rw [e] at h2
        have h2' : hangs md ops i j = true := by simpa using h2
        have hj : j ∈ depsIn md ops D i := List.mem_filter.2 ⟨hjd, h2'⟩
        rw [hag.own j hjd (hdone j hj) t e, hfa.own j hj rfl t e]
      · have hn : ∀ j ∈ D, dstOf ops j ≠ some t := fun j hj e => hex ⟨j, hj, e⟩
        rw [hag.out t fun j hj _ => hn j hj, hfa.out t fun j hj _ => hn j (hjD j hj)]
    · rintro v w' ⟨hFr, hRv, hfv⟩
      have hsp : ∀ x, Spoil br (depsIn md ops D i) i vs x → w0.heap.size ≤ x := fun x ⟨d, hd, hbd, e⟩ => by
        obtain ⟨b, h1, h2, -⟩ := hdf d hd (hbrF i hiD d (hjD d hd) hbd).1
        rw [h1] at e
        have := Option.some.inj e; omega
      have hB' : Below w0.heap.size w w' := ⟨hFr.os, hFr.tape, hFr.output, hFr.size, fun k hk => hFr.block k (Nat.lt_of_lt_of_le hk hB.size) fun hx => by have := hsp k hx; omega⟩
      refine ⟨fun _ => hS w w' hB', ?_⟩
      have hdst : o.dst = dstOf ops i := by simp [dstOf, ho]
      have hget : ∀ k, (l.setIfInBounds i true).getD k true = if k = i then true else l.getD k true := by
        intro k
        by_cases hk : k = i
        · subst hk; rw [if_pos rfl, Array.getD_eq_getD_getElem?, Array.getElem?_setIfInBounds_self]; split <;> rfl
        · rw [if_neg hk, getD_set_ne true (Ne.symm hk)]
      have hvs : ∀ j, l.getD j true = true → upd vs i v j = vs j := fun j hj => by
        unfold upd; rw [if_neg]; rintro rfl; rw [hil] at hj; cases hj
      have hvi : upd vs i v i = v := by unfold upd; rw [if_pos rfl]
      refine ih (l.setIfInBounds i true) _ w' (upd vs i v) ?_ (by rw [Array.size_setIfInBounds]; exact hsz) (fun k ok hok hkl e he hb => ?_) (fun k hk => ?_) ⟨(put_defers _ _ _).trans hag.defers, (put_size _ _ _).trans hag.size, fun t ht => ?_, fun j hj hjl t e => ?_⟩
        (hB.trans hB') (fun j hj hjl hnb => ?_) (fun j hj hjl hfj => ?_) (fun j hj k hk hjk hjl hkl hfj hfk => ?_)
      · have hcnt : ∀ (L : List Nat), L.Nodup → i ∈ L → (L.filter fun k => !((l.setIfInBounds i true).getD k true)).length + 1 = (L.filter fun k => !(l.getD k true)).length := by
          intro L
          induction L with
          | nil => intro _ h; cases h
          | cons x L ihL =>
            intro hn hm
            have hn2 := List.nodup_cons.1 hn
            by_cases hx : x = i
            · subst hx
              have hrest : (L.filter fun k => !((l.setIfInBounds x true).getD k true)) = L.filter fun k => !(l.getD k true) :=
                List.filter_congr fun k hk => by rw [hget, if_neg (show ¬ k = x from fun e => hn2.1 (e ▸ hk))]
              rw [List.filter_cons, List.filter_cons, hget, if_pos rfl, hil, hrest]; simp
            · have hm2 : i ∈ L := (List.mem_cons.1 hm).resolve_left (Ne.symm hx)
              have := ihL hn2.2 hm2
              rw [List.filter_cons, List.filter_cons, hget, if_neg hx]
              cases l.getD x true
              · simp only [Bool.not_false, if_true, List.length_cons]; omega
              · exact this
        have := hcnt D hnd hiD
        omega
      · have hgf : ∀ k, (l.setIfInBounds i true).getD k false = if k = i then true else l.getD k false := by
          intro k
          by_cases hk : k = i
          · subst hk; rw [if_pos rfl]; simp [show k < l.size by omega]
          · rw [if_neg hk, getD_set_ne false (Ne.symm hk)]
        rw [hgf] at hkl ⊢
        by_cases hei : e.on = i
        · rw [if_pos hei]
        · rw [if_neg hei]
          by_cases hki : k = i
          · subst hki
            obtain rfl := Option.some.inj (ho.symm.trans hok)
            exact hdeps e he hb
          · rw [if_neg hki] at hkl
            exact hdown k ok hok hkl e he hb
      · rw [Array.getElem?_setIfInBounds_ne (show i ≠ k from fun e => hk (e ▸ hiD))]; exact hout k hk
      · have hti : dstOf ops i ≠ some t := ht i hiD (by rw [hget, if_pos rfl])
        rw [hdst, put_get _ _ _ _ hti]
        refine hag.out t fun j hj hjl => ht j hj ?_
        rw [hget]; split <;> simp_all
      · rw [hdst]
        by_cases hji : j = i
        · subst hji
          rw [hvi, e]
          exact put_own _ _ _ (by rw [hag.size]; exact hsize j hj t e)
        · have hjl2 : l.getD j true = true := by
            have := hjl
            simp only [hget, if_neg hji] at this; exact this
          rw [hvs j hjl2, put_get _ _ _ _ (fun e2 => by have := hdist j hj i hiD hji (e.trans e2.symm); rw [this] at e; cases e)]
          exact hag.own j hj hjl2 t e
      · by_cases hji : j = i
        · subst hji; rw [hvi]; exact hRv
        · have hjl2 : l.getD j true = true := by
            have := hjl
            simp only [hget, if_neg hji] at this; exact this
          rw [hvs j hjl2]
          have hnb2 : ∀ b ∈ D, br b j = true → b ≠ i ∧ l.getD b true = false := fun b hb hbj => by
            have := hnb b hb hbj
            rw [hget] at this
            by_cases hbi : b = i
            · rw [if_pos hbi] at this; cases this
            · rw [if_neg hbi] at this; exact ⟨hbi, this⟩
          refine hmono.get j hj _ _ _ _ hFr (fun x hx => ⟨hsp x hx, fun hfj e => ?_, ?_⟩) (hR j hj hjl2 fun b hb hbj => (hnb2 b hb hbj).2)
          · obtain ⟨d, hd, hbd, e2⟩ := hx
            by_cases hjd : j = d
            · subst hjd; exact (hnb2 i hiD hbd).1 rfl
            · exact hne j hj d (hjD d hd) hjd hjl2 (hdone d hd) hfj (hbrF i hiD d (hjD d hd) hbd).1 (e.trans e2.symm)
          · obtain ⟨d, hd, hbd, -⟩ := hx
            exact ⟨i, hiD, d, hjD d hd, hbd⟩
      · by_cases hji : j = i
        · subst hji; rw [hvi]
          obtain ⟨b, h1, h2, h3⟩ := hfv hfj
          exact ⟨b, h1, Nat.le_trans hB.size h2, h3⟩
        · have hjl2 : l.getD j true = true := by
            have := hjl
            simp only [hget, if_neg hji] at this; exact this
          rw [hvs j hjl2]
          obtain ⟨b, h1, h2, h3⟩ := hfr j hj hjl2 hfj
          exact ⟨b, h1, h2, Nat.lt_of_lt_of_le h3 hB'.size⟩
      · by_cases hji : j = i
        · subst hji
          have hki : k ≠ j := Ne.symm hjk
          have hkl2 : l.getD k true = true := by
            have := hkl
            simp only [hget, if_neg hki] at this; exact this
          rw [hvi, hvs k hkl2]
          obtain ⟨b, h1, h2, h3⟩ := hfv hfj
          obtain ⟨b', h1', h2', h3'⟩ := hfr k hk hkl2 hfk
          rw [h1, h1']
          intro e; have := Option.some.inj e; omega
        · have hjl2 : l.getD j true = true := by
            have := hjl
            simp only [hget, if_neg hji] at this; exact this
          by_cases hki : k = i
          · subst hki
            rw [hvi, hvs j hjl2]
            obtain ⟨b, h1, h2, h3⟩ := hfv hfk
            obtain ⟨b', h1', h2', h3'⟩ := hfr j hj hjl2 hfj
            rw [h1, h1']
            intro e; have := Option.some.inj e; omega
          · have hkl2 : l.getD k true = true := by
              have := hkl
              simp only [hget, if_neg hki] at this; exact this
            rw [hvs j hjl2, hvs k hkl2]
            exact hne j hj k hk hjk hjl2 hkl2 hfj hfk
/-- the same, where somebody says which slots are written and what each operation hangs on -/
theorem wpAnyN_dagB2 (D : List Nat) (dd : Nat → Option Tmp) (dl : Nat → List Nat) (R : Nat → Value → World → Prop) (fresh : Nat → Bool) (br : Nat → Nat → Bool) {f g : Nat} {l0 : Array Bool} {a0 : Act} {w0 : World} (hok : dagOKB md ops D fresh br l0 a0.tmps.size = true)
    (hdd : D.all (fun i => dstOf ops i == dd i && depsIn md ops D i == dl i) = true) (hf : f = D.length + g)
    (hmono : AllL D fun i => ∀ (T : Nat → Prop) v w w', Fr T w w' → (∀ b, T b → w0.heap.size ≤ b ∧ (fresh i = true → blkOf v ≠ some b) ∧ ∃ p ∈ D, ∃ q ∈ D, br p q = true) → R i v w → R i v w') (hS : ∀ w w', Below w0.heap.size w w' → S w → S w')
    (hstep : AllL D fun i => ∀ (vs : Nat → Value) (w : World), Below w0.heap.size w0 w → AllL (dl i) (fun j => R j (vs j) w) → (∀ j ∈ dl i, fresh j = true → ∃ b, blkOf (vs j) = some b ∧ w0.heap.size ≤ b ∧ b < w.heap.size) →
      ∀ o, ops[i]? = some o → vwp P ops o (putsD dd vs (dl i) a0) w fun v w' => Fr (Spoil br (dl i) i vs) w w' ∧ R i v w' ∧ (fresh i = true → ∃ b, blkOf v = some b ∧ w.heap.size ≤ b ∧ b < w'.heap.size))
    (hend : ∀ (vs : Nat → Value) (w : World), Below w0.heap.size w0 w → AllL D (fun j => D.any (fun i => br i j) = false → R j (vs j) w) →
      (∀ i ∈ D, ∀ j ∈ D, i ≠ j → fresh i = true → fresh j = true → blkOf (vs i) ≠ blkOf (vs j)) → (∀ i ∈ D, fresh i = true → ∃ b, blkOf (vs i) = some b ∧ w0.heap.size ≤ b ∧ b < w.heap.size) → wpAnyN P md ops Q S tail g (markAll l0 D) (putsD dd vs D a0) w) :
    wpAnyN P md ops Q S tail f l0 a0 w0 := by
  simp only [List.all_eq_true, Bool.and_eq_true, beq_iff_eq] at hdd
  refine wpAnyN_dagB D R fresh br hok hf hmono hS (AllL.mk fun i hi vs w hb hd hdf o ho => ?_) fun vs w hb hR h1 h2 => ?_
  · have e := (hdd i hi).2
    have h := hstep.get i hi vs w hb (by rw [← e]; exact hd) (by rw [← e]; exact hdf) o ho
    have e0 : puts ops vs (depsIn md ops D i) a0 = putsD dd vs (depsIn md ops D i) a0 := putsD_eq dd vs _ _ (fun j hj => (hdd j (List.mem_filter.1 hj).1).1)
    rw [e0, e]
    exact h
  · rw [putsD_eq dd vs _ _ (fun j hj => (hdd j hj).1)]
    exact hend vs w hb hR h1 h2
/-- where nothing that was made is written again -/
theorem wpAnyN_dag3 (D : List Nat) (dd : Nat → Option Tmp) (dl : Nat → List Nat) (R : Nat → Value → World → Prop) (fresh : Nat → Bool) {f g : Nat} {l0 : Array Bool} {a0 : Act} {w0 : World} (hok : dagOKB md ops D fresh (fun _ _ => false) l0 a0.tmps.size = true)
    (hdd : D.all (fun i => dstOf ops i == dd i && depsIn md ops D i == dl i) = true) (hf : f = D.length + g)
    (hmono : AllL D fun i => ∀ v w w', Below w.heap.size w w' → R i v w → R i v w') (hS : ∀ w w', Below w0.heap.size w w' → S w → S w')
    (hstep : AllL D fun i => ∀ (vs : Nat → Value) (w : World), Below w0.heap.size w0 w → AllL (dl i) (fun j => R j (vs j) w) →
      ∀ o, ops[i]? = some o → vwp P ops o (putsD dd vs (dl i) a0) w fun v w' => Below w.heap.size w w' ∧ R i v w' ∧ (fresh i = true → ∃ b, blkOf v = some b ∧ w.heap.size ≤ b ∧ b < w'.heap.size))
    (hend : ∀ (vs : Nat → Value) (w : World), Below w0.heap.size w0 w → AllL D (fun j => R j (vs j) w) →
      (∀ i ∈ D, ∀ j ∈ D, i ≠ j → fresh i = true → fresh j = true → blkOf (vs i) ≠ blkOf (vs j)) → (∀ i ∈ D, fresh i = true → ∃ b, blkOf (vs i) = some b ∧ w0.heap.size ≤ b ∧ b < w.heap.size) → wpAnyN P md ops Q S tail g (markAll l0 D) (putsD dd vs D a0) w) :
    wpAnyN P md ops Q S tail f l0 a0 w0 := by
  refine wpAnyN_dagB2 D dd dl R fresh (fun _ _ => false) hok hdd hf (AllL.mk fun i hi T v w w' hF hT h => hmono.get i hi v w w' (Fr.to_below (hF.mono fun x _ hx => by obtain ⟨-, -, _, -, _, -, e⟩ := hT x hx; exact absurd e Bool.false_ne_true)) h) hS
    (AllL.mk fun i hi vs w hb hd _ o ho => ?_) (fun vs w hb hR h1 h2 => hend vs w hb (AllL.mk fun j hj => hR.get j hj (by rw [List.any_eq_false]; intro _ _ h; cases h)) h1 h2)
  have := hstep.get i hi vs w hb hd o ho
  unfold vwp at this ⊢
  rcases this with ⟨hw, h⟩ | ⟨hw, h⟩
  · refine .inl ⟨hw, ?_⟩
    generalize (execOp (putsD dd vs (dl i) a0).eval o).run P w = r at h ⊢
    cases r with
    | ok n w' =>
      cases n with
      | value v => exact ⟨(Fr.of_below h.1).mono (fun _ _ hx => hx.elim), h.2⟩
      | enter f args =>
        refine Calls.mono h fun e w'' he => ?_
        obtain ⟨v, rfl, h1, h2⟩ := he
        exact ⟨v, rfl, (Fr.of_below h1).mono (fun _ _ hx => hx.elim), h2⟩
      | _ => exact h.elim
    | halt x w' => exact h.elim
  · exact .inr ⟨hw, (Fr.of_below h.1).mono (fun _ _ hx => hx.elim), h.2⟩
end
end Go.Proofs.YtahlllbigkgobaaDoor
