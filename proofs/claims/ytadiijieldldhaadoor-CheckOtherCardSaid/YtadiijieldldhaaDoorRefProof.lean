/-
  The reference's check of a proof (layer 19).
-/
import Derived.Test.YtadiijieldldhaaDoorTwo19
import Derived.Test.YtadiijieldldhaaDoorProof
import Derived.Test.YtadiijieldldhaaDoorRef19
namespace Go.Proofs.YtadiijieldldhaaDoor
open Go Go.RowKit
attribute [local irreducible] sha
theorem proofL_two {m n : Nat} (old root : Hs) (p : List Hs) (h1 : 1 ≤ m) (h : m < n) : proofL (m - 1) (n - 1) old root (if m &&& (m - 1) = 0 then old :: p else p) = decide (Tree.opt (twoH m n true old p) = some (old, root)) := by
  by_cases hp : m &&& (m - 1) = 0
  · obtain ⟨i, rfl⟩ := (Tree.and_pred h1).2 hp
    rw [if_pos hp]
    have := Tree.run_two_pow nodeH old i p.reverse n (.inl h)
    rw [List.reverse_reverse] at this
    show decide (runQ _ _ old old p = some (old, root)) = _
    unfold runQ
    rw [this]
  · have hn : ¬ ∃ i, m = 2 ^ i := fun e => hp ((Tree.and_pred h1).1 e)
    rw [if_neg hp]
    unfold twoH
    rw [Tree.two_whole nodeH old p.reverse m n h1 h hn]
    cases p with
    | nil =>
      rw [List.reverse_nil, Tree.twoR, if_neg (by omega)]
      show false = decide (none = some (old, root))
      simp
    | cons x q =>
      have := Tree.run_two_not nodeH old x q.reverse m n h1 (.inl h)
      rw [List.reverse_reverse] at this
      rw [List.reverse_cons, ← this]
      rfl
theorem opt_two (y z : Hs) (o : Bool) (old root : Hs) : decide (Tree.opt ((y, z), o) = some (old, root)) = (o && (y.1 == old.1 && z.1 == root.1)) := by
  unfold Tree.opt
  cases o with
  | false => simp
  | true =>
    rw [if_pos rfl, Bool.true_and, Bool.eq_iff_iff, decide_eq_true_eq, Bool.and_eq_true, beq_iff_eq, beq_iff_eq]
    exact ⟨fun e => by have := Option.some.inj e; injection this with e1 e2; exact ⟨by rw [e1], by rw [e2]⟩, fun e => by rw [Subtype.ext e.1, Subtype.ext e.2]⟩
theorem proofP_two {m n : Nat} (old root : Hs) (p : List Hs) (h1 : 1 ≤ m) (h : m ≤ n) : proofP m n old p root = ((twoH m n true old p).2 && ((twoH m n true old p).1.1.1 == old.1 && (twoH m n true old p).1.2.1 == root.1)) := by
  unfold proofP
  rw [if_pos (by omega), Int.toNat_natCast, Int.toNat_natCast]
  by_cases he : m = n
  · subst he
    rw [if_pos rfl, twoH_whole]
    simp
  · rw [if_neg (by omega), proofL_two old root p h1 (by omega)]
    exact opt_two _ _ _ _ _
theorem reftwo_any (w : World) (m n : Nat) (whole : Bool) (old : Hs) (ao : Option Addr) (cp : Nat) (p : List Hs) (hB : Hts w ao p) (hc : p.length ≤ cp) (hm : cp ≤ maxLen) (hm1 : 1 ≤ m) (hmn : m ≤ n) (hn : n ≤ 9223372036854775807) :
    Calls Tryd.prog 28 #[.int .i64 m, .int .i64 n, .bool whole, hval old, .slice ao p.length cp] w fun e w' => e = .returned (.tuple #[hval (twoH m n whole old p).1.1, hval (twoH m n whole old p).1.2, .bool (twoH m n whole old p).2]) ∧ Below w.heap.size w w' :=
  reftwo_aux (p.length + 1) w m n whole old ao cp p (Nat.lt_succ_self _) hB hc hm hm1 hmn hn
set_option maxRecDepth 100000 in
set_option maxHeartbeats 4000000 in
theorem refproof_any (w : World) (m n : Int) (hm0 : -9223372036854775808 ≤ m) (hm1 : m ≤ 9223372036854775807) (hn0 : -9223372036854775808 ≤ n) (hn1 : n ≤ 9223372036854775807) (leaf : Hs) (ao : Option Addr) (cp : Nat) (p : List Hs) (hB : Hts w ao p) (hc : p.length ≤ cp) (hm : cp ≤ maxLen) (root : Hs) :
    Calls Tryd.prog 24 #[.int .i64 m, .int .i64 n, hval leaf, .slice ao p.length cp, hval root] w fun e w' => e = .returned (.bool (proofP m n leaf p root)) ∧ Below w.heap.size w w' := by
  obtain ⟨z, hz⟩ : ∃ z, z = proofP m n leaf p root := ⟨_, rfl⟩
  rw [← hz]
  have HZ := Lib.hid hz
  clear hz
  obtain ⟨r, hr⟩ : ∃ r, r = w.heap.size := ⟨_, rfl⟩
  obtain ⟨w1, hw1⟩ : ∃ w1, w1 = (w.alloc (.cells (leaf.1.map b8).toArray 23)).alloc (.cells (root.1.map b8).toArray 23) := ⟨_, rfl⟩
  have F1 : Below r w w1 := by rw [hw1, hr]; exact below_alloc2 _ _ _
  have hL1 : Blk w1 r 23 (leaf.1.map b8).toArray := by rw [hw1, hr]; exact (Blk.new w _ _).alloc _
  have hR1 : Blk w1 (r + 1) 23 (root.1.map b8).toArray := by rw [hw1, hr]; exact Blk.new1 w _ _ _
  have HR := Lib.hid (And.intro hw1 hr)
  have hr0 : w.heap.size ≤ r := by omega
  have HR0 := Lib.hid hr0
  clear hw1 hr hr0
  have hll := leaf.2
  have hrl := root.2
  by_cases h0 : m < 1
  · have hd : decide (m < 1) = true := decide_eq_true h0
    have hzf : z = false := by rw [HZ.out]; unfold proofP; rw [if_neg (by omega)]
    rw [HR.out.2] at F1
    have HF := Lib.hid F1
    go_enter Tryd.func24, Tryd.ntmps24
    go_upto_region 1 with (fail)
    change Code.wp _ _ _ _ ((w.alloc (.cells (leaf.1.map b8).toArray 23)).alloc (.cells (root.1.map b8).toArray 23))
    rw [← HR.out.1]
    clear F1
    go_wp2
    go_ret
    exact ⟨by first | rfl | (rw [hzf]; rfl), HF.out⟩
  · have hd : decide (m < 1) = false := decide_eq_false h0
    by_cases h1 : n < m
    · have hd1 : decide (n < m) = true := decide_eq_true h1
      have hzf : z = false := by rw [HZ.out]; unfold proofP; rw [if_neg (by omega)]
      rw [HR.out.2] at F1
      have HF := Lib.hid F1
      go_enter Tryd.func24, Tryd.ntmps24
      go_upto_region 1 with (fail)
      change Code.wp _ _ _ _ ((w.alloc (.cells (leaf.1.map b8).toArray 23)).alloc (.cells (root.1.map b8).toArray 23))
      rw [← HR.out.1]
      clear F1
      go_wp2
      go_ret
      exact ⟨by first | rfl | (rw [hzf]; rfl), HF.out⟩
    · have hd1 : decide (n < m) = false := decide_eq_false h1
      have c1 := reftwo_any w1 m.toNat n.toNat true leaf ao cp p (hB.below F1 HR0.out) hc hm (by omega) (by omega) (by omega)
      have hzz : z = ((twoH m.toNat n.toNat true leaf p).2 && ((twoH m.toNat n.toNat true leaf p).1.1.1 == leaf.1 && (twoH m.toNat n.toNat true leaf p).1.2.1 == root.1)) := by
        rw [HZ.out, ← proofP_two leaf root p (by omega) (by omega), Int.toNat_of_nonneg (show 0 ≤ m by omega), Int.toNat_of_nonneg (show 0 ≤ n by omega)]
      replace HZ := Lib.hid hzz
      clear hzz
      rw [Int.toNat_of_nonneg (show 0 ≤ m by omega), Int.toNat_of_nonneg (show 0 ≤ n by omega)] at c1
      obtain ⟨y, hy⟩ : ∃ y, y = (twoH m.toNat n.toNat true leaf p).1.1 := ⟨_, rfl⟩
      obtain ⟨u, hu⟩ : ∃ u, u = (twoH m.toNat n.toNat true leaf p).1.2 := ⟨_, rfl⟩
      obtain ⟨o, ho⟩ : ∃ o, o = (twoH m.toNat n.toNat true leaf p).2 := ⟨_, rfl⟩
      rw [← hy, ← hu, ← ho] at c1 HZ
      clear hy ho hu
      have hyl := y.2
      have hul := u.2
      go_enter Tryd.func24, Tryd.ntmps24
      go_upto_region 1 with (fail)
      change Code.wp _ _ _ _ ((w.alloc (.cells (leaf.1.map b8).toArray 23)).alloc (.cells (root.1.map b8).toArray 23))
      rw [← HR.out.1, ← HR.out.2]
      replace HR := Lib.hid HR.out.2
      go_wp2_with (refine wpList_load_mid_blk rfl 23 (.tmp 7) rfl hL1 0 rfl (leaf.1.map b8) (fun j v hv => by rw [Nat.zero_add, List.getElem?_toArray]; exact hv) (.array 32 5) (by kernel_rfl) rfl 32 (by kernel_rfl) (by simp [hll]) ?_)
      refine c1.mono ?_
      rintro e w2 ⟨rfl, G2⟩
      have hR2 := hR1.below G2 hR1.lt
      have hL2 := hL1.below G2 hL1.lt
      have F2 := F1.trans (G2.mono (by have := hR1.lt; omega))
      clear c1 hL1 hR1 F1 G2
      clear w1
      obtain ⟨w3, hw3⟩ : ∃ w3, w3 = (w2.alloc (.cells zero32 23)).alloc (.cells zero32 23) := ⟨_, rfl⟩
      obtain ⟨b3, hb3⟩ : ∃ b3, b3 = w2.heap.size := ⟨_, rfl⟩
      have hr3 : r + 2 ≤ b3 := by have := hR2.lt; omega
      have hY3 : Blk w3 b3 23 zero32 := by rw [hw3, hb3]; exact (Blk.new w2 _ _).alloc _
      have hU3 : Blk w3 (b3 + 1) 23 zero32 := by rw [hw3, hb3]; exact Blk.new1 w2 _ _ _
      have hL3 : Blk w3 r 23 (leaf.1.map b8).toArray := by rw [hw3]; exact (hL2.alloc _).alloc _
      have hR3 : Blk w3 (r + 1) 23 (root.1.map b8).toArray := by rw [hw3]; exact (hR2.alloc _).alloc _
      have F3 : Below r w w3 := by rw [hw3]; exact (F2.alloc (by omega) _).alloc (by rw [alloc_size]; omega) _
      rw [hw3, hb3] at hY3
      clear hR2 hL2 F2
      go_wp2_with (refine wpList_store_blk rfl 23 _ _ rfl hY3 (y.1.map b8).toArray rfl rfl 32 (by kernel_rfl) rfl (by simp [hyl]) (by rw [List.toList_toArray]; exact b8_one _) ?_)
      intro w4 hY4 hg4
      rw [← hw3] at hg4
      rw [← hb3] at hY4 hg4 ⊢
      have hU4 := hU3.grown hg4 (fun e => by have := Option.some.inj e; omega)
      have hL4 := hL3.grown hg4 (fun e => by have := Option.some.inj e; omega)
      have hR4 := hR3.grown hg4 (fun e => by have := Option.some.inj e; omega)
      have F4 : Below r w w4 := below_upd F3 hg4 (by omega) (by have := hU3.lt; omega)
      clear hg4 hU3 hL3 hR3 F3 hY3 hw3 hb3
      clear w3
      clear w2
      go_wp2_with (refine wpList_store_blk rfl 23 _ _ rfl hU4 (u.1.map b8).toArray rfl rfl 32 (by kernel_rfl) rfl (by simp [hul]) (by rw [List.toList_toArray]; exact b8_one _) ?_)
      intro w5 hU5 hg5
      have hY5 := hY4.grown hg5 (fun e => by have := Option.some.inj e; omega)
      have hL5 := hL4.grown hg5 (fun e => by have := Option.some.inj e; omega)
      have hR5 := hR4.grown hg5 (fun e => by have := Option.some.inj e; omega)
      have F5 : Below r w w5 := below_upd F4 hg5 (by omega) hU4.lt
      rw [HR.out] at F5
      have HF := Lib.hid F5
      clear hg5 hU4 hY4 hL4 hR4 F4 F5
      clear w4
      cases o with
      | true =>
        cases hqq : (y.1 == leaf.1) with
        | false =>
          have hzf : z = false := by rw [HZ.out, hqq]; rfl
          go_wp2_with (first | (refine wpList_load_blkW (by go_simp) 23 (.tmp 11) rfl hY5 rfl (y.1.map b8) rfl (.array 32 5) (by kernel_rfl) rfl 32 (by kernel_rfl) (by simp [hyl]) ?_) | (refine wpList_load_blkW (by go_simp) 23 (.tmp 7) rfl hL5 rfl (leaf.1.map b8) rfl (.array 32 5) (by kernel_rfl) rfl 32 (by kernel_rfl) (by simp [hll]) ?_))
          go_ret
          exact ⟨by first | rfl | (rw [hzf]; rfl), HF.out⟩
        | true =>
          have HQ := Lib.hid (show z = (u.1 == root.1) by rw [HZ.out, hqq]; rfl)
          go_wp2_with (first | (refine wpList_load_blkW (by go_simp) 23 (.tmp 11) rfl hY5 rfl (y.1.map b8) rfl (.array 32 5) (by kernel_rfl) rfl 32 (by kernel_rfl) (by simp [hyl]) ?_) | (refine wpList_load_blkW (by go_simp) 23 (.tmp 7) rfl hL5 rfl (leaf.1.map b8) rfl (.array 32 5) (by kernel_rfl) rfl 32 (by kernel_rfl) (by simp [hll]) ?_) | (refine wpList_load_blkW (by go_simp) 23 (.tmp 12) rfl hU5 rfl (u.1.map b8) rfl (.array 32 5) (by kernel_rfl) rfl 32 (by kernel_rfl) (by simp [hul]) ?_) | (refine wpList_load_blkW (by go_simp) 23 (.tmp 9) rfl hR5 rfl (root.1.map b8) rfl (.array 32 5) (by kernel_rfl) rfl 32 (by kernel_rfl) (by simp [hrl]) ?_))
          go_ret
          exact ⟨by rw [HQ.out]; rfl, HF.out⟩
      | false =>
        have hzf : z = false := by rw [HZ.out, Bool.false_and]
        go_wp2
        go_ret
        exact ⟨by first | rfl | (rw [hzf]; rfl), HF.out⟩
end Go.Proofs.YtadiijieldldhaaDoor
