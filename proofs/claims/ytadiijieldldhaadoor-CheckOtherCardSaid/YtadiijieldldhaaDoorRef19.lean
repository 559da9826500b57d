/-
  The reference's check of a path (layer 19), and the statements' first fact.
-/
import Derived.Test.YtadiijieldldhaaDoorLeads
namespace Go.Proofs.YtadiijieldldhaaDoor
open Go Go.RowKit
attribute [local irreducible] sha
theorem run_leadsH {m n : Nat} (leaf : Hs) (p : List Hs) (h : m < n) : runP m (n - 1) leaf p = Tree.opt (leadsH m n leaf p) := by
  have := Tree.run_leads nodeH zeroH leaf p.reverse m n h
  rw [List.reverse_reverse] at this
  exact this
theorem checkP_leads {m n : Nat} (leaf : Hs) (p : List Hs) (root : Hs) (h : m < n) : checkP m n leaf p root = ((leadsH m n leaf p).2 && (leadsH m n leaf p).1.1 == root.1) := by
  unfold checkP
  rw [if_pos (by omega), Int.toNat_natCast, show ((n : Int) - 1).toNat = n - 1 by omega, run_leadsH leaf p h]
  unfold Tree.opt
  cases hq : (leadsH m n leaf p).2 with
  | false => simp
  | true =>
    rw [if_pos rfl, Bool.true_and, Bool.eq_iff_iff, decide_eq_true_eq, beq_iff_eq]
    exact ⟨fun e => by rw [Option.some.inj e], fun e => by rw [Subtype.ext e]⟩
theorem refleads_any (w : World) (m n : Nat) (leaf : Hs) (ao : Option Addr) (cp : Nat) (p : List Hs) (hB : Hts w ao p) (hc : p.length ≤ cp) (hm : cp ≤ maxLen) (hmn : m < n) (hn : n ≤ 9223372036854775807) :
    Calls Tryd.prog 29 #[.int .i64 m, .int .i64 n, hval leaf, .slice ao p.length cp] w fun e w' => e = .returned (.tuple #[hval (leadsH m n leaf p).1, .bool (leadsH m n leaf p).2]) ∧ Below w.heap.size w w' :=
  refleads_aux (p.length + 1) w m n leaf ao cp p (Nat.lt_succ_self _) hB hc hm hmn hn
set_option maxRecDepth 100000 in
set_option maxHeartbeats 4000000 in
theorem refcheck_any (w : World) (m n : Int) (hm0 : -9223372036854775808 ≤ m) (hm1 : m ≤ 9223372036854775807) (hn0 : -9223372036854775808 ≤ n) (hn1 : n ≤ 9223372036854775807) (leaf : Hs) (ao : Option Addr) (cp : Nat) (p : List Hs) (hB : Hts w ao p) (hc : p.length ≤ cp) (hm : cp ≤ maxLen) (root : Hs) :
    Calls Tryd.prog 15 #[.int .i64 m, .int .i64 n, hval leaf, .slice ao p.length cp, hval root] w fun e w' => e = .returned (.bool (checkP m n leaf p root)) ∧ Below w.heap.size w w' := by
  obtain ⟨z, hz⟩ : ∃ z, z = checkP m n leaf p root := ⟨_, rfl⟩
  rw [← hz]
  have HZ := Lib.hid hz
  clear hz
  obtain ⟨r, hr⟩ : ∃ r, r = w.heap.size := ⟨_, rfl⟩
  obtain ⟨w1, hw1⟩ : ∃ w1, w1 = (w.alloc (.cells (leaf.1.map b8).toArray 23)).alloc (.cells (root.1.map b8).toArray 23) := ⟨_, rfl⟩
  have F1 : Below r w w1 := by rw [hw1, hr]; exact below_alloc2 _ _ _
  have hL1 : Blk w1 r 23 (leaf.1.map b8).toArray := by rw [hw1, hr]; exact (Blk.new w _ _).alloc _
  have hR1 : Blk w1 (r + 1) 23 (root.1.map b8).toArray := by rw [hw1, hr]; exact Blk.new1 w _ _ _
  have HR := Lib.hid (And.intro hw1 hr)
  have hr0 : w.heap.size ≤ r := by omega
  have HR0 := Lib.hid hr0
  clear hw1 hr hr0
  have hll := leaf.2
  have hrl := root.2
  by_cases h0 : m < 0
  · have hd : decide (m < 0) = true := decide_eq_true h0
    have hzf : z = false := by rw [HZ.out]; unfold checkP; rw [if_neg (by omega)]
    rw [HR.out.2] at F1
    have HF := Lib.hid F1
    go_enter Tryd.func15, Tryd.ntmps15
    go_upto_region 1 with (fail)
    change Code.wp _ _ _ _ ((w.alloc (.cells (leaf.1.map b8).toArray 23)).alloc (.cells (root.1.map b8).toArray 23))
    rw [← HR.out.1]
    clear F1
    go_wp2
    go_ret
    exact ⟨by first | rfl | (rw [hzf]; rfl), HF.out⟩
  · have hd : decide (m < 0) = false := decide_eq_false h0
    by_cases h1 : n ≤ m
    · have hd1 : decide (n ≤ m) = true := decide_eq_true h1
      have hzf : z = false := by rw [HZ.out]; unfold checkP; rw [if_neg (by omega)]
      rw [HR.out.2] at F1
      have HF := Lib.hid F1
      go_enter Tryd.func15, Tryd.ntmps15
      go_upto_region 1 with (fail)
      change Code.wp _ _ _ _ ((w.alloc (.cells (leaf.1.map b8).toArray 23)).alloc (.cells (root.1.map b8).toArray 23))
      rw [← HR.out.1]
      clear F1
      go_wp2
      go_ret
      exact ⟨by first | rfl | (rw [hzf]; rfl), HF.out⟩
    · have hd1 : decide (n ≤ m) = false := decide_eq_false h1
      obtain ⟨M, rfl⟩ : ∃ M : Nat, m = M := ⟨m.toNat, by omega⟩
      obtain ⟨L, rfl⟩ : ∃ L : Nat, n = L := ⟨n.toNat, by omega⟩
      have hzz : z = ((leadsH M L leaf p).2 && (leadsH M L leaf p).1.1 == root.1) := by
        rw [HZ.out, checkP_leads leaf p root (by omega)]
      replace HZ := Lib.hid hzz
      clear hzz
      have c1 := refleads_any w1 M L leaf ao cp p (hB.below F1 HR0.out) hc hm (by omega) (by omega)
      obtain ⟨y, hy⟩ : ∃ y, y = (leadsH M L leaf p).1 := ⟨_, rfl⟩
      obtain ⟨o, ho⟩ : ∃ o, o = (leadsH M L leaf p).2 := ⟨_, rfl⟩
      rw [← hy, ← ho] at c1 HZ
      clear hy ho
      have hyl := y.2
      go_enter Tryd.func15, Tryd.ntmps15
      go_upto_region 1 with (fail)
      change Code.wp _ _ _ _ ((w.alloc (.cells (leaf.1.map b8).toArray 23)).alloc (.cells (root.1.map b8).toArray 23))
      rw [← HR.out.1, ← HR.out.2]
      replace HR := Lib.hid HR.out.2
      go_wp2_with (refine wpList_load_mid_blk rfl 23 (.tmp 7) rfl hL1 0 rfl (leaf.1.map b8) (fun j v hv => by rw [Nat.zero_add, List.getElem?_toArray]; exact hv) (.array 32 5) (by kernel_rfl) rfl 32 (by kernel_rfl) (by simp [hll]) ?_)
      refine c1.mono ?_
      rintro e w2 ⟨rfl, G2⟩
      have hR2 := hR1.below G2 hR1.lt
      have F2 := F1.trans (G2.mono (by have := hR1.lt; omega))
      clear c1 hL1 hR1 F1 G2
      clear w1
      go_wp2_with (refine wpList_store_blk rfl 23 _ _ rfl (Blk.new w2 zero32 23) (y.1.map b8).toArray rfl rfl 32 (by kernel_rfl) rfl (by simp [hyl]) (by rw [List.toList_toArray]; exact b8_one _) ?_)
      intro w3 hY3 hg3
      have hR3 := (hR2.alloc (.cells zero32 23)).grown hg3 (fun e => by have := Option.some.inj e; have := hR2.lt; omega)
      have hrr : r ≤ w2.heap.size := by have := hR2.lt; omega
      have F3 : Below r w w3 := below_upd (F2.alloc hrr (.cells zero32 23)) hg3 hrr (alloc_lt _ _)
      obtain ⟨b3, hb3⟩ : ∃ b3, b3 = w2.heap.size := ⟨_, rfl⟩
      rw [← hb3] at hY3 ⊢
      rw [HR.out] at F3
      have HF := Lib.hid F3
      clear hb3 hg3 hR2 F2 hrr F3
      clear w2
      cases o with
      | true =>
        have HQ := Lib.hid (show z = (y.1 == root.1) by rw [HZ.out, Bool.true_and])
        go_wp2_with (first | (refine wpList_load_blkW (by go_simp) 23 (.tmp 11) rfl hY3 rfl (y.1.map b8) rfl (.array 32 5) (by kernel_rfl) rfl 32 (by kernel_rfl) (by simp [hyl]) ?_) | (refine wpList_load_blkW (by go_simp) 23 (.tmp 9) rfl hR3 rfl (root.1.map b8) rfl (.array 32 5) (by kernel_rfl) rfl 32 (by kernel_rfl) (by simp [hrl]) ?_))
        go_ret
        exact ⟨by rw [HQ.out]; rfl, HF.out⟩
      | false =>
        have hzf : z = false := by rw [HZ.out, Bool.false_and]
        go_wp2
        go_ret
        exact ⟨by first | rfl | (rw [hzf]; rfl), HF.out⟩
def fiveH : Hs := ⟨5 :: List.replicate 31 0, by simp⟩
theorem check_five : checkP 0 1 fiveH [] fiveH = true := by
  unfold checkP
  rw [if_pos (by decide)]
  rfl
set_option maxRecDepth 100000 in
set_option maxHeartbeats 4000000 in
theorem awake19_any (w : World) (hL : Laid w) : Calls Tryd.prog 12 #[] w fun e w' => e = .returned (.bool true) ∧ Below w.heap.size w w' := by
  have c1 := check_any w hL 0 1 (by decide) (by decide) (by decide) (by decide) fiveH none 0 [] (Hts.nil _ _) (by decide) fiveH
  rw [check_five] at c1
  go_enter Tryd.func12, Tryd.ntmps12
  go_wp2_with fail
  refine c1.mono ?_
  rintro e w2 ⟨rfl, F2⟩
  clear c1
  go_wp2
  go_ret
  exact ⟨rfl, F2⟩
end Go.Proofs.YtadiijieldldhaaDoor
