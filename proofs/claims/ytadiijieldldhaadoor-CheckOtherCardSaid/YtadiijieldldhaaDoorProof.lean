/-
  A proof of first ones is checked: check.Proof.
-/
import Derived.Test.YtadiijieldldhaaDoorLeads
import Derived.Test.YtadiijieldldhaaDoorRegT
import Derived.Test.YtadiijieldldhaaDoorConcatH
namespace Go.Proofs.YtadiijieldldhaaDoor
open Go Go.RowKit
attribute [local irreducible] sha
def runQ (a l : Nat) (f s : Hs) (p : List Hs) : Option (Hs × Hs) := Tree.run (Tree.fL2 nodeH) (Tree.fR2 nodeH) a l (f, s) p
theorem runQ_nil (a l : Nat) (f s : Hs) : runQ a l f s [] = if l = 0 then some (f, s) else none := rfl
theorem runQ_zero (a : Nat) (f s x : Hs) (p : List Hs) : runQ a 0 f s (x :: p) = none := Tree.run_zero _ _
theorem runQ_left {a l : Nat} {f s x : Hs} {p : List Hs} (hl : l ≠ 0) (hc : a % 2 = 1 ∨ a = l) : runQ a l f s (x :: p) = runQ ((Tree.ends a l).1 / 2) ((Tree.ends a l).2 / 2) (nodeH x f) (nodeH x s) p := Tree.run_left _ _ hl hc
theorem runQ_right {a l : Nat} {f s x : Hs} {p : List Hs} (hl : l ≠ 0) (hc : ¬ (a % 2 = 1 ∨ a = l)) : runQ a l f s (x :: p) = runQ (a / 2) (l / 2) f (nodeH s x) p := Tree.run_right _ _ hl hc
/-- what a list of hashes proves, of the places A and L -/
def proofL (A L : Nat) (old root : Hs) : List Hs → Bool
  | [] => false
  | x :: q => decide (runQ (Tree.norm A L).1 (Tree.norm A L).2 x x q = some (old, root))
def proofP (m n : Int) (old : Hs) (p : List Hs) (root : Hs) : Bool :=
  if 1 ≤ m ∧ m ≤ n then
    if m = n then decide (p.length = 0) && old.1 == root.1
    else proofL (m.toNat - 1) (n.toNat - 1) old root (if m.toNat &&& (m.toNat - 1) = 0 then old :: p else p)
  else false
theorem hash_lt {w : World} {g o : Nat} (x : Hs) (h : w.rangeAt g o (x.1.map b8)) : g < w.heap.size := by
  have hx := x.2
  have h0 := h 0 ((x.1.map b8)[0]'(by rw [List.length_map]; omega)) (List.getElem?_eq_getElem _)
  exact World.block_lt_of_cell? w _ h0
theorem hash_below {w w' : World} {g o : Nat} (x : Hs) (h : w.rangeAt g o (x.1.map b8)) (hb : Below w.heap.size w w') : w'.rangeAt g o (x.1.map b8) := range_below h hb (hash_lt x h)
theorem bits_and_nat (a b : Nat) (ha : a < 9223372036854775808) (hb : b < 9223372036854775808) : bits .and .i64 (a : Int) (b : Int) = ((a &&& b : Nat) : Int) := by
  have hx : a &&& b < 2 ^ 63 := Nat.and_lt_two_pow _ (by omega)
  have h1 : (BitVec.ofInt 64 (a : Int)).toNat = a := by
    rw [BitVec.ofInt_natCast, BitVec.toNat_ofNat]; exact Nat.mod_eq_of_lt (by omega)
  have h2 : (BitVec.ofInt 64 (b : Int)).toNat = b := by
    rw [BitVec.ofInt_natCast, BitVec.toNat_ofNat]; exact Nat.mod_eq_of_lt (by omega)
  show IntKind.i64.wrap ((BitVec.ofInt 64 (a : Int) &&& BitVec.ofInt 64 (b : Int)).toNat : Int) = _
  rw [BitVec.toNat_and, h1, h2]
  exact IntWalk.i64_in _ (by omega)
set_option maxRecDepth 100000 in
set_option maxHeartbeats 8000000 in
theorem proof_any (w : World) (hL : Laid w) (m n : Int) (hm0 : -9223372036854775808 ≤ m) (hm1 : m ≤ 9223372036854775807) (hn0 : -9223372036854775808 ≤ n) (hn1 : n ≤ 9223372036854775807) (old : Hs) (ao : Option Addr) (cp : Nat) (p : List Hs) (hB : Hts w ao p) (hc : p.length ≤ cp) (hm : cp ≤ maxLen) (hbig : p.length ≤ 1000000) (root : Hs) :
    Calls Tryd.prog 23 #[.int .i64 m, .int .i64 n, hval old, .slice ao p.length cp, hval root] w fun e w' => e = .returned (.bool (proofP m n old p root)) ∧ Below w.heap.size w w' := by
  obtain ⟨z, hz⟩ : ∃ z, z = proofP m n old p root := ⟨_, rfl⟩
  rw [← hz]
  have HZ := Lib.hid hz
  clear hz
  obtain ⟨fs, hfs⟩ := placeU
  obtain ⟨r, hr⟩ : ∃ r, r = w.heap.size := ⟨_, rfl⟩
  obtain ⟨w1, hw1⟩ : ∃ w1, w1 = (w.alloc (.cells (old.1.map b8).toArray 23)).alloc (.cells (root.1.map b8).toArray 23) := ⟨_, rfl⟩
  have F1 : Below r w w1 := by rw [hw1, hr]; exact below_alloc2 _ _ _
  have hL1 : Blk w1 r 23 (old.1.map b8).toArray := by rw [hw1, hr]; exact (Blk.new w _ _).alloc _
  have hR1 : Blk w1 (r + 1) 23 (root.1.map b8).toArray := by rw [hw1, hr]; exact Blk.new1 w _ _ _
  have HR := Lib.hid (And.intro hw1 hr)
  have hr0 : w.heap.size ≤ r := by omega
  have HR0 := Lib.hid hr0
  clear hw1 hr hr0
  have hll := old.2
  have hrl := root.2
  by_cases h0 : m < 1
  · have hd : decide (m < 1) = true := decide_eq_true h0
    have hzf : z = false := by rw [HZ.out]; unfold proofP; rw [if_neg (by omega)]
    rw [HR.out.2] at F1
    have HF := Lib.hid F1
    go_enter Tryd.func23, Tryd.ntmps23
    go_upto_region 1 with (fail)
    change Code.wp _ _ _ _ ((w.alloc (.cells (old.1.map b8).toArray 23)).alloc (.cells (root.1.map b8).toArray 23))
    rw [← HR.out.1]
    try rw [← HR.out.2]
    clear F1
    go_wp2
    go_ret
    exact ⟨by first | rfl | (rw [hzf]; rfl), HF.out⟩
  · have hd : decide (m < 1) = false := decide_eq_false h0
    by_cases h1 : n < m
    · have hd1 : decide (n < m) = true := decide_eq_true h1
      have hzf : z = false := by rw [HZ.out]; unfold proofP; rw [if_neg (by omega)]
      rw [HR.out.2] at F1
      have HF := Lib.hid F1
      go_enter Tryd.func23, Tryd.ntmps23
      go_upto_region 1 with (fail)
      change Code.wp _ _ _ _ ((w.alloc (.cells (old.1.map b8).toArray 23)).alloc (.cells (root.1.map b8).toArray 23))
      rw [← HR.out.1]
      try rw [← HR.out.2]
      clear F1
      go_wp2
      go_ret
      exact ⟨by first | rfl | (rw [hzf]; rfl), HF.out⟩
    · have hd1 : decide (n < m) = false := decide_eq_false h1
      by_cases h2 : m = n
      · have hd2 : (m == n) = true := by rw [beq_iff_eq]; exact h2
        have hzz : z = (decide (p.length = 0) && old.1 == root.1) := by rw [HZ.out]; unfold proofP; rw [if_pos (by omega), if_pos h2]
        rw [HR.out.2] at F1
        have HF := Lib.hid F1
        by_cases h3 : p.length = 0
        · have hd3 : ((p.length : Int) == 0) = true := by rw [h3]; rfl
          have HQ := Lib.hid (show z = (old.1 == root.1) by rw [hzz, decide_eq_true h3, Bool.true_and])
          clear hzz h3
          go_enter Tryd.func23, Tryd.ntmps23
          go_upto_region 1 with (fail)
          change Code.wp _ _ _ _ ((w.alloc (.cells (old.1.map b8).toArray 23)).alloc (.cells (root.1.map b8).toArray 23))
          rw [← HR.out.1]
          try rw [← HR.out.2]
          clear F1
          go_wp2_with (first | (refine wpList_load_blkW (by go_simp) 23 (.tmp 7) rfl hL1 rfl (old.1.map b8) rfl (.array 32 5) (by kernel_rfl) rfl 32 (by kernel_rfl) (by simp [hll]) ?_) | (refine wpList_load_blkW (by go_simp) 23 (.tmp 9) rfl hR1 rfl (root.1.map b8) rfl (.array 32 5) (by kernel_rfl) rfl 32 (by kernel_rfl) (by simp [hrl]) ?_))
          go_ret
          exact ⟨by rw [HQ.out]; rfl, HF.out⟩
        · have hd3 : ((p.length : Int) == 0) = false := by rw [beq_eq_false_iff_ne]; omega
          have hzf : z = false := by rw [hzz, decide_eq_false h3, Bool.false_and]
          clear hzz h3
          go_enter Tryd.func23, Tryd.ntmps23
          go_upto_region 1 with (fail)
          change Code.wp _ _ _ _ ((w.alloc (.cells (old.1.map b8).toArray 23)).alloc (.cells (root.1.map b8).toArray 23))
          rw [← HR.out.1]
          try rw [← HR.out.2]
          clear F1
          go_wp2
          go_ret
          exact ⟨by first | rfl | (rw [hzf]; rfl), HF.out⟩
      · have hd2 : (m == n) = false := by rw [beq_eq_false_iff_ne]; exact h2
        obtain ⟨M, rfl⟩ : ∃ M : Nat, m = M := ⟨m.toNat, by omega⟩
        obtain ⟨N, rfl⟩ : ∃ N : Nat, n = N := ⟨n.toNat, by omega⟩
        obtain ⟨A, hA⟩ : ∃ A, A = M - 1 := ⟨_, rfl⟩
        obtain ⟨L, hLn⟩ : ∃ L, L = N - 1 := ⟨_, rfl⟩
        have q1 : IntKind.i64.wrap ((M : Int) - 1) = (A : Int) := by rw [show (M : Int) - 1 = (A : Int) by omega]; exact IntWalk.i64_in _ (by omega)
        have q2 : IntKind.i64.wrap ((N : Int) - 1) = (L : Int) := by rw [show (N : Int) - 1 = (L : Int) by omega]; exact IntWalk.i64_in _ (by omega)
        have eAnd : bits .and .i64 (M : Int) (A : Int) = ((M &&& A : Nat) : Int) := bits_and_nat M A (by omega) (by omega)
        have hzz : z = proofL A L old root (if M &&& A = 0 then old :: p else p) := by
          rw [HZ.out]; unfold proofP; rw [if_pos (by omega), if_neg h2, Int.toNat_natCast, Int.toNat_natCast, ← hA, ← hLn]
        obtain ⟨k, hk⟩ : ∃ k, k = M &&& A := ⟨_, rfl⟩
        rw [← hk] at eAnd hzz
        have hAb : A ≤ 9223372036854775807 := by omega
        have hLb : L ≤ 9223372036854775807 := by omega
        clear hk hA hLn
        by_cases h3 : k = 0
        · have hd3 : ((k : Int) == 0) = true := by rw [h3]; rfl
          rw [if_pos h3] at hzz
          replace HZ := Lib.hid hzz
          clear hzz h3
          go_enter Tryd.func23, Tryd.ntmps23
          go_upto_region 1 with (fail)
          change Code.wp _ _ _ _ ((w.alloc (.cells (old.1.map b8).toArray 23)).alloc (.cells (root.1.map b8).toArray 23))
          rw [← HR.out.1]
          try rw [← HR.out.2]
          replace HR := Lib.hid HR.out.2
          go_wp2_with (first | (refine wpList_load_mid_blk rfl 23 (.tmp 7) rfl hL1 0 rfl (old.1.map b8) (fun j v hv => by rw [Nat.zero_add, List.getElem?_toArray]; exact hv) (.array 32 5) (by kernel_rfl) rfl 32 (by kernel_rfl) (by simp [hll]) ?_) | (refine wpList_build_one rfl old.1 hll _ rfl rfl ?_))
          obtain ⟨w2, hw2⟩ : ∃ w2, w2 = (w1.alloc (.cells (old.1.map b8).toArray 23)).alloc (.cells #[.slice (some ⟨w1.heap.size, 0, none⟩) 1 1, .slice ao p.length cp] 24) := ⟨_, rfl⟩
          have hB1 := hB.below F1 HR0.out
          have hPart : PartsH w2 (some ⟨w1.heap.size + 1, 0, none⟩) [(some ⟨w1.heap.size, 0, none⟩, 1, [old]), (ao, cp, p)] := by
            refine ⟨.inr ⟨_, 0, rfl, fun i hi => ?_⟩, fun q hq => ?_⟩
            · have hk2 : Blk w2 (w1.heap.size + 1) 24 #[.slice (some ⟨w1.heap.size, 0, none⟩) 1 1, .slice ao p.length cp] := by rw [hw2]; exact Blk.new1 w1 _ _ _
              match i, hi with
              | 0, _ => exact hk2.cell 0
              | 1, _ => exact hk2.cell 1
            · simp at hq
              rcases hq with rfl | rfl
              · have hk1 : Blk w2 w1.heap.size 23 (old.1.map b8).toArray := by rw [hw2]; exact (Blk.new w1 _ _).alloc _
                rw [← flat_one old] at hk1
                exact hk1.bts
              · rw [hw2]; exact hB1.below (below_alloc2 w1 _ _) (Nat.le_refl _)
          have hcat : catH [(some ⟨w1.heap.size, 0, none⟩, 1, [old]), (ao, cp, p)] = old :: p := by simp [catH]
          have cc := concatH_any (some ⟨w1.heap.size + 1, 0, none⟩) 2 [(some ⟨w1.heap.size, 0, none⟩, 1, [old]), (ao, cp, p)] w2 hPart (by rw [hcat, List.length_cons]; omega) (by simp)
          rw [hcat] at cc
          have hLa : Blk w2 r 23 (old.1.map b8).toArray := by rw [hw2]; exact (hL1.alloc _).alloc _
          have hRa : Blk w2 (r + 1) 23 (root.1.map b8).toArray := by rw [hw2]; exact (hR1.alloc _).alloc _
          have hr1 : r ≤ w1.heap.size := Nat.le_of_lt hL1.lt
          have Fa : Below r w w2 := by rw [hw2]; exact (F1.alloc hr1 _).alloc (by rw [alloc_size]; omega) _
          go_wp2_with fail
          rw [← hw2]
          refine cc.mono ?_
          rintro e wq ⟨v, rfl, O⟩
          have hL1' := hLa.below O.bel hLa.lt
          have hR1' := hRa.below O.bel hRa.lt
          have FQ0 := Fa.trans (O.bel.mono (Nat.le_of_lt hLa.lt))
          obtain ⟨ax, cx, rfl, -, hXc, hXm, hX⟩ := O.row.hts
          obtain ⟨ps, hps⟩ : ∃ ps, ps = old :: p := ⟨_, rfl⟩
          have hXl : (old :: p).length ≤ 1000001 := by rw [List.length_cons]; omega
          rw [← hps] at HZ hXc hXl hX ⊢
          have hNM : ¬ N < M := by omega
          have hNE : ¬ M = N := by omega
          have hM0 : ¬ M = 0 := by omega
          clear F1 hB hc hm hbig h0 h1 h2 cc hcat hPart hB1 hLa hRa hr1 Fa O hw2 hL1 hR1 hps
          obtain ⟨s1, hs1⟩ : ∃ s1, s1 = w1.heap.size := ⟨_, rfl⟩
          rw [← hs1]
          clear hs1
          clear w2
          clear w1
          have hL1 := hL1'
          have hR1 := hR1'
          clear hL1' hR1'
          obtain ⟨rq, hrq⟩ : ∃ rq, rq = wq.heap.size := ⟨_, rfl⟩
          have hrq2 : r + 2 ≤ rq := by rw [hrq]; exact hR1.lt
          have FQ := Lib.hid (And.intro FQ0 (And.intro hrq hrq2))
          obtain ⟨i0, hi, hz0, hz1, hz2⟩ := info_parts infoHs
          rcases ps with _ | ⟨x, q⟩
          · have hd1 : (((([] : List Hs).length : Nat) : Int) == 0) = true := rfl
            have hzf : z = false := HZ.out
            have HF := Lib.hid (show Below w.heap.size w wq by rw [← HR.out]; exact FQ0)
            clear FQ0 hrq hrq2
            go_wp2
            go_ret
            exact ⟨by first | rfl | (rw [hzf]; rfl), HF.out⟩
          · have hlc : (x :: q).length = q.length + 1 := rfl
            have hzz : z = decide (runQ (Tree.norm A L).1 (Tree.norm A L).2 x x q = some (old, root)) := HZ.out
            replace HZ := Lib.hid hzz
            clear hzz
            rw [hlc] at hXc hXl ⊢
            have hd1 : (((q.length + 1 : Nat) : Int) == 0) = false := by rw [beq_eq_false_iff_ne]; omega
            have hd1' : ((q.length : Int) + 1 == 0) = false := by rw [beq_eq_false_iff_ne]; omega
            have hm0 : cx ≤ 9223372036854775807 := hXm
            obtain ⟨g, off, e0, hg, hrg⟩ := hX.place (by simp)
            subst e0
            have hy0 := hrg 0 (by simp)
            rw [Nat.zero_mul, Nat.add_zero, List.getElem_cons_zero] at hy0
            obtain ⟨a7, hs7, ht7⟩ := run_from_hts (P := Tryd.prog) (t := 24) (by kernel_rfl) hi hz1 (some ⟨g, off, none⟩) (q.length + 1) cx 1 (by omega) (by omega)
            have hQ := ht7 wq (x :: q) rfl hX
            replace hs7 : ∀ W : World, (Instr.slice 24 (.slice (some ⟨g, off, none⟩) (q.length + 1) cx) (some (.int .i64 1)) none none).run Tryd.prog W = .ok (.slice a7 q.length (cx - 1)) W := hs7
            replace hQ : Hts wq a7 q := hQ
            have HQ := Lib.hid hQ
            have hy : wq.rangeAt g off (x.1.map b8) := hy0
            have HY := Lib.hid (And.intro hy hg)
            have hxl := x.2
            have hLL := hL1
            have hRR := hR1
            clear hQ hy hy0 hg hrg ht7 hX FQ0
            go_wp2_with (refine wpList_store_blk rfl 54 _ _ rfl (Blk.new wq zeroP 54) (plc A L) rfl rfl 2 (by kernel_rfl) rfl rfl (plc_one _ _) ?_)
            intro w3 hP3 hg3
            have F3 : Below rq wq w3 := by rw [hrq]; exact below_upd ((Below.refl _ _).alloc (Nat.le_refl _) _) hg3 (Nat.le_refl _) (alloc_lt _ _)
            rw [← hrq] at hP3 ⊢
            clear hg3 hrq
            obtain ⟨E, hE⟩ : ∃ E, E = Tree.norm A L := ⟨_, rfl⟩
            rw [← hE] at HZ
            have HE0 := Lib.hid hE
            clear hE
            go_wp2
            go_loopg [52] A (fun g _ wr => ∃ (a l : Nat), a ≤ 9223372036854775807 ∧ l ≤ 9223372036854775807 ∧ g = a ∧ E = Tree.norm a l ∧ Blk wr rq 54 (plc a l) ∧ Below rq wq wr)
            case atStart => exact ⟨A, L, by omega, by omega, rfl, HE0.out, hP3, F3⟩
            case round =>
              clear hP3 F3 HE0
              obtain ⟨a, l, ha, hl, hga, hE, hP, F⟩ := hrel
              have c0 : wr.cell? ⟨rq, 0, none⟩ = some (.int .i64 a) := hP.cell 0
              by_cases h1 : a % 2 = 1
              · have d1 : (((a : Int) % 2) == 1) = true := by rw [beq_iff_eq]; omega
                have hE2 : E = Tree.norm (a / 2) (l / 2) := by rw [hE]; exact Tree.norm_odd h1
                have cu := up_any wr a l ha hl
                rw [show pl a l = .agg (plc a l) from rfl, show pl (a / 2) (l / 2) = .agg (plc ((a / 2 : Nat) : Int) ((l / 2 : Nat) : Int)) from rfl] at cu
                have HU := Lib.hid (And.intro hE2 (And.intro hga (And.intro (show a / 2 < a by omega) (And.intro (show a / 2 ≤ 9223372036854775807 by omega) (show l / 2 ≤ 9223372036854775807 by omega)))))
                clear hE hE2 hga h1
                go_wp2_with (refine wpList_load_blk rfl 54 _ rfl hP rfl (.struct fs) hfs rfl 2 (by kernel_rfl) rfl ?_)
                refine cu.mono ?_
                rintro e w2 ⟨rfl, G2⟩
                have hP2 := hP.below G2 hP.lt
                have F2 := F.trans (G2.mono (Nat.le_of_lt hP.lt))
                clear cu hP F G2 c0
                clear wr
                go_wp2_with (refine wpList_store_blk rfl 54 _ _ rfl hP2 (plc ((a / 2 : Nat) : Int) ((l / 2 : Nat) : Int)) rfl rfl 2 (by kernel_rfl) rfl rfl (plc_one _ _) ?_)
                intro w3 hP3 hg3
                have F3 : Below rq wq w3 := below_upd F2 hg3 (Nat.le_refl _) hP2.lt
                have HT := Lib.hid (And.intro hP3 F3)
                clear hg3 hP2 F2 hP3 F3
                go_wp2
                go_roundg (a / 2)
                case measure => have := HU.out; omega
                case rel => exact ⟨a / 2, l / 2, HU.out.2.2.2.1, HU.out.2.2.2.2, rfl, HU.out.1, HT.out.1, HT.out.2⟩
              · have d1 : (((a : Int) % 2) == 1) = false := by rw [beq_eq_false_iff_ne]; omega
                have hE2 : E = (a, l) := by rw [hE]; exact Tree.norm_even (by omega)
                have hT : z = decide (runQ a l x x q = some (old, root)) := by rw [HZ.out, hE2]
                replace HZ := Lib.hid hT
                clear hE hE2 hT h1 hga
                go_upto_region 12 with (fail)
                refine wp_region_N (fun w' => w'.rangeAt g off (x.1.map b8)) [] (by kernel_rfl) ?_
                obtain ⟨wd, hwd⟩ : ∃ wd, wd = wr.drew := ⟨_, rfl⟩
                replace hP : Blk wd rq 54 (plc a l) := by rw [hwd]; exact hP
                replace F : Below rq wq wd := by rw [hwd]; exact F.drew
                rw [← hwd]
                clear hwd c0
                clear wr
                have hy := range_below HY.out.1 F (by rw [FQ.out.2.1]; exact HY.out.2)
                refine wpAnyN_pureG 0 58 (v := ?_) rfl rfl (by kernel_rfl) (by kernel_rfl) (by kernel_rfl) (fun _ _ _ h => h) rfl (fun w => ?_) ?_
                rotate_left
                · go_simp
                  try with_reducible rfl
                refine wpAnyN_pureG 3 61 (v := ?_) rfl rfl (by kernel_rfl) (by kernel_rfl) (by kernel_rfl) (fun _ _ _ h => h) rfl (fun w => ?_) ?_
                rotate_left
                · go_simp
                  try with_reducible rfl
                refine wpAnyN_pureG 1 59 (v := .pointer (some ⟨g, off, none⟩)) rfl rfl (by kernel_rfl) (by kernel_rfl) (by kernel_rfl) (fun _ _ _ h => h) rfl (fun w => ?_) ?_
                · go_simp
                  try (intro h; omega)
                refine wpAnyN_pureG 4 62 (v := .pointer (some ⟨g, off, none⟩)) rfl rfl (by kernel_rfl) (by kernel_rfl) (by kernel_rfl) (fun _ _ _ h => h) rfl (fun w => ?_) ?_
                · go_simp
                  try (intro h; omega)
                simp only [Act.put, List.setIfInBounds_toArray, List.set_cons_succ, List.set_cons_zero]
                refine wpAnyN_takeG 2 60 (v := hval x) rfl rfl (by kernel_rfl) (by kernel_rfl) (by kernel_rfl) (by kernel_rfl) (fun _ _ _ h => h) hy rfl (fun w hS => ?_) ?_
                · exact run_load_range 23 _ rfl hS (by go_simp) (.array 32 5) (by kernel_rfl) rfl 32 (by kernel_rfl) (by simp [hxl])
                refine wpAnyN_takeG 5 63 (v := hval x) rfl rfl (by kernel_rfl) (by kernel_rfl) (by kernel_rfl) (by kernel_rfl) (fun _ _ _ h => h) hy rfl (fun w hS => ?_) ?_
                · exact run_load_range 23 _ rfl hS (by go_simp) (.array 32 5) (by kernel_rfl) rfl 32 (by kernel_rfl) (by simp [hxl])
                simp only [Act.put, List.setIfInBounds_toArray, List.set_cons_succ, List.set_cons_zero]
                have hsz : rq + 1 ≤ wd.heap.size := hP.lt
                have hgq : g < rq := by rw [FQ.out.2.1]; exact HY.out.2
                refine wpAnyN_dag2 [6, 7] (fun i => match i with | 6 => some 12 | 7 => some 13 | _ => none) (fun _ => []) (fun i v w => match i with
                  | 6 => PtrC 23 zero32 v w
                  | 7 => PtrC 23 zero32 v w
                  | _ => True) (fun i => i == 6 || i == 7) (g := 2) (by kernel_rfl) (by kernel_rfl) rfl
                  ⟨fun _ _ _ hb h => PtrC.below hb h, fun _ _ _ hb h => PtrC.below hb h, trivial⟩
                  (fun w w' hb h => hash_below x h hb) ⟨?_, ?_, trivial⟩ ?_
                · intro vs w hb _ o ho
                  cases ho
                  simp only [putsD]
                  refine vwp_run rfl (v := .pointer (some ⟨w.heap.size, 0, none⟩)) (w' := w.alloc (.cells zero32 23)) ?_ ⟨below_alloc1 _ _, ⟨_, rfl, Blk.new _ _ _⟩, fun _ => ⟨_, rfl, Nat.le_refl _, alloc_lt _ _⟩⟩
                  go_simp
                · intro vs w hb _ o ho
                  cases ho
                  simp only [putsD]
                  refine vwp_run rfl (v := .pointer (some ⟨w.heap.size, 0, none⟩)) (w' := w.alloc (.cells zero32 23)) ?_ ⟨below_alloc1 _ _, ⟨_, rfl, Blk.new _ _ _⟩, fun _ => ⟨_, rfl, Nat.le_refl _, alloc_lt _ _⟩⟩
                  go_simp
                · intro vs w2 hb hR hne hfr
                  obtain ⟨⟨b2, h12, hk2⟩, ⟨b3, h13, hk3⟩, -⟩ := hR
                  have hne2 := hne 6 (by simp) 7 (by simp) (by decide) rfl rfl
                  rw [h12, h13] at hne2
                  have hb23 : b2 ≠ b3 := fun e => hne2 (by rw [e])
                  obtain ⟨x1, hx1, hx1', -⟩ := hfr 6 (by simp) rfl
                  rw [h12] at hx1
                  obtain rfl : b2 = x1 := Option.some.inj hx1
                  obtain ⟨x2, hx2, hx2', -⟩ := hfr 7 (by simp) rfl
                  rw [h13] at hx2
                  obtain rfl : b3 = x2 := Option.some.inj hx2
                  have hr2 : rq + 1 ≤ b2 := by omega
                  have hr3 : rq + 1 ≤ b3 := by omega
                  have hP2 := hP.below hb hP.lt
                  have F2 : Below rq wq w2 := F.trans (hb.mono (by omega))
                  simp only [putsD]
                  rw [h12, h13]
                  clear hne hfr hne2 hx1 hx1' hx2 hx2' h12 h13 hb hP F hsz hy
                  clear wd
                  simp only [Act.put, List.setIfInBounds_toArray, List.set_cons_succ, List.set_cons_zero]
                  refine wpAnyN_store_blk 8 23 (.tmp 12) (.tmp 60) (by kernel_rfl) rfl rfl rfl rfl hk2 0 (x.1.map b8).toArray (by go_simp) (by go_simp) 32 (by kernel_rfl) (by simp [hxl]) (by simp) (by rw [List.toList_toArray]; exact b8_one _) (x.1.map b8).toArray (by simp) ?_
                  intro w3 hA3 hg3
                  have hk3' := hk3.grown hg3 (fun e => hb23 (Option.some.inj e).symm)
                  have hP3 := hP2.grown hg3 (fun e => by have := Option.some.inj e; omega)
                  have F3 := below_upd F2 hg3 (by omega) hk2.lt
                  refine ⟨fun _ h => range_grown h hg3 (hash_lt x h) (by omega), ?_⟩
                  clear hg3 hk2 hk3 hP2 F2
                  clear w2
                  refine wpAnyN_store_blk 9 23 (.tmp 13) (.tmp 63) (by kernel_rfl) rfl rfl rfl rfl hk3' 0 (x.1.map b8).toArray (by go_simp) (by go_simp) 32 (by kernel_rfl) (by simp [hxl]) (by simp) (by rw [List.toList_toArray]; exact b8_one _) (x.1.map b8).toArray (by simp) ?_
                  intro w4 hB4 hg4
                  have hA4 := hA3.grown hg4 (fun e => hb23 (Option.some.inj e))
                  have hP4 := hP3.grown hg4 (fun e => by have := Option.some.inj e; omega)
                  have F4 := below_upd F3 hg4 (by omega) hk3'.lt
                  refine ⟨fun _ h => range_grown h hg4 (hash_lt x h) (by omega), wpAnyN_done (by kernel_rfl) ?_⟩
                  clear hg4 hk3' hP3 hA3 F3
                  clear w3
                  go_wp2
                  obtain ⟨T, hT⟩ : ∃ T, T = runQ a l x x q := ⟨_, rfl⟩
                  have hTL := Lib.hid hT
                  rw [← hT] at HZ
                  clear hT
                  go_loopg [15, 67] q.length (fun g _ x67 wr => ∃ (i a l : Nat) (f s : Hs), x67 = .int .i64 i ∧ i + g = q.length ∧ a ≤ 9223372036854775807 ∧ l ≤ 9223372036854775807 ∧ T = runQ a l f s (q.drop i) ∧ Blk wr rq 54 (plc a l) ∧ Blk wr b2 23 (f.1.map b8).toArray ∧ Blk wr b3 23 (s.1.map b8).toArray ∧ Below rq wq wr)
                  case atStart => exact ⟨0, a, l, x, x, rfl, by omega, ha, hl, hTL.out, hP4, hA4, hB4, F4⟩
                  case round =>
                    clear hP4 hA4 hB4 F4 hTL hd1 hd1' hd ha hl d1
                    obtain ⟨i, a, l, f, s, rfl, hig, ha, hl, hT, hP, hA, hB, F⟩ := hrel
                    have hfl := f.2
                    have hsl := s.2
                    by_cases hil : i < q.length
                    · have hd : decide ((i : Int) < (q.length : Int)) = true := by rw [decide_eq_true_eq]; omega
                      obtain ⟨g7, off7, e7, hg7, hrg⟩ := (HQ.out.below F (by rw [FQ.out.2.1]; exact Nat.le_refl _)).place (by omega)
                      subst e7
                      have hy0 := hrg i hil
                      have hdr : q.drop i = q[i] :: q.drop (i + 1) := List.drop_eq_getElem_cons hil
                      obtain ⟨y, hyy⟩ : ∃ y : Hs, y = q[i] := ⟨_, rfl⟩
                      rw [← hyy] at hy0 hdr
                      rw [hdr] at hT
                      have hyl := y.2
                      have HT := Lib.hid (And.intro hT (show i + 1 + (gk - 1) = q.length ∧ gk - 1 < gk by omega))
                      clear hrg hg7 hyy hdr hT hig
                      go_wp2_with (first | (refine wpList_load_mid rfl 23 _ rfl g7 (off7 + i * 32) rfl (y.1.map b8) (.array 32 5) hy0 (by kernel_rfl) rfl (by rw [List.length_map, hyl]; kernel_rfl) ?_) | (refine wpList_store_blk rfl 23 _ _ rfl (Blk.new wr zero32 23) (y.1.map b8).toArray rfl rfl 32 (by kernel_rfl) rfl (by simp [hyl]) (by rw [List.toList_toArray]; exact b8_one _) ?_))
                      intro w2 hX2 hg2
                      obtain ⟨b4, hb4⟩ : ∃ b4, b4 = wr.heap.size := ⟨_, rfl⟩
                      have hP2 := (hP.alloc (.cells zero32 23)).grown hg2 (fun e => by have := Option.some.inj e; have := hP.lt; omega)
                      have hA2 := (hA.alloc (.cells zero32 23)).grown hg2 (fun e => by have := Option.some.inj e; have := hA.lt; omega)
                      have hB2 := (hB.alloc (.cells zero32 23)).grown hg2 (fun e => by have := Option.some.inj e; have := hB.lt; omega)
                      have hrr : rq ≤ wr.heap.size := Nat.le_of_lt hP.lt
                      have F2 : Below rq wq w2 := below_upd (F.alloc hrr (.cells zero32 23)) hg2 hrr (alloc_lt _ _)
                      have h24 : b2 ≠ b4 := by have := hA.lt; omega
                      have h34 : b3 ≠ b4 := by have := hB.lt; omega
                      have h14 : rq ≠ b4 := by have := hP.lt; omega
                      rw [← hb4] at hX2 ⊢
                      clear hb4 hg2 hP hA hB F hrr hy0
                      clear wr
                      have c1 : w2.cell? ⟨rq, 1, none⟩ = some (.int .i64 l) := hP2.cell 1
                      by_cases hl0 : l = 0
                      · have hdl : ((l : Int) == 0) = true := by rw [hl0]; rfl
                        have hzf : z = false := by
                          rw [HZ.out, HT.out.1, hl0, runQ_zero]; simp
                        have HF := Lib.hid (show Below w.heap.size w w2 by rw [← HR.out]; exact FQ.out.1.trans (F2.mono (by have := FQ.out; omega)))
                        clear F2 hl0
                        go_wp2
                        go_ret
                        exact ⟨by first | rfl | (rw [hzf]; rfl), HF.out⟩
                      · have hdl : ((l : Int) == 0) = false := by rw [beq_eq_false_iff_ne]; omega
                        have cl := left_any w2 a l ha
                        rw [show pl a l = .agg (plc a l) from rfl] at cl
                        go_wp2_with (refine wpList_load_blk rfl 54 _ rfl hP2 rfl (.struct fs) hfs rfl 2 (by kernel_rfl) rfl ?_)
                        refine cl.mono ?_
                        rintro e w3 ⟨rfl, G3⟩
                        have hP3 := hP2.below G3 hP2.lt
                        have hA3 := hA2.below G3 hA2.lt
                        have hB3 := hB2.below G3 hB2.lt
                        have hX3 := hX2.below G3 hX2.lt
                        have hrs : rq ≤ w2.heap.size := Nat.le_of_lt hP2.lt
                        have F3 := F2.trans (G3.mono hrs)
                        clear cl hP2 hA2 hB2 hX2 F2 G3 c1 hrs
                        clear w2
                        by_cases hlf : a % 2 = 1 ∨ a = l
                        · rw [show decide (a % 2 = 1 ∨ a = l) = true by rw [decide_eq_true_eq]; exact hlf]
                          obtain ⟨u, hu⟩ : ∃ u, u = nodeH y f := ⟨_, rfl⟩
                          obtain ⟨v, hv⟩ : ∃ v, v = nodeH y s := ⟨_, rfl⟩
                          obtain ⟨E, hE⟩ : ∃ E, E = Tree.ends a l := ⟨_, rfl⟩
                          have hEb := ends_le a l
                          rw [← hE] at hEb
                          have hrun : T = runQ (E.1 / 2) (E.2 / 2) u v (q.drop (i + 1)) := by rw [HT.out.1, runQ_left hl0 hlf, ← hE, ← hu, ← hv]
                          have hul := u.2
                          have hvl := v.2
                          have HE := Lib.hid (And.intro hEb (And.intro ha hl))
                          have HN := Lib.hid (And.intro hrun (And.intro hu (And.intro hv hE)))
                          clear hrun hu hv hE hEb hlf
                          go_upto_region 19 with (fail)
                          refine wp_region_N (fun w' => Blk w' b4 23 (y.1.map b8).toArray ∧ Blk w' b2 23 (f.1.map b8).toArray ∧ Blk w' b3 23 (s.1.map b8).toArray ∧ Blk w' rq 54 (plc a l)) [8, 9, 10] (by kernel_rfl) ?_
                          obtain ⟨wd, hwd⟩ : ∃ wd, wd = w3.drew := ⟨_, rfl⟩
                          have hSd : Blk wd b4 23 (y.1.map b8).toArray ∧ Blk wd b2 23 (f.1.map b8).toArray ∧ Blk wd b3 23 (s.1.map b8).toArray ∧ Blk wd rq 54 (plc a l) := by rw [hwd]; exact ⟨hX3, hA3, hB3, hP3⟩
                          replace F3 : Below rq wq wd := by rw [hwd]; exact F3.drew
                          rw [← hwd]
                          clear hwd hX3 hA3 hB3 hP3
                          clear w3
                          refine wpAnyN_takeT 0 76 (v := hval y) rfl rfl (by kernel_rfl) (by kernel_rfl) (by kernel_rfl) (by kernel_rfl) (by kernel_rfl) (fun _ _ _ h => h) hSd rfl (fun w hS => ?_) ?_
                          · exact run_load_mid_blk 23 _ rfl hS.1 0 (by go_simp) (y.1.map b8) (fun j v h => by rw [Nat.zero_add, List.getElem?_toArray]; exact h) (.array 32 5) (by kernel_rfl) rfl 32 (by kernel_rfl) (by simp [hyl])
                          refine wpAnyN_takeT 1 77 (v := hval f) rfl rfl (by kernel_rfl) (by kernel_rfl) (by kernel_rfl) (by kernel_rfl) (by kernel_rfl) (fun _ _ _ h => h) hSd rfl (fun w hS => ?_) ?_
                          · exact run_load_mid_blk 23 _ rfl hS.2.1 0 (by go_simp) (f.1.map b8) (fun j v h => by rw [Nat.zero_add, List.getElem?_toArray]; exact h) (.array 32 5) (by kernel_rfl) rfl 32 (by kernel_rfl) (by simp [hfl])
                          refine wpAnyN_takeT 3 79 (v := hval y) rfl rfl (by kernel_rfl) (by kernel_rfl) (by kernel_rfl) (by kernel_rfl) (by kernel_rfl) (fun _ _ _ h => h) hSd rfl (fun w hS => ?_) ?_
                          · exact run_load_mid_blk 23 _ rfl hS.1 0 (by go_simp) (y.1.map b8) (fun j v h => by rw [Nat.zero_add, List.getElem?_toArray]; exact h) (.array 32 5) (by kernel_rfl) rfl 32 (by kernel_rfl) (by simp [hyl])
                          simp only [Act.put, List.setIfInBounds_toArray, List.set_cons_succ, List.set_cons_zero]
                          refine wpAnyN_takeT 4 80 (v := hval s) rfl rfl (by kernel_rfl) (by kernel_rfl) (by kernel_rfl) (by kernel_rfl) (by kernel_rfl) (fun _ _ _ h => h) hSd rfl (fun w hS => ?_) ?_
                          · exact run_load_mid_blk 23 _ rfl hS.2.2.1 0 (by go_simp) (s.1.map b8) (fun j v h => by rw [Nat.zero_add, List.getElem?_toArray]; exact h) (.array 32 5) (by kernel_rfl) rfl 32 (by kernel_rfl) (by simp [hsl])
                          refine wpAnyN_takeT 6 82 (v := .agg (plc a l)) rfl rfl (by kernel_rfl) (by kernel_rfl) (by kernel_rfl) (by kernel_rfl) (by kernel_rfl) (fun _ _ _ h => h) hSd rfl (fun w hS => ?_) ?_
                          · exact run_load_mid_blk 54 _ rfl hS.2.2.2 0 (by go_simp) (plc a l).toList (fun j v h => by rw [Nat.zero_add]; simpa using h) (.struct fs) hfs rfl 2 (by kernel_rfl) rfl
                          simp only [Act.put, List.setIfInBounds_toArray, List.set_cons_succ, List.set_cons_zero]
                          have hLd : Laid wd := hL.below (FQ.out.1.trans (F3.mono (by have := FQ.out; omega))) HR0.out
                          have c2 := node_any wd hLd y f
                          rw [← HN.out.2.1] at c2
                          refine wpAnyN_call 2 31 (some 78) [.tmp 76, .tmp 77] [hval y, hval f] (by kernel_rfl) rfl rfl rfl rfl (by go_simp) Tryd.call31 ?_
                          refine c2.mono ?_
                          rintro e w4 ⟨rfl, G4⟩
                          have hS4 : _ ∧ _ ∧ _ ∧ _ := ⟨hSd.1.below G4 hSd.1.lt, hSd.2.1.below G4 hSd.2.1.lt, hSd.2.2.1.below G4 hSd.2.2.1.lt, hSd.2.2.2.below G4 hSd.2.2.2.lt⟩
                          have hrs : rq ≤ wd.heap.size := Nat.le_of_lt hSd.2.2.2.lt
                          have F4 := F3.trans (G4.mono hrs)
                          refine ⟨_, rfl, fun _ h => ⟨h.1.below G4 h.1.lt, h.2.1.below G4 h.2.1.lt, h.2.2.1.below G4 h.2.2.1.lt, h.2.2.2.below G4 h.2.2.2.lt⟩, ?_⟩
                          have hL4 : Laid w4 := hL.below (FQ.out.1.trans (F4.mono (by have := FQ.out; omega))) HR0.out
                          clear c2 hSd F3 G4 hrs hLd
                          clear wd
                          simp only [Act.put, List.setIfInBounds_toArray, List.set_cons_succ, List.set_cons_zero]
                          have c3 := node_any w4 hL4 y s
                          rw [← HN.out.2.2.1] at c3
                          refine wpAnyN_call 5 31 (some 81) [.tmp 79, .tmp 80] [hval y, hval s] (by kernel_rfl) rfl rfl rfl rfl (by go_simp) Tryd.call31 ?_
                          refine c3.mono ?_
                          rintro e w5 ⟨rfl, G5⟩
                          have hS5 : _ ∧ _ ∧ _ ∧ _ := ⟨hS4.1.below G5 hS4.1.lt, hS4.2.1.below G5 hS4.2.1.lt, hS4.2.2.1.below G5 hS4.2.2.1.lt, hS4.2.2.2.below G5 hS4.2.2.2.lt⟩
                          have hrs : rq ≤ w4.heap.size := Nat.le_of_lt hS4.2.2.2.lt
                          have F5 := F4.trans (G5.mono hrs)
                          refine ⟨_, rfl, fun _ h => ⟨h.1.below G5 h.1.lt, h.2.1.below G5 h.2.1.lt, h.2.2.1.below G5 h.2.2.1.lt, h.2.2.2.below G5 h.2.2.2.lt⟩, ?_⟩
                          clear c3 hS4 F4 G5 hrs hL4
                          clear w4
                          simp only [Act.put, List.setIfInBounds_toArray, List.set_cons_succ, List.set_cons_zero]
                          have c4 := ends_any w5 a l ha hl
                          rw [show pl a l = .agg (plc a l) from rfl, ← HN.out.2.2.2, show pl E.1 E.2 = .agg (plc E.1 E.2) from rfl] at c4
                          refine wpAnyN_call 7 32 (some 83) [.tmp 82] [.agg (plc a l)] (by kernel_rfl) rfl rfl rfl rfl (by go_simp) Tryd.call32 ?_
                          refine c4.mono ?_
                          rintro e w6 ⟨rfl, G6⟩
                          have hA6 := hS5.2.1.below G6 hS5.2.1.lt
                          have hB6 := hS5.2.2.1.below G6 hS5.2.2.1.lt
                          have hP6 := hS5.2.2.2.below G6 hS5.2.2.2.lt
                          have hrs : rq ≤ w5.heap.size := Nat.le_of_lt hS5.2.2.2.lt
                          have F6 := F5.trans (G6.mono hrs)
                          refine ⟨_, rfl, fun _ h => ⟨h.1.below G6 h.1.lt, h.2.1.below G6 h.2.1.lt, h.2.2.1.below G6 h.2.2.1.lt, h.2.2.2.below G6 h.2.2.2.lt⟩, ?_⟩
                          clear c4 hS5 F5 G6 hrs
                          clear w5
                          simp only [Act.put, List.setIfInBounds_toArray, List.set_cons_succ, List.set_cons_zero]
                          refine wpAnyN_store_blk 8 23 (.tmp 12) (.tmp 78) (by kernel_rfl) rfl rfl rfl rfl hA6 0 (u.1.map b8).toArray (by go_simp) (by go_simp) 32 (by kernel_rfl) (by simp [hul]) (by simp [hfl]) (by rw [List.toList_toArray]; exact b8_one _) (u.1.map b8).toArray (by simp [hfl]) ?_
                          intro w7 hA7 hg7
                          have hB7 := hB6.grown hg7 (fun e => hb23 (Option.some.inj e).symm)
                          have hP7 := hP6.grown hg7 (fun e => by have := Option.some.inj e; omega)
                          have F7 := below_upd F6 hg7 (by omega) hA6.lt
                          refine ⟨fun h => absurd (by simp) h, ?_⟩
                          clear hg7 hA6 hB6 hP6 F6
                          clear w6
                          refine wpAnyN_store_blk 9 23 (.tmp 13) (.tmp 81) (by kernel_rfl) rfl rfl rfl rfl hB7 0 (v.1.map b8).toArray (by go_simp) (by go_simp) 32 (by kernel_rfl) (by simp [hvl]) (by simp [hsl]) (by rw [List.toList_toArray]; exact b8_one _) (v.1.map b8).toArray (by simp [hsl]) ?_
                          intro w8 hB8 hg8
                          have hA8 := hA7.grown hg8 (fun e => hb23 (Option.some.inj e))
                          have hP8 := hP7.grown hg8 (fun e => by have := Option.some.inj e; omega)
                          have F8 := below_upd F7 hg8 (by omega) hB7.lt
                          refine ⟨fun h => absurd (by simp) h, ?_⟩
                          clear hg8 hA7 hB7 hP7 F7
                          clear w7
                          refine wpAnyN_store_blk 10 54 (.tmp 11) (.tmp 83) (by kernel_rfl) rfl rfl rfl rfl hP8 0 (plc E.1 E.2) (by go_simp) (by go_simp) 2 (by kernel_rfl) rfl (Nat.le_refl 2) (plc_one _ _) (plc E.1 E.2) rfl ?_
                          intro w6 hP6 hg9
                          have hA6 := hA8.grown hg9 (fun e => by have := Option.some.inj e; omega)
                          have hB6 := hB8.grown hg9 (fun e => by have := Option.some.inj e; omega)
                          have F6 := below_upd F8 hg9 (Nat.le_refl _) hP8.lt
                          refine ⟨fun h => absurd (by simp) h, wpAnyN_done (by kernel_rfl) ?_⟩
                          clear hg9 hA8 hB8 hP8 F8
                          clear w8
                          have cu := up_any w6 E.1 E.2 (by have := HE.out; omega) (by have := HE.out; omega)
                          rw [show pl E.1 E.2 = .agg (plc (E.1 : Nat) (E.2 : Nat)) from rfl, show pl (E.1 / 2) (E.2 / 2) = .agg (plc ((E.1 / 2 : Nat) : Int) ((E.2 / 2 : Nat) : Int)) from rfl] at cu
                          go_wp2_with (refine wpList_load_blk rfl 54 _ rfl hP6 rfl (.struct fs) hfs rfl 2 (by kernel_rfl) rfl ?_)
                          refine cu.mono ?_
                          rintro e w7 ⟨rfl, G7⟩
                          have hP7 := hP6.below G7 hP6.lt
                          have hA7 := hA6.below G7 hA6.lt
                          have hB7 := hB6.below G7 hB6.lt
                          have F7 := F6.trans (G7.mono (Nat.le_of_lt hP6.lt))
                          clear cu hP6 hA6 hB6 F6 G7
                          clear w6
                          go_wp2_with (refine wpList_store_blk rfl 54 _ _ rfl hP7 (plc ((E.1 / 2 : Nat) : Int) ((E.2 / 2 : Nat) : Int)) rfl rfl 2 (by kernel_rfl) rfl rfl (plc_one _ _) ?_)
                          intro w8 hP8 hg8
                          have hA8 := hA7.grown hg8 (fun e => by have := Option.some.inj e; omega)
                          have hB8 := hB7.grown hg8 (fun e => by have := Option.some.inj e; omega)
                          have F8 := below_upd F7 hg8 (Nat.le_refl _) hP7.lt
                          have HW := Lib.hid (And.intro hP8 (And.intro hA8 (And.intro hB8 F8)))
                          clear hg8 hP7 hA7 hB7 F7 hP8 hA8 hB8 F8
                          go_wp2
                          go_roundg (gk - 1)
                          case measure => exact HT.out.2.2
                          case rel => exact ⟨i + 1, E.1 / 2, E.2 / 2, u, v, by go_num, HT.out.2.1, by have := HE.out; omega, by have := HE.out; omega, HN.out.1, HW.out.1, HW.out.2.1, HW.out.2.2.1, HW.out.2.2.2⟩
                        · rw [show decide (a % 2 = 1 ∨ a = l) = false by rw [decide_eq_false_iff_not]; exact hlf]
                          obtain ⟨v, hv⟩ : ∃ v, v = nodeH s y := ⟨_, rfl⟩
                          have hrun : T = runQ (a / 2) (l / 2) f v (q.drop (i + 1)) := by rw [HT.out.1, runQ_right hl0 hlf, ← hv]
                          have hvl := v.2
                          have HE := Lib.hid (And.intro ha hl)
                          have c2 := node_any w3 (hL.below (FQ.out.1.trans (F3.mono (by have := FQ.out; omega))) HR0.out) s y
                          rw [← hv] at c2
                          have HN := Lib.hid hrun
                          clear hrun hv hlf
                          go_wp2_with (first | (refine wpList_load_mid_blk rfl 23 (.tmp 13) rfl hB3 0 rfl (s.1.map b8) (fun j v hv => by rw [Nat.zero_add, List.getElem?_toArray]; exact hv) (.array 32 5) (by kernel_rfl) rfl 32 (by kernel_rfl) (by simp [hsl]) ?_) | (refine wpList_load_mid_blk rfl 23 (.tmp 15) rfl hX3 0 rfl (y.1.map b8) (fun j v hv => by rw [Nat.zero_add, List.getElem?_toArray]; exact hv) (.array 32 5) (by kernel_rfl) rfl 32 (by kernel_rfl) (by simp [hyl]) ?_))
                          refine c2.mono ?_
                          rintro e w5 ⟨rfl, G5⟩
                          have hP5 := hP3.below G5 hP3.lt
                          have hA5 := hA3.below G5 hA3.lt
                          have hB5 := hB3.below G5 hB3.lt
                          have hrs : rq ≤ w3.heap.size := Nat.le_of_lt hP3.lt
                          have F5 := F3.trans (G5.mono hrs)
                          clear c2 hP3 hA3 hB3 F3 G5 hX3 hrs
                          clear w3
                          go_wp2_with (refine wpList_store_blk rfl 23 _ _ rfl hB5 (v.1.map b8).toArray rfl rfl 32 (by kernel_rfl) (by simp [hsl]) (by simp [hvl]) (by rw [List.toList_toArray]; exact b8_one _) ?_)
                          intro w6 hB6 hg6
                          have hP6 := hP5.grown hg6 (fun e => by have := Option.some.inj e; omega)
                          have hA6 := hA5.grown hg6 (fun e => hb23 (Option.some.inj e))
                          have F6 := below_upd F5 hg6 (by omega) hB5.lt
                          clear hg6 hP5 hA5 hB5 F5
                          have cu := up_any w6 a l (by have := HE.out; omega) (by have := HE.out; omega)
                          rw [show pl a l = .agg (plc (a : Nat) (l : Nat)) from rfl, show pl (a / 2) (l / 2) = .agg (plc ((a / 2 : Nat) : Int) ((l / 2 : Nat) : Int)) from rfl] at cu
                          go_wp2_with (refine wpList_load_blk rfl 54 _ rfl hP6 rfl (.struct fs) hfs rfl 2 (by kernel_rfl) rfl ?_)
                          refine cu.mono ?_
                          rintro e w7 ⟨rfl, G7⟩
                          have hP7 := hP6.below G7 hP6.lt
                          have hA7 := hA6.below G7 hA6.lt
                          have hB7 := hB6.below G7 hB6.lt
                          have F7 := F6.trans (G7.mono (Nat.le_of_lt hP6.lt))
                          clear cu hP6 hA6 hB6 F6 G7
                          clear w6
                          go_wp2_with (refine wpList_store_blk rfl 54 _ _ rfl hP7 (plc ((a / 2 : Nat) : Int) ((l / 2 : Nat) : Int)) rfl rfl 2 (by kernel_rfl) rfl rfl (plc_one _ _) ?_)
                          intro w8 hP8 hg8
                          have hA8 := hA7.grown hg8 (fun e => by have := Option.some.inj e; omega)
                          have hB8 := hB7.grown hg8 (fun e => by have := Option.some.inj e; omega)
                          have F8 := below_upd F7 hg8 (Nat.le_refl _) hP7.lt
                          have HW := Lib.hid (And.intro hP8 (And.intro hA8 (And.intro hB8 F8)))
                          clear hg8 hP7 hA7 hB7 F7 hP8 hA8 hB8 F8
                          go_wp2
                          go_roundg (gk - 1)
                          case measure => exact HT.out.2.2
                          case rel => exact ⟨i + 1, a / 2, l / 2, f, v, by go_num, HT.out.2.1, by have := HE.out; omega, by have := HE.out; omega, HN.out, HW.out.1, HW.out.2.1, HW.out.2.2.1, HW.out.2.2.2⟩
                    · have hd : decide (i < q.length) = false := by rw [decide_eq_false_iff_not]; omega
                      have hdr : q.drop i = [] := List.drop_of_length_le (by omega)
                      rw [hdr, runQ_nil] at hT
                      have c1 : wr.cell? ⟨rq, 1, none⟩ = some (.int .i64 l) := hP.cell 1
                      have hLr : Blk wr r 23 (old.1.map b8).toArray := hLL.below F (by have := FQ.out; omega)
                      have hRr : Blk wr (r + 1) 23 (root.1.map b8).toArray := hRR.below F (by have := FQ.out; omega)
                      have HF := Lib.hid (show Below w.heap.size w wr by rw [← HR.out]; exact FQ.out.1.trans (F.mono (by have := FQ.out; omega)))
                      clear F hig hdr
                      by_cases hl0 : l = 0
                      · have hdl : ((l : Int) == 0) = true := by rw [hl0]; rfl
                        have hzq : z = (f.1 == old.1 && s.1 == root.1) := by
                          rw [HZ.out, hT, if_pos hl0, Bool.eq_iff_iff, decide_eq_true_eq, Bool.and_eq_true, beq_iff_eq, beq_iff_eq]
                          exact ⟨fun e => by have := Option.some.inj e; injection this with e1 e2; exact ⟨by rw [e1], by rw [e2]⟩, fun e => by rw [Subtype.ext e.1, Subtype.ext e.2]⟩
                        clear hT hl0
                        cases hqq : (f.1 == old.1) with
                        | false =>
                          have hzf : z = false := by rw [hzq, hqq]; rfl
                          clear hzq
                          go_wp2_with (first | (refine wpList_load_blkW (by go_simp) 23 (.tmp 12) rfl hA rfl (f.1.map b8) rfl (.array 32 5) (by kernel_rfl) rfl 32 (by kernel_rfl) (by simp [hfl]) ?_) | (refine wpList_load_blkW (by go_simp) 23 (.tmp 7) rfl hLr rfl (old.1.map b8) rfl (.array 32 5) (by kernel_rfl) rfl 32 (by kernel_rfl) (by simp [hll]) ?_))
                          go_ret
                          exact ⟨by first | rfl | (rw [hzf]; rfl), HF.out⟩
                        | true =>
                          have HQ := Lib.hid (show z = (s.1 == root.1) by rw [hzq, hqq]; rfl)
                          clear hzq
                          go_wp2_with (first | (refine wpList_load_blkW (by go_simp) 23 (.tmp 12) rfl hA rfl (f.1.map b8) rfl (.array 32 5) (by kernel_rfl) rfl 32 (by kernel_rfl) (by simp [hfl]) ?_) | (refine wpList_load_blkW (by go_simp) 23 (.tmp 7) rfl hLr rfl (old.1.map b8) rfl (.array 32 5) (by kernel_rfl) rfl 32 (by kernel_rfl) (by simp [hll]) ?_) | (refine wpList_load_blkW (by go_simp) 23 (.tmp 13) rfl hB rfl (s.1.map b8) rfl (.array 32 5) (by kernel_rfl) rfl 32 (by kernel_rfl) (by simp [hsl]) ?_) | (refine wpList_load_blkW (by go_simp) 23 (.tmp 9) rfl hRr rfl (root.1.map b8) rfl (.array 32 5) (by kernel_rfl) rfl 32 (by kernel_rfl) (by simp [hrl]) ?_))
                          go_ret
                          exact ⟨by rw [HQ.out]; rfl, HF.out⟩
                      · have hdl : ((l : Int) == 0) = false := by rw [beq_eq_false_iff_ne]; omega
                        have hzf : z = false := by rw [HZ.out, hT, if_neg hl0]; simp
                        clear hT hl0
                        go_wp2
                        go_ret
                        exact ⟨by first | rfl | (rw [hzf]; rfl), HF.out⟩
        · have hd3 : ((k : Int) == 0) = false := by rw [beq_eq_false_iff_ne]; omega
          rw [if_neg h3] at hzz
          replace HZ := Lib.hid hzz
          clear hzz h3
          go_enter Tryd.func23, Tryd.ntmps23
          go_upto_region 1 with (fail)
          change Code.wp _ _ _ _ ((w.alloc (.cells (old.1.map b8).toArray 23)).alloc (.cells (root.1.map b8).toArray 23))
          rw [← HR.out.1]
          try rw [← HR.out.2]
          replace HR := Lib.hid HR.out.2
          have hX := hB.below F1 HR0.out
          have hXc := hc
          have hXm := hm
          have hXl : p.length ≤ 1000001 := by omega
          have FQ0 := F1
          obtain ⟨wq, rfl⟩ : ∃ wq, wq = w1 := ⟨_, rfl⟩
          have hNM : ¬ N < M := by omega
          have hNE : ¬ M = N := by omega
          have hM0 : ¬ M = 0 := by omega
          clear F1 hB hc hm hbig h0 h1 h2
          obtain ⟨rq, hrq⟩ : ∃ rq, rq = wq.heap.size := ⟨_, rfl⟩
          have hrq2 : r + 2 ≤ rq := by rw [hrq]; exact hR1.lt
          have FQ := Lib.hid (And.intro FQ0 (And.intro hrq hrq2))
          obtain ⟨i0, hi, hz0, hz1, hz2⟩ := info_parts infoHs
          rcases p with _ | ⟨x, q⟩
          · have hd1 : (((([] : List Hs).length : Nat) : Int) == 0) = true := rfl
            have hzf : z = false := HZ.out
            have HF := Lib.hid (show Below w.heap.size w wq by rw [← HR.out]; exact FQ0)
            clear FQ0 hrq hrq2
            go_wp2
            go_ret
            exact ⟨by first | rfl | (rw [hzf]; rfl), HF.out⟩
          · have hlc : (x :: q).length = q.length + 1 := rfl
            have hzz : z = decide (runQ (Tree.norm A L).1 (Tree.norm A L).2 x x q = some (old, root)) := HZ.out
            replace HZ := Lib.hid hzz
            clear hzz
            rw [hlc] at hXc hXl ⊢
            have hd1 : (((q.length + 1 : Nat) : Int) == 0) = false := by rw [beq_eq_false_iff_ne]; omega
            have hd1' : ((q.length : Int) + 1 == 0) = false := by rw [beq_eq_false_iff_ne]; omega
            have hm0 : cp ≤ 9223372036854775807 := hXm
            obtain ⟨g, off, e0, hg, hrg⟩ := hX.place (by simp)
            subst e0
            have hy0 := hrg 0 (by simp)
            rw [Nat.zero_mul, Nat.add_zero, List.getElem_cons_zero] at hy0
            obtain ⟨a7, hs7, ht7⟩ := run_from_hts (P := Tryd.prog) (t := 24) (by kernel_rfl) hi hz1 (some ⟨g, off, none⟩) (q.length + 1) cp 1 (by omega) (by omega)
            have hQ := ht7 wq (x :: q) rfl hX
            replace hs7 : ∀ W : World, (Instr.slice 24 (.slice (some ⟨g, off, none⟩) (q.length + 1) cp) (some (.int .i64 1)) none none).run Tryd.prog W = .ok (.slice a7 q.length (cp - 1)) W := hs7
            replace hQ : Hts wq a7 q := hQ
            have HQ := Lib.hid hQ
            have hy : wq.rangeAt g off (x.1.map b8) := hy0
            have HY := Lib.hid (And.intro hy hg)
            have hxl := x.2
            have hLL := hL1
            have hRR := hR1
            clear hQ hy hy0 hg hrg ht7 hX FQ0
            go_wp2_with (refine wpList_store_blk rfl 54 _ _ rfl (Blk.new wq zeroP 54) (plc A L) rfl rfl 2 (by kernel_rfl) rfl rfl (plc_one _ _) ?_)
            intro w3 hP3 hg3
            have F3 : Below rq wq w3 := by rw [hrq]; exact below_upd ((Below.refl _ _).alloc (Nat.le_refl _) _) hg3 (Nat.le_refl _) (alloc_lt _ _)
            rw [← hrq] at hP3 ⊢
            clear hg3 hrq
            obtain ⟨E, hE⟩ : ∃ E, E = Tree.norm A L := ⟨_, rfl⟩
            rw [← hE] at HZ
            have HE0 := Lib.hid hE
            clear hE
            go_wp2
            go_loopg [52] A (fun g _ wr => ∃ (a l : Nat), a ≤ 9223372036854775807 ∧ l ≤ 9223372036854775807 ∧ g = a ∧ E = Tree.norm a l ∧ Blk wr rq 54 (plc a l) ∧ Below rq wq wr)
            case atStart => exact ⟨A, L, by omega, by omega, rfl, HE0.out, hP3, F3⟩
            case round =>
              clear hP3 F3 HE0
              obtain ⟨a, l, ha, hl, hga, hE, hP, F⟩ := hrel
              have c0 : wr.cell? ⟨rq, 0, none⟩ = some (.int .i64 a) := hP.cell 0
              by_cases h1 : a % 2 = 1
              · have d1 : (((a : Int) % 2) == 1) = true := by rw [beq_iff_eq]; omega
                have hE2 : E = Tree.norm (a / 2) (l / 2) := by rw [hE]; exact Tree.norm_odd h1
                have cu := up_any wr a l ha hl
                rw [show pl a l = .agg (plc a l) from rfl, show pl (a / 2) (l / 2) = .agg (plc ((a / 2 : Nat) : Int) ((l / 2 : Nat) : Int)) from rfl] at cu
                have HU := Lib.hid (And.intro hE2 (And.intro hga (And.intro (show a / 2 < a by omega) (And.intro (show a / 2 ≤ 9223372036854775807 by omega) (show l / 2 ≤ 9223372036854775807 by omega)))))
                clear hE hE2 hga h1
                go_wp2_with (refine wpList_load_blk rfl 54 _ rfl hP rfl (.struct fs) hfs rfl 2 (by kernel_rfl) rfl ?_)
                refine cu.mono ?_
                rintro e w2 ⟨rfl, G2⟩
                have hP2 := hP.below G2 hP.lt
                have F2 := F.trans (G2.mono (Nat.le_of_lt hP.lt))
                clear cu hP F G2 c0
                clear wr
                go_wp2_with (refine wpList_store_blk rfl 54 _ _ rfl hP2 (plc ((a / 2 : Nat) : Int) ((l / 2 : Nat) : Int)) rfl rfl 2 (by kernel_rfl) rfl rfl (plc_one _ _) ?_)
                intro w3 hP3 hg3
                have F3 : Below rq wq w3 := below_upd F2 hg3 (Nat.le_refl _) hP2.lt
                have HT := Lib.hid (And.intro hP3 F3)
                clear hg3 hP2 F2 hP3 F3
                go_wp2
                go_roundg (a / 2)
                case measure => have := HU.out; omega
                case rel => exact ⟨a / 2, l / 2, HU.out.2.2.2.1, HU.out.2.2.2.2, rfl, HU.out.1, HT.out.1, HT.out.2⟩
              · have d1 : (((a : Int) % 2) == 1) = false := by rw [beq_eq_false_iff_ne]; omega
                have hE2 : E = (a, l) := by rw [hE]; exact Tree.norm_even (by omega)
                have hT : z = decide (runQ a l x x q = some (old, root)) := by rw [HZ.out, hE2]
                replace HZ := Lib.hid hT
                clear hE hE2 hT h1 hga
                go_upto_region 12 with (fail)
                refine wp_region_N (fun w' => w'.rangeAt g off (x.1.map b8)) [] (by kernel_rfl) ?_
                obtain ⟨wd, hwd⟩ : ∃ wd, wd = wr.drew := ⟨_, rfl⟩
                replace hP : Blk wd rq 54 (plc a l) := by rw [hwd]; exact hP
                replace F : Below rq wq wd := by rw [hwd]; exact F.drew
                rw [← hwd]
                clear hwd c0
                clear wr
                have hy := range_below HY.out.1 F (by rw [FQ.out.2.1]; exact HY.out.2)
                refine wpAnyN_pureG 0 58 (v := ?_) rfl rfl (by kernel_rfl) (by kernel_rfl) (by kernel_rfl) (fun _ _ _ h => h) rfl (fun w => ?_) ?_
                rotate_left
                · go_simp
                  try with_reducible rfl
                refine wpAnyN_pureG 3 61 (v := ?_) rfl rfl (by kernel_rfl) (by kernel_rfl) (by kernel_rfl) (fun _ _ _ h => h) rfl (fun w => ?_) ?_
                rotate_left
                · go_simp
                  try with_reducible rfl
                refine wpAnyN_pureG 1 59 (v := .pointer (some ⟨g, off, none⟩)) rfl rfl (by kernel_rfl) (by kernel_rfl) (by kernel_rfl) (fun _ _ _ h => h) rfl (fun w => ?_) ?_
                · go_simp
                  try (intro h; omega)
                refine wpAnyN_pureG 4 62 (v := .pointer (some ⟨g, off, none⟩)) rfl rfl (by kernel_rfl) (by kernel_rfl) (by kernel_rfl) (fun _ _ _ h => h) rfl (fun w => ?_) ?_
                · go_simp
                  try (intro h; omega)
                simp only [Act.put, List.setIfInBounds_toArray, List.set_cons_succ, List.set_cons_zero]
                refine wpAnyN_takeG 2 60 (v := hval x) rfl rfl (by kernel_rfl) (by kernel_rfl) (by kernel_rfl) (by kernel_rfl) (fun _ _ _ h => h) hy rfl (fun w hS => ?_) ?_
                · exact run_load_range 23 _ rfl hS (by go_simp) (.array 32 5) (by kernel_rfl) rfl 32 (by kernel_rfl) (by simp [hxl])
                refine wpAnyN_takeG 5 63 (v := hval x) rfl rfl (by kernel_rfl) (by kernel_rfl) (by kernel_rfl) (by kernel_rfl) (fun _ _ _ h => h) hy rfl (fun w hS => ?_) ?_
                · exact run_load_range 23 _ rfl hS (by go_simp) (.array 32 5) (by kernel_rfl) rfl 32 (by kernel_rfl) (by simp [hxl])
                simp only [Act.put, List.setIfInBounds_toArray, List.set_cons_succ, List.set_cons_zero]
                have hsz : rq + 1 ≤ wd.heap.size := hP.lt
                have hgq : g < rq := by rw [FQ.out.2.1]; exact HY.out.2
                refine wpAnyN_dag2 [6, 7] (fun i => match i with | 6 => some 12 | 7 => some 13 | _ => none) (fun _ => []) (fun i v w => match i with
                  | 6 => PtrC 23 zero32 v w
                  | 7 => PtrC 23 zero32 v w
                  | _ => True) (fun i => i == 6 || i == 7) (g := 2) (by kernel_rfl) (by kernel_rfl) rfl
                  ⟨fun _ _ _ hb h => PtrC.below hb h, fun _ _ _ hb h => PtrC.below hb h, trivial⟩
                  (fun w w' hb h => hash_below x h hb) ⟨?_, ?_, trivial⟩ ?_
                · intro vs w hb _ o ho
                  cases ho
                  simp only [putsD]
                  refine vwp_run rfl (v := .pointer (some ⟨w.heap.size, 0, none⟩)) (w' := w.alloc (.cells zero32 23)) ?_ ⟨below_alloc1 _ _, ⟨_, rfl, Blk.new _ _ _⟩, fun _ => ⟨_, rfl, Nat.le_refl _, alloc_lt _ _⟩⟩
                  go_simp
                · intro vs w hb _ o ho
                  cases ho
                  simp only [putsD]
                  refine vwp_run rfl (v := .pointer (some ⟨w.heap.size, 0, none⟩)) (w' := w.alloc (.cells zero32 23)) ?_ ⟨below_alloc1 _ _, ⟨_, rfl, Blk.new _ _ _⟩, fun _ => ⟨_, rfl, Nat.le_refl _, alloc_lt _ _⟩⟩
                  go_simp
                · intro vs w2 hb hR hne hfr
                  obtain ⟨⟨b2, h12, hk2⟩, ⟨b3, h13, hk3⟩, -⟩ := hR
                  have hne2 := hne 6 (by simp) 7 (by simp) (by decide) rfl rfl
                  rw [h12, h13] at hne2
                  have hb23 : b2 ≠ b3 := fun e => hne2 (by rw [e])
                  obtain ⟨x1, hx1, hx1', -⟩ := hfr 6 (by simp) rfl
                  rw [h12] at hx1
                  obtain rfl : b2 = x1 := Option.some.inj hx1
                  obtain ⟨x2, hx2, hx2', -⟩ := hfr 7 (by simp) rfl
                  rw [h13] at hx2
                  obtain rfl : b3 = x2 := Option.some.inj hx2
                  have hr2 : rq + 1 ≤ b2 := by omega
                  have hr3 : rq + 1 ≤ b3 := by omega
                  have hP2 := hP.below hb hP.lt
                  have F2 : Below rq wq w2 := F.trans (hb.mono (by omega))
                  simp only [putsD]
                  rw [h12, h13]
                  clear hne hfr hne2 hx1 hx1' hx2 hx2' h12 h13 hb hP F hsz hy
                  clear wd
                  simp only [Act.put, List.setIfInBounds_toArray, List.set_cons_succ, List.set_cons_zero]
                  refine wpAnyN_store_blk 8 23 (.tmp 12) (.tmp 60) (by kernel_rfl) rfl rfl rfl rfl hk2 0 (x.1.map b8).toArray (by go_simp) (by go_simp) 32 (by kernel_rfl) (by simp [hxl]) (by simp) (by rw [List.toList_toArray]; exact b8_one _) (x.1.map b8).toArray (by simp) ?_
                  intro w3 hA3 hg3
                  have hk3' := hk3.grown hg3 (fun e => hb23 (Option.some.inj e).symm)
                  have hP3 := hP2.grown hg3 (fun e => by have := Option.some.inj e; omega)
                  have F3 := below_upd F2 hg3 (by omega) hk2.lt
                  refine ⟨fun _ h => range_grown h hg3 (hash_lt x h) (by omega), ?_⟩
                  clear hg3 hk2 hk3 hP2 F2
                  clear w2
                  refine wpAnyN_store_blk 9 23 (.tmp 13) (.tmp 63) (by kernel_rfl) rfl rfl rfl rfl hk3' 0 (x.1.map b8).toArray (by go_simp) (by go_simp) 32 (by kernel_rfl) (by simp [hxl]) (by simp) (by rw [List.toList_toArray]; exact b8_one _) (x.1.map b8).toArray (by simp) ?_
                  intro w4 hB4 hg4
                  have hA4 := hA3.grown hg4 (fun e => hb23 (Option.some.inj e))
                  have hP4 := hP3.grown hg4 (fun e => by have := Option.some.inj e; omega)
                  have F4 := below_upd F3 hg4 (by omega) hk3'.lt
                  refine ⟨fun _ h => range_grown h hg4 (hash_lt x h) (by omega), wpAnyN_done (by kernel_rfl) ?_⟩
                  clear hg4 hk3' hP3 hA3 F3
                  clear w3
                  go_wp2
                  obtain ⟨T, hT⟩ : ∃ T, T = runQ a l x x q := ⟨_, rfl⟩
                  have hTL := Lib.hid hT
                  rw [← hT] at HZ
                  clear hT
                  go_loopg [15, 67] q.length (fun g _ x67 wr => ∃ (i a l : Nat) (f s : Hs), x67 = .int .i64 i ∧ i + g = q.length ∧ a ≤ 9223372036854775807 ∧ l ≤ 9223372036854775807 ∧ T = runQ a l f s (q.drop i) ∧ Blk wr rq 54 (plc a l) ∧ Blk wr b2 23 (f.1.map b8).toArray ∧ Blk wr b3 23 (s.1.map b8).toArray ∧ Below rq wq wr)
                  case atStart => exact ⟨0, a, l, x, x, rfl, by omega, ha, hl, hTL.out, hP4, hA4, hB4, F4⟩
                  case round =>
                    clear hP4 hA4 hB4 F4 hTL hd1 hd1' hd ha hl d1
                    obtain ⟨i, a, l, f, s, rfl, hig, ha, hl, hT, hP, hA, hB, F⟩ := hrel
                    have hfl := f.2
                    have hsl := s.2
                    by_cases hil : i < q.length
                    · have hd : decide ((i : Int) < (q.length : Int)) = true := by rw [decide_eq_true_eq]; omega
                      obtain ⟨g7, off7, e7, hg7, hrg⟩ := (HQ.out.below F (by rw [FQ.out.2.1]; exact Nat.le_refl _)).place (by omega)
                      subst e7
                      have hy0 := hrg i hil
                      have hdr : q.drop i = q[i] :: q.drop (i + 1) := List.drop_eq_getElem_cons hil
                      obtain ⟨y, hyy⟩ : ∃ y : Hs, y = q[i] := ⟨_, rfl⟩
                      rw [← hyy] at hy0 hdr
                      rw [hdr] at hT
                      have hyl := y.2
                      have HT := Lib.hid (And.intro hT (show i + 1 + (gk - 1) = q.length ∧ gk - 1 < gk by omega))
                      clear hrg hg7 hyy hdr hT hig
                      go_wp2_with (first | (refine wpList_load_mid rfl 23 _ rfl g7 (off7 + i * 32) rfl (y.1.map b8) (.array 32 5) hy0 (by kernel_rfl) rfl (by rw [List.length_map, hyl]; kernel_rfl) ?_) | (refine wpList_store_blk rfl 23 _ _ rfl (Blk.new wr zero32 23) (y.1.map b8).toArray rfl rfl 32 (by kernel_rfl) rfl (by simp [hyl]) (by rw [List.toList_toArray]; exact b8_one _) ?_))
                      intro w2 hX2 hg2
                      obtain ⟨b4, hb4⟩ : ∃ b4, b4 = wr.heap.size := ⟨_, rfl⟩
                      have hP2 := (hP.alloc (.cells zero32 23)).grown hg2 (fun e => by have := Option.some.inj e; have := hP.lt; omega)
                      have hA2 := (hA.alloc (.cells zero32 23)).grown hg2 (fun e => by have := Option.some.inj e; have := hA.lt; omega)
                      have hB2 := (hB.alloc (.cells zero32 23)).grown hg2 (fun e => by have := Option.some.inj e; have := hB.lt; omega)
                      have hrr : rq ≤ wr.heap.size := Nat.le_of_lt hP.lt
                      have F2 : Below rq wq w2 := below_upd (F.alloc hrr (.cells zero32 23)) hg2 hrr (alloc_lt _ _)
                      have h24 : b2 ≠ b4 := by have := hA.lt; omega
                      have h34 : b3 ≠ b4 := by have := hB.lt; omega
                      have h14 : rq ≠ b4 := by have := hP.lt; omega
                      rw [← hb4] at hX2 ⊢
                      clear hb4 hg2 hP hA hB F hrr hy0
                      clear wr
                      have c1 : w2.cell? ⟨rq, 1, none⟩ = some (.int .i64 l) := hP2.cell 1
                      by_cases hl0 : l = 0
                      · have hdl : ((l : Int) == 0) = true := by rw [hl0]; rfl
                        have hzf : z = false := by
                          rw [HZ.out, HT.out.1, hl0, runQ_zero]; simp
                        have HF := Lib.hid (show Below w.heap.size w w2 by rw [← HR.out]; exact FQ.out.1.trans (F2.mono (by have := FQ.out; omega)))
                        clear F2 hl0
                        go_wp2
                        go_ret
                        exact ⟨by first | rfl | (rw [hzf]; rfl), HF.out⟩
                      · have hdl : ((l : Int) == 0) = false := by rw [beq_eq_false_iff_ne]; omega
                        have cl := left_any w2 a l ha
                        rw [show pl a l = .agg (plc a l) from rfl] at cl
                        go_wp2_with (refine wpList_load_blk rfl 54 _ rfl hP2 rfl (.struct fs) hfs rfl 2 (by kernel_rfl) rfl ?_)
                        refine cl.mono ?_
                        rintro e w3 ⟨rfl, G3⟩
                        have hP3 := hP2.below G3 hP2.lt
                        have hA3 := hA2.below G3 hA2.lt
                        have hB3 := hB2.below G3 hB2.lt
                        have hX3 := hX2.below G3 hX2.lt
                        have hrs : rq ≤ w2.heap.size := Nat.le_of_lt hP2.lt
                        have F3 := F2.trans (G3.mono hrs)
                        clear cl hP2 hA2 hB2 hX2 F2 G3 c1 hrs
                        clear w2
                        by_cases hlf : a % 2 = 1 ∨ a = l
                        · rw [show decide (a % 2 = 1 ∨ a = l) = true by rw [decide_eq_true_eq]; exact hlf]
                          obtain ⟨u, hu⟩ : ∃ u, u = nodeH y f := ⟨_, rfl⟩
                          obtain ⟨v, hv⟩ : ∃ v, v = nodeH y s := ⟨_, rfl⟩
                          obtain ⟨E, hE⟩ : ∃ E, E = Tree.ends a l := ⟨_, rfl⟩
                          have hEb := ends_le a l
                          rw [← hE] at hEb
                          have hrun : T = runQ (E.1 / 2) (E.2 / 2) u v (q.drop (i + 1)) := by rw [HT.out.1, runQ_left hl0 hlf, ← hE, ← hu, ← hv]
                          have hul := u.2
                          have hvl := v.2
                          have HE := Lib.hid (And.intro hEb (And.intro ha hl))
                          have HN := Lib.hid (And.intro hrun (And.intro hu (And.intro hv hE)))
                          clear hrun hu hv hE hEb hlf
                          go_upto_region 19 with (fail)
                          refine wp_region_N (fun w' => Blk w' b4 23 (y.1.map b8).toArray ∧ Blk w' b2 23 (f.1.map b8).toArray ∧ Blk w' b3 23 (s.1.map b8).toArray ∧ Blk w' rq 54 (plc a l)) [8, 9, 10] (by kernel_rfl) ?_
                          obtain ⟨wd, hwd⟩ : ∃ wd, wd = w3.drew := ⟨_, rfl⟩
                          have hSd : Blk wd b4 23 (y.1.map b8).toArray ∧ Blk wd b2 23 (f.1.map b8).toArray ∧ Blk wd b3 23 (s.1.map b8).toArray ∧ Blk wd rq 54 (plc a l) := by rw [hwd]; exact ⟨hX3, hA3, hB3, hP3⟩
                          replace F3 : Below rq wq wd := by rw [hwd]; exact F3.drew
                          rw [← hwd]
                          clear hwd hX3 hA3 hB3 hP3
                          clear w3
                          refine wpAnyN_takeT 0 76 (v := hval y) rfl rfl (by kernel_rfl) (by kernel_rfl) (by kernel_rfl) (by kernel_rfl) (by kernel_rfl) (fun _ _ _ h => h) hSd rfl (fun w hS => ?_) ?_
                          · exact run_load_mid_blk 23 _ rfl hS.1 0 (by go_simp) (y.1.map b8) (fun j v h => by rw [Nat.zero_add, List.getElem?_toArray]; exact h) (.array 32 5) (by kernel_rfl) rfl 32 (by kernel_rfl) (by simp [hyl])
                          refine wpAnyN_takeT 1 77 (v := hval f) rfl rfl (by kernel_rfl) (by kernel_rfl) (by kernel_rfl) (by kernel_rfl) (by kernel_rfl) (fun _ _ _ h => h) hSd rfl (fun w hS => ?_) ?_
                          · exact run_load_mid_blk 23 _ rfl hS.2.1 0 (by go_simp) (f.1.map b8) (fun j v h => by rw [Nat.zero_add, List.getElem?_toArray]; exact h) (.array 32 5) (by kernel_rfl) rfl 32 (by kernel_rfl) (by simp [hfl])
                          refine wpAnyN_takeT 3 79 (v := hval y) rfl rfl (by kernel_rfl) (by kernel_rfl) (by kernel_rfl) (by kernel_rfl) (by kernel_rfl) (fun _ _ _ h => h) hSd rfl (fun w hS => ?_) ?_
                          · exact run_load_mid_blk 23 _ rfl hS.1 0 (by go_simp) (y.1.map b8) (fun j v h => by rw [Nat.zero_add, List.getElem?_toArray]; exact h) (.array 32 5) (by kernel_rfl) rfl 32 (by kernel_rfl) (by simp [hyl])
                          simp only [Act.put, List.setIfInBounds_toArray, List.set_cons_succ, List.set_cons_zero]
                          refine wpAnyN_takeT 4 80 (v := hval s) rfl rfl (by kernel_rfl) (by kernel_rfl) (by kernel_rfl) (by kernel_rfl) (by kernel_rfl) (fun _ _ _ h => h) hSd rfl (fun w hS => ?_) ?_
                          · exact run_load_mid_blk 23 _ rfl hS.2.2.1 0 (by go_simp) (s.1.map b8) (fun j v h => by rw [Nat.zero_add, List.getElem?_toArray]; exact h) (.array 32 5) (by kernel_rfl) rfl 32 (by kernel_rfl) (by simp [hsl])
                          refine wpAnyN_takeT 6 82 (v := .agg (plc a l)) rfl rfl (by kernel_rfl) (by kernel_rfl) (by kernel_rfl) (by kernel_rfl) (by kernel_rfl) (fun _ _ _ h => h) hSd rfl (fun w hS => ?_) ?_
                          · exact run_load_mid_blk 54 _ rfl hS.2.2.2 0 (by go_simp) (plc a l).toList (fun j v h => by rw [Nat.zero_add]; simpa using h) (.struct fs) hfs rfl 2 (by kernel_rfl) rfl
                          simp only [Act.put, List.setIfInBounds_toArray, List.set_cons_succ, List.set_cons_zero]
                          have hLd : Laid wd := hL.below (FQ.out.1.trans (F3.mono (by have := FQ.out; omega))) HR0.out
                          have c2 := node_any wd hLd y f
                          rw [← HN.out.2.1] at c2
                          refine wpAnyN_call 2 31 (some 78) [.tmp 76, .tmp 77] [hval y, hval f] (by kernel_rfl) rfl rfl rfl rfl (by go_simp) Tryd.call31 ?_
                          refine c2.mono ?_
                          rintro e w4 ⟨rfl, G4⟩
                          have hS4 : _ ∧ _ ∧ _ ∧ _ := ⟨hSd.1.below G4 hSd.1.lt, hSd.2.1.below G4 hSd.2.1.lt, hSd.2.2.1.below G4 hSd.2.2.1.lt, hSd.2.2.2.below G4 hSd.2.2.2.lt⟩
                          have hrs : rq ≤ wd.heap.size := Nat.le_of_lt hSd.2.2.2.lt
                          have F4 := F3.trans (G4.mono hrs)
                          refine ⟨_, rfl, fun _ h => ⟨h.1.below G4 h.1.lt, h.2.1.below G4 h.2.1.lt, h.2.2.1.below G4 h.2.2.1.lt, h.2.2.2.below G4 h.2.2.2.lt⟩, ?_⟩
                          have hL4 : Laid w4 := hL.below (FQ.out.1.trans (F4.mono (by have := FQ.out; omega))) HR0.out
                          clear c2 hSd F3 G4 hrs hLd
                          clear wd
                          simp only [Act.put, List.setIfInBounds_toArray, List.set_cons_succ, List.set_cons_zero]
                          have c3 := node_any w4 hL4 y s
                          rw [← HN.out.2.2.1] at c3
                          refine wpAnyN_call 5 31 (some 81) [.tmp 79, .tmp 80] [hval y, hval s] (by kernel_rfl) rfl rfl rfl rfl (by go_simp) Tryd.call31 ?_
                          refine c3.mono ?_
                          rintro e w5 ⟨rfl, G5⟩
                          have hS5 : _ ∧ _ ∧ _ ∧ _ := ⟨hS4.1.below G5 hS4.1.lt, hS4.2.1.below G5 hS4.2.1.lt, hS4.2.2.1.below G5 hS4.2.2.1.lt, hS4.2.2.2.below G5 hS4.2.2.2.lt⟩
                          have hrs : rq ≤ w4.heap.size := Nat.le_of_lt hS4.2.2.2.lt
                          have F5 := F4.trans (G5.mono hrs)
                          refine ⟨_, rfl, fun _ h => ⟨h.1.below G5 h.1.lt, h.2.1.below G5 h.2.1.lt, h.2.2.1.below G5 h.2.2.1.lt, h.2.2.2.below G5 h.2.2.2.lt⟩, ?_⟩
                          clear c3 hS4 F4 G5 hrs hL4
                          clear w4
                          simp only [Act.put, List.setIfInBounds_toArray, List.set_cons_succ, List.set_cons_zero]
                          have c4 := ends_any w5 a l ha hl
                          rw [show pl a l = .agg (plc a l) from rfl, ← HN.out.2.2.2, show pl E.1 E.2 = .agg (plc E.1 E.2) from rfl] at c4
                          refine wpAnyN_call 7 32 (some 83) [.tmp 82] [.agg (plc a l)] (by kernel_rfl) rfl rfl rfl rfl (by go_simp) Tryd.call32 ?_
                          refine c4.mono ?_
                          rintro e w6 ⟨rfl, G6⟩
                          have hA6 := hS5.2.1.below G6 hS5.2.1.lt
                          have hB6 := hS5.2.2.1.below G6 hS5.2.2.1.lt
                          have hP6 := hS5.2.2.2.below G6 hS5.2.2.2.lt
                          have hrs : rq ≤ w5.heap.size := Nat.le_of_lt hS5.2.2.2.lt
                          have F6 := F5.trans (G6.mono hrs)
                          refine ⟨_, rfl, fun _ h => ⟨h.1.below G6 h.1.lt, h.2.1.below G6 h.2.1.lt, h.2.2.1.below G6 h.2.2.1.lt, h.2.2.2.below G6 h.2.2.2.lt⟩, ?_⟩
                          clear c4 hS5 F5 G6 hrs
                          clear w5
                          simp only [Act.put, List.setIfInBounds_toArray, List.set_cons_succ, List.set_cons_zero]
                          refine wpAnyN_store_blk 8 23 (.tmp 12) (.tmp 78) (by kernel_rfl) rfl rfl rfl rfl hA6 0 (u.1.map b8).toArray (by go_simp) (by go_simp) 32 (by kernel_rfl) (by simp [hul]) (by simp [hfl]) (by rw [List.toList_toArray]; exact b8_one _) (u.1.map b8).toArray (by simp [hfl]) ?_
                          intro w7 hA7 hg7
                          have hB7 := hB6.grown hg7 (fun e => hb23 (Option.some.inj e).symm)
                          have hP7 := hP6.grown hg7 (fun e => by have := Option.some.inj e; omega)
                          have F7 := below_upd F6 hg7 (by omega) hA6.lt
                          refine ⟨fun h => absurd (by simp) h, ?_⟩
                          clear hg7 hA6 hB6 hP6 F6
                          clear w6
                          refine wpAnyN_store_blk 9 23 (.tmp 13) (.tmp 81) (by kernel_rfl) rfl rfl rfl rfl hB7 0 (v.1.map b8).toArray (by go_simp) (by go_simp) 32 (by kernel_rfl) (by simp [hvl]) (by simp [hsl]) (by rw [List.toList_toArray]; exact b8_one _) (v.1.map b8).toArray (by simp [hsl]) ?_
                          intro w8 hB8 hg8
                          have hA8 := hA7.grown hg8 (fun e => hb23 (Option.some.inj e))
                          have hP8 := hP7.grown hg8 (fun e => by have := Option.some.inj e; omega)
                          have F8 := below_upd F7 hg8 (by omega) hB7.lt
                          refine ⟨fun h => absurd (by simp) h, ?_⟩
                          clear hg8 hA7 hB7 hP7 F7
                          clear w7
                          refine wpAnyN_store_blk 10 54 (.tmp 11) (.tmp 83) (by kernel_rfl) rfl rfl rfl rfl hP8 0 (plc E.1 E.2) (by go_simp) (by go_simp) 2 (by kernel_rfl) rfl (Nat.le_refl 2) (plc_one _ _) (plc E.1 E.2) rfl ?_
                          intro w6 hP6 hg9
                          have hA6 := hA8.grown hg9 (fun e => by have := Option.some.inj e; omega)
                          have hB6 := hB8.grown hg9 (fun e => by have := Option.some.inj e; omega)
                          have F6 := below_upd F8 hg9 (Nat.le_refl _) hP8.lt
                          refine ⟨fun h => absurd (by simp) h, wpAnyN_done (by kernel_rfl) ?_⟩
                          clear hg9 hA8 hB8 hP8 F8
                          clear w8
                          have cu := up_any w6 E.1 E.2 (by have := HE.out; omega) (by have := HE.out; omega)
                          rw [show pl E.1 E.2 = .agg (plc (E.1 : Nat) (E.2 : Nat)) from rfl, show pl (E.1 / 2) (E.2 / 2) = .agg (plc ((E.1 / 2 : Nat) : Int) ((E.2 / 2 : Nat) : Int)) from rfl] at cu
                          go_wp2_with (refine wpList_load_blk rfl 54 _ rfl hP6 rfl (.struct fs) hfs rfl 2 (by kernel_rfl) rfl ?_)
                          refine cu.mono ?_
                          rintro e w7 ⟨rfl, G7⟩
                          have hP7 := hP6.below G7 hP6.lt
                          have hA7 := hA6.below G7 hA6.lt
                          have hB7 := hB6.below G7 hB6.lt
                          have F7 := F6.trans (G7.mono (Nat.le_of_lt hP6.lt))
                          clear cu hP6 hA6 hB6 F6 G7
                          clear w6
                          go_wp2_with (refine wpList_store_blk rfl 54 _ _ rfl hP7 (plc ((E.1 / 2 : Nat) : Int) ((E.2 / 2 : Nat) : Int)) rfl rfl 2 (by kernel_rfl) rfl rfl (plc_one _ _) ?_)
                          intro w8 hP8 hg8
                          have hA8 := hA7.grown hg8 (fun e => by have := Option.some.inj e; omega)
                          have hB8 := hB7.grown hg8 (fun e => by have := Option.some.inj e; omega)
                          have F8 := below_upd F7 hg8 (Nat.le_refl _) hP7.lt
                          have HW := Lib.hid (And.intro hP8 (And.intro hA8 (And.intro hB8 F8)))
                          clear hg8 hP7 hA7 hB7 F7 hP8 hA8 hB8 F8
                          go_wp2
                          go_roundg (gk - 1)
                          case measure => exact HT.out.2.2
                          case rel => exact ⟨i + 1, E.1 / 2, E.2 / 2, u, v, by go_num, HT.out.2.1, by have := HE.out; omega, by have := HE.out; omega, HN.out.1, HW.out.1, HW.out.2.1, HW.out.2.2.1, HW.out.2.2.2⟩
                        · rw [show decide (a % 2 = 1 ∨ a = l) = false by rw [decide_eq_false_iff_not]; exact hlf]
                          obtain ⟨v, hv⟩ : ∃ v, v = nodeH s y := ⟨_, rfl⟩
                          have hrun : T = runQ (a / 2) (l / 2) f v (q.drop (i + 1)) := by rw [HT.out.1, runQ_right hl0 hlf, ← hv]
                          have hvl := v.2
                          have HE := Lib.hid (And.intro ha hl)
                          have c2 := node_any w3 (hL.below (FQ.out.1.trans (F3.mono (by have := FQ.out; omega))) HR0.out) s y
                          rw [← hv] at c2
                          have HN := Lib.hid hrun
                          clear hrun hv hlf
                          go_wp2_with (first | (refine wpList_load_mid_blk rfl 23 (.tmp 13) rfl hB3 0 rfl (s.1.map b8) (fun j v hv => by rw [Nat.zero_add, List.getElem?_toArray]; exact hv) (.array 32 5) (by kernel_rfl) rfl 32 (by kernel_rfl) (by simp [hsl]) ?_) | (refine wpList_load_mid_blk rfl 23 (.tmp 15) rfl hX3 0 rfl (y.1.map b8) (fun j v hv => by rw [Nat.zero_add, List.getElem?_toArray]; exact hv) (.array 32 5) (by kernel_rfl) rfl 32 (by kernel_rfl) (by simp [hyl]) ?_))
                          refine c2.mono ?_
                          rintro e w5 ⟨rfl, G5⟩
                          have hP5 := hP3.below G5 hP3.lt
                          have hA5 := hA3.below G5 hA3.lt
                          have hB5 := hB3.below G5 hB3.lt
                          have hrs : rq ≤ w3.heap.size := Nat.le_of_lt hP3.lt
                          have F5 := F3.trans (G5.mono hrs)
                          clear c2 hP3 hA3 hB3 F3 G5 hX3 hrs
                          clear w3
                          go_wp2_with (refine wpList_store_blk rfl 23 _ _ rfl hB5 (v.1.map b8).toArray rfl rfl 32 (by kernel_rfl) (by simp [hsl]) (by simp [hvl]) (by rw [List.toList_toArray]; exact b8_one _) ?_)
                          intro w6 hB6 hg6
                          have hP6 := hP5.grown hg6 (fun e => by have := Option.some.inj e; omega)
                          have hA6 := hA5.grown hg6 (fun e => hb23 (Option.some.inj e))
                          have F6 := below_upd F5 hg6 (by omega) hB5.lt
                          clear hg6 hP5 hA5 hB5 F5
                          have cu := up_any w6 a l (by have := HE.out; omega) (by have := HE.out; omega)
                          rw [show pl a l = .agg (plc (a : Nat) (l : Nat)) from rfl, show pl (a / 2) (l / 2) = .agg (plc ((a / 2 : Nat) : Int) ((l / 2 : Nat) : Int)) from rfl] at cu
                          go_wp2_with (refine wpList_load_blk rfl 54 _ rfl hP6 rfl (.struct fs) hfs rfl 2 (by kernel_rfl) rfl ?_)
                          refine cu.mono ?_
                          rintro e w7 ⟨rfl, G7⟩
                          have hP7 := hP6.below G7 hP6.lt
                          have hA7 := hA6.below G7 hA6.lt
                          have hB7 := hB6.below G7 hB6.lt
                          have F7 := F6.trans (G7.mono (Nat.le_of_lt hP6.lt))
                          clear cu hP6 hA6 hB6 F6 G7
                          clear w6
                          go_wp2_with (refine wpList_store_blk rfl 54 _ _ rfl hP7 (plc ((a / 2 : Nat) : Int) ((l / 2 : Nat) : Int)) rfl rfl 2 (by kernel_rfl) rfl rfl (plc_one _ _) ?_)
                          intro w8 hP8 hg8
                          have hA8 := hA7.grown hg8 (fun e => by have := Option.some.inj e; omega)
                          have hB8 := hB7.grown hg8 (fun e => by have := Option.some.inj e; omega)
                          have F8 := below_upd F7 hg8 (Nat.le_refl _) hP7.lt
                          have HW := Lib.hid (And.intro hP8 (And.intro hA8 (And.intro hB8 F8)))
                          clear hg8 hP7 hA7 hB7 F7 hP8 hA8 hB8 F8
                          go_wp2
                          go_roundg (gk - 1)
                          case measure => exact HT.out.2.2
                          case rel => exact ⟨i + 1, a / 2, l / 2, f, v, by go_num, HT.out.2.1, by have := HE.out; omega, by have := HE.out; omega, HN.out, HW.out.1, HW.out.2.1, HW.out.2.2.1, HW.out.2.2.2⟩
                    · have hd : decide (i < q.length) = false := by rw [decide_eq_false_iff_not]; omega
                      have hdr : q.drop i = [] := List.drop_of_length_le (by omega)
                      rw [hdr, runQ_nil] at hT
                      have c1 : wr.cell? ⟨rq, 1, none⟩ = some (.int .i64 l) := hP.cell 1
                      have hLr : Blk wr r 23 (old.1.map b8).toArray := hLL.below F (by have := FQ.out; omega)
                      have hRr : Blk wr (r + 1) 23 (root.1.map b8).toArray := hRR.below F (by have := FQ.out; omega)
                      have HF := Lib.hid (show Below w.heap.size w wr by rw [← HR.out]; exact FQ.out.1.trans (F.mono (by have := FQ.out; omega)))
                      clear F hig hdr
                      by_cases hl0 : l = 0
                      · have hdl : ((l : Int) == 0) = true := by rw [hl0]; rfl
                        have hzq : z = (f.1 == old.1 && s.1 == root.1) := by
                          rw [HZ.out, hT, if_pos hl0, Bool.eq_iff_iff, decide_eq_true_eq, Bool.and_eq_true, beq_iff_eq, beq_iff_eq]
                          exact ⟨fun e => by have := Option.some.inj e; injection this with e1 e2; exact ⟨by rw [e1], by rw [e2]⟩, fun e => by rw [Subtype.ext e.1, Subtype.ext e.2]⟩
                        clear hT hl0
                        cases hqq : (f.1 == old.1) with
                        | false =>
                          have hzf : z = false := by rw [hzq, hqq]; rfl
                          clear hzq
                          go_wp2_with (first | (refine wpList_load_blkW (by go_simp) 23 (.tmp 12) rfl hA rfl (f.1.map b8) rfl (.array 32 5) (by kernel_rfl) rfl 32 (by kernel_rfl) (by simp [hfl]) ?_) | (refine wpList_load_blkW (by go_simp) 23 (.tmp 7) rfl hLr rfl (old.1.map b8) rfl (.array 32 5) (by kernel_rfl) rfl 32 (by kernel_rfl) (by simp [hll]) ?_))
                          go_ret
                          exact ⟨by first | rfl | (rw [hzf]; rfl), HF.out⟩
                        | true =>
                          have HQ := Lib.hid (show z = (s.1 == root.1) by rw [hzq, hqq]; rfl)
                          clear hzq
                          go_wp2_with (first | (refine wpList_load_blkW (by go_simp) 23 (.tmp 12) rfl hA rfl (f.1.map b8) rfl (.array 32 5) (by kernel_rfl) rfl 32 (by kernel_rfl) (by simp [hfl]) ?_) | (refine wpList_load_blkW (by go_simp) 23 (.tmp 7) rfl hLr rfl (old.1.map b8) rfl (.array 32 5) (by kernel_rfl) rfl 32 (by kernel_rfl) (by simp [hll]) ?_) | (refine wpList_load_blkW (by go_simp) 23 (.tmp 13) rfl hB rfl (s.1.map b8) rfl (.array 32 5) (by kernel_rfl) rfl 32 (by kernel_rfl) (by simp [hsl]) ?_) | (refine wpList_load_blkW (by go_simp) 23 (.tmp 9) rfl hRr rfl (root.1.map b8) rfl (.array 32 5) (by kernel_rfl) rfl 32 (by kernel_rfl) (by simp [hrl]) ?_))
                          go_ret
                          exact ⟨by rw [HQ.out]; rfl, HF.out⟩
                      · have hdl : ((l : Int) == 0) = false := by rw [beq_eq_false_iff_ne]; omega
                        have hzf : z = false := by rw [HZ.out, hT, if_neg hl0]; simp
                        clear hT hl0
                        go_wp2
                        go_ret
                        exact ⟨by first | rfl | (rw [hzf]; rfl), HF.out⟩
end Go.Proofs.YtadiijieldldhaaDoor
