/-
  The walk of (*sha256.Digest).Write: bytes taken in.
-/
import Derived.Test.YtahlllbigkgobaaDoorTakes
import Derived.Test.YtahlllbigkgobaaDoorMem
import Derived.Test.YtahlllbigkgobaaDoorShaLaw
import Derived.Test.YtahlllbigkgobaaDoorRegion
import Derived.Deep.LoopGhost
import Derived.Deep.DeepCutAuto
namespace Go.Proofs.YtahlllbigkgobaaDoor
open Go.RowKit

theorem Laid.fr {S : Nat → Prop} {w w' : World} (h : Laid w) (k : Fr S w w') (h0 : ¬ S 0) (h1 : ¬ S 1) : Laid w' :=
  ⟨fun t ht => k.cell (h.1 t ht) h0, fun t ht => k.cell (h.2 t ht) h1⟩
/-- a digest's ten cells -/
abbrev dcells (s : St) (v : Value) (n : Nat) : Array Value := #[w32 s.a, w32 s.b, w32 s.c, w32 s.d, w32 s.e, w32 s.f, w32 s.g, w32 s.h, v, .int .u64 n]
theorem dcells_st (s : St) (x : Value) (n : Nat) : ∀ j v, ((st8 s).map w32)[j]? = some v → (dcells s x n)[0 + j]? = some v := by
  intro j v h
  have hj : j < 8 := by have := (List.getElem?_eq_some_iff.1 h).1; simpa [st8] using this
  match j, hj with
  | 0, _ | 1, _ | 2, _ | 3, _ | 4, _ | 5, _ | 6, _ | 7, _ => simpa [st8] using h
theorem stv_eq (s : St) : stv s = .agg ((st8 s).map w32).toArray := rfl
theorem dcells_size (s : St) (x : Value) (n : Nat) : 0 + 8 ≤ (dcells s x n).size := by simp
theorem st8_one (s : St) : ∀ u ∈ ((st8 s).map w32).toArray.toList, u.oneCell' = true := by
  intro u hu
  rw [List.toList_toArray, List.mem_map] at hu
  obtain ⟨q, _, rfl⟩ := hu
  rfl
theorem dcells_store (s s' : St) (x : Value) (n : Nat) : dcells s' x n = ((dcells s x n).toList.take 0 ++ ((st8 s').map w32).toArray.toList ++ (dcells s x n).toList.drop (0 + 8)).toArray := rfl
theorem absorb_zero (s : St) (bs : List B) : absorb s bs 0 = s := rfl
theorem absorb_add (n : Nat) : ∀ (m : Nat) (s : St) (bs : List B), absorb s bs (m + n) = absorb (absorb s bs m) (bs.drop (64 * m)) n := by
  intro m
  induction m with
  | zero => intro s bs; rw [Nat.zero_add, Nat.mul_zero]; rfl
  | succ m ih =>
    intro s bs
    rw [show m + 1 + n = (m + n) + 1 by omega]
    show absorb (compress s (bs.take 64)) (bs.drop 64) (m + n) = absorb (absorb (compress s (bs.take 64)) (bs.drop 64) m) (bs.drop (64 * (m + 1))) n
    rw [ih, List.drop_drop, show 64 + 64 * m = 64 * (m + 1) by omega]
attribute [local irreducible] compress absorb
def full (xs : List B) : Nat := xs.length / 64
def absd (xs : List B) : St := absorb st0 xs (full xs)
def rest (xs : List B) : List B := xs.drop (64 * full xs)
theorem absd_nil : absd [] = st0 := absorb_zero _ _
/-- block b is a digest that has taken in xs; v: the slice of what is left over -/
structure Dig (w : World) (b : Nat) (v : Value) (xs : List B) : Prop where
  st : ∃ s, Blk w b 36 (dcells s v xs.length) ∧ (xs ≠ [] → s = absd xs)
  row : Row w v 5 1 (rest xs).length ((rest xs).map b8)
  own : ∀ g, v.ownBlock = some g → g ≠ b ∧ g ≠ 0 ∧ g ≠ 1
  hb : b ≠ 0 ∧ b ≠ 1
theorem infoU8 : (Tryd.prog.info? 5).map (fun i => (i.zero, i.size, i.bytes)) = some (some (.int .u8 0), 1, 1) := by kernel_rfl

set_option maxRecDepth 100000 in
set_option maxHeartbeats 4000000 in
theorem write_any (b : Nat) (v : Value) (xs ys : List B) (ao : Option Addr) (cp : Nat) (w : World) (hL : Laid w) (hD : Dig w b v xs) (hY : Bts w ao ys) (hYb : ys ≠ [] → ∀ k off, ao = some ⟨k, off, none⟩ → k ≠ b) (hlen : xs.length + ys.length ≤ 1099511627776) :
    Calls Tryd.prog 16 #[.pointer (some ⟨b, 0, none⟩), .slice ao ys.length cp] w fun e w' => e = .returned (.tuple #[]) ∧ ∃ v', Dig w' b v' (xs ++ ys) ∧
      Fr (fun k => k = b ∨ some k = v.ownBlock) w w' ∧ (v'.ownBlock = v.ownBlock ∨ ∃ g, v'.ownBlock = some g ∧ w.heap.size ≤ g) := by
  obtain ⟨⟨s, hblk, hs⟩, hrow, hown, hb0, hb1⟩ := hD
  obtain ⟨i0, hi, hz0, hz1, hz2⟩ := info_parts infoU8
  have c9 := hblk.cell 9
  have hbw := hblk.lt
  have F0 := Fr.refl (fun k => k = b ∨ some k = v.ownBlock) w
  have hm : ∀ j u, ((st8 st0).map w32)[j]? = some u → w.cell? ⟨0, 0 + j, none⟩ = some u := by
    intro j u hu
    have hj : j < 8 := by have := (List.getElem?_eq_some_iff.1 hu).1; simpa [st8] using this
    rw [Nat.zero_add, hL.1 j hj, ← hu]
    simp [List.getD, show j < (st8 st0).length from hj]
  have q1 : IntKind.u64.wrap (ys.length : Int) = (ys.length : Int) := by rw [IntKind.wrap_u64]; omega
  have q2 : IntKind.u64.wrap ((xs.length : Int) + (ys.length : Int)) = (xs.length : Int) + (ys.length : Int) := by rw [IntKind.wrap_u64]; omega
  by_cases hx : xs = []
  case' pos =>
    have e0 : ((xs.length : Int) == 0) = true := by subst hx; rfl
    have ea : st0 = absd xs := by subst hx; exact absd_nil.symm
    have EA := Lib.hid ea
    have HX := Lib.hid hx
    clear hx ea hs
    go_enter Tryd.func16, Tryd.ntmps16
    go_wp2_with (first | (refine wpList_load_mid rfl 33 _ rfl 0 0 rfl ((st8 st0).map w32) (.array 8 31) hm (by kernel_rfl) rfl (by kernel_rfl) ?_) | (refine wpList_store_mid_blk rfl 33 _ _ rfl hblk 0 _ rfl rfl 8 (by kernel_rfl) rfl (by simp) (by intro x hx; simp [st8] at hx; rcases hx with rfl | rfl | rfl | rfl | rfl | rfl | rfl | rfl <;> rfl) (dcells st0 v xs.length) rfl ?_))
    intro w1 hblk1 hg
    have F1 := F0.grown hg (by intro x _ hx; exact .inl (Option.some.inj hx))
    rw [EA.out] at hblk1
    clear hm c9 EA HX
    go_upto_region 3 with (fail)
  case' neg =>
    have hx2 := hs hx
    have e0 : ((xs.length : Int) == 0) = false := by
      have : 0 < xs.length := List.length_pos_iff.2 hx
      rw [beq_eq_false_iff_ne]; omega
    obtain ⟨w1, hw1⟩ : ∃ w1, w1 = w := ⟨_, rfl⟩
    have hblk1 : Blk w1 b 36 (dcells (absd xs) v xs.length) := by rw [hw1, ← hx2]; exact hblk
    have F1 : Fr (fun k => k = b ∨ some k = v.ownBlock) w w1 := by rw [hw1]; exact F0
    have hrow1 : Row w1 v 5 1 (rest xs).length ((rest xs).map b8) := by rw [hw1]; exact hrow
    have hY1 : Bts w1 ao ys := by rw [hw1]; exact hY
    have HW := Lib.hid hw1
    clear hw1 hx2 hs
    go_enter Tryd.func16, Tryd.ntmps16
    go_upto_region 3 with (fail)
    rw [← HW.out]
    clear HW hm c9 hx
  case' pos =>
    have hrow1 : Row w1 v 5 1 (rest xs).length ((rest xs).map b8) := hrow.grown hg (fun g hv e => (hown g hv).1 (Option.some.inj e))
    have hY1 : Bts w1 ao ys := hY.kept2 fun hz k off e hlt => hg.block k hlt (fun e' => hYb hz k off e (Option.some.inj e'))
    clear hg
  all_goals
    clear hblk
    have c9 := hblk1.cell 9
    have f9 := hblk1.free 9
    have hblk2 := hblk1.set 9 (.int .u64 ((xs.length : Int) + (ys.length : Int)))
    have F2 := F1.setCell ⟨b, 9, none⟩ (.int .u64 ((xs.length : Int) + (ys.length : Int))) (fun _ => .inl rfl)
    have hrow2 := hrow1.setCell ⟨b, 9, none⟩ (.int .u64 ((xs.length : Int) + (ys.length : Int))) (fun e => (hown _ e).1 rfl)
    have hY2 : Bts (w1.setCell ⟨b, 9, none⟩ (.int .u64 ((xs.length : Int) + (ys.length : Int)))) ao ys := hY1.kept2 fun hz k off e _ => Below.heap_setCell _ _ _ _ (fun e' => hYb hz k off e e')
    go_upto_region 4 with (fail)
    obtain ⟨w2, hw2⟩ : ∃ w2, w2 = w1.setCell ⟨b, 9, none⟩ (.int .u64 ((xs.length : Int) + (ys.length : Int))) := ⟨_, rfl⟩
    rw [← hw2] at hblk2 F2 hrow2 hY2 ⊢
    clear hw2 c9 f9 hblk1 F1 hrow1 hY1 q1 q2
    clear w1
    have c8 := hblk2.cell 8
    have hl0 : (rest xs).length ≤ xs.length := by unfold rest; rw [List.length_drop]; omega
    have hl1 : (rest xs).length + ys.length ≤ maxLen := by simp only [maxLen]; omega
    have hl2 : ((rest xs).length + ys.length) * 1 ≤ 140737488355328 := by omega
    go_wp2_with (at_builtin; refine wpList_append_row rfl _ _ 22 22 rfl 5 i0 (.int .u8 0) 1 1 (by kernel_rfl) hi hz0 hz1 hz2 rfl (by decide) hrow2 rfl (hY2.src (e' := 5) (by kernel_rfl) ys.length cp rfl) rfl hl1 hl2 ?_)
    intro v3 w3 hrow3 hg3 hv3
    have hb2 : b < w2.heap.size := (Array.getElem?_eq_some_iff.1 hblk2).1
    have hblk3 := Blk.grown hblk2 hg3 (fun e => (hown b e.symm).1 rfl)
    have F3 := F2.grown hg3 (by intro x _ hx; exact .inr hx)
    have hv4 : v3.ownBlock = v.ownBlock ∨ ∃ g, v3.ownBlock = some g ∧ w.heap.size ≤ g := by
      rcases hv3 with h | ⟨h, _⟩
      · exact .inl h
      · exact .inr ⟨_, h, F2.size⟩
    have F2' : b < w.heap.size := hbw
    clear hg3 hv3 hblk2 hrow2 F2 c8 hY2
    rw [← List.map_append] at hrow3
    obtain ⟨zs, hzs⟩ : ∃ zs, zs = rest xs ++ ys := ⟨_, rfl⟩
    have hzl : (rest xs).length + ys.length = zs.length := by rw [hzs, List.length_append]
    rw [← hzs, hzl] at hrow3
    obtain ⟨ao3, cp3, rfl, -, hc3, hc4, -⟩ := hrow3.bts
    have HZ := Lib.hid hzs
    clear hzs hzl
    have f8 := hblk3.free 8
    have c8 := hblk3.cell 8
    have hblk4 := hblk3.set 8 (.slice ao3 zs.length cp3)
    have F4 := F3.setCell ⟨b, 8, none⟩ (.slice ao3 zs.length cp3) (fun _ => .inl rfl)
    have hb4 : (Value.slice ao3 zs.length cp3).ownBlock ≠ some b := by
      rcases hv4 with h | ⟨g, h, hg⟩
      · rw [h]; exact fun e => (hown b e).1 rfl
      · rw [h]; intro e; obtain rfl := Option.some.inj e
        have := F2'; omega
    have hrow4 := hrow3.setCell ⟨b, 8, none⟩ (.slice ao3 zs.length cp3) hb4
    go_wp2
    obtain ⟨w4, hw4⟩ : ∃ w4, w4 = w3.setCell ⟨b, 8, none⟩ (.slice ao3 zs.length cp3) := ⟨_, rfl⟩
    rw [← hw4] at hblk4 F4 hrow4 ⊢
    clear hw4 c8 f8 hblk3 F3 hrow3 hb4 hc3 hc4 hl0 hl1 hl2 hz0 hz2
    clear w3
    have hblk5 : Blk w4 b 36 (dcells (absd xs) (.slice ao3 zs.length cp3) (xs.length + ys.length)) := by
      rw [Blk, hblk4]; simp
    clear hblk4
    go_loopg [] (zs.length / 64) (fun k wr => ∃ (m : Nat) (a : Option Addr) (c : Nat), m + k = zs.length / 64 ∧ Blk wr b 36 (dcells (absorb (absd xs) zs m) (.slice a (zs.length - 64 * m) c) (xs.length + ys.length)) ∧
      Row wr (.slice a (zs.length - 64 * m) c) 5 1 (zs.length - 64 * m) ((zs.drop (64 * m)).map b8) ∧ ((Value.slice a (zs.length - 64 * m) c).ownBlock = v.ownBlock ∨ ∃ g, (Value.slice a (zs.length - 64 * m) c).ownBlock = some g ∧ w.heap.size ≤ g) ∧
      Fr (fun k => k = b ∨ some k = v.ownBlock) w wr)
    case atStart => exact ⟨0, ao3, cp3, by omega, by rw [absorb_zero]; exact hblk5, hrow4, hv4, F4⟩
    case round =>
      obtain ⟨m, a3, c3, hm, hB, hR, hO, hF⟩ := hrel
      have c8 := hB.cell 8
      have h2 : 64 * m ≤ zs.length := by omega
      by_cases hq : 64 ≤ zs.length - 64 * m
      · have hd : decide ((64 : Int) ≤ ((zs.length - 64 * m : Nat) : Int)) = true := by rw [decide_eq_true_eq]; omega
        go_upto_region 6 with (fail)
        obtain ⟨g, off, cur, rfl, hg0, hc1, hc2, hc3, hcell⟩ := hR.place (by omega)
        have hsl : ∀ W : World, (Instr.slice 22 (.slice (some ⟨g, off, none⟩) (zs.length - 64 * m) c3) none (some (.int .i64 64)) none).run Tryd.prog W = .ok (.slice (some ⟨g, off, none⟩) 64 c3) W := fun W => run_upto_row (by kernel_rfl) hi g off _ c3 64 hq hc1 W
        obtain ⟨S, hSd⟩ : ∃ S : World → Prop, S = fun w => Blk w b 36 (dcells (absorb (absd xs) zs m) (.slice (some ⟨g, off, none⟩) (zs.length - 64 * m) c3) (xs.length + ys.length)) := ⟨_, rfl⟩
        refine wp_region_N S [13] (by kernel_rfl) ?_
        obtain ⟨wd, hwd⟩ : ∃ wd, wd = wr.drew := ⟨_, rfl⟩
        replace hB : Blk wd b 36 (dcells (absorb (absd xs) zs m) (.slice (some ⟨g, off, none⟩) (zs.length - 64 * m) c3) (xs.length + ys.length)) := by rw [hwd]; exact hB
        replace hR : Row wd (.slice (some ⟨g, off, none⟩) (zs.length - 64 * m) c3) 5 1 (zs.length - 64 * m) ((zs.drop (64 * m)).map b8) := by rw [hwd]; exact hR
        replace hF : Fr (fun k => k = b ∨ some k = v.ownBlock) w wd := by rw [hwd]; exact hF.drewN 1
        replace hcell : ∀ j, j < ((zs.drop (64 * m)).map b8).length → wd.cell? ⟨g, off + j, none⟩ = ((zs.drop (64 * m)).map b8)[j]? := by rw [hwd]; exact hcell
        rw [← hwd]
        clear hwd c8 hg0
        clear wr
        have hSw : S wd := by rw [hSd]; exact hB
        have HR := Lib.hid (And.intro hSd (And.intro hR hcell))
        clear hSd hR hcell
        refine wpAnyN_pureG 0 40 (v := ?_) rfl rfl (by kernel_rfl) (by kernel_rfl) (by kernel_rfl) (fun _ _ _ h => h) rfl (fun w => ?_) ?_
        rotate_left
        · go_simp
          try with_reducible rfl
        refine wpAnyN_pureG 1 41 (v := ?_) rfl rfl (by kernel_rfl) (by kernel_rfl) (by kernel_rfl) (fun _ _ _ h => h) rfl (fun w => ?_) ?_
        rotate_left
        · go_simp
          try with_reducible rfl
        refine wpAnyN_pureG 2 42 (v := ?_) rfl rfl (by kernel_rfl) (by kernel_rfl) (by kernel_rfl) (fun _ _ _ h => h) rfl (fun w => ?_) ?_
        rotate_left
        · go_simp
          try with_reducible rfl
        refine wpAnyN_pureG 3 43 (v := ?_) rfl rfl (by kernel_rfl) (by kernel_rfl) (by kernel_rfl) (fun _ _ _ h => h) rfl (fun w => ?_) ?_
        rotate_left
        · go_simp
          try with_reducible rfl
        refine wpAnyN_takeG 4 44 (v := ?_) rfl rfl (by kernel_rfl) (by kernel_rfl) (by kernel_rfl) (by kernel_rfl) (fun _ _ _ h => h) (by assumption) rfl (fun w hS => ?_) ?_
        rotate_left
        · (refine run_load_mid_blk 33 (.tmp 43) ?_ (by rw [HR.out.1] at hS; exact hS) 0 ?_ ((st8 (absorb (absd xs) zs m)).map w32) (dcells_st _ _ _) (.array 8 31) (by kernel_rfl) rfl 8 (by kernel_rfl) rfl <;> rfl)
        refine wpAnyN_pureG 5 45 (v := ?_) rfl rfl (by kernel_rfl) (by kernel_rfl) (by kernel_rfl) (fun _ _ _ h => h) rfl (fun w => ?_) ?_
        rotate_left
        · go_simp
          try with_reducible rfl
        refine wpAnyN_pureG 6 46 (v := ?_) rfl rfl (by kernel_rfl) (by kernel_rfl) (by kernel_rfl) (fun _ _ _ h => h) rfl (fun w => ?_) ?_
        rotate_left
        · go_simp
          try with_reducible rfl
        refine wpAnyN_pureG 7 47 (v := ?_) rfl rfl (by kernel_rfl) (by kernel_rfl) (by kernel_rfl) (fun _ _ _ h => h) rfl (fun w => ?_) ?_
        rotate_left
        · go_simp
          try with_reducible rfl
        refine wpAnyN_takeG 8 48 (v := ?_) rfl rfl (by kernel_rfl) (by kernel_rfl) (by kernel_rfl) (by kernel_rfl) (fun _ _ _ h => h) (by assumption) rfl (fun w hS => ?_) ?_
        rotate_left
        · (rw [HR.out.1] at hS; have c8 := hS.cell 8; go_simp; try with_reducible rfl)
        refine wpAnyN_pureG 9 49 (v := ?_) rfl rfl (by kernel_rfl) (by kernel_rfl) (by kernel_rfl) (fun _ _ _ h => h) rfl (fun w => ?_) ?_
        rotate_left
        · go_simp
          try with_reducible rfl
        have hcb : ∀ j, j < 64 → wd.cell? ⟨g, off + j, none⟩ = some (b8 ((zs.drop (64 * m)).getD j 0)) := fun j hj => by
          have := HR.out.2.2 j (by simp; omega)
          rw [this]
          simp [List.getD, show 64 * m + j < zs.length by omega]
        have hgb : g < wd.heap.size := World.block_lt_of_cell? wd _ (hcb 0 (by omega))
        have hLr : Laid wd := hL.fr hF (by rintro (h | h); exact hb0 h.symm; exact (hown _ h.symm).2.1 rfl) (by rintro (h | h); exact hb1 h.symm; exact (hown _ h.symm).2.2 rfl)
        refine wpAnyN_call 10 27 (some 50) [.tmp 44, .tmp 49] [.agg ((st8 (absorb (absd xs) zs m)).map w32).toArray, .slice (some ⟨g, off, none⟩) 64 c3] (by kernel_rfl) rfl rfl rfl rfl (by go_simp) Tryd.call27 ?_
        rw [← stv_eq]
        refine (takes_any (absorb (absd xs) zs m) g off c3 wd (zs.drop (64 * m)) (by omega) (by simp only [maxLen] at hc2; omega) hLr hcb).mono ?_
        rintro e w5 ⟨rfl, hw5⟩
        refine ⟨_, rfl, fun _ hS => ?_, ?_⟩
        · rw [HR.out.1] at hS ⊢
          exact hS.below hw5 hS.lt
        refine wpAnyN_pureG 11 51 (v := ?_) rfl rfl (by kernel_rfl) (by kernel_rfl) (by kernel_rfl) (fun _ _ _ h => h) rfl (fun w => ?_) ?_
        rotate_left
        · go_simp
          try with_reducible rfl
        refine wpAnyN_pureG 12 52 (v := ?_) rfl rfl (by kernel_rfl) (by kernel_rfl) (by kernel_rfl) (fun _ _ _ h => h) rfl (fun w => ?_) ?_
        rotate_left
        · go_simp
          try with_reducible rfl
        have hB5 : Blk w5 b 36 (dcells (absorb (absd xs) zs m) (.slice (some ⟨g, off, none⟩) (zs.length - 64 * m) c3) (xs.length + ys.length)) := hB.below hw5 hB.lt
        refine wpAnyN_store_blk 13 33 (.tmp 52) (.tmp 50) (by kernel_rfl) rfl rfl rfl rfl hB5 0 ((st8 (compress (absorb (absd xs) zs m) (zs.drop (64 * m)))).map w32).toArray (by go_simp) (by go_simp; rfl) 8 (by kernel_rfl) rfl (dcells_size _ _ _) (st8_one _) (dcells (compress (absorb (absd xs) zs m) (zs.drop (64 * m))) (.slice (some ⟨g, off, none⟩) (zs.length - 64 * m) c3) (xs.length + ys.length)) (dcells_store _ _ _ _) ?_
        intro w6 hB6 hg6
        refine ⟨fun h => absurd (by simp) h, wpAnyN_done (by kernel_rfl) ?_⟩
        have hbo : (Value.slice (some ⟨g, off, none⟩) (zs.length - 64 * m) c3).ownBlock ≠ some b := by
          rcases hO with h | ⟨g', h, hg'⟩
          · rw [h]; exact fun e => (hown b e).1 rfl
          · rw [h]; intro e; obtain rfl := Option.some.inj e; omega
        have hbo' : g ≠ b := fun e => hbo (by rw [e]; rfl)
        have hR6 := (HR.out.2.1.below hw5 (fun g' e => HR.out.2.1.lt g' e)).grown hg6 (fun g' e e' => hbo (e.trans e'))
        have hF6 := (hF.below hw5 (fun x hx hle => absurd (Nat.lt_of_lt_of_le hx hF.size) (Nat.not_lt.2 hle))).grown hg6 (by intro x _ e; exact .inl (Option.some.inj e))
        obtain ⟨a7, ha7, -, ho7, hk7⟩ := run_from_row (P := Tryd.prog) (t := 22) (by kernel_rfl) hi hz1 (some ⟨g, off, none⟩) (zs.length - 64 * m) c3 64 hq hc1
        have hR7 := hk7 _ _ hR6
        have c8 := hB6.cell 8
        have f8 := hB6.free 8
        have hB7 := hB6.set 8 (.slice a7 (zs.length - 64 * m - 64) (c3 - 64))
        have hF7 := hF6.setCell ⟨b, 8, none⟩ (.slice a7 (zs.length - 64 * m - 64) (c3 - 64)) (fun _ => .inl rfl)
        have hR8 := hR7.setCell ⟨b, 8, none⟩ (.slice a7 (zs.length - 64 * m - 64) (c3 - 64)) (by rw [ho7]; exact hbo)
        clear hR6 hF6 hR7 hk7 hB6 hg6 HR hB hF hw5 hB5 hLr hcb hsl
        have hO7 : (Value.slice a7 (zs.length - 64 * m - 64) (c3 - 64)).ownBlock = v.ownBlock ∨ ∃ g', (Value.slice a7 (zs.length - 64 * m - 64) (c3 - 64)).ownBlock = some g' ∧ w.heap.size ≤ g' := by rw [ho7]; exact hO
        have el : zs.length - 64 * (m + 1) = zs.length - 64 * m - 64 := by omega
        have ed : ((zs.drop (64 * m)).map b8).drop (64 * 1) = (zs.drop (64 * (m + 1))).map b8 := by rw [← List.map_drop, List.drop_drop]; congr 2
        have ec : compress (absorb (absd xs) zs m) (zs.drop (64 * m)) = absorb (absd xs) zs (m + 1) := by rw [absorb_snoc, compress_take]
        rw [ed] at hR8
        rw [ec] at hB7
        have HE := Lib.hid el
        clear ho7 ed ec el
        rcases (show (c3 = 64 ∧ a7 = some ⟨g, off, none⟩) ∨ (¬ c3 = 64 ∧ a7 = some ⟨g, off + 64, none⟩) by
          by_cases hcc : c3 = 64
          · exact .inl ⟨hcc, by rw [ha7, if_pos hcc]⟩
          · exact .inr ⟨hcc, by rw [ha7, if_neg hcc]; simp [Addr.add_lit]⟩) with ⟨rfl, rfl⟩ | ⟨hcc, rfl⟩
        case' inl =>
          have en : zs.length - 64 * m - 64 = 0 := by omega
          have e6 : 64 - 64 = 0 := rfl
          have HE2 := Lib.hid (HE.out.trans en)
          rw [en, e6] at hB7 hF7 hR8 hO7
          clear ha7 HE en e6
          go_wp2
        case' inr =>
          have HE2 := HE
          clear ha7 HE
          go_wp2
        all_goals
          go_roundg (gk - 1)
          case measure => omega
          case rel => exact ⟨m + 1, _, _, by omega, by rw [HE2.out]; exact hB7, by rw [HE2.out]; exact hR8, by rw [HE2.out]; exact hO7, hF7⟩
      · have hd : decide ((64 : Int) ≤ ((zs.length - 64 * m : Nat) : Int)) = false := by rw [decide_eq_false_iff_not]; omega
        go_wp2
        have hm2 : m = zs.length / 64 := by omega
        subst hm2
        have hzs := HZ.out
        have hx1 : full (xs ++ ys) = full xs + zs.length / 64 := by
          rw [hzs]; unfold full rest
          rw [List.length_append, List.length_append, List.length_drop]
          unfold full
          omega
        have hx2 : rest (xs ++ ys) = zs.drop (64 * (zs.length / 64)) := by
          rw [rest, hx1, Nat.mul_add, ← List.drop_drop, List.drop_append_of_le_length (by unfold full; omega), hzs]
          rfl
        have hx3 : absd (xs ++ ys) = absorb (absd xs) zs (zs.length / 64) := by
          rw [absd, hx1, absorb_add, absorb_append _ _ _ _ (by unfold full; omega), List.drop_append_of_le_length (by unfold full; omega), hzs]
          rfl
        have hx4 : (rest (xs ++ ys)).length = zs.length - 64 * (zs.length / 64) := by rw [hx2, List.length_drop]
        refine ⟨rfl, .tuple #[], results_nil Tryd.results16 _ _, rfl, _, ⟨⟨_, by rw [List.length_append]; exact hB, fun _ => hx3.symm⟩, by rw [hx4, hx2]; exact hR, fun g hg => ?_, hb0, hb1⟩, hF, hO⟩
        rcases hO with h | ⟨g', h, hg'⟩
        · exact hown g (h ▸ hg)
        · obtain rfl : g' = g := Option.some.inj (h.symm.trans hg)
          refine ⟨by omega, ?_, ?_⟩
          · have := World.block_lt_of_cell? w _ (hL.1 0 (by omega)); simp only at this; omega
          · have := World.block_lt_of_cell? w _ (hL.2 0 (by omega)); simp only at this; omega
end Go.Proofs.YtahlllbigkgobaaDoor
