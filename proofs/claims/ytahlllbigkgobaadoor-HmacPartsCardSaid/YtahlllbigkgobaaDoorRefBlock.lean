/-
  The walk of chronicleref05.take: a block taken in, as the plain function compress does.
-/
import Derived.Test.YtahlllbigkgobaaDoorRefTake
namespace Go.Proofs.YtahlllbigkgobaaDoor
open Go.RowKit
abbrev st8v (s : St) : Array Value := #[w32 s.a, w32 s.b, w32 s.c, w32 s.d, w32 s.e, w32 s.f, w32 s.g, w32 s.h]
/-- the state in the middle of the last loop -/
def mixL (s v : St) (i : Nat) : List W := [if 0 < i then s.a + v.a else s.a, if 1 < i then s.b + v.b else s.b, if 2 < i then s.c + v.c else s.c, if 3 < i then s.d + v.d else s.d,
  if 4 < i then s.e + v.e else s.e, if 5 < i then s.f + v.f else s.f, if 6 < i then s.g + v.g else s.g, if 7 < i then s.h + v.h else s.h]
theorem mix_step (s v : St) (i : Nat) (h : i < 8) : (rowW (mixL s v i) 8)[i]? = some (w32 ((st8 s).getD i 0)) ∧ (st8v v)[i]? = some (w32 ((st8 v).getD i 0)) ∧
    (rowW (mixL s v i) 8).setIfInBounds i (w32 ((st8 s).getD i 0 + (st8 v).getD i 0)) = rowW (mixL s v (i + 1)) 8 := by
  have hi : i = 0 ∨ i = 1 ∨ i = 2 ∨ i = 3 ∨ i = 4 ∨ i = 5 ∨ i = 6 ∨ i = 7 := by omega
  rcases hi with rfl | rfl | rfl | rfl | rfl | rfl | rfl | rfl <;> exact ⟨rfl, rfl, rfl⟩
theorem take_rel2 {w wr : World} {n b i : Nat} {s v : St} {X : Array Value} {TX nq : Nat} (hbel : Below n w wr) (hi : i < 8) (h0 : Blk wr n 32 (rowW (mixL s v i) 8)) (hx : Blk wr b TX X) (hne : b ≠ n) (x : W) (hx2 : x = (st8 s).getD i 0 + (st8 v).getD i 0) :
    Below n w ((wr.drewN nq).setCell ⟨n, i, none⟩ (w32 x)) ∧ Blk ((wr.drewN nq).setCell ⟨n, i, none⟩ (w32 x)) n 32 (rowW (mixL s v (i + 1)) 8) ∧ Blk ((wr.drewN nq).setCell ⟨n, i, none⟩ (w32 x)) b TX X := by
  subst hx2
  refine ⟨(hbel.trans (below_drewN _ _ nq)).setCell (Nat.le_refl _) _, ?_, (hx.drewN nq).set_other _ (fun e => hne e.symm) _⟩
  rw [← (mix_step s v i hi).2.2]
  exact (h0.drewN nq).set i _

set_option maxRecDepth 100000 in
set_option maxHeartbeats 4000000 in
theorem take_any (s : St) (bk off len cp : Nat) (w : World) (bs : List B) (hlen : 64 ≤ len) (hlc : len ≤ 9223372036854775807)
  (hw : ∀ j, j < 64 → w.cell? ⟨bk, off + j, none⟩ = some (b8 (bs.getD j 0))) :
    Calls Tryd.prog 26 #[stv s, .slice (some ⟨bk, off, none⟩) len cp] w fun e w' => e = .returned (stv (compress s bs)) ∧ Below w.heap.size w w' := by
  have hbk : bk < w.heap.size := World.block_lt_of_cell? w _ (hw 0 (by omega))
  have B0 := (Blk.new w (st8v s) 32).alloc (.cells (rowW [] 8) 32)
  have B1 := Blk.new1 w (.cells (st8v s) 32) (rowW [] 8) 32
  have hbel0 := below_alloc2 w (.cells (st8v s) 32) (.cells (rowW [] 8) 32)
  unfold stv
  go_enter Tryd.func26, Tryd.ntmps26
  go_wp2_with fail
  refine (words_any bk off len cp _ bs hlen hlc (fun j hj => (hbel0.cell (p := ⟨bk, off + j, none⟩) hbk).trans (hw j hj))).mono ?_
  rintro e w1 ⟨rfl, hbw⟩
  have h0 := (B0.below hbw (by simp only [alloc_size]; omega)).alloc (.cells (rowW [] 64) 62)
  have h1 := (B1.below hbw (by simp only [alloc_size]; omega)).alloc (.cells (rowW [] 64) 62)
  have hbel1 := hbel0.trans (hbw.mono (by simp; omega))
  have hs1 := hbw.size
  have hn := Blk.new w1 (rowW [] 64) 62
  clear B0 B1 hbel0 hbw
  have hz := Lib.hid (rowW_size (wsched bs 48) 64 (by rw [wsched_len]; omega))
  go_wp2_with (refine wpList_store_blk rfl 62 _ _ rfl hn _ rfl rfl 64 (by kernel_rfl) rfl hz.out (rowW_one _ _) ?_)
  intro w2 h5 hg
  replace h0 := h0.grown hg (by simp only [ne_eq, Option.some.injEq]; simp only [alloc_size] at hs1; omega)
  replace h1 := h1.grown hg (by simp only [ne_eq, Option.some.injEq]; simp only [alloc_size] at hs1; omega)
  have hbel2 := below_upd (hbel1.alloc (by simp only [alloc_size] at hs1; omega) _) hg (by simp only [alloc_size] at hs1; omega) (by simp only [alloc_size]; omega)
  have hs2 := hg.size
  simp only [alloc_size] at hs1 hs2
  clear hg hn hbel1
  generalize w1.heap.size = b5 at *
  clear w1
  go_wp2_with fail
  refine (K_any w2).mono ?_
  rintro e w3 ⟨rfl, hbw⟩
  replace h0 := (h0.below hbw (by omega)).alloc (.cells (rowW [] 64) 62)
  replace h1 := (h1.below hbw (by omega)).alloc (.cells (rowW [] 64) 62)
  replace h5 := (h5.below hbw (by omega)).alloc (.cells (rowW [] 64) 62)
  have hbel3 := hbel2.trans (hbw.mono (by omega))
  have hs3 := hbw.size
  have hn := Blk.new w3 (rowW [] 64) 62
  clear hbw hbel2
  have hz2 := Lib.hid (rowW_size KK 64 (by decide))
  go_wp2_with (refine wpList_store_blk rfl 62 _ _ rfl hn _ rfl rfl 64 (by kernel_rfl) rfl hz2.out (rowW_one _ _) ?_)
  intro w4 h6 hg
  replace h0 := h0.grown hg (by simp only [ne_eq, Option.some.injEq]; omega)
  replace h1 := h1.grown hg (by simp only [ne_eq, Option.some.injEq]; omega)
  replace h5 := h5.grown hg (by simp only [ne_eq, Option.some.injEq]; omega)
  have hbel4 := below_upd (hbel3.alloc (by omega) _) hg (by omega) (by simp only [alloc_size]; omega)
  have hs4 := hg.size
  simp only [alloc_size] at hs4
  clear hg hn hbel3
  have hlt6 : b5 < w3.heap.size := by omega
  generalize w3.heap.size = b6 at *
  clear w3
  have hn := Blk.new w4 (rowW [] 8) 32
  have h0' := h0.alloc (.cells (rowW [] 8) 32)
  have h1' := h1.alloc (.cells (rowW [] 8) 32)
  have h5' := h5.alloc (.cells (rowW [] 8) 32)
  have h6' := h6.alloc (.cells (rowW [] 8) 32)
  go_wp2_with (first | (refine wpList_load_blk rfl 32 _ rfl h0 rfl (.array 8 31) (by kernel_rfl) rfl 8 (by kernel_rfl) rfl ?_) | (refine wpList_store_blk rfl 32 _ _ rfl hn _ rfl rfl 8 (by kernel_rfl) rfl rfl (by intro x hx; simp at hx; rcases hx with rfl | rfl | rfl | rfl | rfl | rfl | rfl | rfl <;> rfl) ?_))
  intro w5 h7 hg
  replace h0 := h0'.grown hg (by simp only [ne_eq, Option.some.injEq]; omega)
  replace h1 := h1'.grown hg (by simp only [ne_eq, Option.some.injEq]; omega)
  replace h5 := h5'.grown hg (by simp only [ne_eq, Option.some.injEq]; omega)
  replace h6 := h6'.grown hg (by simp only [ne_eq, Option.some.injEq]; omega)
  have hbel5 := below_upd (hbel4.alloc (by omega) _) hg (by omega) (by simp only [alloc_size]; omega)
  clear hg hn hbel4 h0' h1' h5' h6'
  have hlt7 : b6 < w4.heap.size := by omega
  generalize w4.heap.size = b7 at *
  clear w4 w2 hs2 hs4 hs3
  go_wp2
  go_loopw [8, 9, 10, 11, 12] (fun i _ _ _ _ wr => ∃ k : Nat, k ≤ 64 ∧ i = .int .i64 k ∧ Below w.heap.size w wr ∧ Blk wr w.heap.size 32 (st8v s) ∧ Blk wr (w.heap.size + 1) 32 (rowW [] 8) ∧
      Blk wr b5 62 (rowW (wsched bs 48) 64) ∧ Blk wr b6 62 (rowW KK 64) ∧ ∃ v : St, v = rnds (wsched bs 48) s k ∧ Blk wr b7 32 (st8v v)) (fun i _ _ _ _ _ => 64 - (intOf i).toNat)
  case atStart => exact ⟨0, by omega, rfl, hbel5, h0, h1, h5, h6, s, rfl, h7⟩
  case round =>
    clear hbel5 h0 h1 h5 h6 h7
    obtain ⟨k, hk, rfl, hbel, h0, h1, h5, h6, v, hv, h7⟩ := hrel
    have HV := Lib.hid hv
    clear hv
    by_cases hlt : k < 64
    · have hdk : decide ((k : Int) < 64) = true := by rw [decide_eq_true_eq]; omega
      have y0 : (k : Int) < 64 := by omega
      have g0 := (h5.cell k).trans (rowW_get _ 64 k (by omega) (by rw [wsched_len]; omega))
      have g1 := (h6.cell k).trans (rowW_get _ 64 k (by omega) (by decide))
      have s0 := h7.cell 0
      have s1 := h7.cell 1
      have s2 := h7.cell 2
      have s3 := h7.cell 3
      have s4 := h7.cell 4
      have s5 := h7.cell 5
      have s6 := h7.cell 6
      have s7 := h7.cell 7
      go_wp2_with fail
      go_quiet ((go_at_call 34; exact Calls.quiet_of_same (turned_any _ _ (by omega) (by omega) _)))
      replace hbel := hbel.trans (below_drewN _ _ nq)
      replace h0 := h0.drewN nq
      replace h1 := h1.drewN nq
      replace h5 := h5.drewN nq
      replace h6 := h6.drewN nq
      replace h7 := h7.drewN nq
      clear g0 g1 s0 s1 s2 s3 s4 s5 s6 s7
      obtain ⟨wq, hwq⟩ : ∃ wq, wq = wr.drewN nq := ⟨_, rfl⟩
      rw [← hwq] at hbel h0 h1 h5 h6 h7 ⊢
      clear hwq nq
      have s0 := h7.cell 0
      have s1 := h7.cell 1
      have s2 := h7.cell 2
      have s3 := h7.cell 3
      have s4 := h7.cell 4
      have s5 := h7.cell 5
      have s6 := h7.cell 6
      go_wp2_with fail
      go_quiet ((go_at_call 34; exact Calls.quiet_of_same (turned_any _ _ (by omega) (by omega) _)))
      replace hbel := hbel.trans (below_drewN _ _ nq)
      replace h0 := h0.drewN nq
      replace h1 := h1.drewN nq
      replace h5 := h5.drewN nq
      replace h6 := h6.drewN nq
      replace h7 := h7.drewN nq
      clear s0 s1 s2 s3 s4 s5 s6
      obtain ⟨wz, hwz⟩ : ∃ wz, wz = wq.drewN nq := ⟨_, rfl⟩
      rw [← hwz] at hbel h0 h1 h5 h6 h7 ⊢
      clear hwz nq
      have s0 := h7.cell 0
      have s1 := h7.cell 1
      have s2 := h7.cell 2
      have s3 := h7.cell 3
      have s4 := h7.cell 4
      have s5 := h7.cell 5
      have s6 := h7.cell 6
      go_wp2_with (refine wpList_store_blk rfl 32 _ _ rfl h7 _ rfl rfl 8 (by kernel_rfl) rfl rfl (by intro x hx; simp at hx; rcases hx with rfl | rfl | rfl | rfl | rfl | rfl | rfl | rfl <;> rfl) ?_)
      intro w' h7' hg'
      replace h0 := h0.grown hg' (by simp only [ne_eq, Option.some.injEq]; omega)
      replace h1 := h1.grown hg' (by simp only [ne_eq, Option.some.injEq]; omega)
      replace h5 := h5.grown hg' (by simp only [ne_eq, Option.some.injEq]; omega)
      replace h6 := h6.grown hg' (by simp only [ne_eq, Option.some.injEq]; omega)
      replace hbel := below_upd hbel hg' (by omega) h7.lt
      clear hg' s0 s1 s2 s3 s4 s5 s6
      go_wp2
      go_roundw
      case rel =>
        have hs := rnds_succ (wsched bs 48) s k
        rw [← HV.out] at hs
        refine ⟨k + 1, by omega, by go_num, hbel, h0, h1, h5, h6, _, hs.symm, ?_⟩
        have e : ∀ cs, cs = st8v (rnd v (KK.getD k 0) ((wsched bs 48).getD k 0)) → Blk w' b7 32 cs → Blk w' b7 32 (st8v (rnd v (KK.getD k 0) ((wsched bs 48).getD k 0))) := by rintro _ rfl h; exact h
        refine e _ ?_ h7'
        simp [rnd, t1f, t2f, bsig0, bsig1, ← ch_ref, ← maj_ref, List.getD]
      case measure => simp [intOf]; omega
    · obtain rfl : k = 64 := by omega
      clear hlt hk
      have HC : Hid (stAdd s v = compress s bs) := Lib.hid (by rw [HV.out]; rfl)
      clear HV
      have h0' : Blk wr w.heap.size 32 (rowW (mixL s v 0) 8) := h0
      clear h0
      go_wp2
      go_loopw [13] (fun i wr => ∃ k : Nat, k ≤ 8 ∧ i = .int .i64 k ∧ Below w.heap.size w wr ∧ Blk wr w.heap.size 32 (rowW (mixL s v k) 8) ∧ Blk wr (w.heap.size + 1) 32 (rowW [] 8) ∧ Blk wr b7 32 (st8v v)) (fun i _ => 8 - (intOf i).toNat)
      case atStart => exact ⟨0, by omega, rfl, hbel, h0', h1, h7⟩
      case round =>
        clear hbel h0' h1 h5 h6 h7
        obtain ⟨k, hk, rfl, hbel, h0, h1, h7⟩ := hrel
        by_cases hlt : k < 8
        · have hdk : decide ((k : Int) < 8) = true := by rw [decide_eq_true_eq]; omega
          have y0 : (k : Int) < 8 := by omega
          have M := mix_step s v k hlt
          have g0 := (h0.cell k).trans M.1
          have g1 := (h7.cell k).trans M.2.1
          have f0 := h0.free k
          clear M
          go_wp2_with fail
          refine wp_still_tail 8 (by kernel_rfl) (by kernel_rfl) ?_
          simp only [List.take_succ_cons, List.take_zero, List.drop_succ_cons, List.drop_zero, World.drew_is_drewN]
          repeat still_step
          refine wpStill_nil ?_
          go_wp2
          go_roundw
          case rel =>
            have R := take_rel2 (nq := 1) hbel hlt h0 h7 (by omega) ((st8 s).getD k 0 + (st8 v).getD k 0) rfl
            rw [show ∀ i, (st8 s).getD i 0 + (st8 v).getD i 0 = (st8 s)[i]?.getD 0#32 + (st8 v)[i]?.getD 0#32 from fun i => by simp [List.getD]] at R
            have R1 := (h1.drewN 1).set_other ⟨w.heap.size, k, none⟩ (by dsimp only; omega) (w32 ((st8 s)[k]?.getD 0#32 + (st8 v)[k]?.getD 0#32))
            repeat apply Exists.intro
            exact ⟨⟨k + 1, by omega, by go_num, R.1, R.2.1, R1, R.2.2⟩, rfl⟩
          case measure => simp [intOf]; omega
        · obtain rfl : k = 8 := by omega
          clear hlt hk
          have h0 : Blk wr w.heap.size 32 (st8v (stAdd s v)) := h0
          rw [HC.out] at h0
          go_wp2_with (first | (refine wpList_load_blk rfl 32 _ rfl h0 rfl (.array 8 31) (by kernel_rfl) rfl 8 (by kernel_rfl) rfl ?_) | (refine wpList_store_blk rfl 32 _ _ rfl h1 _ rfl rfl 8 (by kernel_rfl) rfl rfl (by intro x hx; simp at hx; rcases hx with rfl | rfl | rfl | rfl | rfl | rfl | rfl | rfl <;> rfl) ?_))
          intro w' h1' hg'
          have hbel' := below_upd hbel hg' (by omega) h1.lt
          go_wp2
          exact (ret_blk rfl h1' rfl (.array 8 31) (by kernel_rfl) rfl 8 (by kernel_rfl) rfl ⟨rfl, hbel'⟩).2
end Go.Proofs.YtahlllbigkgobaaDoor
