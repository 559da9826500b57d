/-
  The walks of the reference's block function: chronicleref05.turned, words, K, take: take comes to 'compress'.
-/
import Derived.Test.YtahlllbigkgobaaDoorTakes
import Derived.Test.YtahlllbigkgobaaDoorShaLaw
namespace Go.Proofs.YtahlllbigkgobaaDoor
open Go.RowKit

set_option maxHeartbeats 400000 in
theorem turned_any (x : W) (n : Int) (h1 : 1 ≤ n) (h2 : n ≤ 31) (w : World) :
    Calls Tryd.prog 34 #[w32 x, .int .u32 n] w fun e w' => e = .returned (w32 (rotr n.toNat x)) ∧ w' = w := by
  have h3 : (32 - n).toNat = 32 - n.toNat := by omega
  have h4 : rotr n.toNat x = x >>> n.toNat ||| x <<< (32 - n.toNat) := rfl
  rw [h4]; clear h4
  have h6 : n ≤ 32 := by omega
  have h7 : 0 ≤ n := by omega
  have h8 : (0:Int) ≤ 32 - n := by omega
  have h9 : (32:Int) - n ≤ 32 := by omega
  have h10 : IntKind.u32.wrap (32 - n) = 32 - n := by rw [IntKind.wrap_u32]; omega
  go_enter Tryd.func34, Tryd.ntmps34
  go_wp2
  go_ret
  exact ⟨rfl, rfl⟩

theorem rowW_zero (ws : List W) (n : Nat) (h : ws.length < n) : rowW (ws ++ [0]) n = rowW ws n := by
  unfold rowW
  obtain ⟨m, hm⟩ : ∃ m, n - ws.length = m + 1 := ⟨n - ws.length - 1, by omega⟩
  have hm2 : n - (ws ++ [0]).length = m := by simp; omega
  rw [hm, hm2, List.replicate_succ, List.append_assoc]; rfl
theorem rowW_setlast (ws : List W) (n : Nat) (x y : W) : (rowW (ws ++ [x]) n).setIfInBounds ws.length (w32 y) = rowW (ws ++ [y]) n := by
  unfold rowW
  rw [List.setIfInBounds_toArray]
  congr 1
  have : n - (ws ++ [x]).length = n - (ws ++ [y]).length := by simp
  rw [this]
  simp
theorem rowW_acc (bs : List B) (k i : Nat) : (rowW (w16 bs k ++ [wacc bs k i]) 64).setIfInBounds k (w32 (wacc bs k (i + 1))) = rowW (w16 bs k ++ [wacc bs k (i + 1)]) 64 := by
  have := rowW_setlast (w16 bs k) 64 (wacc bs k i) (wacc bs k (i + 1))
  rwa [w16_len] at this
theorem w16_acc (bs : List B) (k : Nat) : w16 bs k ++ [wacc bs k 4] = w16 bs (k + 1) := by rw [w16_succ, wacc4]
theorem rowW_last (ws : List W) (x : W) (n : Nat) (h : ws.length < n) : (rowW (ws ++ [x]) n)[ws.length]? = some (w32 x) := by
  rw [rowW_get _ n _ h (by simp; omega)]; simp

theorem rowW_size (ws : List W) (n : Nat) (h : ws.length ≤ n) : (rowW ws n).size = n := by simp [rowW]; omega
theorem rowW_one (ws : List W) (n : Nat) : ∀ v ∈ (rowW ws n).toList, v.oneCell' = true := by
  intro v hv; simp [rowW] at hv; rcases hv with ⟨x, _, rfl⟩ | ⟨_, rfl⟩ <;> rfl
theorem words_rel2 {w wr : World} {m : Nat} {bs : List B} {r8 : Array Value} {nq : Nat} (hbel : Below w.heap.size w wr) (hm : 16 ≤ m) (hlt : m < 64) (hb0 : Blk wr w.heap.size 62 r8)
    (hblk : Blk wr (w.heap.size + 1) 62 (rowW (wsched bs (m - 16)) 64)) (x : W) (hx : x = wnext (wsched bs (m - 16)) m) :
    Below w.heap.size w ((wr.drewN nq).setCell ⟨w.heap.size + 1, m, none⟩ (w32 x)) ∧ Blk ((wr.drewN nq).setCell ⟨w.heap.size + 1, m, none⟩ (w32 x)) w.heap.size 62 r8 ∧
    Blk ((wr.drewN nq).setCell ⟨w.heap.size + 1, m, none⟩ (w32 x)) (w.heap.size + 1) 62 (rowW (wsched bs (m + 1 - 16)) 64) := by
  subst hx
  refine ⟨(hbel.trans (below_drewN _ _ nq)).setCell (by dsimp only; omega) _, (hb0.drewN nq).set_other _ (by dsimp only; omega) _, ?_⟩
  obtain ⟨j, rfl⟩ : ∃ j, m = 16 + j := ⟨m - 16, by omega⟩
  rw [show 16 + j + 1 - 16 = j + 1 from by omega, ← rowW_sched bs j (by omega)]
  rw [show 16 + j - 16 = j from by omega] at hblk ⊢
  exact (hblk.drewN nq).set (16 + j) _

set_option maxRecDepth 100000 in
set_option maxHeartbeats 4000000 in
theorem words_any (bk off len cp : Nat) (w : World) (bs : List B) (hlen : 64 ≤ len) (hlc : len ≤ 9223372036854775807)
  (hw : ∀ j, j < 64 → w.cell? ⟨bk, off + j, none⟩ = some (b8 (bs.getD j 0))) :
    Calls Tryd.prog 32 #[.slice (some ⟨bk, off, none⟩) len cp] w fun e w' => e = .returned (.agg (rowW (wsched bs 48) 64)) ∧ Below w.heap.size w w' := by
  have hbk : bk < w.heap.size := World.block_lt_of_cell? w _ (hw 0 (by omega))
  go_enter Tryd.func32, Tryd.ntmps32
  go_wp2
  go_loopw [4, 5] (fun t _ wr => ∃ k : Nat, k ≤ 16 ∧ t = .int .i64 k ∧ Below w.heap.size w wr ∧ Blk wr w.heap.size 62 (rowW [] 64) ∧ Blk wr (w.heap.size + 1) 62 (rowW (w16 bs k) 64)) (fun t _ _ => 16 - (intOf t).toNat)
  case atStart => exact ⟨0, by omega, rfl, below_alloc2 _ _ _, (Blk.new w (rowW [] 64) _).alloc _, Blk.new1 w _ (rowW (w16 bs 0) 64) _⟩
  case round =>
    obtain ⟨k, hk, rfl, hbel, hb0, hblk⟩ := hrel
    obtain ⟨wo, rfl⟩ : ∃ wo : World, wo = wr := ⟨_, rfl⟩
    by_cases hlt : k < 16
    · have hdk : decide ((k : Int) < 16) = true := by rw [decide_eq_true_eq]; omega
      go_wp2
      go_loopw [5] (fun i wr => ∃ j : Nat, j ≤ 4 ∧ i = .int .i64 j ∧ Below w.heap.size w wr ∧ Blk wr w.heap.size 62 (rowW [] 64) ∧ Blk wr (w.heap.size + 1) 62 (rowW (w16 bs k ++ [wacc bs k j]) 64)) (fun i _ => 4 - (intOf i).toNat)
      case atStart => exact ⟨0, by omega, rfl, hbel, hb0, by rw [wacc, rowW_zero _ _ (by rw [w16_len]; omega)]; exact hblk⟩
      case round =>
        clear hbel hb0 hblk
        obtain ⟨j, hj, rfl, hbel, hb0, hblk⟩ := hrel
        by_cases hltj : j < 4
        · have c0 := (hbel.cell (p := ⟨bk, off + (4 * k + j), none⟩) hbk).trans (hw (4*k+j) (by omega))
          have f0 := hblk.free k
          have g0 := rowW_last (w16 bs k) (wacc bs k j) 64 (by rw [w16_len]; omega)
          rw [w16_len, ← hblk.cell k] at g0
          have q1 : IntKind.i64.wrap (4 * (k : Int)) = 4 * (k : Int) := IntWalk.i64_in _ (by omega)
          have q2 : IntKind.i64.wrap (4 * (k : Int) + (j : Int)) = 4 * (k : Int) + (j : Int) := IntWalk.i64_in _ (by omega)
          have t2 : (4 * (k : Int) + (j : Int)).toNat = 4 * k + j := by omega
          have z2 : (0 : Int) ≤ 4 * (k : Int) + (j : Int) := by omega
          have y2 : 4 * (k : Int) + (j : Int) < (len : Int) := by omega
          have y3 : (k : Int) < 64 := by omega
          have R : ∀ nq, Below w.heap.size w ((wr.drewN nq).setCell ⟨w.heap.size + 1, k, none⟩ (w32 (wacc bs k (j + 1)))) ∧
              Blk ((wr.drewN nq).setCell ⟨w.heap.size + 1, k, none⟩ (w32 (wacc bs k (j + 1)))) w.heap.size 62 (rowW [] 64) ∧
              Blk ((wr.drewN nq).setCell ⟨w.heap.size + 1, k, none⟩ (w32 (wacc bs k (j + 1)))) (w.heap.size + 1) 62 (rowW (w16 bs k ++ [wacc bs k (j + 1)]) 64) := by
            intro nq
            refine ⟨(hbel.trans (below_drewN _ _ nq)).setCell (by dsimp only; omega) _, (hb0.drewN nq).set_other _ (by dsimp only; omega) _, ?_⟩
            rw [← rowW_acc bs k j]
            exact (hblk.drewN nq).set k _
          go_wp2_with fail
          refine wp_still_tail 15 (by kernel_rfl) (by kernel_rfl) ?_
          simp only [List.take_succ_cons, List.take_zero, List.drop_succ_cons, List.drop_zero, World.drew_is_drewN]
          repeat still_step
          refine wpStill_nil ?_
          go_wp2
          go_roundw
          case rel => exact ⟨j + 1, by omega, by go_num, R _⟩
          case measure => simp [intOf]; omega
        · obtain rfl : j = 4 := by omega
          rw [w16_acc] at hblk
          clear hltj hj
          go_wp2
          go_roundw
          case rel => exact ⟨k + 1, by omega, by go_num, hbel, hb0, hblk⟩
          case measure => simp [intOf]; omega
    · obtain rfl : k = 16 := by omega
      clear hlt hk
      go_wp2
      go_loopw [6, 7, 8, 9, 10] (fun i _ _ _ _ wr => ∃ m : Nat, 16 ≤ m ∧ m ≤ 64 ∧ i = .int .i64 m ∧ Below w.heap.size w wr ∧ Blk wr w.heap.size 62 (rowW [] 64) ∧ Blk wr (w.heap.size + 1) 62 (rowW (wsched bs (m - 16)) 64)) (fun i _ _ _ _ _ => 64 - (intOf i).toNat)
      case atStart => exact ⟨16, by omega, by omega, rfl, hbel, hb0, hblk⟩
      case round =>
        clear hbel hb0 hblk
        obtain ⟨m, hm1, hm2, rfl, hbel, hb0, hblk⟩ := hrel
        by_cases hlt : m < 64
        · have hdm : decide ((m : Int) < 64) = true := by rw [decide_eq_true_eq]; omega
          have hl := wsched_len bs (m - 16)
          have g0 := (hblk.cell (m - 15)).trans (rowW_get _ 64 (m - 15) (by omega) (by omega))
          have g1 := (hblk.cell (m - 2)).trans (rowW_get _ 64 (m - 2) (by omega) (by omega))
          have g2 := (hblk.cell (m - 7)).trans (rowW_get _ 64 (m - 7) (by omega) (by omega))
          have g3 := (hblk.cell (m - 16)).trans (rowW_get _ 64 (m - 16) (by omega) (by omega))
          have g4 := (hblk.cell m).trans (rowW_get _ 64 m (by omega) (by omega))
          have f4 := hblk.free m
          clear hl
          go_wp2_with (go_at_call 34; refine (turned_any _ _ (by omega) (by omega) _).mono ?_; rintro e w' ⟨rfl, rfl⟩)
          have q7 : IntKind.i64.wrap ((m : Int) - 7) = (m : Int) - 7 := IntWalk.i64_in _ (by omega)
          have q16 : IntKind.i64.wrap ((m : Int) - 16) = (m : Int) - 16 := IntWalk.i64_in _ (by omega)
          have t7 : ((m : Int) - 7).toNat = m - 7 := by omega
          have t16 : ((m : Int) - 16).toNat = m - 16 := by omega
          have z7 : (7 : Int) ≤ (m : Int) := by omega
          have z16 : (16 : Int) ≤ (m : Int) := by omega
          have y7 : (m : Int) - 7 < 64 := by omega
          have y16 : (m : Int) - 16 < 64 := by omega
          have y0 : (m : Int) < 64 := by omega
          refine wp_still_tail 15 (by kernel_rfl) (by kernel_rfl) ?_
          simp only [List.take_succ_cons, List.take_zero, List.drop_succ_cons, List.drop_zero, World.drew_is_drewN]
          repeat still_step
          refine wpStill_nil ?_
          go_wp2
          go_roundw
          case rel =>
            repeat apply Exists.intro
            exact ⟨⟨m + 1, by omega, by omega, by go_num, words_rel2 hbel hm1 hlt hb0 hblk _ (by simp [wnext, ssig0, ssig1, ← div8, ← div1024, List.getD])⟩, rfl⟩
          case measure => simp [intOf]; omega
        · obtain rfl : m = 64 := by omega
          clear hlt hm1 hm2
          have hz := Lib.hid (rowW_size (wsched bs 48) 64 (by rw [wsched_len]; omega))
          go_wp2_with (first | (refine wpList_load_blk rfl 62 _ rfl hblk rfl (.array 64 31) (by kernel_rfl) rfl 64 (by kernel_rfl) hz.out ?_) | (refine wpList_store_blk rfl 62 _ _ rfl hb0 _ rfl rfl 64 (by kernel_rfl) rfl hz.out (rowW_one _ _) ?_))
          intro w' hb0' hg'
          have hbel' := below_upd hbel hg' (by omega) hb0.lt
          go_wp2
          refine (ret_blk rfl hb0' rfl (.array 64 31) (by kernel_rfl) rfl 64 (by kernel_rfl) hz.out ⟨rfl, hbel'⟩).2
set_option maxRecDepth 100000 in
set_option maxHeartbeats 1000000 in
theorem K_any (w : World) :
    Calls Tryd.prog 33 #[] w fun e w' => e = .returned (.agg (rowW KK 64)) ∧ Below w.heap.size w w' := by
  have hb0 := Blk.new w (rowW [] 64) 62
  have hbel := below_alloc1 w (.cells (rowW [] 64) 62)
  go_enter Tryd.func33, Tryd.ntmps33
  go_wp2_with (first | (refine wpList_build rfl _ _ rfl (by kernel_rfl) ?_) | (refine wpList_store_row rfl 62 _ _ rfl w.heap.size (rowW KK 64) rfl (by kernel_rfl) 62 (rowW [] 64) hb0 (by kernel_rfl) rfl (by kernel_rfl) ?_))
  refine (ret_blk rfl (setRow_heap _ _ _ _ _ _ hb0) rfl (.array 64 31) (by kernel_rfl) rfl 64 (by kernel_rfl) rfl ⟨rfl, ?_⟩).2
  exact below_upd hbel (setRow_grown _ _ _) (Nat.le_refl _) hb0.lt
set_option maxRecDepth 100000 in
set_option maxHeartbeats 1000000 in
theorem Start_any (w : World) :
    Calls Tryd.prog 24 #[] w fun e w' => e = .returned (stv st0) ∧ Below w.heap.size w w' := by
  have hb0 := Blk.new w (rowW [] 8) 32
  have hbel := below_alloc1 w (.cells (rowW [] 8) 32)
  go_enter Tryd.func24, Tryd.ntmps24
  go_wp2_with (first | (refine wpList_build rfl _ _ rfl (by kernel_rfl) ?_) | (refine wpList_store_row rfl 32 _ _ rfl w.heap.size (rowW (st8 st0) 8) rfl (by kernel_rfl) 32 (rowW [] 8) hb0 (by kernel_rfl) rfl (by kernel_rfl) ?_))
  refine (ret_blk rfl (setRow_heap _ _ _ _ _ _ hb0) rfl (.array 8 31) (by kernel_rfl) rfl 8 (by kernel_rfl) rfl ⟨rfl, ?_⟩).2
  exact below_upd hbel (setRow_grown _ _ _) (Nat.le_refl _) hb0.lt
end Go.Proofs.YtahlllbigkgobaaDoor
