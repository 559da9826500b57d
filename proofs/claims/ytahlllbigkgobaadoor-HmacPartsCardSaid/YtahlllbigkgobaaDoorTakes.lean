/-
  The walk of sha256's block function: (state).takes takes a block in as the plain function 'compress' does; with right, word and bits.RotateLeft32.
-/
import Derived.Test.YtahlllbigkgobaaDoorRows
import Derived.Test.YtahlllbigkgobaaDoorLib
namespace Go.Proofs.YtahlllbigkgobaaDoor
open Go.RowKit

/-! ### laws of this program's types -/
@[go_sem] theorem st_u32 (w : World) (a : Addr) (x : BitVec 32) : (Instr.storeAt 31 (.pointer (some a)) (w32 x)).run Tryd.prog w = stored Tryd.prog w a (w32 x) .plain := run_storeAt_w32 (by kernel_rfl) w a x
@[go_sem] theorem st_u8 (w : World) (a : Addr) (x : BitVec 8) : (Instr.storeAt 5 (.pointer (some a)) (b8 x)).run Tryd.prog w = stored Tryd.prog w a (b8 x) .plain := run_storeAt_b8 (by kernel_rfl) w a x
@[go_sem] theorem conv_u8_u32 (x : BitVec 8) (w : World) : (convert 5 31 (b8 x)).run Tryd.prog w = .ok (w32 (x.setWidth 32)) w := run_conv_b8_w32 w x (by kernel_rfl) (by kernel_rfl)
@[go_sem] theorem conv_u32_u8 (x : BitVec 32) (w : World) : (convert 31 5 (w32 x)).run Tryd.prog w = .ok (b8 (x.setWidth 8)) w := run_conv_w32_b8 w x (by kernel_rfl) (by kernel_rfl)

/-- what the two package-level variables hold -/
def Laid (w : World) : Prop := (∀ t, t < 8 → w.cell? ⟨0, t, none⟩ = some (w32 ((st8 st0).getD t 0))) ∧ (∀ t, t < 64 → w.cell? ⟨1, t, none⟩ = some (w32 (KK.getD t 0)))
theorem Laid.below {w w' : World} {n : Nat} (h : Laid w) (hb : Below n w w') (hn : w.heap.size ≤ n) : Laid w' := by
  refine ⟨fun t ht => ?_, fun t ht => ?_⟩
  · have hlt := World.block_lt_of_cell? w _ (h.1 t ht)
    exact (hb.cell (p := ⟨_, t, none⟩) (Nat.lt_of_lt_of_le hlt hn)).trans (h.1 t ht)
  · have hlt := World.block_lt_of_cell? w _ (h.2 t ht)
    exact (hb.cell (p := ⟨_, t, none⟩) (Nat.lt_of_lt_of_le hlt hn)).trans (h.2 t ht)

theorem rot_bits (n : Int) (h1 : 1 ≤ n) (h2 : n ≤ 31) : bits .and .u64 (IntKind.u64.wrap (-n)) 31 = 32 - n := by
  have h : n = 1 ∨ n = 2 ∨ n = 3 ∨ n = 4 ∨ n = 5 ∨ n = 6 ∨ n = 7 ∨ n = 8 ∨ n = 9 ∨ n = 10 ∨ n = 11 ∨ n = 12 ∨ n = 13 ∨ n = 14 ∨ n = 15 ∨ n = 16 ∨ n = 17 ∨ n = 18 ∨ n = 19 ∨ n = 20 ∨ n = 21 ∨ n = 22 ∨ n = 23 ∨ n = 24 ∨ n = 25 ∨ n = 26 ∨ n = 27 ∨ n = 28 ∨ n = 29 ∨ n = 30 ∨ n = 31 := by omega
  rcases h with h | h | h | h | h | h | h | h | h | h | h | h | h | h | h | h | h | h | h | h | h | h | h | h | h | h | h | h | h | h | h <;> subst h <;> decide +kernel
set_option maxHeartbeats 400000 in
theorem rotl_any (x : BitVec 32) (n : Int) (h1 : 1 ≤ n) (h2 : n ≤ 31) (w : World) :
    Calls Tryd.prog 38 #[w32 x, .int .i64 (-n)] w fun e w' => e = .returned (w32 (rotr n.toNat x)) ∧ w' = w := by
  have hb := rot_bits n h1 h2
  have h3 : (32 - n).toNat = 32 - n.toNat := by omega
  have h4 : rotr n.toNat x = x <<< (32 - n.toNat) ||| x >>> n.toNat := BitVec.or_comm _ _
  have h5 : (32 : Int) - (32 - n) = n := by omega
  rw [h4]; clear h4
  have h6 : n ≤ 32 := by omega
  have h7 : 0 ≤ n := by omega
  have h8 : (0:Int) ≤ 32 - n := by omega
  have h9 : (32:Int) - n ≤ 32 := by omega
  go_enter Tryd.func38, Tryd.ntmps38
  go_wp2
  go_ret
  exact ⟨rfl, rfl⟩
set_option maxHeartbeats 400000 in
theorem right_any (x : BitVec 32) (n : Int) (h1 : 1 ≤ n) (h2 : n ≤ 31) (w : World) :
    Calls Tryd.prog 36 #[w32 x, .int .i64 n] w fun e w' => e = .returned (w32 (rotr n.toNat x)) ∧ w' = w := by
  go_enter Tryd.func36, Tryd.ntmps36
  go_wp2_with (go_at_call 38; refine (rotl_any _ _ h1 h2 _).mono ?_; rintro e w' ⟨rfl, rfl⟩)
  go_ret
  exact ⟨rfl, rfl⟩
set_option maxHeartbeats 400000 in
theorem word_any (bk off n cp : Nat) (b0 b1 b2 b3 : BitVec 8) (w : World) (hn : 4 ≤ n)
   (h0 : w.cell? ⟨bk, off, none⟩ = some (b8 b0)) (h1 : w.cell? ⟨bk, off+1, none⟩ = some (b8 b1)) (h2 : w.cell? ⟨bk, off+2, none⟩ = some (b8 b2)) (h3 : w.cell? ⟨bk, off+3, none⟩ = some (b8 b3)) :
    Calls Tryd.prog 35 #[.slice (some ⟨bk, off, none⟩) n cp] w fun e w' => e = .returned (w32 (word4 b0 b1 b2 b3)) ∧ ∃ n, w' = w.drewN n := by
  have g0 : (0:Int) < (n:Int) := by omega
  have g1 : (1:Int) < (n:Int) := by omega
  have g2 : (2:Int) < (n:Int) := by omega
  have g3 : (3:Int) < (n:Int) := by omega
  go_enter Tryd.func35, Tryd.ntmps35
  go_wp2_with fail
  go_quiet (fail)
  go_wp2
  go_ret
  exact ⟨rfl, _, rfl⟩

/-! ### rows of words -/
def rowW (ws : List W) (n : Nat) : Array Value := ((ws ++ List.replicate (n - ws.length) 0).map w32).toArray
theorem rowW_snoc (ws : List W) (n : Nat) (x : W) (h : ws.length < n) : (rowW ws n).setIfInBounds ws.length (w32 x) = rowW (ws ++ [x]) n := by
  unfold rowW
  obtain ⟨m, hm⟩ : ∃ m, n - ws.length = m + 1 := ⟨n - ws.length - 1, by omega⟩
  have hm2 : n - (ws ++ [x]).length = m := by simp; omega
  rw [hm, hm2, List.setIfInBounds_toArray]
  congr 1
  simp [List.replicate_succ]
theorem rowW_get (ws : List W) (n i : Nat) (h : i < n) (hl : ws.length ≤ n) : (rowW ws n)[i]? = some (w32 (ws.getD i 0)) := by
  unfold rowW
  simp only [List.getElem?_toArray, List.getElem?_map]
  by_cases hi : i < ws.length
  · rw [List.getElem?_append_left hi]; simp [List.getD, hi]
  · rw [List.getElem?_append_right (by omega), List.getElem?_replicate, if_pos (by omega)]
    simp [List.getD, List.getElem?_eq_none (by omega : ws.length ≤ i)]
theorem w16_len (bs : List B) (k : Nat) : (w16 bs k).length = k := by simp [w16]
theorem w16_succ (bs : List B) (k : Nat) : w16 bs (k+1) = w16 bs k ++ [word4 (bs.getD (4*k) 0) (bs.getD (4*k+1) 0) (bs.getD (4*k+2) 0) (bs.getD (4*k+3) 0)] := by
  simp [w16, List.range_succ]
theorem rowW_w16 (bs : List B) (k : Nat) (h : k < 16) : (rowW (w16 bs k) 64).setIfInBounds k (w32 (word4 (bs.getD (4*k) 0) (bs.getD (4*k+1) 0) (bs.getD (4*k+2) 0) (bs.getD (4*k+3) 0))) = rowW (w16 bs (k+1)) 64 := by
  have := rowW_snoc (w16 bs k) 64 (word4 (bs.getD (4*k) 0) (bs.getD (4*k+1) 0) (bs.getD (4*k+2) 0) (bs.getD (4*k+3) 0)) (by rw [w16_len]; omega)
  rw [w16_len] at this; rw [this, w16_succ]
theorem wsched_len (bs : List B) (j : Nat) : (wsched bs j).length = 16 + j := by
  induction j with
  | zero => simp [wsched, w16_len]
  | succ j ih => simp [wsched, ih]; omega
theorem rowW_sched (bs : List B) (j : Nat) (h : j < 48) : (rowW (wsched bs j) 64).setIfInBounds (16 + j) (w32 (wnext (wsched bs j) (16 + j))) = rowW (wsched bs (j+1)) 64 := by
  have := rowW_snoc (wsched bs j) 64 (wnext (wsched bs j) (16 + j)) (by rw [wsched_len]; omega)
  rw [wsched_len] at this; rw [this, wsched]

/-- a state as a value -/
abbrev stv (s : St) : Value := .agg #[w32 s.a, w32 s.b, w32 s.c, w32 s.d, w32 s.e, w32 s.f, w32 s.g, w32 s.h]

theorem takes_rel2 {w wr : World} {n nq m : Nat} {bs : List B} {r8 : Array Value} (hbel : Below n w wr) (_hn : n = w.heap.size) (hm : 16 ≤ m) (hlt : m < 64) (hb0 : Blk wr n 33 r8) (hb1 : Blk wr (n + 1) 33 (rowW [] 8))
    (hblk : Blk wr (n + 1 + 1) 62 (rowW (wsched bs (m - 16)) 64)) (x : W) (hx : x = wnext (wsched bs (m - 16)) m) :
    Below n w ((wr.drewN nq).setCell ⟨n + 1 + 1, m, none⟩ (w32 x)) ∧ Blk ((wr.drewN nq).setCell ⟨n + 1 + 1, m, none⟩ (w32 x)) n 33 r8 ∧
    Blk ((wr.drewN nq).setCell ⟨n + 1 + 1, m, none⟩ (w32 x)) (n + 1) 33 (rowW [] 8) ∧
    Blk ((wr.drewN nq).setCell ⟨n + 1 + 1, m, none⟩ (w32 x)) (n + 1 + 1) 62 (rowW (wsched bs (m + 1 - 16)) 64) := by
  subst hx
  refine ⟨(hbel.trans (below_drewN _ _ nq)).setCell (by dsimp only; omega) _, (hb0.drewN nq).set_other _ (by dsimp only; omega) _, (hb1.drewN nq).set_other _ (by dsimp only; omega) _, ?_⟩
  obtain ⟨j, rfl⟩ : ∃ j, m = 16 + j := ⟨m - 16, by omega⟩
  rw [show 16 + j + 1 - 16 = j + 1 from by omega, ← rowW_sched bs j (by omega)]
  rw [show 16 + j - 16 = j from by omega] at hblk ⊢
  exact (hblk.drewN nq).set (16 + j) _
theorem rnds_succ (ws : List W) (s : St) (t : Nat) : rnds ws s (t + 1) = rnd (rnds ws s t) (KK.getD t 0) (ws.getD t 0) := rfl

set_option maxRecDepth 100000 in
set_option maxHeartbeats 4000000 in
theorem takes_any (s : St) (bk off cp : Nat) (w : World) (bs : List B)
  (hcp1 : 64 ≤ cp) (hcp2 : cp ≤ 9223372036854775807) (hL : Laid w)
  (hw : ∀ j, j < 64 → w.cell? ⟨bk, off + j, none⟩ = some (b8 (bs.getD j 0))) :
    Calls Tryd.prog 27 #[stv s, .slice (some ⟨bk, off, none⟩) 64 cp] w fun e w' => e = .returned (stv (compress s bs)) ∧ Below w.heap.size w w' := by
  have hbk : bk < w.heap.size := World.block_lt_of_cell? w _ (hw 0 (by omega))
  have hg1 : 1 < w.heap.size := World.block_lt_of_cell? w _ (hL.2 0 (by omega))
  have hKK := hL.2
  clear hL
  unfold stv
  go_enter Tryd.func27, Tryd.ntmps27
  go_wp2
  go_loopw [6, 21] (fun _ i wr => ∃ k : Nat, k ≤ 16 ∧ i = .int .i64 k ∧ Below w.heap.size w wr ∧ Blk wr w.heap.size 33 #[w32 s.a, w32 s.b, w32 s.c, w32 s.d, w32 s.e, w32 s.f, w32 s.g, w32 s.h] ∧
      Blk wr (w.heap.size + 1) 33 (rowW [] 8) ∧ Blk wr (w.heap.size + 1 + 1) 62 (rowW (w16 bs k) 64)) (fun _ i _ => 16 - (intOf i).toNat)
  case atStart => exact ⟨0, by omega, rfl, below_alloc3 _ _ _ _, ((Blk.new w _ _).alloc _).alloc _, (Blk.new1 w _ (rowW [] 8) _).alloc _, Blk.new2 w _ _ (rowW (w16 bs 0) 64) _⟩
  case round =>
    obtain ⟨k, hk, rfl, hbel, hb0, hb1, hblk⟩ := hrel
    by_cases hlt : k < 16
    · have c0 := (hbel.cell (p := ⟨bk, off + 4 * k, none⟩) hbk).trans (hw (4*k) (by omega))
      have c1 := (hbel.cell (p := ⟨bk, off + (4 * k + 1), none⟩) hbk).trans (hw (4*k+1) (by omega))
      have c2 := (hbel.cell (p := ⟨bk, off + (4 * k + 2), none⟩) hbk).trans (hw (4*k+2) (by omega))
      have c3 := (hbel.cell (p := ⟨bk, off + (4 * k + 3), none⟩) hbk).trans (hw (4*k+3) (by omega))
      have hne : ¬ cp = 4 * k := by omega
      have f0 := hblk.free k
      have g0 := (hblk.cell k).trans (rowW_get _ 64 k (by omega) (by rw [w16_len]; omega))
      go_wp2_with fail
      refine (word_any bk (off + 4 * k) (64 - 4 * k) _ _ _ _ _ _ (by omega) c0 (by simpa [Nat.add_assoc] using c1) (by simpa [Nat.add_assoc] using c2) (by simpa [Nat.add_assoc] using c3)).mono ?_
      rintro e w' ⟨rfl, n, rfl⟩
      have R : ∀ x, x = word4 (bs.getD (4*k) 0) (bs.getD (4*k+1) 0) (bs.getD (4*k+2) 0) (bs.getD (4*k+3) 0) → Below w.heap.size w ((wr.drewN n).setCell ⟨w.heap.size + 1 + 1, k, none⟩ (w32 x)) ∧
          Blk ((wr.drewN n).setCell ⟨w.heap.size + 1 + 1, k, none⟩ (w32 x)) w.heap.size 33 #[w32 s.a, w32 s.b, w32 s.c, w32 s.d, w32 s.e, w32 s.f, w32 s.g, w32 s.h] ∧
          Blk ((wr.drewN n).setCell ⟨w.heap.size + 1 + 1, k, none⟩ (w32 x)) (w.heap.size + 1) 33 (rowW [] 8) ∧
          Blk ((wr.drewN n).setCell ⟨w.heap.size + 1 + 1, k, none⟩ (w32 x)) (w.heap.size + 1 + 1) 62 (rowW (w16 bs (k+1)) 64) := by
        rintro x rfl
        refine ⟨(hbel.trans (below_drewN _ _ n)).setCell (by simp; omega) _, (hb0.drewN n).set_other _ (by dsimp only; omega) _, (hb1.drewN n).set_other _ (by dsimp only; omega) _, ?_⟩
        rw [← rowW_w16 bs k hlt]
        exact (hblk.drewN n).set k _
      clear c0 c1 c2 c3
      go_wp2
      go_roundw
      case rel => exact ⟨k + 1, by omega, by go_num, R _ (by simp [List.getD])⟩
      case measure => simp [intOf]; omega
    · obtain rfl : k = 16 := by omega
      clear hlt hk
      go_wp2
      go_loopw [7, 8, 9] (fun i _ _ wr => ∃ m : Nat, 16 ≤ m ∧ m ≤ 64 ∧ i = .int .i64 m ∧ Below w.heap.size w wr ∧ Blk wr w.heap.size 33 #[w32 s.a, w32 s.b, w32 s.c, w32 s.d, w32 s.e, w32 s.f, w32 s.g, w32 s.h] ∧
        Blk wr (w.heap.size + 1) 33 (rowW [] 8) ∧ Blk wr (w.heap.size + 1 + 1) 62 (rowW (wsched bs (m - 16)) 64)) (fun i _ _ _ => 64 - (intOf i).toNat)
      case atStart => exact ⟨16, by omega, by omega, rfl, hbel, hb0, hb1, hblk⟩
      case round =>
        clear hbel hb0 hb1 hblk
        obtain ⟨m, hm1, hm2, rfl, hbel, hb0, hb1, hblk⟩ := hrel
        by_cases hlt : m < 64
        · have hl := wsched_len bs (m - 16)
          have g0 := (hblk.cell (m - 15)).trans (rowW_get _ 64 (m - 15) (by omega) (by omega))
          have g1 := (hblk.cell (m - 2)).trans (rowW_get _ 64 (m - 2) (by omega) (by omega))
          have g2 := (hblk.cell (m - 7)).trans (rowW_get _ 64 (m - 7) (by omega) (by omega))
          have g3 := (hblk.cell (m - 16)).trans (rowW_get _ 64 (m - 16) (by omega) (by omega))
          have g4 := (hblk.cell m).trans (rowW_get _ 64 m (by omega) (by omega))
          have f4 := hblk.free m
          clear hl
          go_wp2_with fail
          go_quiet (fail)
          go_wp2_with fail
          have q7 : IntKind.i64.wrap ((m : Int) - 7) = (m : Int) - 7 := IntWalk.i64_in _ (by omega)
          have q16 : IntKind.i64.wrap ((m : Int) - 16) = (m : Int) - 16 := IntWalk.i64_in _ (by omega)
          have t7 : ((m : Int) - 7).toNat = m - 7 := by omega
          have t16 : ((m : Int) - 16).toNat = m - 16 := by omega
          have z7 : (7 : Int) ≤ (m : Int) := by omega
          have z16 : (16 : Int) ≤ (m : Int) := by omega
          have y7 : (m : Int) - 7 < 64 := by omega
          have y16 : (m : Int) - 16 < 64 := by omega
          refine wp_still_tail 29 (by kernel_rfl) (by kernel_rfl) ?_
          simp only [List.take_succ_cons, List.take_zero, List.drop_succ_cons, List.drop_zero, World.drew_drewN]
          repeat still_step
          still_call (right_any _ _ (by omega) (by omega) _)
          repeat still_step
          still_call (right_any _ _ (by omega) (by omega) _)
          repeat still_step
          still_call (right_any _ _ (by omega) (by omega) _)
          repeat still_step
          still_call (right_any _ _ (by omega) (by omega) _)
          repeat still_step
          refine wpStill_nil ?_
          go_wp2
          go_roundw
          case rel =>
            repeat apply Exists.intro
            exact ⟨⟨m + 1, by omega, by omega, by go_num, takes_rel2 hbel rfl hm1 hlt hb0 hb1 hblk _ (by simp [wnext, ssig0, ssig1, List.getD])⟩, rfl⟩
          case measure => simp [intOf]; omega
        · obtain rfl : m = 64 := by omega
          clear hlt hm1 hm2
          have s0 := hb0.cell 0
          have s1 := hb0.cell 1
          have s2 := hb0.cell 2
          have s3 := hb0.cell 3
          have s4 := hb0.cell 4
          have s5 := hb0.cell 5
          have s6 := hb0.cell 6
          have s7 := hb0.cell 7
          go_wp2_with fail
          go_quiet (fail)
          go_wp2
          go_loopw [10, 11, 12, 13, 14, 15, 16, 17, 18, 19, 20, 89] (fun a b c d e f g h _ _ _ i wr => ∃ k : Nat, k ≤ 64 ∧ i = .int .i64 k ∧ Below w.heap.size w wr ∧ Blk wr w.heap.size 33 #[w32 s.a, w32 s.b, w32 s.c, w32 s.d, w32 s.e, w32 s.f, w32 s.g, w32 s.h] ∧
             Blk wr (w.heap.size + 1) 33 (rowW [] 8) ∧ Blk wr (w.heap.size + 1 + 1) 62 (rowW (wsched bs 48) 64) ∧
             ∃ v : St, v = rnds (wsched bs 48) s k ∧ a = w32 v.a ∧ b = w32 v.b ∧ c = w32 v.c ∧ d = w32 v.d ∧ e = w32 v.e ∧ f = w32 v.f ∧ g = w32 v.g ∧ h = w32 v.h) (fun _ _ _ _ _ _ _ _ _ _ _ i _ => 64 - (intOf i).toNat)
          case atStart => exact ⟨0, by omega, rfl, hbel.trans (below_drewN _ _ _), hb0.drewN _, hb1.drewN _, hblk.drewN _, s, rfl, rfl, rfl, rfl, rfl, rfl, rfl, rfl, rfl⟩
          case round =>
            clear hbel hb0 hb1 hblk s0 s1 s2 s3 s4 s5 s6 s7
            obtain ⟨k, hk, rfl, hbel, hb0, hb1, hblk, v, hv, rfl, rfl, rfl, rfl, rfl, rfl, rfl, rfl⟩ := hrel
            have HV := Lib.hid hv
            clear hv
            by_cases hlt : k < 64
            · have g0 := (hblk.cell k).trans (rowW_get _ 64 k (by omega) (by rw [wsched_len]; omega))
              have g1 := (hbel.cell (p := ⟨1, k, none⟩) hg1).trans (hKK k hlt)
              go_wp2_with fail
              go_quiet ((go_at_call 36; exact Calls.quiet_of_same (right_any _ _ (by omega) (by omega) _)))
              go_wp2_with (go_at_call 36; refine (right_any _ _ (by omega) (by omega) _).mono ?_; rintro e w' ⟨rfl, rfl⟩)
              go_roundw
              case rel =>
                have hs := rnds_succ (wsched bs 48) s k
                rw [← HV.out] at hs
                repeat apply Exists.intro
                exact ⟨⟨k + 1, by omega, by go_num, hbel.trans (below_drewN _ _ _), hb0.drewN _, hb1.drewN _, hblk.drewN _, _, hs.symm, by simp [rnd, t1f, t2f, bsig0, bsig1, chf, majf, List.getD], rfl, rfl, rfl, by simp [rnd, t1f, t2f, bsig0, bsig1, chf, majf, List.getD], rfl, rfl, rfl⟩, rfl⟩
              case measure => simp [intOf]; omega
            · obtain rfl : k = 64 := by omega
              clear hlt hk
              have s0 := hb0.cell 0
              have s1 := hb0.cell 1
              have s2 := hb0.cell 2
              have s3 := hb0.cell 3
              have s4 := hb0.cell 4
              have s5 := hb0.cell 5
              have s6 := hb0.cell 6
              have s7 := hb0.cell 7
              go_wp2_with (refine wpList_store_blk rfl 33 _ _ rfl hb1 _ rfl rfl 8 (by kernel_rfl) rfl rfl (by intro x hx; simp at hx; rcases hx with rfl | rfl | rfl | rfl | rfl | rfl | rfl | rfl <;> rfl) ?_)
              · intro w' hb1' hg'
                have hbel' := below_upd hbel hg' (by omega) hb1.lt
                have hs : stAdd s v = compress s bs := by rw [HV.out]; rfl
                go_wp2
                refine (ret_blk rfl hb1' rfl (.array 8 31) (by kernel_rfl) rfl 8 (by kernel_rfl) rfl ⟨?_, hbel'⟩).2
                rw [← hs]; rfl
end Go.Proofs.YtahlllbigkgobaaDoor
