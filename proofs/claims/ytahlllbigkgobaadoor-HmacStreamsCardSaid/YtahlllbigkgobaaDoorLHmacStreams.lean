/-
  The walk of the statement HmacStreams.
-/
import Derived.Test.YtahlllbigkgobaaDoorNumbers
namespace Go.Proofs.YtahlllbigkgobaaDoor
open Go Go.RowKit
attribute [local irreducible] sha compress absorb mac newS nextS
theorem run_load_range {P : Program} {op : Oper} {a : Act} {w : World} (ty : TypeId) (x : Operand) (ho : op.op = .load ty x)
    {b o : Nat} {mid : List Value} (hr : w.rangeAt b o mid) (hx : a.eval x = .pointer (some ⟨b, o, none⟩)) (d : TypeDesc)
    (hu : P.underlying ty = some d) (hd : d.isRow = true) (n : Nat) (hi : (P.info? ty).map (·.size) = some n) (hc : mid.length = n) : (execOp a.eval op).run P w = .ok (.value (.agg mid.toArray)) w := by
  unfold execOp
  simp only [ho, hx, Instr.loadAt, Instr.sureAddr, Sem.run_bind, Sem.run_pure, Result.andThen_ok, run_loadVar_mid w b o ty mid d hr hu hd (by rw [hc]; exact hi)]
theorem outs_part (data : List B) (k : Nat) : ∀ m, m < k → ∃ rest, outs data k = outs data m ++ ((outS data m).2 ++ rest) := by
  induction k with
  | zero => intro m h; omega
  | succ k ih =>
    intro m h
    rw [outs_succ]
    by_cases hm : m = k
    · subst hm; exact ⟨[], by simp⟩
    · obtain ⟨rest, e⟩ := ih m (by omega)
      exact ⟨rest ++ (outS data k).2, by rw [e]; simp⟩
theorem row_hash {w : World} {g off n c m : Nat} {e : TypeId} {xs pre h rest : List B} (hr : Row w (.slice (some ⟨g, off, none⟩) n c) e 32 n (xs.map b8)) (hx : xs = pre ++ (h ++ rest)) (hp : pre.length = m * 32) : w.rangeAt g (off + m * 32) (h.map b8) := by
  intro j v hv
  have hj := (List.getElem?_eq_some_iff.1 hv).1
  rw [List.length_map] at hj
  have hl := hr.1
  have hn : 0 < n := by
    rcases Nat.eq_zero_or_pos n with h0 | h0
    · rw [h0, hx] at hl; simp at hl; obtain ⟨-, h1, -⟩ := hl; rw [h1] at hj; simp at hj
    · exact h0
  obtain ⟨g', off', cur, he, -, -, -, -, hc⟩ := hr.place hn
  obtain ⟨rfl, rfl⟩ : g = g' ∧ off = off' := by have := Option.some.inj he; injection this with h1 h2; exact ⟨h1, h2⟩
  rw [Nat.add_assoc, hc (m * 32 + j) (by rw [hx]; simp; omega), ← hv, hx]
  simp only [List.map_append]
  rw [List.getElem?_append_right (by simp; omega), List.getElem?_append_left (by simp; omega)]
  congr 1; simp; omega
/-- the stream ahead of its m-th number -/
def atS (data : List B) : Nat → List B × List B
  | 0 => newS data
  | m + 1 => outS data m
theorem outS_at (data : List B) (m : Nat) : outS data m = nextS (atS data m) (decide (0 < m)) := by
  cases m with
  | zero => simp [outS, atS]
  | succ m => simp [outS, atS]
set_option maxRecDepth 100000 in
set_option maxHeartbeats 4000000 in
theorem hstreams_any (w : World) (hL : Laid w) (ao : Option Addr) (cp : Nat) (bs : List B) (hB : Bts w ao bs) (hc : bs.length ≤ cp) (hm : cp ≤ maxLen) (n : Int) (hn0 : 0 ≤ n) (hn1 : n ≤ 255) :
    Calls Tryd.prog 10 #[.slice ao bs.length cp, .int .u8 n] w fun e w' => e = .returned (.bool true) ∧ Below w.heap.size w w' := by
  replace hm : bs.length ≤ 9223372036854775807 := Nat.le_trans hc hm
  by_cases hlen : bs.length ≤ 300
  · have hd : decide ((300 : Int) < (bs.length : Int)) = false := by rw [decide_eq_false_iff_not]; omega
    obtain ⟨r, hr⟩ : ∃ r, r = w.heap.size := ⟨_, rfl⟩
    have hLt := hL.lt
    have HR := Lib.hid hr
    rw [← hr] at hLt
    obtain ⟨k, hk, hk11⟩ : ∃ k : Nat, n % 11 = (k : Int) ∧ k < 11 := ⟨(n % 11).toNat, by omega, by omega⟩
    go_enter Tryd.func10, Tryd.ntmps10
    go_wp2_with fail
    refine (awake07_any w hL).mono ?_
    rintro e w1 ⟨rfl, F1⟩
    rw [← HR.out] at F1
    clear hr
    have q1 : IntKind.u8.wrap (k : Int) = k := by rw [IntKind.wrap_u8]; omega
    have q2 : IntKind.i64.wrap (k : Int) = k := IntWalk.i64_in _ (by omega)
    go_wp2_with fail
    refine (new_one_any (cm := cp) w1 (hL.below F1 (by rw [HR.out]; exact Nat.le_refl _)) (hB.below F1 (by rw [HR.out]; exact Nat.le_refl _)) (by omega)).mono ?_
    rintro e w2 ⟨a, rfl, SA2, hra, G2⟩
    have hs1 := F1.size
    rw [← HR.out] at hs1
    have F2 := F1.trans (G2.mono hs1)
    have ha : r ≤ a := by omega
    clear F1 G2 hra hs1
    go_wp2_with fail
    refine (numbers_any w2 ao cp bs (hB.below F2 (by rw [HR.out]; exact Nat.le_refl _)) (by omega) k (by omega)).mono ?_
    rintro e w3 ⟨v3, rfl, O3⟩
    have hs2 := F2.size
    rw [← HR.out] at hs2
    have SA3 := SA2.below O3.bel SA2.lt
    have F3 := F2.trans (O3.bel.mono hs2)
    have hne : ∀ g, v3.ownBlock = some g → g ≠ a := fun g e => by have := O3.own g e; have := SA2.lt; omega
    have hR3 := O3.row
    obtain ⟨a3, c3, rfl⟩ := hR3.shape
    clear O3 F2 hs2 SA2
    obtain ⟨xs, hxs⟩ : ∃ xs, xs = outs bs k := ⟨_, rfl⟩
    rw [← hxs] at hR3
    have HX := Lib.hid hxs
    have HN := Lib.hid hne
    clear hxs hne hk
    go_wp2
    go_loopg [8] k (fun j i wr => ∃ m : Nat, i = .int .i64 m ∧ m + j = k ∧ Str wr a (atS bs m) (decide (0 < m)) ∧ Below r w wr ∧ Row wr (.slice a3 k c3) 25 32 k (xs.map b8))
    case atStart => exact ⟨0, rfl, by omega, SA3, F3, hR3⟩
    case round =>
      clear SA3 F3 hR3
      obtain ⟨m, rfl, hmk, SA, F, hR⟩ := hrel
      by_cases hq : m < k
      · have hd : decide ((m : Int) < (k : Int)) = true := by rw [decide_eq_true_eq]; omega
        obtain ⟨g, off, cur, rfl, -⟩ := hR.place (by omega)
        have hga : g ≠ a := HN.out g rfl
        obtain ⟨rest, hrest⟩ := outs_part bs k m hq
        rw [← HX.out] at hrest
        have hrg : ∀ w', Row w' (.slice (some ⟨g, off, none⟩) k c3) 25 32 k (xs.map b8) → w'.rangeAt g (off + m * 32) ((outS bs m).2.map b8) := fun w' h => row_hash h hrest (outs_len bs m)
        have hol := (outS_len bs m).2
        obtain ⟨y, hy⟩ : ∃ y, y = (outS bs m).2 := ⟨_, rfl⟩
        rw [← hy] at hrg hol
        obtain ⟨s, hs⟩ : ∃ s, s = atS bs m := ⟨_, rfl⟩
        rw [← hs] at SA
        obtain ⟨b0, hb0⟩ : ∃ b0, b0 = decide (0 < m) := ⟨_, rfl⟩
        rw [← hb0] at SA
        have hy2 : y = (nextS s b0).2 := by rw [hy, hs, hb0, ← outS_at]
        have hs2 : atS bs (m + 1) = nextS s b0 := by rw [hs, hb0, ← outS_at]; rfl
        have HU := Lib.hid (And.intro hs2 (And.intro hrg (show gk - 1 < gk ∧ m + 1 + (gk - 1) = k by omega)))
        have HY := Lib.hid hy2
        clear hy hy2 hs hs2 hb0 hrg hrest hmk
        go_upto_region 9 with (fail)
        refine wp_region_N (fun w' => Row w' (.slice (some ⟨g, off, none⟩) k c3) 25 32 k (xs.map b8)) [] (by kernel_rfl) ?_
        obtain ⟨wd, hwd⟩ : ∃ wd, wd = wr.drew := ⟨_, rfl⟩
        replace SA : Str wd a s b0 := by rw [hwd]; exact ⟨SA.blk, SA.k, SA.v⟩
        replace F : Below r w wd := by rw [hwd]; exact F.drew
        replace hR : Row wd (.slice (some ⟨g, off, none⟩) k c3) 25 32 k (xs.map b8) := by rw [hwd]; exact hR
        rw [← hwd]
        clear hwd
        clear wr
        refine wpAnyN_pureG 0 31 (v := ?_) rfl rfl (by kernel_rfl) (by kernel_rfl) (by kernel_rfl) (fun _ _ _ h => h) rfl (fun w => ?_) ?_
        rotate_left
        · go_simp
          try with_reducible rfl
        refine wpAnyN_pureG 2 33 (v := ?_) rfl rfl (by kernel_rfl) (by kernel_rfl) (by kernel_rfl) (fun _ _ _ h => h) rfl (fun w => ?_) ?_
        rotate_left
        · go_simp
          try with_reducible rfl
        refine wpAnyN_pureG 3 34 (v := ?_) rfl rfl (by kernel_rfl) (by kernel_rfl) (by kernel_rfl) (fun _ _ _ h => h) rfl (fun w => ?_) ?_
        rotate_left
        · go_simp
          try with_reducible rfl
        refine wpAnyN_pureG 4 35 (v := .pointer (some ⟨g, off + m * 32, none⟩)) rfl rfl (by kernel_rfl) (by kernel_rfl) (by kernel_rfl) (fun _ _ _ h => h) rfl (fun w => ?_) ?_
        · go_simp
        refine wpAnyN_takeG 5 36 (v := hashv y) rfl rfl (by kernel_rfl) (by kernel_rfl) (by kernel_rfl) (by kernel_rfl) (fun _ _ _ h => h) hR rfl (fun w hS => ?_) ?_
        · exact run_load_range 25 _ rfl (HU.out.2.1 w hS) rfl (.array 32 5) (by kernel_rfl) rfl 32 (by kernel_rfl) (by simp [hol])
        refine wpAnyN_call 1 23 (some 32) [.tmp 31] [.pointer (some ⟨a, 0, none⟩)] (by kernel_rfl) rfl rfl rfl rfl (by go_simp) Tryd.call23 ?_
        refine (SA.next (hL.below F (by rw [HR.out]; exact Nat.le_refl _)) (by omega) (by omega)).mono ?_
        rintro e w4 ⟨rfl, SA4, G4⟩
        rw [← HY.out]
        have F4 := Below.fr F G4 (Nat.le_trans ha (Nat.le_of_lt SA.lt)) (by rintro x rfl; exact ha)
        have hR4 := hR.fr G4 (fun x e => by have := Option.some.inj e; exact fun h => hga (this.trans h))
        refine ⟨_, rfl, fun _ h => h.fr G4 (fun x e => by have := Option.some.inj e; exact fun h => hga (this.trans h)), ?_⟩
        clear SA F hR G4
        refine wpAnyN_pureG 6 37 (v := ?_) rfl rfl (by kernel_rfl) (by kernel_rfl) (by kernel_rfl) (fun _ _ _ h => h) rfl (fun w => ?_) ?_
        rotate_left
        · go_simp
          try with_reducible rfl
        refine wpAnyN_done (by kernel_rfl) ?_
        simp only [Act.put, List.setIfInBounds_toArray, List.set_cons_succ, List.set_cons_zero]
        go_wp2
        go_roundg (gk - 1)
        case measure => exact HU.out.2.2.1
        case rel =>
          refine ⟨m + 1, by go_num, HU.out.2.2.2, ?_, F4, hR4⟩
          rw [HU.out.1]; exact SA4
      · have hd : decide (m < k) = false := by rw [decide_eq_false_iff_not]; omega
        obtain rfl : m = k := by omega
        clear hq hmk
        go_wp2
        go_ret
        exact ⟨rfl, by rw [← HR.out]; exact F⟩
  · have hd : decide ((300 : Int) < (bs.length : Int)) = true := by rw [decide_eq_true_eq]; omega
    go_enter Tryd.func10, Tryd.ntmps10
    go_wp2_with fail
    refine (awake07_any w hL).mono ?_
    rintro e w1 ⟨rfl, F1⟩
    go_wp2_with fail
    refine (awake07_any w1 (hL.below F1 (Nat.le_refl _))).mono ?_
    rintro e w2 ⟨rfl, GF2⟩
    have F2 := Below.then F1 GF2
    go_wp2_with fail
    go_ret
    exact ⟨rfl, F2⟩
end Go.Proofs.YtahlllbigkgobaaDoor
