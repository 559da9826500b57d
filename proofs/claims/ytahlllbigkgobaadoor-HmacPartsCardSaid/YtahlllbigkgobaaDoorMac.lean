/-
  The walk of hmac.Mac.
-/
import Derived.Test.YtahlllbigkgobaaDoorLaws05
import Derived.Test.YtahlllbigkgobaaDoorDag
import Derived.Laws.CopyRow
namespace Go.Proofs.YtahlllbigkgobaaDoor
open Go.RowKit
attribute [local irreducible] sha compress absorb
@[go_sem] theorem xor_b8_lit (t : TypeId) (x : BitVec 8) (n : Int) : binOp .xor t (b8 x) (.int .u8 n) = pure (b8 (x ^^^ BitVec.ofInt 8 n)) := by
  unfold b8; rw [binOp_xor]; show pure (Value.int .u8 (IntKind.u8.wrap ((BitVec.ofInt 8 _ ^^^ BitVec.ofInt 8 _).toNat : Int))) = _
  rw [ofInt8, int_u8_wrap, ofInt8]; rfl
/-- copy into a row of zeros of the call's own -/
theorem run_copy_zeros {P : Program} {w : World} {dT sT ty e : TypeId} (hu : P.underlying dT = some (.slice e)) (hs : (P.info? e).map (·.size) = some 1) {g T n : Nat} (hb : Blk w g T (rowB [] n)) {ao : Option Addr} {cp : Nat} {bs : List B} (hB : Bts w ao bs) (hn : bs.length ≤ n) :
    ∃ w', (Builtin.copy_ #[dT, sT] ty #[.slice (some ⟨g, 0, none⟩) n n, .slice ao bs.length cp]).run P w = .ok (goInt bs.length) w' ∧ Blk w' g T (rowB bs n) ∧ w.grownBy w' (some g) := by
  rcases hB with rfl | ⟨b, off, rfl, h⟩
  · exact ⟨w, run_copy_none w dT sT ty e _ _ _ _ _ _ hu hs (by simp), hb, rfl, rfl, rfl, Nat.le_refl _, fun _ _ _ => rfl⟩
  · have hsz : (rowB [] n).size = n := by simp [rowB]
    have hr := run_copy_row (P := P) w dT sT ty e g 0 n n ⟨b, off, none⟩ bs.length cp (rowB [] n) T (bs.map b8) hu hs hb (by rw [List.length_map]; exact (Nat.min_eq_left hn).symm)
      (fun j v hv => by
        have hj := (List.getElem?_eq_some_iff.1 hv).1
        rw [List.length_map] at hj
        rw [Addr.add_lit, h j hj, ← hv]; simp [List.getD, hj]) (by rw [List.length_map, hsz]; omega) (b8_one bs)
    rw [List.length_map] at hr
    refine ⟨_, hr, ?_, setRow_grown _ _ _⟩
    have : rowB bs n = ((rowB [] n).toList.take 0 ++ bs.map b8 ++ (rowB [] n).toList.drop (0 + bs.length)).toArray := by
      simp [rowB]
    rw [this]
    exact setRow_heap w g _ _ T _ hb
theorem wpList_copy_zeros {P : Program} {w : World} {ops : Array Oper} {rest : List Oper} {o : Oper} {a : Act} {Q : Exit → Act → World → Prop} (hgd : o.guard = none) (d s : Operand) (dT sT : TypeId)
    (ho : o.op = .call { callee := .builtin .copy, args := #[d, s], argTypes := #[dT, sT] }) (e : TypeId) (hu : P.underlying dT = some (.slice e)) (hs : (P.info? e).map (·.size) = some 1) {g T n : Nat} (hb : Blk w g T (rowB [] n))
    {ao : Option Addr} {cp : Nat} {bs : List B} (hB : Bts w ao bs) (hn : bs.length ≤ n) (hd : a.eval d = .slice (some ⟨g, 0, none⟩) n n) (hx : a.eval s = .slice ao bs.length cp)
    (h : ∀ w', Blk w' g T (rowB bs n) → w.grownBy w' (some g) → wpList P ops Q rest (a.put o.dst (goInt bs.length)) w') : wpList P ops Q (o :: rest) a w := by
  refine wpList_plain hgd fun K hK => ?_
  obtain ⟨w', hr, h1, h2⟩ := run_copy_zeros (P := P) (sT := sT) (ty := o.type) (cp := cp) hu hs hb hB hn
  unfold Oper.wp
  simp [execOp, ho, resolve, invoke, builtin, hd, hx, hr, Result.andThen]
  exact hK _ _ (h w' h1 h2)
/-- the key of a hash with a key, as the chapter says -/
def mkey (key : List B) : List B := if 64 < key.length then sha key else key
def padk (k : List B) : List B := k ++ List.replicate (64 - k.length) 0
def mac (key msg : List B) : List B := sha ((padk (mkey key)).map (· ^^^ 92#8) ++ sha ((padk (mkey key)).map (· ^^^ 54#8) ++ msg))
theorem mac_len (key msg : List B) : (mac key msg).length = 32 := sha_len _
theorem mkey_len (key : List B) : (mkey key).length ≤ 64 := by
  unfold mkey; split
  · rw [sha_len]; decide
  · omega
theorem rowB_padk (k : List B) : rowB k 64 = ((padk k).map b8).toArray := rfl
theorem padk_len (k : List B) (h : k.length ≤ 64) : (padk k).length = 64 := by unfold padk; simp; omega
def xr (c : B) (m : Nat) (ks : List B) : List B := (ks.take m).map (· ^^^ c) ++ ks.drop m
theorem xr_len (c : B) (m : Nat) (ks : List B) : (xr c m ks).length = ks.length := by unfold xr; simp; omega
theorem xr_zero (c : B) (ks : List B) : xr c 0 ks = ks := by simp [xr]
theorem xr_all (c : B) (m : Nat) (ks : List B) (h : ks.length ≤ m) : xr c m ks = ks.map (· ^^^ c) := by simp [xr, List.take_of_length_le h, List.drop_of_length_le h]
theorem xr_get (c : B) (m : Nat) (ks : List B) (h : m < ks.length) : ((xr c m ks).map b8).toArray[m]? = some (b8 (ks.getD m 0)) := by
  simp only [List.getElem?_toArray, List.getElem?_map, xr]
  rw [List.getElem?_append_right (by simp; omega)]
  simp [List.getD, h, Nat.min_eq_left (Nat.le_of_lt h)]
theorem xr_set (c : B) (m : Nat) (ks : List B) (h : m < ks.length) : ((xr c m ks).map b8).toArray.setIfInBounds m (b8 (ks.getD m 0 ^^^ c)) = ((xr c (m + 1) ks).map b8).toArray := by
  rw [List.setIfInBounds_toArray]
  congr 1
  unfold xr
  have hl : ((ks.take m).map (· ^^^ c)).length = m := by simp; omega
  rw [List.take_succ_eq_append_getElem h, List.drop_eq_getElem_cons h, ← List.map_set, List.set_append_right _ _ (by omega), hl, Nat.sub_self, List.set_cons_zero, List.map_append, List.map_append, List.map_append]
  simp [List.getD, h]
set_option maxRecDepth 100000 in
set_option maxHeartbeats 4000000 in
theorem mac_any (w : World) (hL : Laid w) (ao : Option Addr) (cp : Nat) (key : List B) (hK : Bts w ao key) (ap : Option Addr) (cpp : Nat) (L : List (Option Addr × Nat × List B)) (hP : Parts w ap L) (hk : key.length ≤ 1000000) (hl : (cat L).length ≤ 1000000000) (hll : L.length ≤ 9223372036854775807) :
    Calls Tryd.prog 19 #[.slice ao key.length cp, .slice ap L.length cpp] w fun e w' => e = .returned (hashv (mac key (cat L))) ∧ Below w.heap.size w w' := by
  obtain ⟨r, hr⟩ : ∃ r, r = w.heap.size := ⟨_, rfl⟩
  obtain ⟨w1, hw1⟩ : ∃ w1, w1 = w.alloc (.cells zero32 25) := ⟨_, rfl⟩
  have hr1 : Blk w1 r 25 zero32 := by rw [hw1, hr]; exact Blk.new w zero32 25
  have F1 : Below r w w1 := by rw [hw1, hr]; exact below_alloc1 _ _
  have hs1 : w1.heap.size = r + 1 := by rw [hw1, alloc_size, hr]
  have HW := Lib.hid (And.intro hw1 (And.intro hr hs1))
  clear hw1 hr hs1
  go_enter Tryd.func19, Tryd.ntmps19
  go_upto_region 1 with (fail)
  change Code.wp _ _ _ _ (w.alloc (.cells zero32 25))
  rw [← HW.out.1, ← HW.out.2.1]
  go_upto_if 15 with (fail)
  go_cut [0, 5] from 13 (fun k _ wc => ∃ (ak : Option Addr) (ck : Nat), k = .slice ak (mkey key).length ck ∧ Blk wc r 25 zero32 ∧ Bts wc ak (mkey key) ∧ Below r w wc ∧ r + 1 ≤ wc.heap.size)
  case first =>
    by_cases h64 : 64 < key.length
    · have hd : decide ((64 : Int) < (key.length : Int)) = true := by rw [decide_eq_true_eq]; omega
      have hmk : mkey key = sha key := by unfold mkey; rw [if_pos h64]
      have HM := Lib.hid hmk
      clear hmk
      go_wp2_with fail
      refine (sum_one_any w1 (hL.below F1 (by have := HW.out.2.1; omega)) (hK.below F1 (by have := HW.out.2.1; omega)) (by omega)).mono ?_
      rintro e w2 ⟨rfl, G2⟩
      have hr2 := hr1.below G2 hr1.lt
      have F2 := F1.trans (G2.mono (by have := HW.out.2.2; omega))
      clear G2
      go_wp2_with (refine wpList_store_blk rfl 25 _ _ rfl (Blk.new w2 zero32 25) ((sha key).map b8).toArray rfl rfl 32 (by kernel_rfl) rfl (by simp [sha_len]) (by rw [List.toList_toArray]; exact b8_one _) ?_)
      intro w3 hb3 hg3
      have hlt2 := hr2.lt
      have hr3 := (hr2.alloc _).grown hg3 (by intro e; have := Option.some.inj e; omega)
      have F3 : Below r w w3 := below_upd (F2.alloc (by omega) _) hg3 (by omega) (by rw [alloc_size]; omega)
      have hB3 : Bts w3 (some ⟨w2.heap.size, 0, none⟩) (sha key) := Bts.of fun j hj => by
        rw [Nat.zero_add, hb3.cell j]; simp [List.getD, hj]
      clear hg3 F2 hr2
      go_wp2
      go_meet
      case rel => exact ⟨_, 32, by rw [HM.out, sha_len], hr3, by rw [HM.out]; exact hB3, F3, hr3.lt⟩
    · have hd : decide (64 < key.length) = false := by rw [decide_eq_false_iff_not]; omega
      have hmk : mkey key = key := by unfold mkey; rw [if_neg h64]
      have HM := Lib.hid hmk
      clear hmk
      go_wp2
      go_meet
      case rel => exact ⟨ao, cp, by rw [HM.out], hr1, by rw [HM.out]; exact hK.below F1 (by have := HW.out.2.1; omega), F1, hr1.lt⟩
  case rest =>
    obtain ⟨ak, ck, rfl, hrc, hkc, Fc, hsc⟩ := hcut
    clear hr1 F1
    go_upto_region 5 with (fail)
    obtain ⟨mk, hmk⟩ : ∃ mk, mk = mkey key := ⟨_, rfl⟩
    have hml : mk.length ≤ 64 := by rw [hmk]; exact mkey_len key
    rw [← hmk] at hkc ⊢
    obtain ⟨q, hq⟩ : ∃ q, q = wc.heap.size := ⟨_, rfl⟩
    obtain ⟨wd, hwd⟩ : ∃ wd, wd = (wc.alloc (.cells (rowB [] 64) 56)).alloc (.cells (rowB [] 64) 56) := ⟨_, rfl⟩
    have hin : Blk wd q 56 (rowB [] 64) := by rw [hwd, hq]; exact (Blk.new wc _ _).alloc _
    have hout : Blk wd (q + 1) 56 (rowB [] 64) := by rw [hwd, hq]; exact Blk.new1 wc _ _ _
    have hrd : Blk wd r 25 zero32 := by rw [hwd]; exact (hrc.alloc _).alloc _
    have Fd : Below r w wd := by rw [hwd]; exact (Fc.alloc (by omega) _).alloc (by rw [alloc_size]; omega) _
    have hkd : Bts wd ak mk := by rw [hwd]; exact hkc.below (below_alloc2 wc _ _) (Nat.le_refl _)
    have hkq : mk ≠ [] → ∀ b off, ak = some ⟨b, off, none⟩ → b < q := fun hz b off e => by
      rcases hkc with h | ⟨b', off', e', h⟩
      · exact absurd h hz
      · obtain ⟨rfl, rfl⟩ : b' = b ∧ off' = off := by rw [e] at e'; simpa using e'.symm
        rw [hq]; exact World.block_lt_of_cell? wc _ (h 0 (List.length_pos_iff.2 hz))
    have hrq : r < q := by rw [hq]; exact hrc.lt
    change Code.wp _ _ _ _ ((wc.alloc (.cells (rowB [] 64) 56)).alloc (.cells (rowB [] 64) 56))
    rw [← hwd, ← hq]
    have HQ := Lib.hid (And.intro hmk hkq)
    clear hwd hq hmk hkq hrc Fc hkc hsc
    clear wc
    go_wp2_with (refine wpList_copy_zeros rfl _ _ 22 22 rfl 5 (by kernel_rfl) (by kernel_rfl) hin hkd hml rfl rfl ?_)
    intro we hin2 hge
    have hout2 := hout.grown hge (by intro e; have := Option.some.inj e; omega)
    have hre := hrd.grown hge (by intro e; have := Option.some.inj e; omega)
    have Fe := below_upd Fd hge (by omega) hin.lt
    have hke : Bts we ak mk := hkd.kept2 fun hz b off e hlt => hge.block b hlt (fun e' => by have := HQ.out.2 hz b off e; have := Option.some.inj e'; omega)
    clear hin hout hrd Fd hkd hge
    clear wd
    go_wp2_with (refine wpList_copy_zeros rfl _ _ 22 22 rfl 5 (by kernel_rfl) (by kernel_rfl) hout2 hke hml rfl rfl ?_)
    intro wf hout3 hgf
    have hin3 := hin2.grown hgf (by intro e; have := Option.some.inj e; omega)
    have hrf := hre.grown hgf (by intro e; have := Option.some.inj e; omega)
    have Ff := below_upd Fe hgf (by omega) hout2.lt
    obtain ⟨ks, hks⟩ : ∃ ks, ks = padk mk := ⟨_, rfl⟩
    rw [rowB_padk, ← hks] at hin3 hout3
    have hkl : ks.length = 64 := by rw [hks]; exact padk_len mk hml
    have HKS := Lib.hid (And.intro hks hkl)
    clear hin2 hout2 hre Fe hke hgf hks hkl
    clear we
    go_wp2
    go_loopg [8, 26] 64 (fun k _ i wr => ∃ m : Nat, i = .int .i64 m ∧ m + k = 64 ∧ Blk wr q 56 ((xr 54#8 m ks).map b8).toArray ∧ Blk wr (q + 1) 56 ((xr 92#8 m ks).map b8).toArray ∧ Blk wr r 25 zero32 ∧ Below r w wr)
    case atStart => exact ⟨0, rfl, rfl, by rw [xr_zero]; exact hin3, by rw [xr_zero]; exact hout3, hrf, Ff⟩
    case round =>
      clear hin3 hout3 hrf Ff
      obtain ⟨m, rfl, hm, hin3, hout3, hrf, Ff⟩ := hrel
      have hkl := HKS.out.2
      by_cases hq2 : m < 64
      · have hd : decide ((m : Int) < 64) = true := by rw [decide_eq_true_eq]; omega
        have c0 := (hin3.cell m).trans (xr_get 54#8 m ks (by omega))
        have f0 := hin3.free m
        have c1 := (hout3.cell m).trans (xr_get 92#8 m ks (by omega))
        have f1 := hout3.free m
        obtain ⟨u, hu⟩ : ∃ u, u = ks.getD m 0 := ⟨_, rfl⟩
        rw [← hu] at c0 c1
        have HU := Lib.hid (And.intro hu (show gk - 1 < gk ∧ m + 1 + (gk - 1) = 64 by omega))
        clear hu hm hkl
        go_wp2
        go_roundg (gk - 1)
        case measure => exact HU.out.2.1
        case rel =>
          have hkl := HKS.out.2
          refine ⟨m + 1, by go_num, HU.out.2.2, ?_, ?_, (hrf.set_other _ (by dsimp only; omega) _).set_other _ (by dsimp only; omega) _, (Ff.setCell (by dsimp only; omega) _).setCell (by dsimp only; omega) _⟩
          · rw [← xr_set 54#8 m ks (by omega), ← HU.out.1]
            exact (hin3.set m _).set_other _ (by dsimp only; omega) _
          · rw [← xr_set 92#8 m ks (by omega), ← HU.out.1]
            exact (hout3.set_other _ (by dsimp only; omega) _).set m _
      · have hd : decide ((m : Int) < 64) = false := by rw [decide_eq_false_iff_not]; omega
        obtain rfl : m = 64 := by omega
        rw [xr_all _ _ _ (by omega)] at hin3 hout3
        clear hq2 hm hd hkl
        go_upto_region 14 with (fail)
        obtain ⟨I, hI⟩ : ∃ I, I = ks.map (· ^^^ 54#8) := ⟨_, rfl⟩
        obtain ⟨O, hO⟩ : ∃ O, O = ks.map (· ^^^ 92#8) := ⟨_, rfl⟩
        have hIl : I.length = 64 := by rw [hI, List.length_map]; exact HKS.out.2
        have hOl : O.length = 64 := by rw [hO, List.length_map]; exact HKS.out.2
        have hfin : mac key (cat L) = sha (O ++ sha (I ++ cat L)) := by rw [hI, hO, HKS.out.1, HQ.out.1]; rfl
        rw [← hI] at hin3
        rw [← hO] at hout3
        obtain ⟨e, he⟩ : ∃ e, e = wr.heap.size := ⟨_, rfl⟩
        obtain ⟨wd, hwd⟩ : ∃ wd, wd = wr.alloc (.cells zeroD 36) := ⟨_, rfl⟩
        have hlt1 := hin3.lt
        have hlt2 := hout3.lt
        have hLt := hL.lt
        have hrw := HW.out.2.1
        have hDd : Dig wd e (.slice none 0 0) [] := by rw [hwd, he]; exact Dig.new (Blk.new wr zeroD 36) (by omega) (by omega)
        have hid : Bts wd (some ⟨q, 0, none⟩) I := by
          refine Bts.of fun j hj => ?_
          rw [Nat.zero_add, hwd, (hin3.alloc _).cell j]
          simp [List.getD, hj]
        have hod : Blk wd (q + 1) 56 (O.map b8).toArray := by rw [hwd]; exact hout3.alloc _
        have hrd : Blk wd r 25 zero32 := by rw [hwd]; exact hrf.alloc _
        have Fd : Below r w wd := by rw [hwd]; exact Ff.alloc (by omega) _
        have hed : e < wd.heap.size := by rw [hwd, alloc_size, he]; omega
        have hqe : q + 1 < e := by rw [he]; exact hlt2
        change Code.wp _ _ _ _ (wr.alloc (.cells zeroD 36))
        rw [← hwd, ← he]
        have HI := Lib.hid (And.intro hIl (And.intro hOl hfin))
        clear hwd he hin3 hout3 hrf Ff hI hO hIl hOl hfin hlt1 hlt2 hLt hrw
        clear wr
        go_wp2_with fail
        have hw1 := write_any e (.slice none 0 0) [] I (some ⟨q, 0, none⟩) 64 wd (hL.below Fd (by have := HW.out.2.1; omega)) hDd hid (fun _ k o e' => by have e2 := Option.some.inj e'; injection e2 with e3; omega) (by rw [HI.out.1]; simp)
        rw [HI.out.1] at hw1
        refine hw1.mono ?_
        rintro e' w5 ⟨rfl, v5, hD5, hF5, hv5⟩
        rw [List.nil_append] at hD5
        have ho5 := hod.fr hF5 (by rintro (h | h); omega; cases h)
        have hr5 := hrd.fr hF5 (by rintro (h | h); omega; cases h)
        have F5 := Below.fr Fd hF5 (by omega) (by rintro x (h | h); omega; cases h)
        have hv5' : ∀ g, v5.ownBlock = some g → e < g := fun g hg => by
          rcases hv5 with h | ⟨g', h, hg'⟩
          · rw [h] at hg; cases hg
          · obtain rfl : g' = g := Option.some.inj (h.symm.trans hg)
            omega
        clear hw1 hv5 hF5 hid hod hrd Fd hed hDd
        clear wd
        go_wp2
        go_loopg [11, 44] L.length (fun k _ i wr => ∃ (m : Nat) (v : Value), i = .int .i64 m ∧ m + k = L.length ∧ Dig wr e v (I ++ cat (L.take m)) ∧ Blk wr (q + 1) 56 (O.map b8).toArray ∧ Blk wr r 25 zero32 ∧ Below r w wr ∧ (∀ g, v.ownBlock = some g → e < g))
        case atStart => exact ⟨0, v5, rfl, by omega, by rw [show cat (L.take 0) = [] by simp [cat], List.append_nil]; exact hD5, ho5, hr5, F5, hv5'⟩
        case round =>
          clear hD5 ho5 hr5 F5 hv5'
          obtain ⟨m, v, rfl, hm, hD, ho, hB, F, hv⟩ := hrel
          by_cases hq3 : m < L.length
          · have hd : decide ((m : Int) < (L.length : Int)) = true := by rw [decide_eq_true_eq]; omega
            obtain ⟨b, off, hap, hc⟩ := hP.cells.resolve_left (by rintro rfl; simp at hq3)
            have c0 := hc m hq3
            have hbr : b < w.heap.size := World.block_lt_of_cell? w _ c0
            replace c0 := (F.cell (p := ⟨b, off + m, none⟩) (by rw [HW.out.2.1]; exact hbr)).trans c0
            have hY := (hP.each _ (List.getElem_mem hq3)).below F (by rw [HW.out.2.1]; exact Nat.le_refl _)
            have hle := cat_le L m hq3
            have hsn := cat_snoc L m hq3
            have hlt : ∀ (k off : Nat), L[m].2.2 ≠ [] → L[m].1 = some ⟨k, off, none⟩ → k < r := by
              intro k off hz e
              rcases hP.each _ (List.getElem_mem hq3) with h | ⟨k', off', e', h⟩
              · exact absurd h hz
              · obtain ⟨rfl, rfl⟩ : k' = k ∧ off' = off := by rw [e] at e'; simpa using e'.symm
                rw [HW.out.2.1]
                exact World.block_lt_of_cell? w _ (h 0 (List.length_pos_iff.2 hz))
            obtain ⟨p, hp⟩ : ∃ p, p = L[m] := ⟨_, rfl⟩
            rw [← hp] at c0 hY hle hsn hlt
            have hIl := HI.out.1
            have hlen2 : (I ++ cat (L.take m)).length + p.2.2.length ≤ 1099511627776 := by rw [List.length_append]; omega
            have HM := Lib.hid (And.intro hm (And.intro hsn (And.intro hv hlen2)))
            clear hc hm hsn hp hv hle hIl hlen2
            subst hap
            go_wp2_with fail
            refine (write_any e v _ p.2.2 p.1 p.2.1 wr (hL.below F (by rw [HW.out.2.1]; exact Nat.le_refl _)) hD hY (fun hz k off e' => by have := hlt k off hz e'; omega) HM.out.2.2.2).mono ?_
            rintro e' w' ⟨rfl, v', hD', hF, hv'⟩
            have hs' := hF.size
            have hv := HM.out.2.2.1
            have ho' := ho.fr hF (by rintro (h | h); omega; have := hv _ h.symm; omega)
            have hB' := hB.fr hF (by rintro (h | h); omega; have := hv _ h.symm; omega)
            have hsz : r ≤ wr.heap.size := Nat.le_of_lt hB.lt
            have F' := Below.fr F hF hsz (by rintro x (h | h); omega; have := hv x h.symm; omega)
            have hez : e < wr.heap.size := by obtain ⟨s, h1, _⟩ := hD.st; exact h1.lt
            have hv'' : ∀ g, v'.ownBlock = some g → e < g := fun g hg => by
              rcases hv' with h | ⟨g', h, hg'⟩
              · exact hv g (h ▸ hg)
              · obtain rfl : g' = g := Option.some.inj (h.symm.trans hg)
                omega
            rw [List.append_assoc, ← HM.out.2.1] at hD'
            have HV := Lib.hid hv''
            clear hv'' hv' hF hv hD ho hB F hlt hY c0
            go_wp2
            go_roundg (gk - 1)
            case measure => have := HM.out.1; omega
            case rel => exact ⟨m + 1, v', by go_num, by have := HM.out.1; omega, hD', ho', hB', F', HV.out⟩
          · have hd : decide (m < L.length) = false := by rw [decide_eq_false_iff_not]; omega
            obtain rfl : m = L.length := by omega
            rw [List.take_length] at hD
            obtain ⟨X, hX⟩ : ∃ X, X = I ++ cat L := ⟨_, rfl⟩
            have hXl : X.length ≤ 1099511627776 := by rw [hX, List.length_append, HI.out.1]; omega
            rw [← hX] at hD
            have HX := Lib.hid hX
            clear hq3 hm hX hv
            go_wp2_with fail
            refine (sum_any e v X wr (hL.below F (by rw [HW.out.2.1]; exact Nat.le_refl _)) hD hXl).mono ?_
            rintro e' w6 ⟨rfl, G6⟩
            have ho6 := ho.below G6 ho.lt
            have hB6 := hB.below G6 hB.lt
            have F6 := F.trans (G6.mono (Nat.le_of_lt hB.lt))
            clear ho hB F hD G6
            go_wp2_with (refine wpList_store_blk rfl 25 _ _ rfl (Blk.new w6 zero32 25) ((sha X).map b8).toArray rfl rfl 32 (by kernel_rfl) rfl (by simp [sha_len]) (by rw [List.toList_toArray]; exact b8_one _) ?_)
            intro w7 hb7 hg7
            obtain ⟨z, hz⟩ : ∃ z, z = w6.heap.size := ⟨_, rfl⟩
            rw [← hz] at hb7 hg7 ⊢
            have hltr := hB6.lt
            have hlto := ho6.lt
            have ho7 := (ho6.alloc _).grown hg7 (by intro e'; have := Option.some.inj e'; omega)
            have hB7 := (hB6.alloc _).grown hg7 (by intro e'; have := Option.some.inj e'; omega)
            have F7 := below_upd (F6.alloc (by omega) _) hg7 (by omega) (by rw [alloc_size]; omega)
            clear hg7 ho6 hB6 F6 hz hltr hlto
            clear w6
            go_upto_region 21 with (fail)
            refine wp_region_N (fun _ => True) [] (by kernel_rfl) ?_
            obtain ⟨wd, hwd⟩ : ∃ wd, wd = w7.drew := ⟨_, rfl⟩
            replace hb7 : Blk wd z 25 ((sha X).map b8).toArray := by rw [hwd]; exact hb7
            replace ho7 : Blk wd (q + 1) 56 (O.map b8).toArray := by rw [hwd]; exact ho7
            replace hB7 : Blk wd r 25 zero32 := by rw [hwd]; exact hB7
            replace F7 : Below r w wd := by rw [hwd]; exact F7.drew
            rw [← hwd]
            clear hwd
            clear w7
            refine wpAnyN_pureG 0 52 (v := ?_) rfl rfl (by kernel_rfl) (by kernel_rfl) (by kernel_rfl) (fun _ _ _ h => h) rfl (fun w => ?_) ?_
            rotate_left
            · go_simp
              try with_reducible rfl
            refine wpAnyN_pureG 1 53 (v := ?_) rfl rfl (by kernel_rfl) (by kernel_rfl) (by kernel_rfl) (fun _ _ _ h => h) rfl (fun w => ?_) ?_
            rotate_left
            · go_simp
              try with_reducible rfl
            refine wpAnyN_run 2 (some 54) (v := .slice (some ⟨wd.heap.size, 0, none⟩) 2 2) (w' := wd.alloc (.cells #[.slice (some ⟨q + 1, 0, none⟩) 64 64, .slice (some ⟨z, 0, none⟩) 32 32] 22)) (by kernel_rfl) rfl rfl rfl ?_ ⟨fun _ _ => trivial, ?_⟩
            · go_simp
            have hBO : Bts wd (some ⟨q + 1, 0, none⟩) O := Bts.of fun j hj => by rw [Nat.zero_add, ho7.cell j]; simp [List.getD, hj]
            have hBX : Bts wd (some ⟨z, 0, none⟩) (sha X) := Bts.of fun j hj => by rw [Nat.zero_add, hb7.cell j]; simp [List.getD, hj]
            have hc := sum_two_any (cp := 64) (cp2 := 32) wd (hL.below F7 (by rw [HW.out.2.1]; exact Nat.le_refl _)) hBO hBX (by rw [HI.out.2.1, sha_len]; decide)
            rw [HI.out.2.1, sha_len, HX.out, ← HI.out.2.2] at hc
            refine wpAnyN_call 3 14 (some 55) [.tmp 54] [.slice (some ⟨wd.heap.size, 0, none⟩) 2 2] (by kernel_rfl) rfl rfl rfl rfl (by go_simp) Tryd.call14 ?_
            refine hc.mono ?_
            rintro e' w8 ⟨rfl, G8⟩
            have hB8 := hB7.below G8 hB7.lt
            have F8 := F7.trans (G8.mono (Nat.le_of_lt hB7.lt))
            refine ⟨_, rfl, fun _ _ => trivial, ?_⟩
            refine wpAnyN_store_blk 4 25 (.tmp 4) (.tmp 55) (by kernel_rfl) rfl rfl rfl rfl hB8 0 ((mac key (cat L)).map b8).toArray (by go_simp) (by go_simp) 32 (by kernel_rfl) (by simp [mac_len]) (by simp) (by rw [List.toList_toArray]; exact b8_one _) ((mac key (cat L)).map b8).toArray (by simp) ?_
            intro w9 hB9 hg9
            have F9 := below_upd F8 hg9 (Nat.le_refl _) hB8.lt
            refine ⟨fun _ _ => trivial, wpAnyN_done (by kernel_rfl) ?_⟩
            clear hc hBO hBX hB8 F8 hB7 F7 ho7 hb7 hg9 G8
            rw [HW.out.2.1] at F9
            simp only [Act.put, List.setIfInBounds_toArray, List.set_cons_succ, List.set_cons_zero]
            go_wp2
            exact (ret_blk rfl hB9 rfl (.array 32 5) (by kernel_rfl) rfl 32 (by kernel_rfl) (by simp [mac_len]) ⟨rfl, F9⟩).2
end Go.Proofs.YtahlllbigkgobaaDoor
