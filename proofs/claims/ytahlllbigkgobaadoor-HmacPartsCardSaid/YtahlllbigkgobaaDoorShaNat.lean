/-
  SHA-256 over plain numbers, made so that the kernel can reckon it; it is the same as over words.
-/
import Derived.Test.YtahlllbigkgobaaDoorShaLaw
namespace Go.Proofs.YtahlllbigkgobaaDoor
def force {α : Type} (x : Nat) (F : Nat → α) : α := match x with
  | 0 => F 0
  | n + 1 => F (n + 1)
theorem force_eq {α : Type} (x : Nat) (F : Nat → α) : force x F = F x := by cases x <;> rfl
def rotN (n x : Nat) : Nat := x >>> n ||| (x <<< (32 - n)) % 4294967296
def ss0N (x : Nat) : Nat := rotN 7 x ^^^ rotN 18 x ^^^ x >>> 3
def ss1N (x : Nat) : Nat := rotN 17 x ^^^ rotN 19 x ^^^ x >>> 10
def bs0N (x : Nat) : Nat := rotN 2 x ^^^ rotN 13 x ^^^ rotN 22 x
def bs1N (x : Nat) : Nat := rotN 6 x ^^^ rotN 11 x ^^^ rotN 25 x
def chN (e f g : Nat) : Nat := (e &&& f) ^^^ ((4294967295 - e) &&& g)
def majN (a b c : Nat) : Nat := (a &&& b) ^^^ (a &&& c) ^^^ (b &&& c)
def word4N (a b c d : Nat) : Nat := a * 16777216 + b * 65536 + c * 256 + d
def nextN (r : List Nat) : Nat := (ss1N (r.getD 1 0) + r.getD 6 0 + ss0N (r.getD 14 0) + r.getD 15 0) % 4294967296
/-- the schedule, the other way round -/
def schN : Nat → List Nat → List Nat
  | 0, r => r
  | n + 1, r => force (nextN r) fun x => schN n (x :: r)
def roundsN : List Nat → List Nat → Nat → Nat → Nat → Nat → Nat → Nat → Nat → Nat → List Nat
  | k :: ks, w :: ws, a, b, c, d, e, f, g, h =>
    force ((h + bs1N e + chN e f g + k + w) % 4294967296) fun t1 => force ((t1 + (bs0N a + majN a b c)) % 4294967296) fun x => force ((d + t1) % 4294967296) fun y => roundsN ks ws x a b c y e f g
  | _, _, a, b, c, d, e, f, g, h => [a, b, c, d, e, f, g, h]
def w16N : Nat → List Nat → List Nat → List Nat
  | n + 1, a :: b :: c :: d :: l, r => force (word4N a b c d) fun x => w16N n l (x :: r)
  | _, _, r => r
def KKN : List Nat := KK.map BitVec.toNat
def compressN (a b c d e f g h : Nat) (bs : List Nat) : List Nat :=
  match roundsN KKN (schN 48 (w16N 16 bs [])).reverse a b c d e f g h with
  | [a1, b1, c1, d1, e1, f1, g1, h1] => [(a + a1) % 4294967296, (b + b1) % 4294967296, (c + c1) % 4294967296, (d + d1) % 4294967296, (e + e1) % 4294967296, (f + f1) % 4294967296, (g + g1) % 4294967296, (h + h1) % 4294967296]
  | _ => []


theorem rotN_eq (n : Nat) (x : W) : (rotr n x).toNat = rotN n x.toNat := by
  unfold rotr rotN; rw [BitVec.toNat_or, BitVec.toNat_ushiftRight, BitVec.toNat_shiftLeft]
theorem ss0N_eq (x : W) : (ssig0 x).toNat = ss0N x.toNat := by unfold ssig0 ss0N; simp only [BitVec.toNat_xor, rotN_eq, BitVec.toNat_ushiftRight]
theorem ss1N_eq (x : W) : (ssig1 x).toNat = ss1N x.toNat := by unfold ssig1 ss1N; simp only [BitVec.toNat_xor, rotN_eq, BitVec.toNat_ushiftRight]
theorem bs0N_eq (x : W) : (bsig0 x).toNat = bs0N x.toNat := by unfold bsig0 bs0N; simp only [BitVec.toNat_xor, rotN_eq]
theorem bs1N_eq (x : W) : (bsig1 x).toNat = bs1N x.toNat := by unfold bsig1 bs1N; simp only [BitVec.toNat_xor, rotN_eq]
theorem chN_eq (e f g : W) : (chf e f g).toNat = chN e.toNat f.toNat g.toNat := by unfold chf chN; simp only [BitVec.toNat_xor, BitVec.toNat_and, BitVec.toNat_not]
theorem majN_eq (a b c : W) : (majf a b c).toNat = majN a.toNat b.toNat c.toNat := by unfold majf majN; simp only [BitVec.toNat_xor, BitVec.toNat_and]
theorem word4N_eq (a b c d : B) : (word4 a b c d).toNat = word4N a.toNat b.toNat c.toNat d.toNat := by
  have h := wacc4 [a, b, c, d] 0
  simp only [Nat.mul_zero, Nat.zero_add, List.getD_cons_zero, List.getD_cons_succ, wacc] at h
  rw [← h]
  unfold word4N
  have := a.isLt; have := b.isLt; have := c.isLt; have := d.isLt
  have e : (BitVec.ofInt 32 256).toNat = 256 := by decide
  have e0 : BitVec.toNat (0 : W) = 0 := rfl
  simp only [BitVec.toNat_add, BitVec.toNat_mul, BitVec.toNat_setWidth, e, e0]
  omega
theorem rev_get (l : List W) (i : Nat) (h : i < l.length) : (l.reverse.map BitVec.toNat).getD i 0 = (l.getD (l.length - 1 - i) 0).toNat := by
  simp [List.getD, h, show l.length - 1 - i < l.length by omega]
theorem wsched_length (bs : List B) (j : Nat) : (wsched bs j).length = 16 + j := by
  induction j with
  | zero => simp [wsched, w16]
  | succ j ih => simp [wsched, ih]; omega
theorem nextN_eq (bs : List B) (j : Nat) : nextN ((wsched bs j).reverse.map BitVec.toNat) = (wnext (wsched bs j) (16 + j)).toNat := by
  have hl := wsched_length bs j
  unfold nextN wnext
  rw [rev_get _ _ (by omega), rev_get _ _ (by omega), rev_get _ _ (by omega), rev_get _ _ (by omega), hl]
  simp only [BitVec.toNat_add, ss0N_eq, ss1N_eq]
  rw [show 16 + j - 1 - 1 = 16 + j - 2 by omega, show 16 + j - 1 - 6 = 16 + j - 7 by omega, show 16 + j - 1 - 14 = 16 + j - 15 by omega, show 16 + j - 1 - 15 = 16 + j - 16 by omega]
  omega
theorem schN_eq (bs : List B) (n : Nat) : ∀ j, schN n ((wsched bs j).reverse.map BitVec.toNat) = (wsched bs (j + n)).reverse.map BitVec.toNat := by
  induction n with
  | zero => intro j; rfl
  | succ n ih =>
    intro j
    rw [schN, force_eq, nextN_eq]
    have : (wnext (wsched bs j) (16 + j)).toNat :: (wsched bs j).reverse.map BitVec.toNat = (wsched bs (j + 1)).reverse.map BitVec.toNat := by simp [wsched]
    rw [this, ih, show j + 1 + n = j + (n + 1) by omega]
theorem w16N_eq (bs : List B) (n : Nat) : ∀ k, 4 * (k + n) ≤ bs.length → w16N n ((bs.drop (4 * k)).map BitVec.toNat) ((w16 bs k).reverse.map BitVec.toNat) = (w16 bs (k + n)).reverse.map BitVec.toNat := by
  induction n with
  | zero => intro k _; simp [w16N]
  | succ n ih =>
    intro k h
    have e : bs.drop (4 * k) = bs.getD (4*k) 0 :: bs.getD (4*k+1) 0 :: bs.getD (4*k+2) 0 :: bs.getD (4*k+3) 0 :: bs.drop (4 * (k + 1)) := by
      have g (i : Nat) (hi : i < bs.length) : bs.drop i = bs.getD i 0 :: bs.drop (i + 1) := by
        rw [List.drop_eq_getElem_cons hi]; simp [List.getD, hi]
      rw [g _ (by omega), g _ (by omega), g _ (by omega), g _ (by omega)]; rfl
    rw [e]
    simp only [List.map_cons, w16N, force_eq]
    have e2 : (word4N (bs.getD (4*k) 0).toNat (bs.getD (4*k+1) 0).toNat (bs.getD (4*k+2) 0).toNat (bs.getD (4*k+3) 0).toNat) :: (w16 bs k).reverse.map BitVec.toNat = (w16 bs (k + 1)).reverse.map BitVec.toNat := by
      rw [← word4N_eq]; simp [w16, List.range_succ]
    rw [e2, ih (k + 1) (by omega), show k + 1 + n = k + (n + 1) by omega]
theorem KKN_drop (t : Nat) (h : t < 64) : KKN.drop t = (KK.getD t 0).toNat :: KKN.drop (t + 1) := by
  have hl : t < KK.length := h
  show (KK.map BitVec.toNat).drop t = _ :: (KK.map BitVec.toNat).drop (t + 1)
  rw [List.drop_eq_getElem_cons (by rw [List.length_map]; exact hl), List.getElem_map]
  simp [List.getD, hl]
def fields (s : St) : List Nat := (st8 s).map BitVec.toNat
theorem roundsN_eq (N : Nat) (hN : N = 64) (ws : List W) (s : St) (hw : ws.length = 64) (n : Nat) : ∀ t, t + n = N → ∀ v, v = rnds ws s t →
    roundsN (KKN.drop t) ((ws.map BitVec.toNat).drop t) v.a.toNat v.b.toNat v.c.toNat v.d.toNat v.e.toNat v.f.toNat v.g.toNat v.h.toNat = fields (rnds ws s N) := by
  induction n with
  | zero =>
    intro t ht v hv
    obtain rfl : t = N := by omega
    rw [← hv, List.drop_of_length_le (by rw [hN]; simp [KKN, KK]), List.drop_of_length_le (by rw [hN]; simp [hw])]
    simp only [roundsN]; rfl
  | succ n ih =>
    intro t ht v hv
    have h2 : (ws.map BitVec.toNat).drop t = (ws.getD t 0).toNat :: (ws.map BitVec.toNat).drop (t + 1) := by
      rw [List.drop_eq_getElem_cons (by simp; omega)]
      simp [List.getD, show t < ws.length by omega]
    rw [KKN_drop t (by omega), h2]
    simp only [roundsN, force_eq]
    have e1 : (v.h.toNat + bs1N v.e.toNat + chN v.e.toNat v.f.toNat v.g.toNat + (KK.getD t 0).toNat + (ws.getD t 0).toNat) % 4294967296 = (t1f v (KK.getD t 0) (ws.getD t 0)).toNat := by
      unfold t1f
      simp only [BitVec.toNat_add, bs1N_eq, chN_eq]
      omega
    rw [e1]
    have e2 : ((t1f v (KK.getD t 0) (ws.getD t 0)).toNat + (bs0N v.a.toNat + majN v.a.toNat v.b.toNat v.c.toNat)) % 4294967296 = (t1f v (KK.getD t 0) (ws.getD t 0) + t2f v).toNat := by
      unfold t2f
      simp only [BitVec.toNat_add, bs0N_eq, majN_eq]
      omega
    have e3 : (v.d.toNat + (t1f v (KK.getD t 0) (ws.getD t 0)).toNat) % 4294967296 = (v.d + t1f v (KK.getD t 0) (ws.getD t 0)).toNat := by
      simp only [BitVec.toNat_add]
    rw [e2, e3]
    exact ih (t + 1) (by omega) (rnd v (KK.getD t 0) (ws.getD t 0)) (by rw [hv]; rfl)
theorem compressN_aux (N : Nat) (hN : N = 64) (s : St) (bs : List B) (ws : List W) (h1 : schN 48 (w16N 16 (bs.map BitVec.toNat) []) = ws.reverse.map BitVec.toNat) (h2 : ws.length = 64) :
    compressN s.a.toNat s.b.toNat s.c.toNat s.d.toNat s.e.toNat s.f.toNat s.g.toNat s.h.toNat (bs.map BitVec.toNat) = fields (stAdd s (rnds ws s N)) := by
  unfold compressN
  rw [h1, ← List.map_reverse, List.reverse_reverse]
  have h3 := roundsN_eq N hN ws s h2 N 0 (Nat.zero_add _) s rfl
  rw [List.drop_zero, List.drop_zero] at h3
  rw [h3]
  generalize rnds ws s N = v
  simp only [fields, st8, List.map_cons, List.map_nil, stAdd, BitVec.toNat_add, Nat.reducePow]
theorem sch_all (m : Nat) (bs : List B) (h : bs.length = 64) : schN m (w16N 16 (bs.map BitVec.toNat) []) = (wsched bs m).reverse.map BitVec.toNat := by
  have h1 := w16N_eq bs 16 0 (by omega)
  rw [Nat.mul_zero, List.drop_zero] at h1
  have h1' : w16N 16 (bs.map BitVec.toNat) [] = (w16 bs (0 + 16)).reverse.map BitVec.toNat := h1
  rw [h1']
  have h2 := schN_eq bs m 0
  rw [Nat.zero_add] at h2
  exact h2
theorem compressN_eq (s : St) (bs : List B) (h : bs.length = 64) :
    compressN s.a.toNat s.b.toNat s.c.toNat s.d.toNat s.e.toNat s.f.toNat s.g.toNat s.h.toNat (bs.map BitVec.toNat) = fields (compress s bs) := by
  unfold compress
  exact compressN_aux 64 rfl s bs (wsched bs 48) (sch_all 48 bs h) (by rw [wsched_length])
theorem st_of (s : St) (a b c d e f g h : Nat) (hs : fields s = [a, b, c, d, e, f, g, h]) : s = ⟨BitVec.ofNat 32 a, BitVec.ofNat 32 b, BitVec.ofNat 32 c, BitVec.ofNat 32 d, BitVec.ofNat 32 e, BitVec.ofNat 32 f, BitVec.ofNat 32 g, BitVec.ofNat 32 h⟩ := by
  obtain ⟨a', b', c', d', e', f', g', h'⟩ := s
  simp only [fields, st8, List.map_cons, List.map_nil, List.cons.injEq, and_true] at hs
  obtain ⟨rfl, rfl, rfl, rfl, rfl, rfl, rfl, rfl⟩ := hs
  simp
theorem sha_one (m T : List B) (hT : m ++ pad m.length = T) (h : T.length = 64) : sha m = ((st8 (compress st0 T)).map bytesOf).flatten := by
  unfold sha
  rw [hT, h]
  show ((st8 (compress st0 (T.take 64))).map bytesOf).flatten = _
  rw [compress_take]
theorem sha_abc : (sha [97, 98, 99]).take 4 = [186, 120, 22, 191] := by
  obtain ⟨T, hT⟩ : ∃ T : List B, [97, 98, 99] ++ pad ([97, 98, 99] : List B).length = T := ⟨_, rfl⟩
  have hl : T.length = 64 := by rw [← hT]; decide
  have h := compressN_eq st0 T hl
  have h2 : compressN st0.a.toNat st0.b.toNat st0.c.toNat st0.d.toNat st0.e.toNat st0.f.toNat st0.g.toNat st0.h.toNat (T.map BitVec.toNat) = [3128432319, 2399260650, 1094795486, 1571693091, 2953011619, 2518121116, 3021012833, 4060091821] := by
    rw [← hT]; decide +kernel
  rw [sha_one _ T hT hl, st_of _ _ _ _ _ _ _ _ _ (h.symm.trans h2)]
  decide
end Go.Proofs.YtahlllbigkgobaaDoor
