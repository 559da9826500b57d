/-
  SHA-256 over lists of bytes, in plain Lean: no program, no memory.
-/
namespace Go.Proofs.YtahlllbigkgobaaDoor
abbrev W := BitVec 32
abbrev B := BitVec 8
def rotr (n : Nat) (x : W) : W := x >>> n ||| x <<< (32 - n)
def word4 (a b c d : B) : W := a.setWidth 32 <<< 24 ||| b.setWidth 32 <<< 16 ||| c.setWidth 32 <<< 8 ||| d.setWidth 32
def ssig0 (x : W) : W := rotr 7 x ^^^ rotr 18 x ^^^ x >>> 3
def ssig1 (x : W) : W := rotr 17 x ^^^ rotr 19 x ^^^ x >>> 10
def bsig0 (x : W) : W := rotr 2 x ^^^ rotr 13 x ^^^ rotr 22 x
def bsig1 (x : W) : W := rotr 6 x ^^^ rotr 11 x ^^^ rotr 25 x
def chf (e f g : W) : W := (e &&& f) ^^^ (~~~e &&& g)
def majf (a b c : W) : W := (a &&& b) ^^^ (a &&& c) ^^^ (b &&& c)

/-- the constants -/
def KK : List W := [
  1116352408, 1899447441, 3049323471, 3921009573, 961987163, 1508970993, 2453635748, 2870763221,
  3624381080, 310598401, 607225278, 1426881987, 1925078388, 2162078206, 2614888103, 3248222580,
  3835390401, 4022224774, 264347078, 604807628, 770255983, 1249150122, 1555081692, 1996064986,
  2554220882, 2821834349, 2952996808, 3210313671, 3336571891, 3584528711, 113926993, 338241895,
  666307205, 773529912, 1294757372, 1396182291, 1695183700, 1986661051, 2177026350, 2456956037,
  2730485921, 2820302411, 3259730800, 3345764771, 3516065817, 3600352804, 4094571909, 275423344,
  430227734, 506948616, 659060556, 883997877, 958139571, 1322822218, 1537002063, 1747873779,
  1955562222, 2024104815, 2227730452, 2361852424, 2428436474, 2756734187, 3204031479, 3329325298]

/-- eight words -/
structure St where
  a : W
  b : W
  c : W
  d : W
  e : W
  f : W
  g : W
  h : W
  deriving DecidableEq
def st0 : St := ⟨1779033703, 3144134277, 1013904242, 2773480762, 1359893119, 2600822924, 528734635, 1541459225⟩

/-- the first k words (k ≤ 16) of a block -/
def w16 (bs : List B) (k : Nat) : List W := (List.range k).map fun t => word4 (bs.getD (4*t) 0) (bs.getD (4*t+1) 0) (bs.getD (4*t+2) 0) (bs.getD (4*t+3) 0)
/-- the next word of a schedule -/
def wnext (ws : List W) (t : Nat) : W := ssig1 (ws.getD (t-2) 0) + ws.getD (t-7) 0 + ssig0 (ws.getD (t-15) 0) + ws.getD (t-16) 0
/-- the schedule, 16 + j words -/
def wsched (bs : List B) : Nat → List W
  | 0 => w16 bs 16
  | j + 1 => wsched bs j ++ [wnext (wsched bs j) (16 + j)]
def t1f (s : St) (k w : W) : W := s.h + bsig1 s.e + chf s.e s.f s.g + k + w
def t2f (s : St) : W := bsig0 s.a + majf s.a s.b s.c
def rnd (s : St) (k w : W) : St := ⟨t1f s k w + t2f s, s.a, s.b, s.c, s.d + t1f s k w, s.e, s.f, s.g⟩
/-- t rounds -/
def rnds (ws : List W) (s : St) : Nat → St
  | 0 => s
  | t + 1 => rnd (rnds ws s t) (KK.getD t 0) (ws.getD t 0)
def stAdd (s v : St) : St := ⟨s.a + v.a, s.b + v.b, s.c + v.c, s.d + v.d, s.e + v.e, s.f + v.f, s.g + v.g, s.h + v.h⟩
def compress (s : St) (bs : List B) : St := stAdd s (rnds (wsched bs 48) s 64)
/-- n blocks taken in -/
def absorb (s : St) (bs : List B) : Nat → St
  | 0 => s
  | n + 1 => absorb (compress s (bs.take 64)) (bs.drop 64) n
def st8 (s : St) : List W := [s.a, s.b, s.c, s.d, s.e, s.f, s.g, s.h]
def bytesOf (w : W) : List B := [(w >>> 24).setWidth 8, (w >>> 16).setWidth 8, (w >>> 8).setWidth 8, w.setWidth 8]
/-- what is put behind a message of n bytes -/
def padz (n : Nat) : Nat := (119 - n % 64) % 64
def len8 (n : Nat) : List B := (List.range 8).map fun i => (BitVec.ofNat 64 (8 * n) >>> (56 - 8 * i)).setWidth 8
def pad (n : Nat) : List B := [128] ++ List.replicate (padz n) 0 ++ len8 n
def sha (bs : List B) : List B := ((st8 (absorb st0 (bs ++ pad bs.length) ((bs ++ pad bs.length).length / 64))).map bytesOf).flatten
end Go.Proofs.YtahlllbigkgobaaDoor
