/-
  Small laws for the walks, of whatever program: words and bytes as values that simp does not open; blocks that are known whole.
-/
import Derived.Test.YtahlllbigkgobaaDoorSha
import Derived.WalkKit
import Derived.WalkSpells
import Derived.WalkLawsBesides
import Derived.Deep.QuietTactic
import Derived.BigQuiet
import Derived.Lib.Hide
import Derived.StillTailTactics
namespace Go.Proofs.YtahlllbigkgobaaDoor
open Go Go.RowKit

/-- words and bytes as opaque values -/
def Blk (w : World) (b : Nat) (T : TypeId) (cs : Array Value) : Prop := w.heap[b]? = some (.cells cs T (0, 0))
def w32 (x : BitVec 32) : Value := .int .u32 (x.toNat : Int)
def b8 (x : BitVec 8) : Value := .int .u8 (x.toNat : Int)

theorem wrap32_bv (n : Int) : IntKind.u32.wrap n = ((BitVec.ofInt 32 n).toNat : Int) := by
  simp [IntKind.wrap, IntKind.bits, IntKind.signed, BitVec.toNat_ofInt]
  omega
theorem wrap8_bv (n : Int) : IntKind.u8.wrap n = ((BitVec.ofInt 8 n).toNat : Int) := by
  simp [IntKind.wrap, IntKind.bits, IntKind.signed, BitVec.toNat_ofInt]
  omega
theorem int_u32_wrap (n : Int) : Value.int .u32 (IntKind.u32.wrap n) = w32 (BitVec.ofInt 32 n) := by rw [wrap32_bv]; rfl
theorem int_u8_wrap (n : Int) : Value.int .u8 (IntKind.u8.wrap n) = b8 (BitVec.ofInt 8 n) := by rw [wrap8_bv]; rfl
theorem ofInt32 (x : BitVec 32) : BitVec.ofInt 32 (x.toNat : Int) = x := by simp
theorem ofInt8 (x : BitVec 8) : BitVec.ofInt 8 (x.toNat : Int) = x := by simp

section
variable (t : TypeId) (x y : BitVec 32)
@[go_sem] theorem add_w32 : binOp .add t (w32 x) (w32 y) = pure (w32 (x + y)) := by
  unfold w32; rw [binOp_add]; show pure (Value.int .u32 (IntKind.u32.wrap _)) = _
  rw [int_u32_wrap, BitVec.ofInt_add, ofInt32, ofInt32]; rfl
@[go_sem] theorem sub_w32 : binOp .sub t (w32 x) (w32 y) = pure (w32 (x - y)) := by
  unfold w32; rw [binOp_sub]; show pure (Value.int .u32 (IntKind.u32.wrap _)) = _
  rw [int_u32_wrap]
  have : BitVec.ofInt 32 ((x.toNat : Int) - y.toNat) = x - y := by
    apply BitVec.eq_of_toNat_eq
    rw [BitVec.toNat_ofInt, BitVec.toNat_sub]
    have := x.isLt; have := y.isLt
    omega
  rw [this]; rfl
@[go_sem] theorem mul_w32 : binOp .mul t (w32 x) (w32 y) = pure (w32 (x * y)) := by
  unfold w32; rw [binOp_mul]; show pure (Value.int .u32 (IntKind.u32.wrap _)) = _
  rw [int_u32_wrap, BitVec.ofInt_mul, ofInt32, ofInt32]; rfl
@[go_sem] theorem add_w32_lit (n : Int) : binOp .add t (w32 x) (.int .u32 n) = pure (w32 (x + BitVec.ofInt 32 n)) := by
  unfold w32; rw [binOp_add]; show pure (Value.int .u32 (IntKind.u32.wrap _)) = _
  rw [int_u32_wrap, BitVec.ofInt_add, ofInt32]; rfl
@[go_sem] theorem mul_w32_lit (n : Int) : binOp .mul t (w32 x) (.int .u32 n) = pure (w32 (x * BitVec.ofInt 32 n)) := by
  unfold w32; rw [binOp_mul]; show pure (Value.int .u32 (IntKind.u32.wrap _)) = _
  rw [int_u32_wrap, BitVec.ofInt_mul, ofInt32]; rfl
theorem ofInt_sub32 (n m : Int) : BitVec.ofInt 32 (n - m) = BitVec.ofInt 32 n - BitVec.ofInt 32 m := by
  rw [Int.sub_eq_add_neg, BitVec.ofInt_add, BitVec.ofInt_neg, BitVec.sub_eq_add_neg]
@[go_sem] theorem sub_lit_w32 (n : Int) : binOp .sub t (.int .u32 n) (w32 x) = pure (w32 (BitVec.ofInt 32 n - x)) := by
  unfold w32; rw [binOp_sub]; show pure (Value.int .u32 (IntKind.u32.wrap _)) = _
  rw [int_u32_wrap, ofInt_sub32, ofInt32]; rfl
@[go_sem] theorem quo_w32_lit (n : Int) (h0 : 0 < n) (h1 : n < 4294967296) : binOp .quo t (w32 x) (.int .u32 n) = pure (w32 (x / BitVec.ofInt 32 n)) := by
  unfold w32; rw [binOp_quo]; unfold Op.intDiv; rw [if_neg (by omega)]
  show pure (Value.int .u32 (IntKind.u32.wrap ((x.toNat : Int).tdiv n))) = _
  obtain ⟨m, rfl⟩ := Int.eq_ofNat_of_zero_le (Int.le_of_lt h0)
  rw [int_u32_wrap]
  have : BitVec.ofInt 32 ((x.toNat : Int).tdiv (m : Int)) = x / BitVec.ofInt 32 (m : Int) := by
    apply BitVec.eq_of_toNat_eq
    have hm : m < 4294967296 := by omega
    have hx := x.isLt
    have hd : x.toNat / m < 4294967296 := Nat.lt_of_le_of_lt (Nat.div_le_self _ _) hx
    rw [BitVec.toNat_ofInt, BitVec.toNat_udiv, BitVec.toNat_ofInt]
    have e : (x.toNat : Int).tdiv (m : Int) = ((x.toNat / m : Nat) : Int) := rfl
    have e2 : ((m : Int) % ((2 ^ 32 : Nat) : Int)).toNat = m := by omega
    rw [e, e2]
    generalize x.toNat / m = q at *
    omega
  rw [this]; rfl
theorem back32 (r : BitVec 32) : Value.int .u32 (IntKind.u32.wrap (r.toNat : Int)) = w32 r := by rw [int_u32_wrap, ofInt32]
@[go_sem] theorem xor_w32 : binOp .xor t (w32 x) (w32 y) = pure (w32 (x ^^^ y)) := by
  unfold w32; rw [binOp_xor]; show pure (Value.int .u32 (IntKind.u32.wrap ((BitVec.ofInt 32 _ ^^^ BitVec.ofInt 32 _).toNat : Int))) = _
  rw [ofInt32, ofInt32, back32]; rfl
@[go_sem] theorem and_w32 : binOp .and t (w32 x) (w32 y) = pure (w32 (x &&& y)) := by
  unfold w32; rw [binOp_and]; show pure (Value.int .u32 (IntKind.u32.wrap ((BitVec.ofInt 32 _ &&& BitVec.ofInt 32 _).toNat : Int))) = _
  rw [ofInt32, ofInt32, back32]; rfl
@[go_sem] theorem or_w32 : binOp .or t (w32 x) (w32 y) = pure (w32 (x ||| y)) := by
  unfold w32; rw [binOp_or]; show pure (Value.int .u32 (IntKind.u32.wrap ((BitVec.ofInt 32 _ ||| BitVec.ofInt 32 _).toNat : Int))) = _
  rw [ofInt32, ofInt32, back32]; rfl
@[go_sem] theorem not_w32 : Op.unary .xor (w32 x) = pure (w32 (~~~ x)) := by
  unfold w32
  show pure (Value.int .u32 (IntKind.u32.wrap ((BitVec.ofInt 32 _ ^^^ BitVec.ofInt 32 _).toNat : Int))) = _
  rw [ofInt32, back32]
  have : (BitVec.ofInt 32 (if IntKind.u32.signed = true then -1 else IntKind.u32.max)) = BitVec.allOnes 32 := by decide
  rw [this, BitVec.allOnes_xor]; rfl
@[go_sem] theorem shr_w32 (yk : IntKind) (m : Int) (h0 : 0 ≤ m) (hm : m ≤ 32) : binOp .shr t (w32 x) (.int yk m) = pure (w32 (x >>> m.toNat)) := by
  obtain ⟨n, rfl⟩ := Int.eq_ofNat_of_zero_le h0
  have h : n ≤ 32 := by omega
  rw [Int.toNat_natCast]
  unfold w32; rw [binOp_shr]; unfold Op.shift
  rw [if_neg (by omega)]
  show pure (Value.int .u32 ((x.toNat : Int).fdiv (2 ^ (min n 32)))) = _
  rw [Nat.min_eq_left h, Int.fdiv_eq_ediv_of_nonneg _ (by exact Int.pow_nonneg (by decide))]
  congr 2
  rw [BitVec.toNat_ushiftRight, Nat.shiftRight_eq_div_pow]
  norm_cast
@[go_sem] theorem shl_w32 (yk : IntKind) (m : Int) (h0 : 0 ≤ m) (hm : m ≤ 32) : binOp .shl t (w32 x) (.int yk m) = pure (w32 (x <<< m.toNat)) := by
  obtain ⟨n, rfl⟩ := Int.eq_ofNat_of_zero_le h0
  have h : n ≤ 32 := by omega
  rw [Int.toNat_natCast]
  unfold w32; rw [binOp_shl]; unfold Op.shift
  rw [if_neg (by omega)]
  show pure (Value.int .u32 (IntKind.u32.wrap ((x.toNat : Int) * (2 ^ (min n 32))))) = _
  rw [Nat.min_eq_left h, int_u32_wrap]
  have : BitVec.ofInt 32 ((x.toNat : Int) * 2 ^ n) = x <<< n := by
    apply BitVec.eq_of_toNat_eq
    rw [BitVec.toNat_ofInt, BitVec.toNat_shiftLeft, Nat.shiftLeft_eq]
    have : ((x.toNat : Int) * 2 ^ n) = ((x.toNat * 2 ^ n : Nat) : Int) := by norm_cast
    rw [this]
    norm_cast
  rw [this]; rfl
end

section
variable {P : Program} {src dst : TypeId} (w : World)
theorem run_conv_b8_w32 (x : BitVec 8) (hs : (P.underlying src).isSome = true) (hd2 : P.underlying dst = some (.int .u32)) :
    (convert src dst (b8 x)).run P w = .ok (w32 (x.setWidth 32)) w := by
  unfold b8
  obtain ⟨s', hs'⟩ := Option.isSome_iff_exists.1 hs
  simp [convert, run_underlying hs', run_underlying hd2, Conv.intToInt]
  rw [int_u32_wrap]
  congr 1
  apply BitVec.eq_of_toNat_eq
  simp
theorem run_conv_w32_b8 (x : BitVec 32) (hs : (P.underlying src).isSome = true) (hd2 : P.underlying dst = some (.int .u8)) :
    (convert src dst (w32 x)).run P w = .ok (b8 (x.setWidth 8)) w := by
  unfold w32
  obtain ⟨s', hs'⟩ := Option.isSome_iff_exists.1 hs
  simp [convert, run_underlying hs', run_underlying hd2, Conv.intToInt]
  rw [int_u8_wrap]
  congr 1
end

@[go_sem] theorem cells_match_w32 (x : BitVec 32) : Value.cells.match_1 (fun _ => Array Value) (w32 x) (fun cs => cs) (fun v => #[v]) = #[w32 x] := rfl
@[go_sem] theorem cells_match_b8 (x : BitVec 8) : Value.cells.match_1 (fun _ => Array Value) (b8 x) (fun cs => cs) (fun v => #[v]) = #[b8 x] := rfl
@[go_sem] theorem cells_w32 (x : BitVec 32) : Value.cells (w32 x) = #[w32 x] := rfl
@[go_sem] theorem cells_b8 (x : BitVec 8) : Value.cells (b8 x) = #[b8 x] := rfl
@[go_sem] theorem run_store_w32 (P : Program) (w : World) (a : Addr) (x : BitVec 32) (m : Mode) : (store a (w32 x) m).run P w = stored P w a (w32 x) m := run_store P w a _ m rfl
@[go_sem] theorem run_store_b8 (P : Program) (w : World) (a : Addr) (x : BitVec 8) (m : Mode) : (store a (b8 x) m).run P w = stored P w a (b8 x) m := run_store P w a _ m rfl
theorem run_storeAt_w32 {P : Program} {t : TypeId} (ht : (P.info? t).map (·.size) = some 1) (w : World) (a : Addr) (x : BitVec 32) :
    (Instr.storeAt t (.pointer (some a)) (w32 x)).run P w = stored P w a (w32 x) .plain := by
  obtain ⟨i, hi, hs⟩ := Option.map_eq_some_iff.1 ht
  simp [go_sem, sizeOf, typeInfo, hi, hs]
theorem run_storeAt_b8 {P : Program} {t : TypeId} (ht : (P.info? t).map (·.size) = some 1) (w : World) (a : Addr) (x : BitVec 8) :
    (Instr.storeAt t (.pointer (some a)) (b8 x)).run P w = stored P w a (b8 x) .plain := by
  obtain ⟨i, hi, hs⟩ := Option.map_eq_some_iff.1 ht
  simp [go_sem, sizeOf, typeInfo, hi, hs]
theorem Blk.cell {w : World} {b T : Nat} {cs : Array Value} (h : Blk w b T cs) (i : Nat) : w.cell? ⟨b, i, none⟩ = cs[i]? := by
  unfold Blk at h; simp [World.cell?, h]
theorem Blk.free {w : World} {b T : Nat} {cs : Array Value} (h : Blk w b T cs) (i : Nat) : w.frozen? ⟨b, i, none⟩ = false := by
  unfold Blk at h; simp [World.frozen?, h]
theorem Blk.set {w : World} {b T : Nat} {cs : Array Value} (h : Blk w b T cs) (i : Nat) (v : Value) : Blk (w.setCell ⟨b, i, none⟩ v) b T (cs.setIfInBounds i v) := by
  unfold Blk at *
  simp only [World.setCell, Array.getElem?_modify, h]
  simp
theorem Blk.set_other {w : World} {b T : Nat} {cs : Array Value} (h : Blk w b T cs) (a : Addr) (hne : a.block ≠ b) (v : Value) : Blk (w.setCell a v) b T cs := by
  unfold Blk at *
  rw [Below.heap_setCell _ _ _ _ (fun e => hne e.symm)]; exact h
theorem Blk.lt {w : World} {b T : Nat} {cs : Array Value} (h : Blk w b T cs) : b < w.heap.size := (Array.getElem?_eq_some_iff.1 h).1
theorem Blk.below {w w' : World} {b T n : Nat} {cs : Array Value} (h : Blk w b T cs) (hb : Below n w w') (hn : b < n) : Blk w' b T cs := by
  unfold Blk at *; rw [hb.block b hn]; exact h
theorem Blk.drewN {w : World} {b T : Nat} {cs : Array Value} (h : Blk w b T cs) (n : Nat) : Blk (w.drewN n) b T cs := h
theorem Blk.alloc {w : World} {b T : Nat} {cs : Array Value} (h : Blk w b T cs) (o : Obj) : Blk (w.alloc o) b T cs := by
  unfold Blk at *; rw [Below.heap_alloc _ _ _ (Array.getElem?_eq_some_iff.1 h).1]; exact h
theorem wp_still_tail {P : Program} {id : Nat} {Q : Exit → Act → World → Prop} {a : Act} {w : World} {l : List Oper} (n : Nat) (hm : P.follows .mixedOrders = true) (hB : Region.lexTailB .any l.toArray n = true)
    (h : wpStill P l.toArray w.drew (fun a' => wpList P l.toArray Q (l.drop n) a' w.drew) (l.take n) a) : (Code.region id l.toArray true).wp P Q a w := wp_region_still_tail n hm hB h
theorem below_drewN (B : Nat) (w : World) (n : Nat) : Below B w (w.drewN n) := ⟨rfl, rfl, rfl, Nat.le_refl _, fun _ _ => rfl⟩
theorem Blk.new (w : World) (cs : Array Value) (T : TypeId) : Blk (w.alloc (.cells cs T)) w.heap.size T cs := heap_alloc_new w _
theorem Blk.new1 (w : World) (A : Obj) (cs : Array Value) (T : TypeId) : Blk ((w.alloc A).alloc (.cells cs T)) (w.heap.size + 1) T cs := by
  have := Blk.new (w.alloc A) cs T; simpa using this
theorem Blk.new2 (w : World) (A A' : Obj) (cs : Array Value) (T : TypeId) : Blk (((w.alloc A).alloc A').alloc (.cells cs T)) (w.heap.size + 1 + 1) T cs := by
  have := Blk.new ((w.alloc A).alloc A') cs T; simpa using this
theorem alloc_size (w : World) (o : Obj) : (w.alloc o).heap.size = w.heap.size + 1 := by simp
theorem below_alloc1 (w : World) (A : Obj) : Below w.heap.size w (w.alloc A) := (Below.refl _ _).alloc (Nat.le_refl _) _
theorem below_alloc2 (w : World) (A B : Obj) : Below w.heap.size w ((w.alloc A).alloc B) := (below_alloc1 w A).alloc (by simp) _
theorem below_alloc3 (w : World) (A B C : Obj) : Below w.heap.size w (((w.alloc A).alloc B).alloc C) := (below_alloc2 w A B).alloc (by simp; omega) _
theorem below_alloc4 (w : World) (A B C D : Obj) : Below w.heap.size w ((((w.alloc A).alloc B).alloc C).alloc D) := (below_alloc3 w A B C).alloc (by simp; omega) _
/-- a whole array is stored into a block that is known whole -/
theorem wpList_store_blk {P : Program} {ops : Array Oper} {rest : List Oper} {o : Oper} {a : Act} {w : World} {Q : Exit → Act → World → Prop} (hgd : o.guard = none) (ty : TypeId) (x y : Operand) (ho : o.op = .store ty x y)
    {b T : Nat} {old : Array Value} (hb : Blk w b T old) (cells : Array Value) (hx : a.eval x = .pointer (some ⟨b, 0, none⟩)) (hy : a.eval y = .agg cells) (n : Nat) (hi : (P.info? ty).map (·.size) = some n)
    (ho1 : old.size = n) (hc1 : cells.size = n) (h1 : ∀ v ∈ cells.toList, v.oneCell' = true)
    (h : ∀ w', Blk w' b T cells → w.grownBy w' (some b) → wpList P ops Q rest (a.put o.dst undef) w') : wpList P ops Q (o :: rest) a w := by
  refine wpList_store_row hgd ty x y ho b cells hx hy T old hb (by rw [hc1]; exact hi) (by rw [ho1, hc1]) (by rw [Array.all_eq_true_iff_forall_mem]; intro v hv; exact h1 v (by simpa using hv)) (h _ (setRow_heap w b old _ T _ hb) ?_)
  exact ⟨rfl, rfl, rfl, by simp [World.setRow], fun k _ hk => setRow_other w b k cells (by intro e; exact hk (by rw [e]))⟩
theorem Blk.grown {w w' : World} {b T : Nat} {cs : Array Value} {row : Option Nat} (h : Blk w b T cs) (hg : w.grownBy w' row) (hne : some b ≠ row) : Blk w' b T cs := by
  unfold Blk at *; rw [hg.block b (Array.getElem?_eq_some_iff.1 h).1 hne]; exact h
theorem below_upd {B b : Nat} {a w w' : World} (h : Below B a w) (hg : w.grownBy w' (some b)) (hB : B ≤ b) (hb : b < w.heap.size) : Below B a w' :=
  h.grown hg (by omega) (fun k hk => by obtain rfl := Option.some.inj hk; exact hB)
theorem setRow_grown (w : World) (b : Nat) (cells : Array Value) : w.grownBy (w.setRow b cells) (some b) :=
  ⟨rfl, rfl, rfl, by simp [World.setRow], fun k _ hk => setRow_other w b k cells (by intro e; exact hk (by rw [e]))⟩
theorem wpList_load_blk {P : Program} {ops : Array Oper} {rest : List Oper} {o : Oper} {a : Act} {w : World} {Q : Exit → Act → World → Prop} (hgd : o.guard = none) (ty : TypeId) (x : Operand) (ho : o.op = .load ty x)
    {b T : Nat} {cs : Array Value} (hb : Blk w b T cs) (hx : a.eval x = .pointer (some ⟨b, 0, none⟩)) (d : TypeDesc)
    (hu : P.underlying ty = some d) (hd : (match d with | .struct _ | .array _ _ => true | _ => false) = true) (n : Nat) (hi : (P.info? ty).map (·.size) = some n) (hc : cs.size = n)
    (h : wpList P ops Q rest (a.put o.dst (.agg cs)) w) : wpList P ops Q (o :: rest) a w :=
  wpList_load_row hgd ty x ho b hx T cs (0, 0) d hb hu hd (by rw [hc]; exact hi) h
/-- a function's one result, an array in a block that is known whole -/
theorem ret_blk {P : Program} {fn : Func} {R : Ending → World → Prop} {tmps : Array Value} {w : World} {p : Tmp} {ty b T : Nat} {cs : Array Value} (h : fn.results = #[.cell p ty]) (hb : Blk w b T cs) (hp : tmps.getD p undef = .pointer (some ⟨b, 0, none⟩))
    (d : TypeDesc) (hu : P.underlying ty = some d) (hd : (match d with | .struct _ | .array _ _ => true | _ => false) = true) (n : Nat) (hn : (P.info? ty).map (·.size) = some n) (hc : cs.size = n) (hR : R (.returned (.agg cs)) w) :
    bodyPost P fn R .normal ⟨tmps, []⟩ w ∧ bodyPost P fn R .ret ⟨tmps, []⟩ w :=
  ⟨bodyPost_end (results_cell_row h tmps w b T cs _ d hp hb hu hd (by rw [hc]; exact hn)) rfl hR, bodyPost_ret (results_cell_row h tmps w b T cs _ d hp hb hu hd (by rw [hc]; exact hn)) rfl hR⟩
end Go.Proofs.YtahlllbigkgobaaDoor
