/-
  What is alike in all rows: what the row's list gives of the two tables; arguments opened; what stays.
-/
import Derived.Test.YtahlllbigkgobaaDoorCards
import Derived.Test.YtahlllbigkgobaaDoorTie
import Derived.Test.YtahlllbigkgobaaDoorHash
import Derived.ProofKit
import Derived.OpenShut
import Derived.Deep.DeepHandedRow
import Derived.Deep.Matrix
import Derived.Carry
import Derived.Lib.LaidTab
namespace Go.Proofs.YtahlllbigkgobaaDoor
open Go Go.ChangeShapes Go.WideShapes Go.ChangeAt Go.RowKit Go.Deep

theorem own : ownKnob Tryd.prog.godebug = none := by kernel_rfl
theorem laidOut : laidOutB Tryd.prog = true := by kernel_rfl
theorem gFirst : Tryd.prog.globalNamed "chronicle/sha256.first" = some 0 := by kernel_rfl
theorem gConst : Tryd.prog.globalNamed "chronicle/sha256.constants" = some 1 := by kernel_rfl
theorem tabIs_two {P : Program} {W : World} {name : String} {k : IntKind} {zs : List Int} {x : String × DataW Unit} {rest : List (String × DataW Unit)} {g : Nat} {t e : TypeId} {n : Nat}
    (hg : P.globalNamed name = some g) (hty : (P.globals[g]?).map (·.type) = some t) (ht : P.underlying t = some (.array n e)) (he : P.underlying e = some (.int k)) (hce : P.cellsOf e = 1) (hct : P.cellsOf t = n)
    (h : laidMet P (x :: (name, Lib.tabData k zs) :: rest) W) : Lib.TabIs P W name k zs := by
  obtain ⟨ps, ⟨_, _, _, _, _, _, _, _, _, _, ⟨g', t', cs, fuel, p, q, hg', ht', hvar, hd, _, _⟩, _⟩, _⟩ := h
  obtain rfl := Option.some.inj (hg.symm.trans hg')
  obtain rfl := Option.some.inj (hty.symm.trans ht')
  unfold Lib.TabIs
  rw [hvar, ← Lib.cells_of_tab ht he hce hct hd]
def theLaid : List (String × DataW Unit) := [("chronicle/sha256.first", Rows.laid_chronicle_sha256_first), ("chronicle/sha256.constants", Rows.laid_chronicle_sha256_constants)]
def layRow (cs : Array Value) : Obj → Obj
  | .cells _ t f => .cells cs t f
  | o => o
/-- a world for the witness -/
noncomputable def laidWorld (os : Os) : World :=
  { World.holding Tryd.prog os ⟨#[], #[], []⟩ with heap := ((World.holding Tryd.prog os ⟨#[], #[], []⟩).heap.modify 0 (layRow ((st8 st0).map w32).toArray)).modify 1 (layRow (KK.map w32).toArray) }
/-- what the row's list gives -/
theorem laid_of {W : World} (h : laidMetH Tryd.prog theLaid W) : Laid W := by
  have h2 : laidMet Tryd.prog theLaid W := h
  constructor
  · have t1 : Lib.TabIs Tryd.prog W "chronicle/sha256.first" .u32 ((st8 st0).map fun x => (x.toNat : Int)) :=
      Lib.tabIs_of_head gFirst (by kernel_rfl) (show Tryd.prog.underlying 33 = some (.array 8 31) by kernel_rfl) (by kernel_rfl) (by kernel_rfl) (by kernel_rfl) h2
    intro t ht
    have := t1.cell gFirst t (by simpa [st8] using ht)
    rw [this]
    simp [w32, List.getD, show t < (st8 st0).length from ht]
  · have t1 : Lib.TabIs Tryd.prog W "chronicle/sha256.constants" .u32 (KK.map fun x => (x.toNat : Int)) :=
      tabIs_two gConst (by kernel_rfl) (show Tryd.prog.underlying 62 = some (.array 64 31) by kernel_rfl) (by kernel_rfl) (by kernel_rfl) (by kernel_rfl) h2
    intro t ht
    have hl : KK.length = 64 := rfl
    have := t1.cell gConst t (by rw [List.length_map, hl]; exact ht)
    rw [this]
    simp [w32, List.getD, show t < KK.length by omega]
section
variable {H : Type} {enc : TypeId × Value → H}
theorem trodAll_stays {W W' : World} (hb : Below W.heap.size W W') (sp : Nat → Bool) : ∀ (ts : List TypeId), (∀ t ∈ ts, Tryd.prog.readableRec t = true ∧ t < Tryd.prog.types.size) → ∀ (vs : List Value) (ds : List (DataW H)) (ps : List MemPlace),
    DataW.TrodAll enc Tryd.prog W 0 (fun _ => true) true ts vs ds ps → (∀ p ∈ ps, p.block < W.heap.size) → (∀ p ∈ ps, sp p.block = true) → DataW.TrodAll enc Tryd.prog W' 0 sp true ts vs ds ps := by
  intro ts
  induction ts with
  | nil => intro _ vs ds ps h _ _; obtain ⟨rfl, rfl, rfl⟩ := trodAll_nil h; exact trodAll_mk0
  | cons t ts ih =>
    intro ht vs ds ps h hlt hsp
    obtain ⟨v, vs', d, ds', p, q, rfl, rfl, rfl, h1, h2⟩ := trodAll_cons h
    have ⟨r1, r2⟩ := ht t (List.mem_cons_self ..)
    exact trodAll_cons_mk (WideElems.Trod_stays laidOut r1 r2 h1 (fun x hx => hb.same (hlt x (List.mem_append_left _ hx))) (fun x hx => hsp x (List.mem_append_left _ hx)))
      (ih (fun t' h' => ht t' (List.mem_cons_of_mem _ h')) vs' ds' q h2 (fun x hx => hlt x (List.mem_append_right _ hx)) (fun x hx => hsp x (List.mem_append_right _ hx)))
/-- a law that comes out true, and leaves old memory as it was -/
theorem law_post {f : Func} {s : ChangeSpec} {W W' : World} {args : Array Value} {ds gs : List (DataW H)} {before : List MemPlace} (hvars : s.vars = []) (hW : DataW.Whole enc Tryd.prog f.params.toList s.vars false W args.toList ds gs before)
    (hs : (s.fn H (ds ++ [])).results = [.lit (.bool true)]) (ha : (s.fn H (ds ++ [])).args = ds) (hv : (s.fn H (ds ++ [])).vars = []) (hr : f.resultTypes = #[4])
    (hp : ∀ t ∈ f.params.toList, Tryd.prog.readableRec t = true ∧ t < Tryd.prog.types.size) (hb : Below W.heap.size W W') : s.post enc Tryd.prog f false true false false W args (.bool true) W' := by
  have hW0 := hW
  obtain ⟨p, q, hA, hV, rfl, hfz, hnd⟩ := hW
  rw [hvars] at hV
  obtain ⟨rfl, rfl⟩ := trodVars_none hV
  rw [List.append_nil] at hW0
  have hlt : ∀ x ∈ p, x.block < W.heap.size := fun x hx => by simpa using hW0.lt x hx
  have hu : Tryd.prog.underlying 4 = some .bool := by kernel_rfl
  refine ⟨ds, [], p, [], p, [], hW0, ?_, ?_, ?_, ?_, fun h => (by cases h)⟩
  · rw [List.append_nil, hr] at *
    rw [hs]; exact trodAll_cons_mk (shut_bool hu _) trodAll_mk0
  · rw [ha]; exact trodAll_stays hb _ _ hp _ _ _ hA hlt (fun x hx => by simpa using hlt x hx)
  · rw [hvars, hv]; exact rfl
  · exact World.keptBut_mono (fun x hx => ⟨hx, .inr (.inl hx)⟩) (hb.frame (· ∈ p))
theorem wf_u8 {z : Int} (h : (Lit.int .u8 z).wf = true) : 0 ≤ z ∧ z ≤ 255 := by
  simpa [Lit.wf, IntKind.min, IntKind.max, IntKind.bits, IntKind.signed] using h
theorem wf_u16 {z : Int} (h : (Lit.int .u16 z).wf = true) : 0 ≤ z ∧ z ≤ 65535 := by
  simpa [Lit.wf, IntKind.min, IntKind.max, IntKind.bits, IntKind.signed] using h
theorem b8_ofInt {z : Int} (h : 0 ≤ z ∧ z ≤ 255) : Value.int .u8 z = b8 (BitVec.ofInt 8 z) := by
  unfold b8
  congr 1
  rw [BitVec.toNat_ofInt]
  omega
theorem spot_none {w : World} {a : Addr} {v : Value} (h : w.cell? a = some v) : a.spot = none := by
  rcases a with ⟨b, off, _ | s⟩
  · rfl
  · exfalso
    unfold World.cell? at h
    simp only at h
    split at h <;> simp at h
theorem bts_of_ints {W : World} {a : Addr} {len : Nat} {zs : List Int} (hl : len ≤ zs.length) (hc : ∀ i, i < len → W.cell? (a.add i) = some (.int .u8 (zs.getD i 0))) (hw : ∀ n ∈ zs, (Lit.int .u8 n).wf = true) : Bts W (some a) ((zs.take len).map (BitVec.ofInt 8)) := by
  by_cases h0 : len = 0
  · subst h0; exact .inl rfl
  · have hs := spot_none (hc 0 (by omega))
    rcases a with ⟨b, off, s⟩
    obtain rfl : s = none := by
      rcases s with _ | s
      · rfl
      · exfalso; simp [Addr.add] at hs
    refine Bts.of fun j hj => ?_
    have hj2 : j < len := by simp at hj; omega
    have := hc j hj2
    rw [Addr.add_lit] at this
    rw [this]
    have hz : zs.getD j 0 ∈ zs := by simp [List.getD, show j < zs.length by omega]
    rw [b8_ofInt (wf_u8 (hw _ hz))]
    simp [List.getD, hj2, show j < zs.length by omega]
/-- a slice of bytes, opened -/
theorem open_bts {W : World} {base : Nat} {v : Value} {d : DataW H} {ps : List MemPlace} (hval : Value.okWide Tryd.prog W .any base 22 v) (h : DataW.Trod enc Tryd.prog W 0 (fun _ => true) true 22 v d ps) :
    ∃ (ao : Option Addr) (bs : List B) (cp : Nat), v = .slice ao bs.length cp ∧ Bts W ao bs ∧ bs.length ≤ cp ∧ cp ≤ maxLen := by
  obtain ⟨a1, len, cap, rfl⟩ := okWide_slice (show Tryd.prog.underlying 22 = some (.slice 5) by kernel_rfl) hval
  obtain ⟨fuel, hf⟩ := h
  rcases open_ints (show Tryd.prog.underlying 22 = some (.slice 5) by kernel_rfl) (show Tryd.prog.underlying 5 = some (.int .u8) by kernel_rfl) (by kernel_rfl) hf with ⟨hcs, hx⟩ | ⟨a, len', cap', zs, hcs, _, hl, hm, hz, hx, hcell, hwz⟩
  · simp [Value.cells] at hcs
    obtain ⟨rfl, rfl, rfl⟩ := hcs
    exact ⟨none, [], 0, rfl, .inl rfl, Nat.le_refl _, Nat.zero_le _⟩
  · simp [Value.cells] at hcs
    obtain ⟨rfl, rfl, rfl⟩ := hcs
    simp only [if_true] at hz
    refine ⟨_, (zs.take len).map (BitVec.ofInt 8), cap, ?_, bts_of_ints (by omega) (fun i hi => hcell i (by omega)) hwz, ?_, hm⟩
    · rw [List.length_map, List.length_take, Nat.min_eq_left (by omega)]
    · rw [List.length_map, List.length_take]; omega
/-- a slice of slices of bytes, opened -/
theorem open_parts {W : World} {base : Nat} {v : Value} {d : DataW H} {ps : List MemPlace} (hval : Value.okWide Tryd.prog W .any base 29 v) (h : DataW.Trod enc Tryd.prog W 0 (fun _ => true) true 29 v d ps) :
    ∃ (ao : Option Addr) (L : List (Option Addr × Nat × List B)) (cp : Nat), v = .slice ao L.length cp ∧ Parts W ao L ∧ L.length ≤ cp ∧ cp ≤ maxLen ∧ ∀ p ∈ L, p.2.2.length ≤ p.2.1 ∧ p.2.1 ≤ maxLen := by
  have u1 : Tryd.prog.underlying 29 = some (.slice 22) := by kernel_rfl
  have u2 : Tryd.prog.underlying 22 = some (.slice 5) := by kernel_rfl
  have u3 : Tryd.prog.underlying 5 = some (.int .u8) := by kernel_rfl
  obtain ⟨a1, len, cap, rfl⟩ := okWide_slice u1 hval
  obtain ⟨fuel, hf⟩ := h
  rcases open_int_rows u1 u2 u3 (by kernel_rfl) (by kernel_rfl) hf with ⟨hcs, hx⟩ | ⟨a, len', cap', A, L, C, Z, hcs, _, hl, hm, hx, hr⟩
  · simp [Value.cells] at hcs
    obtain ⟨rfl, rfl, rfl⟩ := hcs
    exact ⟨none, [], 0, rfl, ⟨.inl rfl, fun p hp => by cases hp⟩, Nat.le_refl _, Nat.zero_le _, fun p hp => by cases hp⟩
  · simp [Value.cells] at hcs
    obtain ⟨rfl, rfl, rfl⟩ := hcs
    have hlen (r : Nat) (h : r < cap) : (((Z r).take (L r)).map (BitVec.ofInt 8)).length = L r := by
      obtain ⟨_, h2, _, h4, _⟩ := hr r h
      rw [List.length_map, List.length_take]; omega
    refine ⟨some a, (List.range len).map fun r => (A r, C r, ((Z r).take (L r)).map (BitVec.ofInt 8)), cap, by simp, ⟨?_, ?_⟩, by simp [hl], hm, ?_⟩
    · by_cases h0 : len = 0
      · left; simp [h0]
      · right
        have hs := spot_none (hr 0 (by omega)).1
        rcases a with ⟨b, off, s⟩
        obtain rfl : s = none := by
          rcases s with _ | s
          · rfl
          · exfalso; simp [Addr.add] at hs
        refine ⟨b, off, rfl, fun i hi => ?_⟩
        have hi2 : i < len := by simpa using hi
        have := (hr i (by omega)).1
        rw [Addr.add_lit] at this
        rw [this]
        have hz := hlen i (by omega)
        simp only [List.getElem_map, List.getElem_range]
        rw [hz]
    · intro p hp
      obtain ⟨r, hr1, rfl⟩ := List.mem_map.1 hp
      have hr2 : r < len := by simpa using hr1
      obtain ⟨h1, h2, h3, h4, h5, h6, h7⟩ := hr r (by omega)
      dsimp only
      cases hA : A r with
      | none =>
        have := h6 hA
        have h0 : L r = 0 := by omega
        rw [h0]; exact .inl rfl
      | some a' =>
        exact bts_of_ints (by omega) (fun i hi => (h7 a' hA).2 i (by omega)) h5
    · intro p hp
      obtain ⟨r, hr1, rfl⟩ := List.mem_map.1 hp
      have hr2 : r < len := by simpa using hr1
      obtain ⟨h1, h2, h3, -⟩ := hr r (by omega)
      dsimp only
      rw [hlen r (by omega)]
      exact ⟨h2, h3⟩
end
end Go.Proofs.YtahlllbigkgobaaDoor
