/-
  A hash with a key of nothing, reckoned; the awake fact of layer 7.
-/
import Derived.Test.YtahlllbigkgobaaDoorRefMac
namespace Go.Proofs.YtahlllbigkgobaaDoor
open Go.RowKit
theorem sha_two (m T : List B) (hT : m ++ pad m.length = T) (h : T.length = 128) : sha m = ((st8 (compress (compress st0 (T.take 64)) (T.drop 64))).map bytesOf).flatten := by
  unfold sha
  rw [hT, h]
  show ((st8 (compress (compress st0 (T.take 64)) ((T.drop 64).take 64))).map bytesOf).flatten = _
  rw [compress_take]
theorem sha_inner : sha (List.replicate 64 54#8) = [231, 43, 189, 77, 66, 154, 201, 20, 168, 166, 197, 189, 73, 99, 47, 246, 176, 13, 79, 239, 66, 175, 180, 67, 240, 184, 4, 125, 240, 108, 133, 210] := by
  obtain ⟨T, hT⟩ : ∃ T : List B, List.replicate 64 54#8 ++ pad (List.replicate 64 54#8).length = T := ⟨_, rfl⟩
  have hl : T.length = 128 := by rw [← hT]; decide +kernel
  have e1 := compressN_eq st0 (T.take 64) (by rw [List.length_take, hl]; rfl)
  have f1 : compressN st0.a.toNat st0.b.toNat st0.c.toNat st0.d.toNat st0.e.toNat st0.f.toNat st0.g.toNat st0.h.toNat ((T.take 64).map BitVec.toNat) = [4099202733, 2535792975, 2430268064, 3742509290, 1692759311, 2744271233, 2185925419, 4175449650] := by rw [← hT]; decide +kernel
  rw [sha_two _ T hT hl, st_of _ _ _ _ _ _ _ _ _ (e1.symm.trans f1)]
  have e2 := compressN_eq ⟨BitVec.ofNat 32 4099202733, BitVec.ofNat 32 2535792975, BitVec.ofNat 32 2430268064, BitVec.ofNat 32 3742509290, BitVec.ofNat 32 1692759311, BitVec.ofNat 32 2744271233, BitVec.ofNat 32 2185925419, BitVec.ofNat 32 4175449650⟩ (T.drop 64) (by rw [List.length_drop, hl])
  have f2 : compressN (BitVec.ofNat 32 4099202733).toNat (BitVec.ofNat 32 2535792975).toNat (BitVec.ofNat 32 2430268064).toNat (BitVec.ofNat 32 3742509290).toNat (BitVec.ofNat 32 1692759311).toNat (BitVec.ofNat 32 2744271233).toNat (BitVec.ofNat 32 2185925419).toNat (BitVec.ofNat 32 4175449650).toNat ((T.drop 64).map BitVec.toNat) = [3878403405, 1117440276, 2829501885, 1231237110, 2953662447, 1118811203, 4038591613, 4033643986] := by rw [← hT]; decide +kernel
  rw [st_of _ _ _ _ _ _ _ _ _ (e2.symm.trans f2)]
  decide
theorem mac_nil : (mac [] []).take 4 = [182, 19, 103, 154] := by
  have hm : mac [] [] = sha (List.replicate 64 92#8 ++ sha (List.replicate 64 54#8)) := rfl
  rw [hm, sha_inner]
  obtain ⟨T, hT⟩ : ∃ T : List B, (List.replicate 64 92#8 ++ [231, 43, 189, 77, 66, 154, 201, 20, 168, 166, 197, 189, 73, 99, 47, 246, 176, 13, 79, 239, 66, 175, 180, 67, 240, 184, 4, 125, 240, 108, 133, 210]) ++ pad (List.replicate 64 92#8 ++ [231, 43, 189, 77, 66, 154, 201, 20, 168, 166, 197, 189, 73, 99, 47, 246, 176, 13, 79, 239, 66, 175, 180, 67, 240, 184, 4, 125, 240, 108, 133, 210]).length = T := ⟨_, rfl⟩
  have hl : T.length = 128 := by rw [← hT]; decide +kernel
  have e1 := compressN_eq st0 (T.take 64) (by rw [List.length_take, hl]; rfl)
  have f1 : compressN st0.a.toNat st0.b.toNat st0.c.toNat st0.d.toNat st0.e.toNat st0.f.toNat st0.g.toNat st0.h.toNat ((T.take 64).map BitVec.toNat) = [3548727311, 2059101303, 935970104, 1574446183, 2382641778, 1966355632, 3736610840, 907888038] := by rw [← hT]; decide +kernel
  rw [sha_two _ T hT hl, st_of _ _ _ _ _ _ _ _ _ (e1.symm.trans f1)]
  have e2 := compressN_eq ⟨BitVec.ofNat 32 3548727311, BitVec.ofNat 32 2059101303, BitVec.ofNat 32 935970104, BitVec.ofNat 32 1574446183, BitVec.ofNat 32 2382641778, BitVec.ofNat 32 1966355632, BitVec.ofNat 32 3736610840, BitVec.ofNat 32 907888038⟩ (T.drop 64) (by rw [List.length_drop, hl])
  have f2 : compressN (BitVec.ofNat 32 3548727311).toNat (BitVec.ofNat 32 2059101303).toNat (BitVec.ofNat 32 935970104).toNat (BitVec.ofNat 32 1574446183).toNat (BitVec.ofNat 32 2382641778).toNat (BitVec.ofNat 32 1966355632).toNat (BitVec.ofNat 32 3736610840).toNat (BitVec.ofNat 32 907888038).toNat ((T.drop 64).map BitVec.toNat) = [3054725018, 135584236, 1999607255, 2026069957, 4279670724, 2473678419, 3334935060, 1116915117] := by rw [← hT]; decide +kernel
  rw [st_of _ _ _ _ _ _ _ _ _ (e2.symm.trans f2)]
  decide
end Go.Proofs.YtahlllbigkgobaaDoor
