/-
  The hash of the one byte 0, reckoned by the kernel: it isn't nothing.
-/
import Derived.Test.YtadiijieldldhaaDoorShaNat
namespace Go.Proofs.YtadiijieldldhaaDoor
theorem sha_z4 : (sha [0]).take 4 = [110, 52, 11, 156] := by
  obtain ⟨T, hT⟩ : ∃ T : List B, [0] ++ pad ([0] : List B).length = T := ⟨_, rfl⟩
  have hl : T.length = 64 := by rw [← hT]; decide
  have h := compressN_eq st0 T hl
  have h2 : compressN st0.a.toNat st0.b.toNat st0.c.toNat st0.d.toNat st0.e.toNat st0.f.toNat st0.g.toNat st0.h.toNat (T.map BitVec.toNat) = [1848904604, 4289952408, 2628076774, 3145206316, 2022710591, 3006740598, 2232525574, 397385757] := by
    rw [← hT]; decide +kernel
  rw [sha_one _ T hT hl, st_of _ _ _ _ _ _ _ _ _ (h.symm.trans h2)]
  decide
theorem sha_z : sha [0] ≠ List.replicate 32 0 := by
  intro h
  have := sha_z4
  rw [h] at this
  revert this; decide
end Go.Proofs.YtadiijieldldhaaDoor
