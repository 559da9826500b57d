/-
  DERIVED. GIVEN WITH THE SEED: THE CARDS: each row of YtbglblamoodocaaDoorRows.lean that lists a variable, with what it lists TIED to the program's text (the seventh form; the later family's looks); each row that meets fmt, with fmt's text TOLD by the authors' own Lean function (tested against real Go, not proved from fmt's source: count such statements apart). THE CARD IS WHAT COUNTS. Prove the row's statement (the work); the ties are given (YtbglblamoodocaaDoorTie.lean); close each card by the builder's one call (the guide's Derived/Test/ToyasCard.lean, 'card_holds'). Laid BY PROGRAM, IN A SANDBOX (cutbox-door.mjs). By AI agents, Wed Nov 11 2026. No macro, syntax, notation, axiom, sorry.
-/
import Derived.Test.YtbglblamoodocaaDoorRows
import GoSem.ClaimSeven
namespace Go.Proofs.YtbglblamoodocaaDoor
namespace Rows

/-- THE TIED CARD OF 'chroniclelaw16.MerkleSplits'. -/
def merkleSplitsCard : Claim7 := { stood := { row := merkleSplitsRow, standIns := [], harness := (true, "3f810063ff6cbda7766d5ea0a53d239372b8c883f0e19e15fbb0d588a716180e"), looks := false }, kinds := [], alts := [], laidByText := true, laidKinds := [.data, .data], laidTests := true, laidLooks := .later }
def MerkleSplitsCardSaid : Prop := Claim7.holds Tryd.pinned (.plain (OpenSpec.ofChange merkleSplitsSpec)) merkleSplitsCard

/-- THE TIED CARD OF 'chroniclelaw16.MerkleHashes'. -/
def merkleHashesCard : Claim7 := { stood := { row := merkleHashesRow, standIns := [], harness := (true, "3f810063ff6cbda7766d5ea0a53d239372b8c883f0e19e15fbb0d588a716180e"), looks := false }, kinds := [], alts := [], laidByText := true, laidKinds := [.data, .data], laidTests := true, laidLooks := .later }
def MerkleHashesCardSaid : Prop := Claim7.holds Tryd.pinned (.plain (OpenSpec.ofChange merkleHashesSpec)) merkleHashesCard

/-- THE TIED CARD OF 'chroniclelaw16.MerkleRoots'. -/
def merkleRootsCard : Claim7 := { stood := { row := merkleRootsRow, standIns := [], harness := (true, "3f810063ff6cbda7766d5ea0a53d239372b8c883f0e19e15fbb0d588a716180e"), looks := false }, kinds := [], alts := [], laidByText := true, laidKinds := [.data, .data], laidTests := true, laidLooks := .later }
def MerkleRootsCardSaid : Prop := Claim7.holds Tryd.pinned (.plain (OpenSpec.ofChange merkleRootsSpec)) merkleRootsCard

/-- THE TIED CARD OF 'chroniclelaw16.MerkleParts'. -/
def merklePartsCard : Claim7 := { stood := { row := merklePartsRow, standIns := [], harness := (true, "3f810063ff6cbda7766d5ea0a53d239372b8c883f0e19e15fbb0d588a716180e"), looks := false }, kinds := [], alts := [], laidByText := true, laidKinds := [.data, .data], laidTests := true, laidLooks := .later }
def MerklePartsCardSaid : Prop := Claim7.holds Tryd.pinned (.plain (OpenSpec.ofChange merklePartsSpec)) merklePartsCard

/-- THE TIED CARD OF 'chroniclelaw16.MerkleLast'. -/
def merkleLastCard : Claim7 := { stood := { row := merkleLastRow, standIns := [], harness := (true, "3f810063ff6cbda7766d5ea0a53d239372b8c883f0e19e15fbb0d588a716180e"), looks := false }, kinds := [], alts := [], laidByText := true, laidKinds := [.data, .data], laidTests := true, laidLooks := .later }
def MerkleLastCardSaid : Prop := Claim7.holds Tryd.pinned (.plain (OpenSpec.ofChange merkleLastSpec)) merkleLastCard

/-- THE TIED CARD OF 'chroniclelaw18.ProofPaths'. -/
def proofPathsCard : Claim7 := { stood := { row := proofPathsRow, standIns := [], harness := (true, "3f810063ff6cbda7766d5ea0a53d239372b8c883f0e19e15fbb0d588a716180e"), looks := false }, kinds := [], alts := [], laidByText := true, laidKinds := [.data, .data], laidTests := true, laidLooks := .later }
def ProofPathsCardSaid : Prop := Claim7.holds Tryd.pinned (.plain (OpenSpec.ofChange proofPathsSpec)) proofPathsCard

/-- THE TIED CARD OF 'chroniclelaw18.ProofLast'. -/
def proofLastCard : Claim7 := { stood := { row := proofLastRow, standIns := [], harness := (true, "3f810063ff6cbda7766d5ea0a53d239372b8c883f0e19e15fbb0d588a716180e"), looks := false }, kinds := [], alts := [], laidByText := true, laidKinds := [.data, .data], laidTests := true, laidLooks := .later }
def ProofLastCardSaid : Prop := Claim7.holds Tryd.pinned (.plain (OpenSpec.ofChange proofLastSpec)) proofLastCard

/-- THE TIED CARD OF 'chroniclelaw18.ProofProofs'. -/
def proofProofsCard : Claim7 := { stood := { row := proofProofsRow, standIns := [], harness := (true, "3f810063ff6cbda7766d5ea0a53d239372b8c883f0e19e15fbb0d588a716180e"), looks := false }, kinds := [], alts := [], laidByText := true, laidKinds := [.data, .data], laidTests := true, laidLooks := .later }
def ProofProofsCardSaid : Prop := Claim7.holds Tryd.pinned (.plain (OpenSpec.ofChange proofProofsSpec)) proofProofsCard

/-- THE TIED CARD OF 'chroniclelaw18.ProofShort'. -/
def proofShortCard : Claim7 := { stood := { row := proofShortRow, standIns := [], harness := (true, "3f810063ff6cbda7766d5ea0a53d239372b8c883f0e19e15fbb0d588a716180e"), looks := false }, kinds := [], alts := [], laidByText := true, laidKinds := [.data, .data], laidTests := true, laidLooks := .later }
def ProofShortCardSaid : Prop := Claim7.holds Tryd.pinned (.plain (OpenSpec.ofChange proofShortSpec)) proofShortCard

/-- THE TIED CARD OF 'chroniclelaw18.ProofOwn'. -/
def proofOwnCard : Claim7 := { stood := { row := proofOwnRow, standIns := [], harness := (true, "3f810063ff6cbda7766d5ea0a53d239372b8c883f0e19e15fbb0d588a716180e"), looks := false }, kinds := [], alts := [], laidByText := true, laidKinds := [.data, .data], laidTests := true, laidLooks := .later }
def ProofOwnCardSaid : Prop := Claim7.holds Tryd.pinned (.plain (OpenSpec.ofChange proofOwnSpec)) proofOwnCard

/-- THE TIED CARD OF 'chroniclelaw17.EdgePlays'. -/
def edgePlaysCard : Claim7 := { stood := { row := edgePlaysRow, standIns := [], harness := (true, "3f810063ff6cbda7766d5ea0a53d239372b8c883f0e19e15fbb0d588a716180e"), looks := false }, kinds := [], alts := [], laidByText := true, laidKinds := [.data, .data], laidTests := true, laidLooks := .later }
def EdgePlaysCardSaid : Prop := Claim7.holds Tryd.pinned (.plain (OpenSpec.ofChange edgePlaysSpec)) edgePlaysCard

/-- THE TIED CARD OF 'chroniclelaw17.EdgeCounts'. -/
def edgeCountsCard : Claim7 := { stood := { row := edgeCountsRow, standIns := [], harness := (true, "3f810063ff6cbda7766d5ea0a53d239372b8c883f0e19e15fbb0d588a716180e"), looks := false }, kinds := [], alts := [], laidByText := true, laidKinds := [.data, .data], laidTests := true, laidLooks := .later }
def EdgeCountsCardSaid : Prop := Claim7.holds Tryd.pinned (.plain (OpenSpec.ofChange edgeCountsSpec)) edgeCountsCard

/-- THE TIED CARD OF 'chroniclelaw17.EdgeOwn'. -/
def edgeOwnCard : Claim7 := { stood := { row := edgeOwnRow, standIns := [], harness := (true, "3f810063ff6cbda7766d5ea0a53d239372b8c883f0e19e15fbb0d588a716180e"), looks := false }, kinds := [], alts := [], laidByText := true, laidKinds := [.data, .data], laidTests := true, laidLooks := .later }
def EdgeOwnCardSaid : Prop := Claim7.holds Tryd.pinned (.plain (OpenSpec.ofChange edgeOwnSpec)) edgeOwnCard

/-- THE TIED CARD OF 'chroniclelaw17.EdgeNil'. -/
def edgeNilCard : Claim7 := { stood := { row := edgeNilRow, standIns := [], harness := (true, "3f810063ff6cbda7766d5ea0a53d239372b8c883f0e19e15fbb0d588a716180e"), looks := false }, kinds := [], alts := [], laidByText := true, laidKinds := [.data, .data], laidTests := true, laidLooks := .later }
def EdgeNilCardSaid : Prop := Claim7.holds Tryd.pinned (.plain (OpenSpec.ofChange edgeNilSpec)) edgeNilCard

/-- THE TIED CARD OF 'chroniclelaw17.EdgeParts'. -/
def edgePartsCard : Claim7 := { stood := { row := edgePartsRow, standIns := [], harness := (true, "3f810063ff6cbda7766d5ea0a53d239372b8c883f0e19e15fbb0d588a716180e"), looks := false }, kinds := [], alts := [], laidByText := true, laidKinds := [.data, .data], laidTests := true, laidLooks := .later }
def EdgePartsCardSaid : Prop := Claim7.holds Tryd.pinned (.plain (OpenSpec.ofChange edgePartsSpec)) edgePartsCard

/-- THE SECOND FORM's CARD OF 'chroniclelaw16.MerkleSplits'. -/
def merkleSplitsUptoCard : Claim7 := { stood := { row := merkleSplitsUptoRow, standIns := [], harness := (true, "3f810063ff6cbda7766d5ea0a53d239372b8c883f0e19e15fbb0d588a716180e"), looks := false }, kinds := [], alts := [], laidByText := true, laidKinds := [.data, .data], laidTests := true, laidLooks := .later }
def MerkleSplitsUptoCardSaid : Prop := Claim7.holds Tryd.pinned (.plain (OpenSpec.upto merkleSplitsSpec)) merkleSplitsUptoCard

/-- THE SECOND FORM's CARD OF 'chroniclelaw16.MerkleHashes'. -/
def merkleHashesUptoCard : Claim7 := { stood := { row := merkleHashesUptoRow, standIns := [], harness := (true, "3f810063ff6cbda7766d5ea0a53d239372b8c883f0e19e15fbb0d588a716180e"), looks := false }, kinds := [], alts := [], laidByText := true, laidKinds := [.data, .data], laidTests := true, laidLooks := .later }
def MerkleHashesUptoCardSaid : Prop := Claim7.holds Tryd.pinned (.plain (OpenSpec.upto merkleHashesSpec)) merkleHashesUptoCard

/-- THE SECOND FORM's CARD OF 'chroniclelaw16.MerkleRoots'. -/
def merkleRootsUptoCard : Claim7 := { stood := { row := merkleRootsUptoRow, standIns := [], harness := (true, "3f810063ff6cbda7766d5ea0a53d239372b8c883f0e19e15fbb0d588a716180e"), looks := false }, kinds := [], alts := [], laidByText := true, laidKinds := [.data, .data], laidTests := true, laidLooks := .later }
def MerkleRootsUptoCardSaid : Prop := Claim7.holds Tryd.pinned (.plain (OpenSpec.upto merkleRootsSpec)) merkleRootsUptoCard

/-- THE SECOND FORM's CARD OF 'chroniclelaw16.MerkleParts'. -/
def merklePartsUptoCard : Claim7 := { stood := { row := merklePartsUptoRow, standIns := [], harness := (true, "3f810063ff6cbda7766d5ea0a53d239372b8c883f0e19e15fbb0d588a716180e"), looks := false }, kinds := [], alts := [], laidByText := true, laidKinds := [.data, .data], laidTests := true, laidLooks := .later }
def MerklePartsUptoCardSaid : Prop := Claim7.holds Tryd.pinned (.plain (OpenSpec.upto merklePartsSpec)) merklePartsUptoCard

/-- THE SECOND FORM's CARD OF 'chroniclelaw16.MerkleLast'. -/
def merkleLastUptoCard : Claim7 := { stood := { row := merkleLastUptoRow, standIns := [], harness := (true, "3f810063ff6cbda7766d5ea0a53d239372b8c883f0e19e15fbb0d588a716180e"), looks := false }, kinds := [], alts := [], laidByText := true, laidKinds := [.data, .data], laidTests := true, laidLooks := .later }
def MerkleLastUptoCardSaid : Prop := Claim7.holds Tryd.pinned (.plain (OpenSpec.upto merkleLastSpec)) merkleLastUptoCard

/-- THE SECOND FORM's CARD OF 'chroniclelaw18.ProofPaths'. -/
def proofPathsUptoCard : Claim7 := { stood := { row := proofPathsUptoRow, standIns := [], harness := (true, "3f810063ff6cbda7766d5ea0a53d239372b8c883f0e19e15fbb0d588a716180e"), looks := false }, kinds := [], alts := [], laidByText := true, laidKinds := [.data, .data], laidTests := true, laidLooks := .later }
def ProofPathsUptoCardSaid : Prop := Claim7.holds Tryd.pinned (.plain (OpenSpec.upto proofPathsSpec)) proofPathsUptoCard

/-- THE SECOND FORM's CARD OF 'chroniclelaw18.ProofLast'. -/
def proofLastUptoCard : Claim7 := { stood := { row := proofLastUptoRow, standIns := [], harness := (true, "3f810063ff6cbda7766d5ea0a53d239372b8c883f0e19e15fbb0d588a716180e"), looks := false }, kinds := [], alts := [], laidByText := true, laidKinds := [.data, .data], laidTests := true, laidLooks := .later }
def ProofLastUptoCardSaid : Prop := Claim7.holds Tryd.pinned (.plain (OpenSpec.upto proofLastSpec)) proofLastUptoCard

/-- THE SECOND FORM's CARD OF 'chroniclelaw18.ProofProofs'. -/
def proofProofsUptoCard : Claim7 := { stood := { row := proofProofsUptoRow, standIns := [], harness := (true, "3f810063ff6cbda7766d5ea0a53d239372b8c883f0e19e15fbb0d588a716180e"), looks := false }, kinds := [], alts := [], laidByText := true, laidKinds := [.data, .data], laidTests := true, laidLooks := .later }
def ProofProofsUptoCardSaid : Prop := Claim7.holds Tryd.pinned (.plain (OpenSpec.upto proofProofsSpec)) proofProofsUptoCard

/-- THE SECOND FORM's CARD OF 'chroniclelaw18.ProofShort'. -/
def proofShortUptoCard : Claim7 := { stood := { row := proofShortUptoRow, standIns := [], harness := (true, "3f810063ff6cbda7766d5ea0a53d239372b8c883f0e19e15fbb0d588a716180e"), looks := false }, kinds := [], alts := [], laidByText := true, laidKinds := [.data, .data], laidTests := true, laidLooks := .later }
def ProofShortUptoCardSaid : Prop := Claim7.holds Tryd.pinned (.plain (OpenSpec.upto proofShortSpec)) proofShortUptoCard

/-- THE SECOND FORM's CARD OF 'chroniclelaw18.ProofOwn'. -/
def proofOwnUptoCard : Claim7 := { stood := { row := proofOwnUptoRow, standIns := [], harness := (true, "3f810063ff6cbda7766d5ea0a53d239372b8c883f0e19e15fbb0d588a716180e"), looks := false }, kinds := [], alts := [], laidByText := true, laidKinds := [.data, .data], laidTests := true, laidLooks := .later }
def ProofOwnUptoCardSaid : Prop := Claim7.holds Tryd.pinned (.plain (OpenSpec.upto proofOwnSpec)) proofOwnUptoCard

/-- THE SECOND FORM's CARD OF 'chroniclelaw17.EdgePlays'. -/
def edgePlaysUptoCard : Claim7 := { stood := { row := edgePlaysUptoRow, standIns := [], harness := (true, "3f810063ff6cbda7766d5ea0a53d239372b8c883f0e19e15fbb0d588a716180e"), looks := false }, kinds := [], alts := [], laidByText := true, laidKinds := [.data, .data], laidTests := true, laidLooks := .later }
def EdgePlaysUptoCardSaid : Prop := Claim7.holds Tryd.pinned (.plain (OpenSpec.upto edgePlaysSpec)) edgePlaysUptoCard

/-- THE SECOND FORM's CARD OF 'chroniclelaw17.EdgeCounts'. -/
def edgeCountsUptoCard : Claim7 := { stood := { row := edgeCountsUptoRow, standIns := [], harness := (true, "3f810063ff6cbda7766d5ea0a53d239372b8c883f0e19e15fbb0d588a716180e"), looks := false }, kinds := [], alts := [], laidByText := true, laidKinds := [.data, .data], laidTests := true, laidLooks := .later }
def EdgeCountsUptoCardSaid : Prop := Claim7.holds Tryd.pinned (.plain (OpenSpec.upto edgeCountsSpec)) edgeCountsUptoCard

/-- THE SECOND FORM's CARD OF 'chroniclelaw17.EdgeOwn'. -/
def edgeOwnUptoCard : Claim7 := { stood := { row := edgeOwnUptoRow, standIns := [], harness := (true, "3f810063ff6cbda7766d5ea0a53d239372b8c883f0e19e15fbb0d588a716180e"), looks := false }, kinds := [], alts := [], laidByText := true, laidKinds := [.data, .data], laidTests := true, laidLooks := .later }
def EdgeOwnUptoCardSaid : Prop := Claim7.holds Tryd.pinned (.plain (OpenSpec.upto edgeOwnSpec)) edgeOwnUptoCard

/-- THE SECOND FORM's CARD OF 'chroniclelaw17.EdgeNil'. -/
def edgeNilUptoCard : Claim7 := { stood := { row := edgeNilUptoRow, standIns := [], harness := (true, "3f810063ff6cbda7766d5ea0a53d239372b8c883f0e19e15fbb0d588a716180e"), looks := false }, kinds := [], alts := [], laidByText := true, laidKinds := [.data, .data], laidTests := true, laidLooks := .later }
def EdgeNilUptoCardSaid : Prop := Claim7.holds Tryd.pinned (.plain (OpenSpec.upto edgeNilSpec)) edgeNilUptoCard

/-- THE SECOND FORM's CARD OF 'chroniclelaw17.EdgeParts'. -/
def edgePartsUptoCard : Claim7 := { stood := { row := edgePartsUptoRow, standIns := [], harness := (true, "3f810063ff6cbda7766d5ea0a53d239372b8c883f0e19e15fbb0d588a716180e"), looks := false }, kinds := [], alts := [], laidByText := true, laidKinds := [.data, .data], laidTests := true, laidLooks := .later }
def EdgePartsUptoCardSaid : Prop := Claim7.holds Tryd.pinned (.plain (OpenSpec.upto edgePartsSpec)) edgePartsUptoCard
end Rows
end Go.Proofs.YtbglblamoodocaaDoor
