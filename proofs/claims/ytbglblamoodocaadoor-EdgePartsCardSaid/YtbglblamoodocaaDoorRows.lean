/-
  NARROWER THAN 'FOR EVERY INPUT', by the rows' own cells (each row's printed sentence says how): MerkleSplits: laid · MerkleHashes: laid · MerkleRoots: laid · MerkleParts: laid · MerkleLast: laid · ProofPaths: laid · ProofLast: laid · ProofProofs: laid · ProofShort: laid · ProofOwn: laid · EdgePlays: laid · EdgeCounts: laid · EdgeOwn: laid · EdgeNil: laid · EdgeParts: laid.
  DERIVED. THE GIVEN ROWS OF THIS SEAT. 15 by the template 'for every input the law returns true; each argument reads behind the call as it read before'; 0 by the template 'total and deterministic' (their statements: YtbglblamoodocaaDoorTotals.lean).
  GIVEN WITH THE SEED: the statements are not yours to turn. If you find one false, say at which input.
  Laid BY PROGRAM, IN A SANDBOX (cutbox-rows.mjs): the forced cells as the released guide's own fill.sh prints them over the translation a62b6aec1ff22d65… (all of the seat's roots in one cut). By AI agents, Wed Nov 11 2026. No macro, syntax, notation, axiom, sorry.
-/
import Derived.Test.YtbglblamoodocaaDoorChecked
import GoSem.Claim
import GoSem.ClaimJoined
import GoSem.ClaimMapViews
import Derived.JoinedTies
import Derived.KernelRfl
namespace Go.Proofs.YtbglblamoodocaaDoor
/- THE CELL 'sum', in the pinned program and in every row, IS THE sha256 OF THE DUMP (.gsa) THAT YtbglblamoodocaaDoorProg.lean LOADS. Nothing in Lean hashes anything: it is a label: what it is worth is what the hold of that sum in a sandbox is worth. -/
noncomputable def Tryd.pinned : Pinned := { name := "ytbglblamoodocaadoor", sum := "a62b6aec1ff22d65dda15ce09dc8c7d37497beaef42850baac35ed45f2c36e09", checked := Tryd.checked }
namespace Rows
def none {H : Type} : Left H := { results := [], args := [] }

/- WHAT THE LISTED PACKAGE-LEVEL VARIABLES READ AS WHEN THE CALL BEGINS. Each datum BY PROGRAM (the guide's laid-datum.mjs) off the statement by which the dump's own 'gosem.cut.vars' lays the variable. In a bare row this is a premise. The card (YtbglblamoodocaaDoorCards.lean) ties it to the program's text. -/
def laid_chronicle_sha256_first {H : Type} : DataW H := .agg [.lit (.int .u32 1779033703), .lit (.int .u32 3144134277), .lit (.int .u32 1013904242), .lit (.int .u32 2773480762), .lit (.int .u32 1359893119), .lit (.int .u32 2600822924), .lit (.int .u32 528734635), .lit (.int .u32 1541459225)]
def laid_chronicle_sha256_constants {H : Type} : DataW H := .agg [.lit (.int .u32 1116352408), .lit (.int .u32 1899447441), .lit (.int .u32 3049323471), .lit (.int .u32 3921009573), .lit (.int .u32 961987163), .lit (.int .u32 1508970993), .lit (.int .u32 2453635748), .lit (.int .u32 2870763221), .lit (.int .u32 3624381080), .lit (.int .u32 310598401), .lit (.int .u32 607225278), .lit (.int .u32 1426881987), .lit (.int .u32 1925078388), .lit (.int .u32 2162078206), .lit (.int .u32 2614888103), .lit (.int .u32 3248222580), .lit (.int .u32 3835390401), .lit (.int .u32 4022224774), .lit (.int .u32 264347078), .lit (.int .u32 604807628), .lit (.int .u32 770255983), .lit (.int .u32 1249150122), .lit (.int .u32 1555081692), .lit (.int .u32 1996064986), .lit (.int .u32 2554220882), .lit (.int .u32 2821834349), .lit (.int .u32 2952996808), .lit (.int .u32 3210313671), .lit (.int .u32 3336571891), .lit (.int .u32 3584528711), .lit (.int .u32 113926993), .lit (.int .u32 338241895), .lit (.int .u32 666307205), .lit (.int .u32 773529912), .lit (.int .u32 1294757372), .lit (.int .u32 1396182291), .lit (.int .u32 1695183700), .lit (.int .u32 1986661051), .lit (.int .u32 2177026350), .lit (.int .u32 2456956037), .lit (.int .u32 2730485921), .lit (.int .u32 2820302411), .lit (.int .u32 3259730800), .lit (.int .u32 3345764771), .lit (.int .u32 3516065817), .lit (.int .u32 3600352804), .lit (.int .u32 4094571909), .lit (.int .u32 275423344), .lit (.int .u32 430227734), .lit (.int .u32 506948616), .lit (.int .u32 659060556), .lit (.int .u32 883997877), .lit (.int .u32 958139571), .lit (.int .u32 1322822218), .lit (.int .u32 1537002063), .lit (.int .u32 1747873779), .lit (.int .u32 1955562222), .lit (.int .u32 2024104815), .lit (.int .u32 2227730452), .lit (.int .u32 2361852424), .lit (.int .u32 2428436474), .lit (.int .u32 2756734187), .lit (.int .u32 3204031479), .lit (.int .u32 3329325298)]

/-- 'chroniclelaw16.MerkleSplits': WHATEVER THE INPUT: true; the input reads as it did. -/
def merkleSplitsSpec : ChangeSpec := { name := "merkleSplits", fn := fun _ => fun
  | [d] => { results := [.lit (.bool true)], args := [d] }
  | _ => none }
def merkleSplitsRow : OpenClaim := { program := "ytbglblamoodocaadoor", sum := "a62b6aec1ff22d65dda15ce09dc8c7d37497beaef42850baac35ed45f2c36e09", func := "chronicle/chroniclelaw16.MerkleSplits", spec := "merkleSplits", named := ["chronicle/sha256.first", "chronicle/sha256.constants"], apart := false, laid := [("chronicle/sha256.first", laid_chronicle_sha256_first), ("chronicle/sha256.constants", laid_chronicle_sha256_constants)] }
def MerkleSplitsSaid : Prop := merkleSplitsRow.holds Tryd.pinned (OpenSpec.ofChange merkleSplitsSpec)

/-- ITS FALSE NEIGHBOUR: 'it returns false'. Refute it at one input. -/
def merkleSplitsWrong : ChangeSpec := { name := "merkleSplits", fn := fun _ => fun
  | [d] => { results := [.lit (.bool false)], args := [d] }
  | _ => none }
def MerkleSplitsWrongFalsely : Prop := merkleSplitsRow.holds Tryd.pinned (OpenSpec.ofChange merkleSplitsWrong)

/-- 'chroniclelaw16.MerkleHashes': WHATEVER THE INPUT: true; the input reads as it did. -/
def merkleHashesSpec : ChangeSpec := { name := "merkleHashes", fn := fun _ => fun
  | [d1, d2, d3] => { results := [.lit (.bool true)], args := [d1, d2, d3] }
  | _ => none }
def merkleHashesRow : OpenClaim := { program := "ytbglblamoodocaadoor", sum := "a62b6aec1ff22d65dda15ce09dc8c7d37497beaef42850baac35ed45f2c36e09", func := "chronicle/chroniclelaw16.MerkleHashes", spec := "merkleHashes", named := ["chronicle/sha256.first", "chronicle/sha256.constants"], apart := false, laid := [("chronicle/sha256.first", laid_chronicle_sha256_first), ("chronicle/sha256.constants", laid_chronicle_sha256_constants)] }
def MerkleHashesSaid : Prop := merkleHashesRow.holds Tryd.pinned (OpenSpec.ofChange merkleHashesSpec)

/-- ITS FALSE NEIGHBOUR: 'it returns false'. Refute it at one input. -/
def merkleHashesWrong : ChangeSpec := { name := "merkleHashes", fn := fun _ => fun
  | [d1, d2, d3] => { results := [.lit (.bool false)], args := [d1, d2, d3] }
  | _ => none }
def MerkleHashesWrongFalsely : Prop := merkleHashesRow.holds Tryd.pinned (OpenSpec.ofChange merkleHashesWrong)

/-- 'chroniclelaw16.MerkleRoots': WHATEVER THE INPUT: true; the input reads as it did. -/
def merkleRootsSpec : ChangeSpec := { name := "merkleRoots", fn := fun _ => fun
  | [d1, d2] => { results := [.lit (.bool true)], args := [d1, d2] }
  | _ => none }
def merkleRootsRow : OpenClaim := { program := "ytbglblamoodocaadoor", sum := "a62b6aec1ff22d65dda15ce09dc8c7d37497beaef42850baac35ed45f2c36e09", func := "chronicle/chroniclelaw16.MerkleRoots", spec := "merkleRoots", recurses := true, named := ["chronicle/sha256.first", "chronicle/sha256.constants"], apart := false, laid := [("chronicle/sha256.first", laid_chronicle_sha256_first), ("chronicle/sha256.constants", laid_chronicle_sha256_constants)] }
def MerkleRootsSaid : Prop := merkleRootsRow.holds Tryd.pinned (OpenSpec.ofChange merkleRootsSpec)

/-- ITS FALSE NEIGHBOUR: 'it returns false'. Refute it at one input. -/
def merkleRootsWrong : ChangeSpec := { name := "merkleRoots", fn := fun _ => fun
  | [d1, d2] => { results := [.lit (.bool false)], args := [d1, d2] }
  | _ => none }
def MerkleRootsWrongFalsely : Prop := merkleRootsRow.holds Tryd.pinned (OpenSpec.ofChange merkleRootsWrong)

/-- 'chroniclelaw16.MerkleParts': WHATEVER THE INPUT: true; the input reads as it did. -/
def merklePartsSpec : ChangeSpec := { name := "merkleParts", fn := fun _ => fun
  | [d1, d2] => { results := [.lit (.bool true)], args := [d1, d2] }
  | _ => none }
def merklePartsRow : OpenClaim := { program := "ytbglblamoodocaadoor", sum := "a62b6aec1ff22d65dda15ce09dc8c7d37497beaef42850baac35ed45f2c36e09", func := "chronicle/chroniclelaw16.MerkleParts", spec := "merkleParts", recurses := true, named := ["chronicle/sha256.first", "chronicle/sha256.constants"], apart := false, laid := [("chronicle/sha256.first", laid_chronicle_sha256_first), ("chronicle/sha256.constants", laid_chronicle_sha256_constants)] }
def MerklePartsSaid : Prop := merklePartsRow.holds Tryd.pinned (OpenSpec.ofChange merklePartsSpec)

/-- ITS FALSE NEIGHBOUR: 'it returns false'. Refute it at one input. -/
def merklePartsWrong : ChangeSpec := { name := "merkleParts", fn := fun _ => fun
  | [d1, d2] => { results := [.lit (.bool false)], args := [d1, d2] }
  | _ => none }
def MerklePartsWrongFalsely : Prop := merklePartsRow.holds Tryd.pinned (OpenSpec.ofChange merklePartsWrong)

/-- 'chroniclelaw16.MerkleLast': WHATEVER THE INPUT: true; the input reads as it did. -/
def merkleLastSpec : ChangeSpec := { name := "merkleLast", fn := fun _ => fun
  | [d1, d2] => { results := [.lit (.bool true)], args := [d1, d2] }
  | _ => none }
def merkleLastRow : OpenClaim := { program := "ytbglblamoodocaadoor", sum := "a62b6aec1ff22d65dda15ce09dc8c7d37497beaef42850baac35ed45f2c36e09", func := "chronicle/chroniclelaw16.MerkleLast", spec := "merkleLast", recurses := true, named := ["chronicle/sha256.first", "chronicle/sha256.constants"], apart := false, laid := [("chronicle/sha256.first", laid_chronicle_sha256_first), ("chronicle/sha256.constants", laid_chronicle_sha256_constants)] }
def MerkleLastSaid : Prop := merkleLastRow.holds Tryd.pinned (OpenSpec.ofChange merkleLastSpec)

/-- ITS FALSE NEIGHBOUR: 'it returns false'. Refute it at one input. -/
def merkleLastWrong : ChangeSpec := { name := "merkleLast", fn := fun _ => fun
  | [d1, d2] => { results := [.lit (.bool false)], args := [d1, d2] }
  | _ => none }
def MerkleLastWrongFalsely : Prop := merkleLastRow.holds Tryd.pinned (OpenSpec.ofChange merkleLastWrong)

/-- 'chroniclelaw18.ProofPaths': WHATEVER THE INPUT: true; the input reads as it did. -/
def proofPathsSpec : ChangeSpec := { name := "proofPaths", fn := fun _ => fun
  | [d1, d2] => { results := [.lit (.bool true)], args := [d1, d2] }
  | _ => none }
def proofPathsRow : OpenClaim := { program := "ytbglblamoodocaadoor", sum := "a62b6aec1ff22d65dda15ce09dc8c7d37497beaef42850baac35ed45f2c36e09", func := "chronicle/chroniclelaw18.ProofPaths", spec := "proofPaths", recurses := true, named := ["chronicle/sha256.first", "chronicle/sha256.constants"], apart := false, laid := [("chronicle/sha256.first", laid_chronicle_sha256_first), ("chronicle/sha256.constants", laid_chronicle_sha256_constants)] }
def ProofPathsSaid : Prop := proofPathsRow.holds Tryd.pinned (OpenSpec.ofChange proofPathsSpec)

/-- ITS FALSE NEIGHBOUR: 'it returns false'. Refute it at one input. -/
def proofPathsWrong : ChangeSpec := { name := "proofPaths", fn := fun _ => fun
  | [d1, d2] => { results := [.lit (.bool false)], args := [d1, d2] }
  | _ => none }
def ProofPathsWrongFalsely : Prop := proofPathsRow.holds Tryd.pinned (OpenSpec.ofChange proofPathsWrong)

/-- 'chroniclelaw18.ProofLast': WHATEVER THE INPUT: true; the input reads as it did. -/
def proofLastSpec : ChangeSpec := { name := "proofLast", fn := fun _ => fun
  | [d1, d2] => { results := [.lit (.bool true)], args := [d1, d2] }
  | _ => none }
def proofLastRow : OpenClaim := { program := "ytbglblamoodocaadoor", sum := "a62b6aec1ff22d65dda15ce09dc8c7d37497beaef42850baac35ed45f2c36e09", func := "chronicle/chroniclelaw18.ProofLast", spec := "proofLast", recurses := true, named := ["chronicle/sha256.first", "chronicle/sha256.constants"], apart := false, laid := [("chronicle/sha256.first", laid_chronicle_sha256_first), ("chronicle/sha256.constants", laid_chronicle_sha256_constants)] }
def ProofLastSaid : Prop := proofLastRow.holds Tryd.pinned (OpenSpec.ofChange proofLastSpec)

/-- ITS FALSE NEIGHBOUR: 'it returns false'. Refute it at one input. -/
def proofLastWrong : ChangeSpec := { name := "proofLast", fn := fun _ => fun
  | [d1, d2] => { results := [.lit (.bool false)], args := [d1, d2] }
  | _ => none }
def ProofLastWrongFalsely : Prop := proofLastRow.holds Tryd.pinned (OpenSpec.ofChange proofLastWrong)

/-- 'chroniclelaw18.ProofProofs': WHATEVER THE INPUT: true; the input reads as it did. -/
def proofProofsSpec : ChangeSpec := { name := "proofProofs", fn := fun _ => fun
  | [d1, d2] => { results := [.lit (.bool true)], args := [d1, d2] }
  | _ => none }
def proofProofsRow : OpenClaim := { program := "ytbglblamoodocaadoor", sum := "a62b6aec1ff22d65dda15ce09dc8c7d37497beaef42850baac35ed45f2c36e09", func := "chronicle/chroniclelaw18.ProofProofs", spec := "proofProofs", recurses := true, named := ["chronicle/sha256.first", "chronicle/sha256.constants"], apart := false, laid := [("chronicle/sha256.first", laid_chronicle_sha256_first), ("chronicle/sha256.constants", laid_chronicle_sha256_constants)] }
def ProofProofsSaid : Prop := proofProofsRow.holds Tryd.pinned (OpenSpec.ofChange proofProofsSpec)

/-- ITS FALSE NEIGHBOUR: 'it returns false'. Refute it at one input. -/
def proofProofsWrong : ChangeSpec := { name := "proofProofs", fn := fun _ => fun
  | [d1, d2] => { results := [.lit (.bool false)], args := [d1, d2] }
  | _ => none }
def ProofProofsWrongFalsely : Prop := proofProofsRow.holds Tryd.pinned (OpenSpec.ofChange proofProofsWrong)

/-- 'chroniclelaw18.ProofShort': WHATEVER THE INPUT: true; the input reads as it did. -/
def proofShortSpec : ChangeSpec := { name := "proofShort", fn := fun _ => fun
  | [d1, d2] => { results := [.lit (.bool true)], args := [d1, d2] }
  | _ => none }
def proofShortRow : OpenClaim := { program := "ytbglblamoodocaadoor", sum := "a62b6aec1ff22d65dda15ce09dc8c7d37497beaef42850baac35ed45f2c36e09", func := "chronicle/chroniclelaw18.ProofShort", spec := "proofShort", recurses := true, named := ["chronicle/sha256.first", "chronicle/sha256.constants"], apart := false, laid := [("chronicle/sha256.first", laid_chronicle_sha256_first), ("chronicle/sha256.constants", laid_chronicle_sha256_constants)] }
def ProofShortSaid : Prop := proofShortRow.holds Tryd.pinned (OpenSpec.ofChange proofShortSpec)

/-- ITS FALSE NEIGHBOUR: 'it returns false'. Refute it at one input. -/
def proofShortWrong : ChangeSpec := { name := "proofShort", fn := fun _ => fun
  | [d1, d2] => { results := [.lit (.bool false)], args := [d1, d2] }
  | _ => none }
def ProofShortWrongFalsely : Prop := proofShortRow.holds Tryd.pinned (OpenSpec.ofChange proofShortWrong)

/-- 'chroniclelaw18.ProofOwn': WHATEVER THE INPUT: true; the input reads as it did. -/
def proofOwnSpec : ChangeSpec := { name := "proofOwn", fn := fun _ => fun
  | [d1, d2, d3] => { results := [.lit (.bool true)], args := [d1, d2, d3] }
  | _ => none }
def proofOwnRow : OpenClaim := { program := "ytbglblamoodocaadoor", sum := "a62b6aec1ff22d65dda15ce09dc8c7d37497beaef42850baac35ed45f2c36e09", func := "chronicle/chroniclelaw18.ProofOwn", spec := "proofOwn", recurses := true, named := ["chronicle/sha256.first", "chronicle/sha256.constants"], apart := false, laid := [("chronicle/sha256.first", laid_chronicle_sha256_first), ("chronicle/sha256.constants", laid_chronicle_sha256_constants)] }
def ProofOwnSaid : Prop := proofOwnRow.holds Tryd.pinned (OpenSpec.ofChange proofOwnSpec)

/-- ITS FALSE NEIGHBOUR: 'it returns false'. Refute it at one input. -/
def proofOwnWrong : ChangeSpec := { name := "proofOwn", fn := fun _ => fun
  | [d1, d2, d3] => { results := [.lit (.bool false)], args := [d1, d2, d3] }
  | _ => none }
def ProofOwnWrongFalsely : Prop := proofOwnRow.holds Tryd.pinned (OpenSpec.ofChange proofOwnWrong)

/-- 'chroniclelaw17.EdgePlays': WHATEVER THE INPUT: true; the input reads as it did. -/
def edgePlaysSpec : ChangeSpec := { name := "edgePlays", fn := fun _ => fun
  | [d] => { results := [.lit (.bool true)], args := [d] }
  | _ => none }
def edgePlaysRow : OpenClaim := { program := "ytbglblamoodocaadoor", sum := "a62b6aec1ff22d65dda15ce09dc8c7d37497beaef42850baac35ed45f2c36e09", func := "chronicle/chroniclelaw17.EdgePlays", spec := "edgePlays", recurses := true, named := ["chronicle/sha256.first", "chronicle/sha256.constants"], apart := false, laid := [("chronicle/sha256.first", laid_chronicle_sha256_first), ("chronicle/sha256.constants", laid_chronicle_sha256_constants)] }
def EdgePlaysSaid : Prop := edgePlaysRow.holds Tryd.pinned (OpenSpec.ofChange edgePlaysSpec)

/-- ITS FALSE NEIGHBOUR: 'it returns false'. Refute it at one input. -/
def edgePlaysWrong : ChangeSpec := { name := "edgePlays", fn := fun _ => fun
  | [d] => { results := [.lit (.bool false)], args := [d] }
  | _ => none }
def EdgePlaysWrongFalsely : Prop := edgePlaysRow.holds Tryd.pinned (OpenSpec.ofChange edgePlaysWrong)

/-- 'chroniclelaw17.EdgeCounts': WHATEVER THE INPUT: true; the input reads as it did. -/
def edgeCountsSpec : ChangeSpec := { name := "edgeCounts", fn := fun _ => fun
  | [d1, d2] => { results := [.lit (.bool true)], args := [d1, d2] }
  | _ => none }
def edgeCountsRow : OpenClaim := { program := "ytbglblamoodocaadoor", sum := "a62b6aec1ff22d65dda15ce09dc8c7d37497beaef42850baac35ed45f2c36e09", func := "chronicle/chroniclelaw17.EdgeCounts", spec := "edgeCounts", recurses := true, named := ["chronicle/sha256.first", "chronicle/sha256.constants"], apart := false, laid := [("chronicle/sha256.first", laid_chronicle_sha256_first), ("chronicle/sha256.constants", laid_chronicle_sha256_constants)] }
def EdgeCountsSaid : Prop := edgeCountsRow.holds Tryd.pinned (OpenSpec.ofChange edgeCountsSpec)

/-- ITS FALSE NEIGHBOUR: 'it returns false'. Refute it at one input. -/
def edgeCountsWrong : ChangeSpec := { name := "edgeCounts", fn := fun _ => fun
  | [d1, d2] => { results := [.lit (.bool false)], args := [d1, d2] }
  | _ => none }
def EdgeCountsWrongFalsely : Prop := edgeCountsRow.holds Tryd.pinned (OpenSpec.ofChange edgeCountsWrong)

/-- 'chroniclelaw17.EdgeOwn': WHATEVER THE INPUT: true; the input reads as it did. -/
def edgeOwnSpec : ChangeSpec := { name := "edgeOwn", fn := fun _ => fun
  | [d] => { results := [.lit (.bool true)], args := [d] }
  | _ => none }
def edgeOwnRow : OpenClaim := { program := "ytbglblamoodocaadoor", sum := "a62b6aec1ff22d65dda15ce09dc8c7d37497beaef42850baac35ed45f2c36e09", func := "chronicle/chroniclelaw17.EdgeOwn", spec := "edgeOwn", recurses := true, named := ["chronicle/sha256.first", "chronicle/sha256.constants"], apart := false, laid := [("chronicle/sha256.first", laid_chronicle_sha256_first), ("chronicle/sha256.constants", laid_chronicle_sha256_constants)] }
def EdgeOwnSaid : Prop := edgeOwnRow.holds Tryd.pinned (OpenSpec.ofChange edgeOwnSpec)

/-- ITS FALSE NEIGHBOUR: 'it returns false'. Refute it at one input. -/
def edgeOwnWrong : ChangeSpec := { name := "edgeOwn", fn := fun _ => fun
  | [d] => { results := [.lit (.bool false)], args := [d] }
  | _ => none }
def EdgeOwnWrongFalsely : Prop := edgeOwnRow.holds Tryd.pinned (OpenSpec.ofChange edgeOwnWrong)

/-- 'chroniclelaw17.EdgeNil': WHATEVER THE INPUT: true; the input reads as it did. -/
def edgeNilSpec : ChangeSpec := { name := "edgeNil", fn := fun _ => fun
  | [d] => { results := [.lit (.bool true)], args := [d] }
  | _ => none }
def edgeNilRow : OpenClaim := { program := "ytbglblamoodocaadoor", sum := "a62b6aec1ff22d65dda15ce09dc8c7d37497beaef42850baac35ed45f2c36e09", func := "chronicle/chroniclelaw17.EdgeNil", spec := "edgeNil", recurses := true, named := ["chronicle/sha256.first", "chronicle/sha256.constants"], apart := false, laid := [("chronicle/sha256.first", laid_chronicle_sha256_first), ("chronicle/sha256.constants", laid_chronicle_sha256_constants)] }
def EdgeNilSaid : Prop := edgeNilRow.holds Tryd.pinned (OpenSpec.ofChange edgeNilSpec)

/-- ITS FALSE NEIGHBOUR: 'it returns false'. Refute it at one input. -/
def edgeNilWrong : ChangeSpec := { name := "edgeNil", fn := fun _ => fun
  | [d] => { results := [.lit (.bool false)], args := [d] }
  | _ => none }
def EdgeNilWrongFalsely : Prop := edgeNilRow.holds Tryd.pinned (OpenSpec.ofChange edgeNilWrong)

/-- 'chroniclelaw17.EdgeParts': WHATEVER THE INPUT: true; the input reads as it did. -/
def edgePartsSpec : ChangeSpec := { name := "edgeParts", fn := fun _ => fun
  | [d1, d2] => { results := [.lit (.bool true)], args := [d1, d2] }
  | _ => none }
def edgePartsRow : OpenClaim := { program := "ytbglblamoodocaadoor", sum := "a62b6aec1ff22d65dda15ce09dc8c7d37497beaef42850baac35ed45f2c36e09", func := "chronicle/chroniclelaw17.EdgeParts", spec := "edgeParts", recurses := true, named := ["chronicle/sha256.first", "chronicle/sha256.constants"], apart := false, laid := [("chronicle/sha256.first", laid_chronicle_sha256_first), ("chronicle/sha256.constants", laid_chronicle_sha256_constants)] }
def EdgePartsSaid : Prop := edgePartsRow.holds Tryd.pinned (OpenSpec.ofChange edgePartsSpec)

/-- ITS FALSE NEIGHBOUR: 'it returns false'. Refute it at one input. -/
def edgePartsWrong : ChangeSpec := { name := "edgeParts", fn := fun _ => fun
  | [d1, d2] => { results := [.lit (.bool false)], args := [d1, d2] }
  | _ => none }
def EdgePartsWrongFalsely : Prop := edgePartsRow.holds Tryd.pinned (OpenSpec.ofChange edgePartsWrong)

/- THE SECOND FORM. 'bulk': how many values and letters a reading holds, each counted each time it is reached (what is shared counts as often as it is met; a slice's spare places count too). A statement '..UptoSaid' is the law's where the arguments, and the package variables that the reading takes, are together of bulk at most 1048576: NARROWER than '..Said'. Prove '..Said' where nothing that the law and all that it calls make is longer than what came in: it says more and counts as full. Else prove '..UptoSaid'. A law counts once. -/
mutual
def uptoBulk {H : Type} : DataW H → Nat
  | .lit (.string bytes) => bytes.length + 1
  | .lit _ => 1
  | .nil => 1
  | .ptr d => uptoBulk d + 1
  | .slice elems spare => uptoBulkAll elems + uptoBulkAll spare + 1
  | .agg parts => uptoBulkAll parts + 1
  | .iface _ d => uptoBulk d + 1
  | .map entries => uptoBulkEntries entries + 1
  | .held _ => 1
def uptoBulkAll {H : Type} : List (DataW H) → Nat
  | [] => 0
  | d :: r => uptoBulk d + uptoBulkAll r
def uptoBulkEntries {H : Type} : List (Lit × DataW H) → Nat
  | [] => 0
  | x :: r => uptoBulkEntry x + uptoBulkEntries r
def uptoBulkEntry {H : Type} : Lit × DataW H → Nat
  | (.string bytes, d) => bytes.length + uptoBulk d + 1
  | (_, d) => uptoBulk d + 1
 end
def uptoSmall : (H : Type) → List (DataW H) → Bool := fun _ ds => decide (uptoBulkAll ds ≤ 1048576)
def OpenSpec.upto (s : _root_.Go.ChangeSpec) : _root_.Go.OpenSpec := { _root_.Go.OpenSpec.ofChange s with cond := some uptoSmall }

/-- 'chroniclelaw16.MerkleSplits', WHERE WHAT IT READS IS OF BULK AT MOST 1048576: true; the input reads as it did. -/
def merkleSplitsUptoRow : OpenClaim := { program := "ytbglblamoodocaadoor", sum := "a62b6aec1ff22d65dda15ce09dc8c7d37497beaef42850baac35ed45f2c36e09", func := "chronicle/chroniclelaw16.MerkleSplits", spec := "merkleSplits", named := ["chronicle/sha256.first", "chronicle/sha256.constants"], apart := false, laid := [("chronicle/sha256.first", laid_chronicle_sha256_first), ("chronicle/sha256.constants", laid_chronicle_sha256_constants)], narrowed := true }
def MerkleSplitsUptoSaid : Prop := merkleSplitsUptoRow.holds Tryd.pinned (OpenSpec.upto merkleSplitsSpec)

/-- 'chroniclelaw16.MerkleHashes', WHERE WHAT IT READS IS OF BULK AT MOST 1048576: true; the input reads as it did. -/
def merkleHashesUptoRow : OpenClaim := { program := "ytbglblamoodocaadoor", sum := "a62b6aec1ff22d65dda15ce09dc8c7d37497beaef42850baac35ed45f2c36e09", func := "chronicle/chroniclelaw16.MerkleHashes", spec := "merkleHashes", named := ["chronicle/sha256.first", "chronicle/sha256.constants"], apart := false, laid := [("chronicle/sha256.first", laid_chronicle_sha256_first), ("chronicle/sha256.constants", laid_chronicle_sha256_constants)], narrowed := true }
def MerkleHashesUptoSaid : Prop := merkleHashesUptoRow.holds Tryd.pinned (OpenSpec.upto merkleHashesSpec)

/-- 'chroniclelaw16.MerkleRoots', WHERE WHAT IT READS IS OF BULK AT MOST 1048576: true; the input reads as it did. -/
def merkleRootsUptoRow : OpenClaim := { program := "ytbglblamoodocaadoor", sum := "a62b6aec1ff22d65dda15ce09dc8c7d37497beaef42850baac35ed45f2c36e09", func := "chronicle/chroniclelaw16.MerkleRoots", spec := "merkleRoots", recurses := true, named := ["chronicle/sha256.first", "chronicle/sha256.constants"], apart := false, laid := [("chronicle/sha256.first", laid_chronicle_sha256_first), ("chronicle/sha256.constants", laid_chronicle_sha256_constants)], narrowed := true }
def MerkleRootsUptoSaid : Prop := merkleRootsUptoRow.holds Tryd.pinned (OpenSpec.upto merkleRootsSpec)

/-- 'chroniclelaw16.MerkleParts', WHERE WHAT IT READS IS OF BULK AT MOST 1048576: true; the input reads as it did. -/
def merklePartsUptoRow : OpenClaim := { program := "ytbglblamoodocaadoor", sum := "a62b6aec1ff22d65dda15ce09dc8c7d37497beaef42850baac35ed45f2c36e09", func := "chronicle/chroniclelaw16.MerkleParts", spec := "merkleParts", recurses := true, named := ["chronicle/sha256.first", "chronicle/sha256.constants"], apart := false, laid := [("chronicle/sha256.first", laid_chronicle_sha256_first), ("chronicle/sha256.constants", laid_chronicle_sha256_constants)], narrowed := true }
def MerklePartsUptoSaid : Prop := merklePartsUptoRow.holds Tryd.pinned (OpenSpec.upto merklePartsSpec)

/-- 'chroniclelaw16.MerkleLast', WHERE WHAT IT READS IS OF BULK AT MOST 1048576: true; the input reads as it did. -/
def merkleLastUptoRow : OpenClaim := { program := "ytbglblamoodocaadoor", sum := "a62b6aec1ff22d65dda15ce09dc8c7d37497beaef42850baac35ed45f2c36e09", func := "chronicle/chroniclelaw16.MerkleLast", spec := "merkleLast", recurses := true, named := ["chronicle/sha256.first", "chronicle/sha256.constants"], apart := false, laid := [("chronicle/sha256.first", laid_chronicle_sha256_first), ("chronicle/sha256.constants", laid_chronicle_sha256_constants)], narrowed := true }
def MerkleLastUptoSaid : Prop := merkleLastUptoRow.holds Tryd.pinned (OpenSpec.upto merkleLastSpec)

/-- 'chroniclelaw18.ProofPaths', WHERE WHAT IT READS IS OF BULK AT MOST 1048576: true; the input reads as it did. -/
def proofPathsUptoRow : OpenClaim := { program := "ytbglblamoodocaadoor", sum := "a62b6aec1ff22d65dda15ce09dc8c7d37497beaef42850baac35ed45f2c36e09", func := "chronicle/chroniclelaw18.ProofPaths", spec := "proofPaths", recurses := true, named := ["chronicle/sha256.first", "chronicle/sha256.constants"], apart := false, laid := [("chronicle/sha256.first", laid_chronicle_sha256_first), ("chronicle/sha256.constants", laid_chronicle_sha256_constants)], narrowed := true }
def ProofPathsUptoSaid : Prop := proofPathsUptoRow.holds Tryd.pinned (OpenSpec.upto proofPathsSpec)

/-- 'chroniclelaw18.ProofLast', WHERE WHAT IT READS IS OF BULK AT MOST 1048576: true; the input reads as it did. -/
def proofLastUptoRow : OpenClaim := { program := "ytbglblamoodocaadoor", sum := "a62b6aec1ff22d65dda15ce09dc8c7d37497beaef42850baac35ed45f2c36e09", func := "chronicle/chroniclelaw18.ProofLast", spec := "proofLast", recurses := true, named := ["chronicle/sha256.first", "chronicle/sha256.constants"], apart := false, laid := [("chronicle/sha256.first", laid_chronicle_sha256_first), ("chronicle/sha256.constants", laid_chronicle_sha256_constants)], narrowed := true }
def ProofLastUptoSaid : Prop := proofLastUptoRow.holds Tryd.pinned (OpenSpec.upto proofLastSpec)

/-- 'chroniclelaw18.ProofProofs', WHERE WHAT IT READS IS OF BULK AT MOST 1048576: true; the input reads as it did. -/
def proofProofsUptoRow : OpenClaim := { program := "ytbglblamoodocaadoor", sum := "a62b6aec1ff22d65dda15ce09dc8c7d37497beaef42850baac35ed45f2c36e09", func := "chronicle/chroniclelaw18.ProofProofs", spec := "proofProofs", recurses := true, named := ["chronicle/sha256.first", "chronicle/sha256.constants"], apart := false, laid := [("chronicle/sha256.first", laid_chronicle_sha256_first), ("chronicle/sha256.constants", laid_chronicle_sha256_constants)], narrowed := true }
def ProofProofsUptoSaid : Prop := proofProofsUptoRow.holds Tryd.pinned (OpenSpec.upto proofProofsSpec)

/-- 'chroniclelaw18.ProofShort', WHERE WHAT IT READS IS OF BULK AT MOST 1048576: true; the input reads as it did. -/
def proofShortUptoRow : OpenClaim := { program := "ytbglblamoodocaadoor", sum := "a62b6aec1ff22d65dda15ce09dc8c7d37497beaef42850baac35ed45f2c36e09", func := "chronicle/chroniclelaw18.ProofShort", spec := "proofShort", recurses := true, named := ["chronicle/sha256.first", "chronicle/sha256.constants"], apart := false, laid := [("chronicle/sha256.first", laid_chronicle_sha256_first), ("chronicle/sha256.constants", laid_chronicle_sha256_constants)], narrowed := true }
def ProofShortUptoSaid : Prop := proofShortUptoRow.holds Tryd.pinned (OpenSpec.upto proofShortSpec)

/-- 'chroniclelaw18.ProofOwn', WHERE WHAT IT READS IS OF BULK AT MOST 1048576: true; the input reads as it did. -/
def proofOwnUptoRow : OpenClaim := { program := "ytbglblamoodocaadoor", sum := "a62b6aec1ff22d65dda15ce09dc8c7d37497beaef42850baac35ed45f2c36e09", func := "chronicle/chroniclelaw18.ProofOwn", spec := "proofOwn", recurses := true, named := ["chronicle/sha256.first", "chronicle/sha256.constants"], apart := false, laid := [("chronicle/sha256.first", laid_chronicle_sha256_first), ("chronicle/sha256.constants", laid_chronicle_sha256_constants)], narrowed := true }
def ProofOwnUptoSaid : Prop := proofOwnUptoRow.holds Tryd.pinned (OpenSpec.upto proofOwnSpec)

/-- 'chroniclelaw17.EdgePlays', WHERE WHAT IT READS IS OF BULK AT MOST 1048576: true; the input reads as it did. -/
def edgePlaysUptoRow : OpenClaim := { program := "ytbglblamoodocaadoor", sum := "a62b6aec1ff22d65dda15ce09dc8c7d37497beaef42850baac35ed45f2c36e09", func := "chronicle/chroniclelaw17.EdgePlays", spec := "edgePlays", recurses := true, named := ["chronicle/sha256.first", "chronicle/sha256.constants"], apart := false, laid := [("chronicle/sha256.first", laid_chronicle_sha256_first), ("chronicle/sha256.constants", laid_chronicle_sha256_constants)], narrowed := true }
def EdgePlaysUptoSaid : Prop := edgePlaysUptoRow.holds Tryd.pinned (OpenSpec.upto edgePlaysSpec)

/-- 'chroniclelaw17.EdgeCounts', WHERE WHAT IT READS IS OF BULK AT MOST 1048576: true; the input reads as it did. -/
def edgeCountsUptoRow : OpenClaim := { program := "ytbglblamoodocaadoor", sum := "a62b6aec1ff22d65dda15ce09dc8c7d37497beaef42850baac35ed45f2c36e09", func := "chronicle/chroniclelaw17.EdgeCounts", spec := "edgeCounts", recurses := true, named := ["chronicle/sha256.first", "chronicle/sha256.constants"], apart := false, laid := [("chronicle/sha256.first", laid_chronicle_sha256_first), ("chronicle/sha256.constants", laid_chronicle_sha256_constants)], narrowed := true }
def EdgeCountsUptoSaid : Prop := edgeCountsUptoRow.holds Tryd.pinned (OpenSpec.upto edgeCountsSpec)

/-- 'chroniclelaw17.EdgeOwn', WHERE WHAT IT READS IS OF BULK AT MOST 1048576: true; the input reads as it did. -/
def edgeOwnUptoRow : OpenClaim := { program := "ytbglblamoodocaadoor", sum := "a62b6aec1ff22d65dda15ce09dc8c7d37497beaef42850baac35ed45f2c36e09", func := "chronicle/chroniclelaw17.EdgeOwn", spec := "edgeOwn", recurses := true, named := ["chronicle/sha256.first", "chronicle/sha256.constants"], apart := false, laid := [("chronicle/sha256.first", laid_chronicle_sha256_first), ("chronicle/sha256.constants", laid_chronicle_sha256_constants)], narrowed := true }
def EdgeOwnUptoSaid : Prop := edgeOwnUptoRow.holds Tryd.pinned (OpenSpec.upto edgeOwnSpec)

/-- 'chroniclelaw17.EdgeNil', WHERE WHAT IT READS IS OF BULK AT MOST 1048576: true; the input reads as it did. -/
def edgeNilUptoRow : OpenClaim := { program := "ytbglblamoodocaadoor", sum := "a62b6aec1ff22d65dda15ce09dc8c7d37497beaef42850baac35ed45f2c36e09", func := "chronicle/chroniclelaw17.EdgeNil", spec := "edgeNil", recurses := true, named := ["chronicle/sha256.first", "chronicle/sha256.constants"], apart := false, laid := [("chronicle/sha256.first", laid_chronicle_sha256_first), ("chronicle/sha256.constants", laid_chronicle_sha256_constants)], narrowed := true }
def EdgeNilUptoSaid : Prop := edgeNilUptoRow.holds Tryd.pinned (OpenSpec.upto edgeNilSpec)

/-- 'chroniclelaw17.EdgeParts', WHERE WHAT IT READS IS OF BULK AT MOST 1048576: true; the input reads as it did. -/
def edgePartsUptoRow : OpenClaim := { program := "ytbglblamoodocaadoor", sum := "a62b6aec1ff22d65dda15ce09dc8c7d37497beaef42850baac35ed45f2c36e09", func := "chronicle/chroniclelaw17.EdgeParts", spec := "edgeParts", recurses := true, named := ["chronicle/sha256.first", "chronicle/sha256.constants"], apart := false, laid := [("chronicle/sha256.first", laid_chronicle_sha256_first), ("chronicle/sha256.constants", laid_chronicle_sha256_constants)], narrowed := true }
def EdgePartsUptoSaid : Prop := edgePartsUptoRow.holds Tryd.pinned (OpenSpec.upto edgePartsSpec)

end Rows
end Go.Proofs.YtbglblamoodocaaDoor
