/-
  NARROWER THAN 'FOR EVERY INPUT', by the rows' own cells (each row's printed sentence says how): CheckPaths: laid · ClashNone: laid · ClashPlaces: laid · CheckProofs: laid · CheckRight: laid · CheckOther: laid · CheckAll: laid · ClashPaths: laid · ClashProofs: laid.
  DERIVED. THE GIVEN ROWS OF THIS SEAT. 9 by the template 'for every input the law returns true; each argument reads behind the call as it read before'; 0 by the template 'total and deterministic' (their statements: YtadiijieldldhaaDoorTotals.lean).
  GIVEN WITH THE SEED: the statements are not yours to turn. If you find one false, say at which input.
  Laid BY PROGRAM, IN A SANDBOX (cutbox-rows.mjs): the forced cells as the released guide's own fill.sh prints them over the translation b20ce2762bb29282… (all of the seat's roots in one cut). By AI agents, Wed Nov 11 2026. No macro, syntax, notation, axiom, sorry.
-/
import Derived.Test.YtadiijieldldhaaDoorChecked
import GoSem.Claim
import GoSem.ClaimJoined
import GoSem.ClaimMapViews
import Derived.JoinedTies
import Derived.KernelRfl
namespace Go.Proofs.YtadiijieldldhaaDoor
/- THE CELL 'sum', in the pinned program and in every row, IS THE sha256 OF THE DUMP (.gsa) THAT YtadiijieldldhaaDoorProg.lean LOADS. Nothing in Lean hashes anything: it is a label: what it is worth is what the hold of that sum in a sandbox is worth. -/
noncomputable def Tryd.pinned : Pinned := { name := "ytadiijieldldhaadoor", sum := "b20ce2762bb292820f2e5b88a7f50529e68b65f1004752aed54debabc98dc6c8", checked := Tryd.checked }
namespace Rows
def none {H : Type} : Left H := { results := [], args := [] }

/- WHAT THE LISTED PACKAGE-LEVEL VARIABLES READ AS WHEN THE CALL BEGINS. Each datum BY PROGRAM (the guide's laid-datum.mjs) off the statement by which the dump's own 'gosem.cut.vars' lays the variable. In a bare row this is a premise. The card (YtadiijieldldhaaDoorCards.lean) ties it to the program's text. -/
def laid_chronicle_sha256_first {H : Type} : DataW H := .agg [.lit (.int .u32 1779033703), .lit (.int .u32 3144134277), .lit (.int .u32 1013904242), .lit (.int .u32 2773480762), .lit (.int .u32 1359893119), .lit (.int .u32 2600822924), .lit (.int .u32 528734635), .lit (.int .u32 1541459225)]
def laid_chronicle_sha256_constants {H : Type} : DataW H := .agg [.lit (.int .u32 1116352408), .lit (.int .u32 1899447441), .lit (.int .u32 3049323471), .lit (.int .u32 3921009573), .lit (.int .u32 961987163), .lit (.int .u32 1508970993), .lit (.int .u32 2453635748), .lit (.int .u32 2870763221), .lit (.int .u32 3624381080), .lit (.int .u32 310598401), .lit (.int .u32 607225278), .lit (.int .u32 1426881987), .lit (.int .u32 1925078388), .lit (.int .u32 2162078206), .lit (.int .u32 2614888103), .lit (.int .u32 3248222580), .lit (.int .u32 3835390401), .lit (.int .u32 4022224774), .lit (.int .u32 264347078), .lit (.int .u32 604807628), .lit (.int .u32 770255983), .lit (.int .u32 1249150122), .lit (.int .u32 1555081692), .lit (.int .u32 1996064986), .lit (.int .u32 2554220882), .lit (.int .u32 2821834349), .lit (.int .u32 2952996808), .lit (.int .u32 3210313671), .lit (.int .u32 3336571891), .lit (.int .u32 3584528711), .lit (.int .u32 113926993), .lit (.int .u32 338241895), .lit (.int .u32 666307205), .lit (.int .u32 773529912), .lit (.int .u32 1294757372), .lit (.int .u32 1396182291), .lit (.int .u32 1695183700), .lit (.int .u32 1986661051), .lit (.int .u32 2177026350), .lit (.int .u32 2456956037), .lit (.int .u32 2730485921), .lit (.int .u32 2820302411), .lit (.int .u32 3259730800), .lit (.int .u32 3345764771), .lit (.int .u32 3516065817), .lit (.int .u32 3600352804), .lit (.int .u32 4094571909), .lit (.int .u32 275423344), .lit (.int .u32 430227734), .lit (.int .u32 506948616), .lit (.int .u32 659060556), .lit (.int .u32 883997877), .lit (.int .u32 958139571), .lit (.int .u32 1322822218), .lit (.int .u32 1537002063), .lit (.int .u32 1747873779), .lit (.int .u32 1955562222), .lit (.int .u32 2024104815), .lit (.int .u32 2227730452), .lit (.int .u32 2361852424), .lit (.int .u32 2428436474), .lit (.int .u32 2756734187), .lit (.int .u32 3204031479), .lit (.int .u32 3329325298)]

/-- 'chroniclelaw19.CheckPaths': WHATEVER THE INPUT: true; the input reads as it did. -/
def checkPathsSpec : ChangeSpec := { name := "checkPaths", fn := fun _ => fun
  | [d] => { results := [.lit (.bool true)], args := [d] }
  | _ => none }
def checkPathsRow : OpenClaim := { program := "ytadiijieldldhaadoor", sum := "b20ce2762bb292820f2e5b88a7f50529e68b65f1004752aed54debabc98dc6c8", func := "chronicle/chroniclelaw19.CheckPaths", spec := "checkPaths", recurses := true, named := ["chronicle/sha256.first", "chronicle/sha256.constants"], apart := false, laid := [("chronicle/sha256.first", laid_chronicle_sha256_first), ("chronicle/sha256.constants", laid_chronicle_sha256_constants)] }
def CheckPathsSaid : Prop := checkPathsRow.holds Tryd.pinned (OpenSpec.ofChange checkPathsSpec)

/-- ITS FALSE NEIGHBOUR: 'it returns false'. Refute it at one input. -/
def checkPathsWrong : ChangeSpec := { name := "checkPaths", fn := fun _ => fun
  | [d] => { results := [.lit (.bool false)], args := [d] }
  | _ => none }
def CheckPathsWrongFalsely : Prop := checkPathsRow.holds Tryd.pinned (OpenSpec.ofChange checkPathsWrong)

/-- 'chroniclelaw20.ClashNone': WHATEVER THE INPUT: true; the input reads as it did. -/
def clashNoneSpec : ChangeSpec := { name := "clashNone", fn := fun _ => fun
  | [d1, d2] => { results := [.lit (.bool true)], args := [d1, d2] }
  | _ => none }
def clashNoneRow : OpenClaim := { program := "ytadiijieldldhaadoor", sum := "b20ce2762bb292820f2e5b88a7f50529e68b65f1004752aed54debabc98dc6c8", func := "chronicle/chroniclelaw20.ClashNone", spec := "clashNone", recurses := true, named := ["chronicle/sha256.first", "chronicle/sha256.constants"], apart := false, laid := [("chronicle/sha256.first", laid_chronicle_sha256_first), ("chronicle/sha256.constants", laid_chronicle_sha256_constants)] }
def ClashNoneSaid : Prop := clashNoneRow.holds Tryd.pinned (OpenSpec.ofChange clashNoneSpec)

/-- ITS FALSE NEIGHBOUR: 'it returns false'. Refute it at one input. -/
def clashNoneWrong : ChangeSpec := { name := "clashNone", fn := fun _ => fun
  | [d1, d2] => { results := [.lit (.bool false)], args := [d1, d2] }
  | _ => none }
def ClashNoneWrongFalsely : Prop := clashNoneRow.holds Tryd.pinned (OpenSpec.ofChange clashNoneWrong)

/-- 'chroniclelaw20.ClashPlaces': WHATEVER THE INPUT: true; the input reads as it did. -/
def clashPlacesSpec : ChangeSpec := { name := "clashPlaces", fn := fun _ => fun
  | [d1, d2] => { results := [.lit (.bool true)], args := [d1, d2] }
  | _ => none }
def clashPlacesRow : OpenClaim := { program := "ytadiijieldldhaadoor", sum := "b20ce2762bb292820f2e5b88a7f50529e68b65f1004752aed54debabc98dc6c8", func := "chronicle/chroniclelaw20.ClashPlaces", spec := "clashPlaces", recurses := true, named := ["chronicle/sha256.first", "chronicle/sha256.constants"], apart := false, laid := [("chronicle/sha256.first", laid_chronicle_sha256_first), ("chronicle/sha256.constants", laid_chronicle_sha256_constants)] }
def ClashPlacesSaid : Prop := clashPlacesRow.holds Tryd.pinned (OpenSpec.ofChange clashPlacesSpec)

/-- ITS FALSE NEIGHBOUR: 'it returns false'. Refute it at one input. -/
def clashPlacesWrong : ChangeSpec := { name := "clashPlaces", fn := fun _ => fun
  | [d1, d2] => { results := [.lit (.bool false)], args := [d1, d2] }
  | _ => none }
def ClashPlacesWrongFalsely : Prop := clashPlacesRow.holds Tryd.pinned (OpenSpec.ofChange clashPlacesWrong)

/-- 'chroniclelaw19.CheckProofs': WHATEVER THE INPUT: true; the input reads as it did. -/
def checkProofsSpec : ChangeSpec := { name := "checkProofs", fn := fun _ => fun
  | [d] => { results := [.lit (.bool true)], args := [d] }
  | _ => none }
def checkProofsRow : OpenClaim := { program := "ytadiijieldldhaadoor", sum := "b20ce2762bb292820f2e5b88a7f50529e68b65f1004752aed54debabc98dc6c8", func := "chronicle/chroniclelaw19.CheckProofs", spec := "checkProofs", recurses := true, named := ["chronicle/sha256.first", "chronicle/sha256.constants"], apart := false, laid := [("chronicle/sha256.first", laid_chronicle_sha256_first), ("chronicle/sha256.constants", laid_chronicle_sha256_constants)] }
def CheckProofsSaid : Prop := checkProofsRow.holds Tryd.pinned (OpenSpec.ofChange checkProofsSpec)

/-- ITS FALSE NEIGHBOUR: 'it returns false'. Refute it at one input. -/
def checkProofsWrong : ChangeSpec := { name := "checkProofs", fn := fun _ => fun
  | [d] => { results := [.lit (.bool false)], args := [d] }
  | _ => none }
def CheckProofsWrongFalsely : Prop := checkProofsRow.holds Tryd.pinned (OpenSpec.ofChange checkProofsWrong)

/-- 'chroniclelaw19.CheckRight': WHATEVER THE INPUT: true; the input reads as it did. -/
def checkRightSpec : ChangeSpec := { name := "checkRight", fn := fun _ => fun
  | [d1, d2] => { results := [.lit (.bool true)], args := [d1, d2] }
  | _ => none }
def checkRightRow : OpenClaim := { program := "ytadiijieldldhaadoor", sum := "b20ce2762bb292820f2e5b88a7f50529e68b65f1004752aed54debabc98dc6c8", func := "chronicle/chroniclelaw19.CheckRight", spec := "checkRight", recurses := true, named := ["chronicle/sha256.first", "chronicle/sha256.constants"], apart := false, laid := [("chronicle/sha256.first", laid_chronicle_sha256_first), ("chronicle/sha256.constants", laid_chronicle_sha256_constants)] }
def CheckRightSaid : Prop := checkRightRow.holds Tryd.pinned (OpenSpec.ofChange checkRightSpec)

/-- ITS FALSE NEIGHBOUR: 'it returns false'. Refute it at one input. -/
def checkRightWrong : ChangeSpec := { name := "checkRight", fn := fun _ => fun
  | [d1, d2] => { results := [.lit (.bool false)], args := [d1, d2] }
  | _ => none }
def CheckRightWrongFalsely : Prop := checkRightRow.holds Tryd.pinned (OpenSpec.ofChange checkRightWrong)

/-- 'chroniclelaw19.CheckOther': WHATEVER THE INPUT: true; the input reads as it did. -/
def checkOtherSpec : ChangeSpec := { name := "checkOther", fn := fun _ => fun
  | [d1, d2, d3] => { results := [.lit (.bool true)], args := [d1, d2, d3] }
  | _ => none }
def checkOtherRow : OpenClaim := { program := "ytadiijieldldhaadoor", sum := "b20ce2762bb292820f2e5b88a7f50529e68b65f1004752aed54debabc98dc6c8", func := "chronicle/chroniclelaw19.CheckOther", spec := "checkOther", recurses := true, named := ["chronicle/sha256.first", "chronicle/sha256.constants"], apart := false, laid := [("chronicle/sha256.first", laid_chronicle_sha256_first), ("chronicle/sha256.constants", laid_chronicle_sha256_constants)] }
def CheckOtherSaid : Prop := checkOtherRow.holds Tryd.pinned (OpenSpec.ofChange checkOtherSpec)

/-- ITS FALSE NEIGHBOUR: 'it returns false'. Refute it at one input. -/
def checkOtherWrong : ChangeSpec := { name := "checkOther", fn := fun _ => fun
  | [d1, d2, d3] => { results := [.lit (.bool false)], args := [d1, d2, d3] }
  | _ => none }
def CheckOtherWrongFalsely : Prop := checkOtherRow.holds Tryd.pinned (OpenSpec.ofChange checkOtherWrong)

/-- 'chroniclelaw19.CheckAll': WHATEVER THE INPUT: true; the input reads as it did. -/
def checkAllSpec : ChangeSpec := { name := "checkAll", fn := fun _ => fun
  | [d1, d2, d3] => { results := [.lit (.bool true)], args := [d1, d2, d3] }
  | _ => none }
def checkAllRow : OpenClaim := { program := "ytadiijieldldhaadoor", sum := "b20ce2762bb292820f2e5b88a7f50529e68b65f1004752aed54debabc98dc6c8", func := "chronicle/chroniclelaw19.CheckAll", spec := "checkAll", named := ["chronicle/sha256.first", "chronicle/sha256.constants"], apart := false, laid := [("chronicle/sha256.first", laid_chronicle_sha256_first), ("chronicle/sha256.constants", laid_chronicle_sha256_constants)] }
def CheckAllSaid : Prop := checkAllRow.holds Tryd.pinned (OpenSpec.ofChange checkAllSpec)

/-- ITS FALSE NEIGHBOUR: 'it returns false'. Refute it at one input. -/
def checkAllWrong : ChangeSpec := { name := "checkAll", fn := fun _ => fun
  | [d1, d2, d3] => { results := [.lit (.bool false)], args := [d1, d2, d3] }
  | _ => none }
def CheckAllWrongFalsely : Prop := checkAllRow.holds Tryd.pinned (OpenSpec.ofChange checkAllWrong)

/-- 'chroniclelaw20.ClashPaths': WHATEVER THE INPUT: true; the input reads as it did. -/
def clashPathsSpec : ChangeSpec := { name := "clashPaths", fn := fun _ => fun
  | [d1, d2] => { results := [.lit (.bool true)], args := [d1, d2] }
  | _ => none }
def clashPathsRow : OpenClaim := { program := "ytadiijieldldhaadoor", sum := "b20ce2762bb292820f2e5b88a7f50529e68b65f1004752aed54debabc98dc6c8", func := "chronicle/chroniclelaw20.ClashPaths", spec := "clashPaths", recurses := true, named := ["chronicle/sha256.first", "chronicle/sha256.constants"], apart := false, laid := [("chronicle/sha256.first", laid_chronicle_sha256_first), ("chronicle/sha256.constants", laid_chronicle_sha256_constants)] }
def ClashPathsSaid : Prop := clashPathsRow.holds Tryd.pinned (OpenSpec.ofChange clashPathsSpec)

/-- ITS FALSE NEIGHBOUR: 'it returns false'. Refute it at one input. -/
def clashPathsWrong : ChangeSpec := { name := "clashPaths", fn := fun _ => fun
  | [d1, d2] => { results := [.lit (.bool false)], args := [d1, d2] }
  | _ => none }
def ClashPathsWrongFalsely : Prop := clashPathsRow.holds Tryd.pinned (OpenSpec.ofChange clashPathsWrong)

/-- 'chroniclelaw20.ClashProofs': WHATEVER THE INPUT: true; the input reads as it did. -/
def clashProofsSpec : ChangeSpec := { name := "clashProofs", fn := fun _ => fun
  | [d1, d2] => { results := [.lit (.bool true)], args := [d1, d2] }
  | _ => none }
def clashProofsRow : OpenClaim := { program := "ytadiijieldldhaadoor", sum := "b20ce2762bb292820f2e5b88a7f50529e68b65f1004752aed54debabc98dc6c8", func := "chronicle/chroniclelaw20.ClashProofs", spec := "clashProofs", recurses := true, named := ["chronicle/sha256.first", "chronicle/sha256.constants"], apart := false, laid := [("chronicle/sha256.first", laid_chronicle_sha256_first), ("chronicle/sha256.constants", laid_chronicle_sha256_constants)] }
def ClashProofsSaid : Prop := clashProofsRow.holds Tryd.pinned (OpenSpec.ofChange clashProofsSpec)

/-- ITS FALSE NEIGHBOUR: 'it returns false'. Refute it at one input. -/
def clashProofsWrong : ChangeSpec := { name := "clashProofs", fn := fun _ => fun
  | [d1, d2] => { results := [.lit (.bool false)], args := [d1, d2] }
  | _ => none }
def ClashProofsWrongFalsely : Prop := clashProofsRow.holds Tryd.pinned (OpenSpec.ofChange clashProofsWrong)

/- THE SECOND FORM. 'bulk': how many values and letters a reading holds, each counted each time it is reached (what is shared counts as often as it is met; a slice's spare places count too). A statement '..UptoSaid' is the law's where the arguments, and the package variables that the reading takes, are together of bulk at most 1048576: NARROWER than '..Said'. Prove '..Said' where nothing that the law and all that it calls make is longer than what came in: it says more and counts as full. Else prove '..UptoSaid'. A law counts once. -/
mutual
def uptoBulk {H : Type} : DataW H → Nat
  | .lit (.string bytes) => bytes.length + 1
  | .lit _ => 1
  | .nil => 1
  | .ptr d => uptoBulk d + 1
  | .slice elems spare => uptoBulkAll elems + uptoBulkAll spare + 1
  | .agg parts => uptoBulkAll parts + 1
  | .iface _ d => uptoBulk d + 1
  | .map entries => uptoBulkEntries entries + 1
  | .held _ => 1
def uptoBulkAll {H : Type} : List (DataW H) → Nat
  | [] => 0
  | d :: r => uptoBulk d + uptoBulkAll r
def uptoBulkEntries {H : Type} : List (Lit × DataW H) → Nat
  | [] => 0
  | x :: r => uptoBulkEntry x + uptoBulkEntries r
def uptoBulkEntry {H : Type} : Lit × DataW H → Nat
  | (.string bytes, d) => bytes.length + uptoBulk d + 1
  | (_, d) => uptoBulk d + 1
 end
def uptoSmall : (H : Type) → List (DataW H) → Bool := fun _ ds => decide (uptoBulkAll ds ≤ 1048576)
def OpenSpec.upto (s : _root_.Go.ChangeSpec) : _root_.Go.OpenSpec := { _root_.Go.OpenSpec.ofChange s with cond := some uptoSmall }

/-- 'chroniclelaw19.CheckPaths', WHERE WHAT IT READS IS OF BULK AT MOST 1048576: true; the input reads as it did. -/
def checkPathsUptoRow : OpenClaim := { program := "ytadiijieldldhaadoor", sum := "b20ce2762bb292820f2e5b88a7f50529e68b65f1004752aed54debabc98dc6c8", func := "chronicle/chroniclelaw19.CheckPaths", spec := "checkPaths", recurses := true, named := ["chronicle/sha256.first", "chronicle/sha256.constants"], apart := false, laid := [("chronicle/sha256.first", laid_chronicle_sha256_first), ("chronicle/sha256.constants", laid_chronicle_sha256_constants)], narrowed := true }
def CheckPathsUptoSaid : Prop := checkPathsUptoRow.holds Tryd.pinned (OpenSpec.upto checkPathsSpec)

/-- 'chroniclelaw20.ClashNone', WHERE WHAT IT READS IS OF BULK AT MOST 1048576: true; the input reads as it did. -/
def clashNoneUptoRow : OpenClaim := { program := "ytadiijieldldhaadoor", sum := "b20ce2762bb292820f2e5b88a7f50529e68b65f1004752aed54debabc98dc6c8", func := "chronicle/chroniclelaw20.ClashNone", spec := "clashNone", recurses := true, named := ["chronicle/sha256.first", "chronicle/sha256.constants"], apart := false, laid := [("chronicle/sha256.first", laid_chronicle_sha256_first), ("chronicle/sha256.constants", laid_chronicle_sha256_constants)], narrowed := true }
def ClashNoneUptoSaid : Prop := clashNoneUptoRow.holds Tryd.pinned (OpenSpec.upto clashNoneSpec)

/-- 'chroniclelaw20.ClashPlaces', WHERE WHAT IT READS IS OF BULK AT MOST 1048576: true; the input reads as it did. -/
def clashPlacesUptoRow : OpenClaim := { program := "ytadiijieldldhaadoor", sum := "b20ce2762bb292820f2e5b88a7f50529e68b65f1004752aed54debabc98dc6c8", func := "chronicle/chroniclelaw20.ClashPlaces", spec := "clashPlaces", recurses := true, named := ["chronicle/sha256.first", "chronicle/sha256.constants"], apart := false, laid := [("chronicle/sha256.first", laid_chronicle_sha256_first), ("chronicle/sha256.constants", laid_chronicle_sha256_constants)], narrowed := true }
def ClashPlacesUptoSaid : Prop := clashPlacesUptoRow.holds Tryd.pinned (OpenSpec.upto clashPlacesSpec)

/-- 'chroniclelaw19.CheckProofs', WHERE WHAT IT READS IS OF BULK AT MOST 1048576: true; the input reads as it did. -/
def checkProofsUptoRow : OpenClaim := { program := "ytadiijieldldhaadoor", sum := "b20ce2762bb292820f2e5b88a7f50529e68b65f1004752aed54debabc98dc6c8", func := "chronicle/chroniclelaw19.CheckProofs", spec := "checkProofs", recurses := true, named := ["chronicle/sha256.first", "chronicle/sha256.constants"], apart := false, laid := [("chronicle/sha256.first", laid_chronicle_sha256_first), ("chronicle/sha256.constants", laid_chronicle_sha256_constants)], narrowed := true }
def CheckProofsUptoSaid : Prop := checkProofsUptoRow.holds Tryd.pinned (OpenSpec.upto checkProofsSpec)

/-- 'chroniclelaw19.CheckRight', WHERE WHAT IT READS IS OF BULK AT MOST 1048576: true; the input reads as it did. -/
def checkRightUptoRow : OpenClaim := { program := "ytadiijieldldhaadoor", sum := "b20ce2762bb292820f2e5b88a7f50529e68b65f1004752aed54debabc98dc6c8", func := "chronicle/chroniclelaw19.CheckRight", spec := "checkRight", recurses := true, named := ["chronicle/sha256.first", "chronicle/sha256.constants"], apart := false, laid := [("chronicle/sha256.first", laid_chronicle_sha256_first), ("chronicle/sha256.constants", laid_chronicle_sha256_constants)], narrowed := true }
def CheckRightUptoSaid : Prop := checkRightUptoRow.holds Tryd.pinned (OpenSpec.upto checkRightSpec)

/-- 'chroniclelaw19.CheckOther', WHERE WHAT IT READS IS OF BULK AT MOST 1048576: true; the input reads as it did. -/
def checkOtherUptoRow : OpenClaim := { program := "ytadiijieldldhaadoor", sum := "b20ce2762bb292820f2e5b88a7f50529e68b65f1004752aed54debabc98dc6c8", func := "chronicle/chroniclelaw19.CheckOther", spec := "checkOther", recurses := true, named := ["chronicle/sha256.first", "chronicle/sha256.constants"], apart := false, laid := [("chronicle/sha256.first", laid_chronicle_sha256_first), ("chronicle/sha256.constants", laid_chronicle_sha256_constants)], narrowed := true }
def CheckOtherUptoSaid : Prop := checkOtherUptoRow.holds Tryd.pinned (OpenSpec.upto checkOtherSpec)

/-- 'chroniclelaw19.CheckAll', WHERE WHAT IT READS IS OF BULK AT MOST 1048576: true; the input reads as it did. -/
def checkAllUptoRow : OpenClaim := { program := "ytadiijieldldhaadoor", sum := "b20ce2762bb292820f2e5b88a7f50529e68b65f1004752aed54debabc98dc6c8", func := "chronicle/chroniclelaw19.CheckAll", spec := "checkAll", named := ["chronicle/sha256.first", "chronicle/sha256.constants"], apart := false, laid := [("chronicle/sha256.first", laid_chronicle_sha256_first), ("chronicle/sha256.constants", laid_chronicle_sha256_constants)], narrowed := true }
def CheckAllUptoSaid : Prop := checkAllUptoRow.holds Tryd.pinned (OpenSpec.upto checkAllSpec)

/-- 'chroniclelaw20.ClashPaths', WHERE WHAT IT READS IS OF BULK AT MOST 1048576: true; the input reads as it did. -/
def clashPathsUptoRow : OpenClaim := { program := "ytadiijieldldhaadoor", sum := "b20ce2762bb292820f2e5b88a7f50529e68b65f1004752aed54debabc98dc6c8", func := "chronicle/chroniclelaw20.ClashPaths", spec := "clashPaths", recurses := true, named := ["chronicle/sha256.first", "chronicle/sha256.constants"], apart := false, laid := [("chronicle/sha256.first", laid_chronicle_sha256_first), ("chronicle/sha256.constants", laid_chronicle_sha256_constants)], narrowed := true }
def ClashPathsUptoSaid : Prop := clashPathsUptoRow.holds Tryd.pinned (OpenSpec.upto clashPathsSpec)

/-- 'chroniclelaw20.ClashProofs', WHERE WHAT IT READS IS OF BULK AT MOST 1048576: true; the input reads as it did. -/
def clashProofsUptoRow : OpenClaim := { program := "ytadiijieldldhaadoor", sum := "b20ce2762bb292820f2e5b88a7f50529e68b65f1004752aed54debabc98dc6c8", func := "chronicle/chroniclelaw20.ClashProofs", spec := "clashProofs", recurses := true, named := ["chronicle/sha256.first", "chronicle/sha256.constants"], apart := false, laid := [("chronicle/sha256.first", laid_chronicle_sha256_first), ("chronicle/sha256.constants", laid_chronicle_sha256_constants)], narrowed := true }
def ClashProofsUptoSaid : Prop := clashProofsUptoRow.holds Tryd.pinned (OpenSpec.upto clashProofsSpec)

end Rows
end Go.Proofs.YtadiijieldldhaaDoor
