/-
  NARROWER THAN 'FOR EVERY INPUT', by the rows' own cells (each row's printed sentence says how): Sha256Sums: laid · Sha256Parts: laid · Sha256Same: laid · Sha256Nil: laid · Sha256Bytes: laid · HmacSums: laid · HmacLong: laid · HmacStreams: laid · HmacParts: laid · HmacNil: laid.
  DERIVED. THE GIVEN ROWS OF THIS SEAT. 10 by the template 'for every input the law returns true; each argument reads behind the call as it read before'; 0 by the template 'total and deterministic' (their statements: YtahlllbigkgobaaDoorTotals.lean).
  GIVEN WITH THE SEED: the statements are not yours to turn. If you find one false, say at which input.
  Laid BY PROGRAM, IN A SANDBOX (cutbox-rows.mjs): the forced cells as the released guide's own fill.sh prints them over the translation c63d5490f4d76f8f… (all of the seat's roots in one cut). By AI agents, Wed Nov 11 2026. No macro, syntax, notation, axiom, sorry.
-/
import Derived.Test.YtahlllbigkgobaaDoorChecked
import GoSem.Claim
import GoSem.ClaimJoined
import GoSem.ClaimMapViews
import Derived.JoinedTies
import Derived.KernelRfl
namespace Go.Proofs.YtahlllbigkgobaaDoor
/- THE CELL 'sum', in the pinned program and in every row, IS THE sha256 OF THE DUMP (.gsa) THAT YtahlllbigkgobaaDoorProg.lean LOADS. Nothing in Lean hashes anything: it is a label: what it is worth is what the hold of that sum in a sandbox is worth. -/
noncomputable def Tryd.pinned : Pinned := { name := "ytahlllbigkgobaadoor", sum := "c63d5490f4d76f8f691212ab82cf1ddc3392713c09732cfa7175db89571b7e0b", checked := Tryd.checked }
namespace Rows
def none {H : Type} : Left H := { results := [], args := [] }

/- WHAT THE LISTED PACKAGE-LEVEL VARIABLES READ AS WHEN THE CALL BEGINS. Each datum BY PROGRAM (the guide's laid-datum.mjs) off the statement by which the dump's own 'gosem.cut.vars' lays the variable. In a bare row this is a premise. The card (YtahlllbigkgobaaDoorCards.lean) ties it to the program's text. -/
def laid_chronicle_sha256_first {H : Type} : DataW H := .agg [.lit (.int .u32 1779033703), .lit (.int .u32 3144134277), .lit (.int .u32 1013904242), .lit (.int .u32 2773480762), .lit (.int .u32 1359893119), .lit (.int .u32 2600822924), .lit (.int .u32 528734635), .lit (.int .u32 1541459225)]
def laid_chronicle_sha256_constants {H : Type} : DataW H := .agg [.lit (.int .u32 1116352408), .lit (.int .u32 1899447441), .lit (.int .u32 3049323471), .lit (.int .u32 3921009573), .lit (.int .u32 961987163), .lit (.int .u32 1508970993), .lit (.int .u32 2453635748), .lit (.int .u32 2870763221), .lit (.int .u32 3624381080), .lit (.int .u32 310598401), .lit (.int .u32 607225278), .lit (.int .u32 1426881987), .lit (.int .u32 1925078388), .lit (.int .u32 2162078206), .lit (.int .u32 2614888103), .lit (.int .u32 3248222580), .lit (.int .u32 3835390401), .lit (.int .u32 4022224774), .lit (.int .u32 264347078), .lit (.int .u32 604807628), .lit (.int .u32 770255983), .lit (.int .u32 1249150122), .lit (.int .u32 1555081692), .lit (.int .u32 1996064986), .lit (.int .u32 2554220882), .lit (.int .u32 2821834349), .lit (.int .u32 2952996808), .lit (.int .u32 3210313671), .lit (.int .u32 3336571891), .lit (.int .u32 3584528711), .lit (.int .u32 113926993), .lit (.int .u32 338241895), .lit (.int .u32 666307205), .lit (.int .u32 773529912), .lit (.int .u32 1294757372), .lit (.int .u32 1396182291), .lit (.int .u32 1695183700), .lit (.int .u32 1986661051), .lit (.int .u32 2177026350), .lit (.int .u32 2456956037), .lit (.int .u32 2730485921), .lit (.int .u32 2820302411), .lit (.int .u32 3259730800), .lit (.int .u32 3345764771), .lit (.int .u32 3516065817), .lit (.int .u32 3600352804), .lit (.int .u32 4094571909), .lit (.int .u32 275423344), .lit (.int .u32 430227734), .lit (.int .u32 506948616), .lit (.int .u32 659060556), .lit (.int .u32 883997877), .lit (.int .u32 958139571), .lit (.int .u32 1322822218), .lit (.int .u32 1537002063), .lit (.int .u32 1747873779), .lit (.int .u32 1955562222), .lit (.int .u32 2024104815), .lit (.int .u32 2227730452), .lit (.int .u32 2361852424), .lit (.int .u32 2428436474), .lit (.int .u32 2756734187), .lit (.int .u32 3204031479), .lit (.int .u32 3329325298)]

/-- 'chroniclelaw05.Sha256Sums': WHATEVER THE INPUT: true; the input reads as it did. -/
def sha256SumsSpec : ChangeSpec := { name := "sha256Sums", fn := fun _ => fun
  | [d] => { results := [.lit (.bool true)], args := [d] }
  | _ => none }
def sha256SumsRow : OpenClaim := { program := "ytahlllbigkgobaadoor", sum := "c63d5490f4d76f8f691212ab82cf1ddc3392713c09732cfa7175db89571b7e0b", func := "chronicle/chroniclelaw05.Sha256Sums", spec := "sha256Sums", named := ["chronicle/sha256.first", "chronicle/sha256.constants"], apart := false, laid := [("chronicle/sha256.first", laid_chronicle_sha256_first), ("chronicle/sha256.constants", laid_chronicle_sha256_constants)] }
def Sha256SumsSaid : Prop := sha256SumsRow.holds Tryd.pinned (OpenSpec.ofChange sha256SumsSpec)

/-- ITS FALSE NEIGHBOUR: 'it returns false'. Refute it at one input. -/
def sha256SumsWrong : ChangeSpec := { name := "sha256Sums", fn := fun _ => fun
  | [d] => { results := [.lit (.bool false)], args := [d] }
  | _ => none }
def Sha256SumsWrongFalsely : Prop := sha256SumsRow.holds Tryd.pinned (OpenSpec.ofChange sha256SumsWrong)

/-- 'chroniclelaw05.Sha256Parts': WHATEVER THE INPUT: true; the input reads as it did. -/
def sha256PartsSpec : ChangeSpec := { name := "sha256Parts", fn := fun _ => fun
  | [d] => { results := [.lit (.bool true)], args := [d] }
  | _ => none }
def sha256PartsRow : OpenClaim := { program := "ytahlllbigkgobaadoor", sum := "c63d5490f4d76f8f691212ab82cf1ddc3392713c09732cfa7175db89571b7e0b", func := "chronicle/chroniclelaw05.Sha256Parts", spec := "sha256Parts", named := ["chronicle/sha256.first", "chronicle/sha256.constants"], apart := false, laid := [("chronicle/sha256.first", laid_chronicle_sha256_first), ("chronicle/sha256.constants", laid_chronicle_sha256_constants)] }
def Sha256PartsSaid : Prop := sha256PartsRow.holds Tryd.pinned (OpenSpec.ofChange sha256PartsSpec)

/-- ITS FALSE NEIGHBOUR: 'it returns false'. Refute it at one input. -/
def sha256PartsWrong : ChangeSpec := { name := "sha256Parts", fn := fun _ => fun
  | [d] => { results := [.lit (.bool false)], args := [d] }
  | _ => none }
def Sha256PartsWrongFalsely : Prop := sha256PartsRow.holds Tryd.pinned (OpenSpec.ofChange sha256PartsWrong)

/-- 'chroniclelaw05.Sha256Same': WHATEVER THE INPUT: true; the input reads as it did. -/
def sha256SameSpec : ChangeSpec := { name := "sha256Same", fn := fun _ => fun
  | [d1, d2] => { results := [.lit (.bool true)], args := [d1, d2] }
  | _ => none }
def sha256SameRow : OpenClaim := { program := "ytahlllbigkgobaadoor", sum := "c63d5490f4d76f8f691212ab82cf1ddc3392713c09732cfa7175db89571b7e0b", func := "chronicle/chroniclelaw05.Sha256Same", spec := "sha256Same", named := ["chronicle/sha256.first", "chronicle/sha256.constants"], apart := false, laid := [("chronicle/sha256.first", laid_chronicle_sha256_first), ("chronicle/sha256.constants", laid_chronicle_sha256_constants)] }
def Sha256SameSaid : Prop := sha256SameRow.holds Tryd.pinned (OpenSpec.ofChange sha256SameSpec)

/-- ITS FALSE NEIGHBOUR: 'it returns false'. Refute it at one input. -/
def sha256SameWrong : ChangeSpec := { name := "sha256Same", fn := fun _ => fun
  | [d1, d2] => { results := [.lit (.bool false)], args := [d1, d2] }
  | _ => none }
def Sha256SameWrongFalsely : Prop := sha256SameRow.holds Tryd.pinned (OpenSpec.ofChange sha256SameWrong)

/-- 'chroniclelaw05.Sha256Nil': WHATEVER THE INPUT: true; the input reads as it did. -/
def sha256NilSpec : ChangeSpec := { name := "sha256Nil", fn := fun _ => fun
  | [d] => { results := [.lit (.bool true)], args := [d] }
  | _ => none }
def sha256NilRow : OpenClaim := { program := "ytahlllbigkgobaadoor", sum := "c63d5490f4d76f8f691212ab82cf1ddc3392713c09732cfa7175db89571b7e0b", func := "chronicle/chroniclelaw05.Sha256Nil", spec := "sha256Nil", named := ["chronicle/sha256.first", "chronicle/sha256.constants"], apart := false, laid := [("chronicle/sha256.first", laid_chronicle_sha256_first), ("chronicle/sha256.constants", laid_chronicle_sha256_constants)] }
def Sha256NilSaid : Prop := sha256NilRow.holds Tryd.pinned (OpenSpec.ofChange sha256NilSpec)

/-- ITS FALSE NEIGHBOUR: 'it returns false'. Refute it at one input. -/
def sha256NilWrong : ChangeSpec := { name := "sha256Nil", fn := fun _ => fun
  | [d] => { results := [.lit (.bool false)], args := [d] }
  | _ => none }
def Sha256NilWrongFalsely : Prop := sha256NilRow.holds Tryd.pinned (OpenSpec.ofChange sha256NilWrong)

/-- 'chroniclelaw05.Sha256Bytes': WHATEVER THE INPUT: true; the input reads as it did. -/
def sha256BytesSpec : ChangeSpec := { name := "sha256Bytes", fn := fun _ => fun
  | [d1, d2] => { results := [.lit (.bool true)], args := [d1, d2] }
  | _ => none }
def sha256BytesRow : OpenClaim := { program := "ytahlllbigkgobaadoor", sum := "c63d5490f4d76f8f691212ab82cf1ddc3392713c09732cfa7175db89571b7e0b", func := "chronicle/chroniclelaw05.Sha256Bytes", spec := "sha256Bytes", named := ["chronicle/sha256.first", "chronicle/sha256.constants"], apart := false, laid := [("chronicle/sha256.first", laid_chronicle_sha256_first), ("chronicle/sha256.constants", laid_chronicle_sha256_constants)] }
def Sha256BytesSaid : Prop := sha256BytesRow.holds Tryd.pinned (OpenSpec.ofChange sha256BytesSpec)

/-- ITS FALSE NEIGHBOUR: 'it returns false'. Refute it at one input. -/
def sha256BytesWrong : ChangeSpec := { name := "sha256Bytes", fn := fun _ => fun
  | [d1, d2] => { results := [.lit (.bool false)], args := [d1, d2] }
  | _ => none }
def Sha256BytesWrongFalsely : Prop := sha256BytesRow.holds Tryd.pinned (OpenSpec.ofChange sha256BytesWrong)

/-- 'chroniclelaw07.HmacSums': WHATEVER THE INPUT: true; the input reads as it did. -/
def hmacSumsSpec : ChangeSpec := { name := "hmacSums", fn := fun _ => fun
  | [d1, d2] => { results := [.lit (.bool true)], args := [d1, d2] }
  | _ => none }
def hmacSumsRow : OpenClaim := { program := "ytahlllbigkgobaadoor", sum := "c63d5490f4d76f8f691212ab82cf1ddc3392713c09732cfa7175db89571b7e0b", func := "chronicle/chroniclelaw07.HmacSums", spec := "hmacSums", named := ["chronicle/sha256.first", "chronicle/sha256.constants"], apart := false, laid := [("chronicle/sha256.first", laid_chronicle_sha256_first), ("chronicle/sha256.constants", laid_chronicle_sha256_constants)] }
def HmacSumsSaid : Prop := hmacSumsRow.holds Tryd.pinned (OpenSpec.ofChange hmacSumsSpec)

/-- ITS FALSE NEIGHBOUR: 'it returns false'. Refute it at one input. -/
def hmacSumsWrong : ChangeSpec := { name := "hmacSums", fn := fun _ => fun
  | [d1, d2] => { results := [.lit (.bool false)], args := [d1, d2] }
  | _ => none }
def HmacSumsWrongFalsely : Prop := hmacSumsRow.holds Tryd.pinned (OpenSpec.ofChange hmacSumsWrong)

/-- 'chroniclelaw07.HmacLong': WHATEVER THE INPUT: true; the input reads as it did. -/
def hmacLongSpec : ChangeSpec := { name := "hmacLong", fn := fun _ => fun
  | [d1, d2] => { results := [.lit (.bool true)], args := [d1, d2] }
  | _ => none }
def hmacLongRow : OpenClaim := { program := "ytahlllbigkgobaadoor", sum := "c63d5490f4d76f8f691212ab82cf1ddc3392713c09732cfa7175db89571b7e0b", func := "chronicle/chroniclelaw07.HmacLong", spec := "hmacLong", named := ["chronicle/sha256.first", "chronicle/sha256.constants"], apart := false, laid := [("chronicle/sha256.first", laid_chronicle_sha256_first), ("chronicle/sha256.constants", laid_chronicle_sha256_constants)] }
def HmacLongSaid : Prop := hmacLongRow.holds Tryd.pinned (OpenSpec.ofChange hmacLongSpec)

/-- ITS FALSE NEIGHBOUR: 'it returns false'. Refute it at one input. -/
def hmacLongWrong : ChangeSpec := { name := "hmacLong", fn := fun _ => fun
  | [d1, d2] => { results := [.lit (.bool false)], args := [d1, d2] }
  | _ => none }
def HmacLongWrongFalsely : Prop := hmacLongRow.holds Tryd.pinned (OpenSpec.ofChange hmacLongWrong)

/-- 'chroniclelaw07.HmacStreams': WHATEVER THE INPUT: true; the input reads as it did. -/
def hmacStreamsSpec : ChangeSpec := { name := "hmacStreams", fn := fun _ => fun
  | [d1, d2] => { results := [.lit (.bool true)], args := [d1, d2] }
  | _ => none }
def hmacStreamsRow : OpenClaim := { program := "ytahlllbigkgobaadoor", sum := "c63d5490f4d76f8f691212ab82cf1ddc3392713c09732cfa7175db89571b7e0b", func := "chronicle/chroniclelaw07.HmacStreams", spec := "hmacStreams", named := ["chronicle/sha256.first", "chronicle/sha256.constants"], apart := false, laid := [("chronicle/sha256.first", laid_chronicle_sha256_first), ("chronicle/sha256.constants", laid_chronicle_sha256_constants)] }
def HmacStreamsSaid : Prop := hmacStreamsRow.holds Tryd.pinned (OpenSpec.ofChange hmacStreamsSpec)

/-- ITS FALSE NEIGHBOUR: 'it returns false'. Refute it at one input. -/
def hmacStreamsWrong : ChangeSpec := { name := "hmacStreams", fn := fun _ => fun
  | [d1, d2] => { results := [.lit (.bool false)], args := [d1, d2] }
  | _ => none }
def HmacStreamsWrongFalsely : Prop := hmacStreamsRow.holds Tryd.pinned (OpenSpec.ofChange hmacStreamsWrong)

/-- 'chroniclelaw07.HmacParts': WHATEVER THE INPUT: true; the input reads as it did. -/
def hmacPartsSpec : ChangeSpec := { name := "hmacParts", fn := fun _ => fun
  | [d1, d2, d3] => { results := [.lit (.bool true)], args := [d1, d2, d3] }
  | _ => none }
def hmacPartsRow : OpenClaim := { program := "ytahlllbigkgobaadoor", sum := "c63d5490f4d76f8f691212ab82cf1ddc3392713c09732cfa7175db89571b7e0b", func := "chronicle/chroniclelaw07.HmacParts", spec := "hmacParts", named := ["chronicle/sha256.first", "chronicle/sha256.constants"], apart := false, laid := [("chronicle/sha256.first", laid_chronicle_sha256_first), ("chronicle/sha256.constants", laid_chronicle_sha256_constants)] }
def HmacPartsSaid : Prop := hmacPartsRow.holds Tryd.pinned (OpenSpec.ofChange hmacPartsSpec)

/-- ITS FALSE NEIGHBOUR: 'it returns false'. Refute it at one input. -/
def hmacPartsWrong : ChangeSpec := { name := "hmacParts", fn := fun _ => fun
  | [d1, d2, d3] => { results := [.lit (.bool false)], args := [d1, d2, d3] }
  | _ => none }
def HmacPartsWrongFalsely : Prop := hmacPartsRow.holds Tryd.pinned (OpenSpec.ofChange hmacPartsWrong)

/-- 'chroniclelaw07.HmacNil': WHATEVER THE INPUT: true; the input reads as it did. -/
def hmacNilSpec : ChangeSpec := { name := "hmacNil", fn := fun _ => fun
  | [d] => { results := [.lit (.bool true)], args := [d] }
  | _ => none }
def hmacNilRow : OpenClaim := { program := "ytahlllbigkgobaadoor", sum := "c63d5490f4d76f8f691212ab82cf1ddc3392713c09732cfa7175db89571b7e0b", func := "chronicle/chroniclelaw07.HmacNil", spec := "hmacNil", named := ["chronicle/sha256.first", "chronicle/sha256.constants"], apart := false, laid := [("chronicle/sha256.first", laid_chronicle_sha256_first), ("chronicle/sha256.constants", laid_chronicle_sha256_constants)] }
def HmacNilSaid : Prop := hmacNilRow.holds Tryd.pinned (OpenSpec.ofChange hmacNilSpec)

/-- ITS FALSE NEIGHBOUR: 'it returns false'. Refute it at one input. -/
def hmacNilWrong : ChangeSpec := { name := "hmacNil", fn := fun _ => fun
  | [d] => { results := [.lit (.bool false)], args := [d] }
  | _ => none }
def HmacNilWrongFalsely : Prop := hmacNilRow.holds Tryd.pinned (OpenSpec.ofChange hmacNilWrong)

/- THE SECOND FORM. 'bulk': how many values and letters a reading holds, each counted each time it is reached (what is shared counts as often as it is met; a slice's spare places count too). A statement '..UptoSaid' is the law's where the arguments, and the package variables that the reading takes, are together of bulk at most 1048576: NARROWER than '..Said'. Prove '..Said' where nothing that the law and all that it calls make is longer than what came in: it says more and counts as full. Else prove '..UptoSaid'. A law counts once. -/
mutual
def uptoBulk {H : Type} : DataW H → Nat
  | .lit (.string bytes) => bytes.length + 1
  | .lit _ => 1
  | .nil => 1
  | .ptr d => uptoBulk d + 1
  | .slice elems spare => uptoBulkAll elems + uptoBulkAll spare + 1
  | .agg parts => uptoBulkAll parts + 1
  | .iface _ d => uptoBulk d + 1
  | .map entries => uptoBulkEntries entries + 1
  | .held _ => 1
def uptoBulkAll {H : Type} : List (DataW H) → Nat
  | [] => 0
  | d :: r => uptoBulk d + uptoBulkAll r
def uptoBulkEntries {H : Type} : List (Lit × DataW H) → Nat
  | [] => 0
  | x :: r => uptoBulkEntry x + uptoBulkEntries r
def uptoBulkEntry {H : Type} : Lit × DataW H → Nat
  | (.string bytes, d) => bytes.length + uptoBulk d + 1
  | (_, d) => uptoBulk d + 1
 end
def uptoSmall : (H : Type) → List (DataW H) → Bool := fun _ ds => decide (uptoBulkAll ds ≤ 1048576)
def OpenSpec.upto (s : _root_.Go.ChangeSpec) : _root_.Go.OpenSpec := { _root_.Go.OpenSpec.ofChange s with cond := some uptoSmall }

/-- 'chroniclelaw05.Sha256Sums', WHERE WHAT IT READS IS OF BULK AT MOST 1048576: true; the input reads as it did. -/
def sha256SumsUptoRow : OpenClaim := { program := "ytahlllbigkgobaadoor", sum := "c63d5490f4d76f8f691212ab82cf1ddc3392713c09732cfa7175db89571b7e0b", func := "chronicle/chroniclelaw05.Sha256Sums", spec := "sha256Sums", named := ["chronicle/sha256.first", "chronicle/sha256.constants"], apart := false, laid := [("chronicle/sha256.first", laid_chronicle_sha256_first), ("chronicle/sha256.constants", laid_chronicle_sha256_constants)], narrowed := true }
def Sha256SumsUptoSaid : Prop := sha256SumsUptoRow.holds Tryd.pinned (OpenSpec.upto sha256SumsSpec)

/-- 'chroniclelaw05.Sha256Parts', WHERE WHAT IT READS IS OF BULK AT MOST 1048576: true; the input reads as it did. -/
def sha256PartsUptoRow : OpenClaim := { program := "ytahlllbigkgobaadoor", sum := "c63d5490f4d76f8f691212ab82cf1ddc3392713c09732cfa7175db89571b7e0b", func := "chronicle/chroniclelaw05.Sha256Parts", spec := "sha256Parts", named := ["chronicle/sha256.first", "chronicle/sha256.constants"], apart := false, laid := [("chronicle/sha256.first", laid_chronicle_sha256_first), ("chronicle/sha256.constants", laid_chronicle_sha256_constants)], narrowed := true }
def Sha256PartsUptoSaid : Prop := sha256PartsUptoRow.holds Tryd.pinned (OpenSpec.upto sha256PartsSpec)

/-- 'chroniclelaw05.Sha256Same', WHERE WHAT IT READS IS OF BULK AT MOST 1048576: true; the input reads as it did. -/
def sha256SameUptoRow : OpenClaim := { program := "ytahlllbigkgobaadoor", sum := "c63d5490f4d76f8f691212ab82cf1ddc3392713c09732cfa7175db89571b7e0b", func := "chronicle/chroniclelaw05.Sha256Same", spec := "sha256Same", named := ["chronicle/sha256.first", "chronicle/sha256.constants"], apart := false, laid := [("chronicle/sha256.first", laid_chronicle_sha256_first), ("chronicle/sha256.constants", laid_chronicle_sha256_constants)], narrowed := true }
def Sha256SameUptoSaid : Prop := sha256SameUptoRow.holds Tryd.pinned (OpenSpec.upto sha256SameSpec)

/-- 'chroniclelaw05.Sha256Nil', WHERE WHAT IT READS IS OF BULK AT MOST 1048576: true; the input reads as it did. -/
def sha256NilUptoRow : OpenClaim := { program := "ytahlllbigkgobaadoor", sum := "c63d5490f4d76f8f691212ab82cf1ddc3392713c09732cfa7175db89571b7e0b", func := "chronicle/chroniclelaw05.Sha256Nil", spec := "sha256Nil", named := ["chronicle/sha256.first", "chronicle/sha256.constants"], apart := false, laid := [("chronicle/sha256.first", laid_chronicle_sha256_first), ("chronicle/sha256.constants", laid_chronicle_sha256_constants)], narrowed := true }
def Sha256NilUptoSaid : Prop := sha256NilUptoRow.holds Tryd.pinned (OpenSpec.upto sha256NilSpec)

/-- 'chroniclelaw05.Sha256Bytes', WHERE WHAT IT READS IS OF BULK AT MOST 1048576: true; the input reads as it did. -/
def sha256BytesUptoRow : OpenClaim := { program := "ytahlllbigkgobaadoor", sum := "c63d5490f4d76f8f691212ab82cf1ddc3392713c09732cfa7175db89571b7e0b", func := "chronicle/chroniclelaw05.Sha256Bytes", spec := "sha256Bytes", named := ["chronicle/sha256.first", "chronicle/sha256.constants"], apart := false, laid := [("chronicle/sha256.first", laid_chronicle_sha256_first), ("chronicle/sha256.constants", laid_chronicle_sha256_constants)], narrowed := true }
def Sha256BytesUptoSaid : Prop := sha256BytesUptoRow.holds Tryd.pinned (OpenSpec.upto sha256BytesSpec)

/-- 'chroniclelaw07.HmacSums', WHERE WHAT IT READS IS OF BULK AT MOST 1048576: true; the input reads as it did. -/
def hmacSumsUptoRow : OpenClaim := { program := "ytahlllbigkgobaadoor", sum := "c63d5490f4d76f8f691212ab82cf1ddc3392713c09732cfa7175db89571b7e0b", func := "chronicle/chroniclelaw07.HmacSums", spec := "hmacSums", named := ["chronicle/sha256.first", "chronicle/sha256.constants"], apart := false, laid := [("chronicle/sha256.first", laid_chronicle_sha256_first), ("chronicle/sha256.constants", laid_chronicle_sha256_constants)], narrowed := true }
def HmacSumsUptoSaid : Prop := hmacSumsUptoRow.holds Tryd.pinned (OpenSpec.upto hmacSumsSpec)

/-- 'chroniclelaw07.HmacLong', WHERE WHAT IT READS IS OF BULK AT MOST 1048576: true; the input reads as it did. -/
def hmacLongUptoRow : OpenClaim := { program := "ytahlllbigkgobaadoor", sum := "c63d5490f4d76f8f691212ab82cf1ddc3392713c09732cfa7175db89571b7e0b", func := "chronicle/chroniclelaw07.HmacLong", spec := "hmacLong", named := ["chronicle/sha256.first", "chronicle/sha256.constants"], apart := false, laid := [("chronicle/sha256.first", laid_chronicle_sha256_first), ("chronicle/sha256.constants", laid_chronicle_sha256_constants)], narrowed := true }
def HmacLongUptoSaid : Prop := hmacLongUptoRow.holds Tryd.pinned (OpenSpec.upto hmacLongSpec)

/-- 'chroniclelaw07.HmacStreams', WHERE WHAT IT READS IS OF BULK AT MOST 1048576: true; the input reads as it did. -/
def hmacStreamsUptoRow : OpenClaim := { program := "ytahlllbigkgobaadoor", sum := "c63d5490f4d76f8f691212ab82cf1ddc3392713c09732cfa7175db89571b7e0b", func := "chronicle/chroniclelaw07.HmacStreams", spec := "hmacStreams", named := ["chronicle/sha256.first", "chronicle/sha256.constants"], apart := false, laid := [("chronicle/sha256.first", laid_chronicle_sha256_first), ("chronicle/sha256.constants", laid_chronicle_sha256_constants)], narrowed := true }
def HmacStreamsUptoSaid : Prop := hmacStreamsUptoRow.holds Tryd.pinned (OpenSpec.upto hmacStreamsSpec)

/-- 'chroniclelaw07.HmacParts', WHERE WHAT IT READS IS OF BULK AT MOST 1048576: true; the input reads as it did. -/
def hmacPartsUptoRow : OpenClaim := { program := "ytahlllbigkgobaadoor", sum := "c63d5490f4d76f8f691212ab82cf1ddc3392713c09732cfa7175db89571b7e0b", func := "chronicle/chroniclelaw07.HmacParts", spec := "hmacParts", named := ["chronicle/sha256.first", "chronicle/sha256.constants"], apart := false, laid := [("chronicle/sha256.first", laid_chronicle_sha256_first), ("chronicle/sha256.constants", laid_chronicle_sha256_constants)], narrowed := true }
def HmacPartsUptoSaid : Prop := hmacPartsUptoRow.holds Tryd.pinned (OpenSpec.upto hmacPartsSpec)

/-- 'chroniclelaw07.HmacNil', WHERE WHAT IT READS IS OF BULK AT MOST 1048576: true; the input reads as it did. -/
def hmacNilUptoRow : OpenClaim := { program := "ytahlllbigkgobaadoor", sum := "c63d5490f4d76f8f691212ab82cf1ddc3392713c09732cfa7175db89571b7e0b", func := "chronicle/chroniclelaw07.HmacNil", spec := "hmacNil", named := ["chronicle/sha256.first", "chronicle/sha256.constants"], apart := false, laid := [("chronicle/sha256.first", laid_chronicle_sha256_first), ("chronicle/sha256.constants", laid_chronicle_sha256_constants)], narrowed := true }
def HmacNilUptoSaid : Prop := hmacNilUptoRow.holds Tryd.pinned (OpenSpec.upto hmacNilSpec)

end Rows
end Go.Proofs.YtahlllbigkgobaaDoor
