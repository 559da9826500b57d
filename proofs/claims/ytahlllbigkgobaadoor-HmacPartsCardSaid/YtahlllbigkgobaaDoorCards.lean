/-
  DERIVED. GIVEN WITH THE SEED: THE CARDS: each row of YtahlllbigkgobaaDoorRows.lean that lists a variable, with what it lists TIED to the program's text (the seventh form; the later family's looks); each row that meets fmt, with fmt's text TOLD by the authors' own Lean function (tested against real Go, not proved from fmt's source: count such statements apart). THE CARD IS WHAT COUNTS. Prove the row's statement (the work); the ties are given (YtahlllbigkgobaaDoorTie.lean); close each card by the builder's one call (the guide's Derived/Test/ToyasCard.lean, 'card_holds'). Laid BY PROGRAM, IN A SANDBOX (cutbox-door.mjs). By AI agents, Wed Nov 11 2026. No macro, syntax, notation, axiom, sorry.
-/
import Derived.Test.YtahlllbigkgobaaDoorRows
import GoSem.ClaimSeven
namespace Go.Proofs.YtahlllbigkgobaaDoor
namespace Rows

/-- THE TIED CARD OF 'chroniclelaw05.Sha256Sums'. -/
def sha256SumsCard : Claim7 := { stood := { row := sha256SumsRow, standIns := [], harness := (true, "d48cac694ba4dc00cb22360780aefeb911f81b2dde3e49f71e5253876acc5054"), looks := false }, kinds := [], alts := [], laidByText := true, laidKinds := [.data, .data], laidTests := true, laidLooks := .later }
def Sha256SumsCardSaid : Prop := Claim7.holds Tryd.pinned (.plain (OpenSpec.ofChange sha256SumsSpec)) sha256SumsCard

/-- THE TIED CARD OF 'chroniclelaw05.Sha256Parts'. -/
def sha256PartsCard : Claim7 := { stood := { row := sha256PartsRow, standIns := [], harness := (true, "d48cac694ba4dc00cb22360780aefeb911f81b2dde3e49f71e5253876acc5054"), looks := false }, kinds := [], alts := [], laidByText := true, laidKinds := [.data, .data], laidTests := true, laidLooks := .later }
def Sha256PartsCardSaid : Prop := Claim7.holds Tryd.pinned (.plain (OpenSpec.ofChange sha256PartsSpec)) sha256PartsCard

/-- THE TIED CARD OF 'chroniclelaw05.Sha256Same'. -/
def sha256SameCard : Claim7 := { stood := { row := sha256SameRow, standIns := [], harness := (true, "d48cac694ba4dc00cb22360780aefeb911f81b2dde3e49f71e5253876acc5054"), looks := false }, kinds := [], alts := [], laidByText := true, laidKinds := [.data, .data], laidTests := true, laidLooks := .later }
def Sha256SameCardSaid : Prop := Claim7.holds Tryd.pinned (.plain (OpenSpec.ofChange sha256SameSpec)) sha256SameCard

/-- THE TIED CARD OF 'chroniclelaw05.Sha256Nil'. -/
def sha256NilCard : Claim7 := { stood := { row := sha256NilRow, standIns := [], harness := (true, "d48cac694ba4dc00cb22360780aefeb911f81b2dde3e49f71e5253876acc5054"), looks := false }, kinds := [], alts := [], laidByText := true, laidKinds := [.data, .data], laidTests := true, laidLooks := .later }
def Sha256NilCardSaid : Prop := Claim7.holds Tryd.pinned (.plain (OpenSpec.ofChange sha256NilSpec)) sha256NilCard

/-- THE TIED CARD OF 'chroniclelaw05.Sha256Bytes'. -/
def sha256BytesCard : Claim7 := { stood := { row := sha256BytesRow, standIns := [], harness := (true, "d48cac694ba4dc00cb22360780aefeb911f81b2dde3e49f71e5253876acc5054"), looks := false }, kinds := [], alts := [], laidByText := true, laidKinds := [.data, .data], laidTests := true, laidLooks := .later }
def Sha256BytesCardSaid : Prop := Claim7.holds Tryd.pinned (.plain (OpenSpec.ofChange sha256BytesSpec)) sha256BytesCard

/-- THE TIED CARD OF 'chroniclelaw07.HmacSums'. -/
def hmacSumsCard : Claim7 := { stood := { row := hmacSumsRow, standIns := [], harness := (true, "d48cac694ba4dc00cb22360780aefeb911f81b2dde3e49f71e5253876acc5054"), looks := false }, kinds := [], alts := [], laidByText := true, laidKinds := [.data, .data], laidTests := true, laidLooks := .later }
def HmacSumsCardSaid : Prop := Claim7.holds Tryd.pinned (.plain (OpenSpec.ofChange hmacSumsSpec)) hmacSumsCard

/-- THE TIED CARD OF 'chroniclelaw07.HmacLong'. -/
def hmacLongCard : Claim7 := { stood := { row := hmacLongRow, standIns := [], harness := (true, "d48cac694ba4dc00cb22360780aefeb911f81b2dde3e49f71e5253876acc5054"), looks := false }, kinds := [], alts := [], laidByText := true, laidKinds := [.data, .data], laidTests := true, laidLooks := .later }
def HmacLongCardSaid : Prop := Claim7.holds Tryd.pinned (.plain (OpenSpec.ofChange hmacLongSpec)) hmacLongCard

/-- THE TIED CARD OF 'chroniclelaw07.HmacStreams'. -/
def hmacStreamsCard : Claim7 := { stood := { row := hmacStreamsRow, standIns := [], harness := (true, "d48cac694ba4dc00cb22360780aefeb911f81b2dde3e49f71e5253876acc5054"), looks := false }, kinds := [], alts := [], laidByText := true, laidKinds := [.data, .data], laidTests := true, laidLooks := .later }
def HmacStreamsCardSaid : Prop := Claim7.holds Tryd.pinned (.plain (OpenSpec.ofChange hmacStreamsSpec)) hmacStreamsCard

/-- THE TIED CARD OF 'chroniclelaw07.HmacParts'. -/
def hmacPartsCard : Claim7 := { stood := { row := hmacPartsRow, standIns := [], harness := (true, "d48cac694ba4dc00cb22360780aefeb911f81b2dde3e49f71e5253876acc5054"), looks := false }, kinds := [], alts := [], laidByText := true, laidKinds := [.data, .data], laidTests := true, laidLooks := .later }
def HmacPartsCardSaid : Prop := Claim7.holds Tryd.pinned (.plain (OpenSpec.ofChange hmacPartsSpec)) hmacPartsCard

/-- THE TIED CARD OF 'chroniclelaw07.HmacNil'. -/
def hmacNilCard : Claim7 := { stood := { row := hmacNilRow, standIns := [], harness := (true, "d48cac694ba4dc00cb22360780aefeb911f81b2dde3e49f71e5253876acc5054"), looks := false }, kinds := [], alts := [], laidByText := true, laidKinds := [.data, .data], laidTests := true, laidLooks := .later }
def HmacNilCardSaid : Prop := Claim7.holds Tryd.pinned (.plain (OpenSpec.ofChange hmacNilSpec)) hmacNilCard

/-- THE SECOND FORM's CARD OF 'chroniclelaw05.Sha256Sums'. -/
def sha256SumsUptoCard : Claim7 := { stood := { row := sha256SumsUptoRow, standIns := [], harness := (true, "d48cac694ba4dc00cb22360780aefeb911f81b2dde3e49f71e5253876acc5054"), looks := false }, kinds := [], alts := [], laidByText := true, laidKinds := [.data, .data], laidTests := true, laidLooks := .later }
def Sha256SumsUptoCardSaid : Prop := Claim7.holds Tryd.pinned (.plain (OpenSpec.upto sha256SumsSpec)) sha256SumsUptoCard

/-- THE SECOND FORM's CARD OF 'chroniclelaw05.Sha256Parts'. -/
def sha256PartsUptoCard : Claim7 := { stood := { row := sha256PartsUptoRow, standIns := [], harness := (true, "d48cac694ba4dc00cb22360780aefeb911f81b2dde3e49f71e5253876acc5054"), looks := false }, kinds := [], alts := [], laidByText := true, laidKinds := [.data, .data], laidTests := true, laidLooks := .later }
def Sha256PartsUptoCardSaid : Prop := Claim7.holds Tryd.pinned (.plain (OpenSpec.upto sha256PartsSpec)) sha256PartsUptoCard

/-- THE SECOND FORM's CARD OF 'chroniclelaw05.Sha256Same'. -/
def sha256SameUptoCard : Claim7 := { stood := { row := sha256SameUptoRow, standIns := [], harness := (true, "d48cac694ba4dc00cb22360780aefeb911f81b2dde3e49f71e5253876acc5054"), looks := false }, kinds := [], alts := [], laidByText := true, laidKinds := [.data, .data], laidTests := true, laidLooks := .later }
def Sha256SameUptoCardSaid : Prop := Claim7.holds Tryd.pinned (.plain (OpenSpec.upto sha256SameSpec)) sha256SameUptoCard

/-- THE SECOND FORM's CARD OF 'chroniclelaw05.Sha256Nil'. -/
def sha256NilUptoCard : Claim7 := { stood := { row := sha256NilUptoRow, standIns := [], harness := (true, "d48cac694ba4dc00cb22360780aefeb911f81b2dde3e49f71e5253876acc5054"), looks := false }, kinds := [], alts := [], laidByText := true, laidKinds := [.data, .data], laidTests := true, laidLooks := .later }
def Sha256NilUptoCardSaid : Prop := Claim7.holds Tryd.pinned (.plain (OpenSpec.upto sha256NilSpec)) sha256NilUptoCard

/-- THE SECOND FORM's CARD OF 'chroniclelaw05.Sha256Bytes'. -/
def sha256BytesUptoCard : Claim7 := { stood := { row := sha256BytesUptoRow, standIns := [], harness := (true, "d48cac694ba4dc00cb22360780aefeb911f81b2dde3e49f71e5253876acc5054"), looks := false }, kinds := [], alts := [], laidByText := true, laidKinds := [.data, .data], laidTests := true, laidLooks := .later }
def Sha256BytesUptoCardSaid : Prop := Claim7.holds Tryd.pinned (.plain (OpenSpec.upto sha256BytesSpec)) sha256BytesUptoCard

/-- THE SECOND FORM's CARD OF 'chroniclelaw07.HmacSums'. -/
def hmacSumsUptoCard : Claim7 := { stood := { row := hmacSumsUptoRow, standIns := [], harness := (true, "d48cac694ba4dc00cb22360780aefeb911f81b2dde3e49f71e5253876acc5054"), looks := false }, kinds := [], alts := [], laidByText := true, laidKinds := [.data, .data], laidTests := true, laidLooks := .later }
def HmacSumsUptoCardSaid : Prop := Claim7.holds Tryd.pinned (.plain (OpenSpec.upto hmacSumsSpec)) hmacSumsUptoCard

/-- THE SECOND FORM's CARD OF 'chroniclelaw07.HmacLong'. -/
def hmacLongUptoCard : Claim7 := { stood := { row := hmacLongUptoRow, standIns := [], harness := (true, "d48cac694ba4dc00cb22360780aefeb911f81b2dde3e49f71e5253876acc5054"), looks := false }, kinds := [], alts := [], laidByText := true, laidKinds := [.data, .data], laidTests := true, laidLooks := .later }
def HmacLongUptoCardSaid : Prop := Claim7.holds Tryd.pinned (.plain (OpenSpec.upto hmacLongSpec)) hmacLongUptoCard

/-- THE SECOND FORM's CARD OF 'chroniclelaw07.HmacStreams'. -/
def hmacStreamsUptoCard : Claim7 := { stood := { row := hmacStreamsUptoRow, standIns := [], harness := (true, "d48cac694ba4dc00cb22360780aefeb911f81b2dde3e49f71e5253876acc5054"), looks := false }, kinds := [], alts := [], laidByText := true, laidKinds := [.data, .data], laidTests := true, laidLooks := .later }
def HmacStreamsUptoCardSaid : Prop := Claim7.holds Tryd.pinned (.plain (OpenSpec.upto hmacStreamsSpec)) hmacStreamsUptoCard

/-- THE SECOND FORM's CARD OF 'chroniclelaw07.HmacParts'. -/
def hmacPartsUptoCard : Claim7 := { stood := { row := hmacPartsUptoRow, standIns := [], harness := (true, "d48cac694ba4dc00cb22360780aefeb911f81b2dde3e49f71e5253876acc5054"), looks := false }, kinds := [], alts := [], laidByText := true, laidKinds := [.data, .data], laidTests := true, laidLooks := .later }
def HmacPartsUptoCardSaid : Prop := Claim7.holds Tryd.pinned (.plain (OpenSpec.upto hmacPartsSpec)) hmacPartsUptoCard

/-- THE SECOND FORM's CARD OF 'chroniclelaw07.HmacNil'. -/
def hmacNilUptoCard : Claim7 := { stood := { row := hmacNilUptoRow, standIns := [], harness := (true, "d48cac694ba4dc00cb22360780aefeb911f81b2dde3e49f71e5253876acc5054"), looks := false }, kinds := [], alts := [], laidByText := true, laidKinds := [.data, .data], laidTests := true, laidLooks := .later }
def HmacNilUptoCardSaid : Prop := Claim7.holds Tryd.pinned (.plain (OpenSpec.upto hmacNilSpec)) hmacNilUptoCard
end Rows
end Go.Proofs.YtahlllbigkgobaaDoor
