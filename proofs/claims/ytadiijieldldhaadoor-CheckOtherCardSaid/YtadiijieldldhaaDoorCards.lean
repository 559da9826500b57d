/-
  DERIVED. GIVEN WITH THE SEED: THE CARDS: each row of YtadiijieldldhaaDoorRows.lean that lists a variable, with what it lists TIED to the program's text (the seventh form; the later family's looks); each row that meets fmt, with fmt's text TOLD by the authors' own Lean function (tested against real Go, not proved from fmt's source: count such statements apart). THE CARD IS WHAT COUNTS. Prove the row's statement (the work); the ties are given (YtadiijieldldhaaDoorTie.lean); close each card by the builder's one call (the guide's Derived/Test/ToyasCard.lean, 'card_holds'). Laid BY PROGRAM, IN A SANDBOX (cutbox-door.mjs). By AI agents, Wed Nov 11 2026. No macro, syntax, notation, axiom, sorry.
-/
import Derived.Test.YtadiijieldldhaaDoorRows
import GoSem.ClaimSeven
namespace Go.Proofs.YtadiijieldldhaaDoor
namespace Rows

/-- THE TIED CARD OF 'chroniclelaw19.CheckPaths'. -/
def checkPathsCard : Claim7 := { stood := { row := checkPathsRow, standIns := [], harness := (true, "6dfc4097fe2b325d3ca96cff3a73bc8fc823e458def25ecfe523e24ce39b8cef"), looks := false }, kinds := [], alts := [], laidByText := true, laidKinds := [.data, .data], laidTests := true, laidLooks := .later }
def CheckPathsCardSaid : Prop := Claim7.holds Tryd.pinned (.plain (OpenSpec.ofChange checkPathsSpec)) checkPathsCard

/-- THE TIED CARD OF 'chroniclelaw20.ClashNone'. -/
def clashNoneCard : Claim7 := { stood := { row := clashNoneRow, standIns := [], harness := (true, "6dfc4097fe2b325d3ca96cff3a73bc8fc823e458def25ecfe523e24ce39b8cef"), looks := false }, kinds := [], alts := [], laidByText := true, laidKinds := [.data, .data], laidTests := true, laidLooks := .later }
def ClashNoneCardSaid : Prop := Claim7.holds Tryd.pinned (.plain (OpenSpec.ofChange clashNoneSpec)) clashNoneCard

/-- THE TIED CARD OF 'chroniclelaw20.ClashPlaces'. -/
def clashPlacesCard : Claim7 := { stood := { row := clashPlacesRow, standIns := [], harness := (true, "6dfc4097fe2b325d3ca96cff3a73bc8fc823e458def25ecfe523e24ce39b8cef"), looks := false }, kinds := [], alts := [], laidByText := true, laidKinds := [.data, .data], laidTests := true, laidLooks := .later }
def ClashPlacesCardSaid : Prop := Claim7.holds Tryd.pinned (.plain (OpenSpec.ofChange clashPlacesSpec)) clashPlacesCard

/-- THE TIED CARD OF 'chroniclelaw19.CheckProofs'. -/
def checkProofsCard : Claim7 := { stood := { row := checkProofsRow, standIns := [], harness := (true, "6dfc4097fe2b325d3ca96cff3a73bc8fc823e458def25ecfe523e24ce39b8cef"), looks := false }, kinds := [], alts := [], laidByText := true, laidKinds := [.data, .data], laidTests := true, laidLooks := .later }
def CheckProofsCardSaid : Prop := Claim7.holds Tryd.pinned (.plain (OpenSpec.ofChange checkProofsSpec)) checkProofsCard

/-- THE TIED CARD OF 'chroniclelaw19.CheckRight'. -/
def checkRightCard : Claim7 := { stood := { row := checkRightRow, standIns := [], harness := (true, "6dfc4097fe2b325d3ca96cff3a73bc8fc823e458def25ecfe523e24ce39b8cef"), looks := false }, kinds := [], alts := [], laidByText := true, laidKinds := [.data, .data], laidTests := true, laidLooks := .later }
def CheckRightCardSaid : Prop := Claim7.holds Tryd.pinned (.plain (OpenSpec.ofChange checkRightSpec)) checkRightCard

/-- THE TIED CARD OF 'chroniclelaw19.CheckOther'. -/
def checkOtherCard : Claim7 := { stood := { row := checkOtherRow, standIns := [], harness := (true, "6dfc4097fe2b325d3ca96cff3a73bc8fc823e458def25ecfe523e24ce39b8cef"), looks := false }, kinds := [], alts := [], laidByText := true, laidKinds := [.data, .data], laidTests := true, laidLooks := .later }
def CheckOtherCardSaid : Prop := Claim7.holds Tryd.pinned (.plain (OpenSpec.ofChange checkOtherSpec)) checkOtherCard

/-- THE TIED CARD OF 'chroniclelaw19.CheckAll'. -/
def checkAllCard : Claim7 := { stood := { row := checkAllRow, standIns := [], harness := (true, "6dfc4097fe2b325d3ca96cff3a73bc8fc823e458def25ecfe523e24ce39b8cef"), looks := false }, kinds := [], alts := [], laidByText := true, laidKinds := [.data, .data], laidTests := true, laidLooks := .later }
def CheckAllCardSaid : Prop := Claim7.holds Tryd.pinned (.plain (OpenSpec.ofChange checkAllSpec)) checkAllCard

/-- THE TIED CARD OF 'chroniclelaw20.ClashPaths'. -/
def clashPathsCard : Claim7 := { stood := { row := clashPathsRow, standIns := [], harness := (true, "6dfc4097fe2b325d3ca96cff3a73bc8fc823e458def25ecfe523e24ce39b8cef"), looks := false }, kinds := [], alts := [], laidByText := true, laidKinds := [.data, .data], laidTests := true, laidLooks := .later }
def ClashPathsCardSaid : Prop := Claim7.holds Tryd.pinned (.plain (OpenSpec.ofChange clashPathsSpec)) clashPathsCard

/-- THE TIED CARD OF 'chroniclelaw20.ClashProofs'. -/
def clashProofsCard : Claim7 := { stood := { row := clashProofsRow, standIns := [], harness := (true, "6dfc4097fe2b325d3ca96cff3a73bc8fc823e458def25ecfe523e24ce39b8cef"), looks := false }, kinds := [], alts := [], laidByText := true, laidKinds := [.data, .data], laidTests := true, laidLooks := .later }
def ClashProofsCardSaid : Prop := Claim7.holds Tryd.pinned (.plain (OpenSpec.ofChange clashProofsSpec)) clashProofsCard

/-- THE SECOND FORM's CARD OF 'chroniclelaw19.CheckPaths'. -/
def checkPathsUptoCard : Claim7 := { stood := { row := checkPathsUptoRow, standIns := [], harness := (true, "6dfc4097fe2b325d3ca96cff3a73bc8fc823e458def25ecfe523e24ce39b8cef"), looks := false }, kinds := [], alts := [], laidByText := true, laidKinds := [.data, .data], laidTests := true, laidLooks := .later }
def CheckPathsUptoCardSaid : Prop := Claim7.holds Tryd.pinned (.plain (OpenSpec.upto checkPathsSpec)) checkPathsUptoCard

/-- THE SECOND FORM's CARD OF 'chroniclelaw20.ClashNone'. -/
def clashNoneUptoCard : Claim7 := { stood := { row := clashNoneUptoRow, standIns := [], harness := (true, "6dfc4097fe2b325d3ca96cff3a73bc8fc823e458def25ecfe523e24ce39b8cef"), looks := false }, kinds := [], alts := [], laidByText := true, laidKinds := [.data, .data], laidTests := true, laidLooks := .later }
def ClashNoneUptoCardSaid : Prop := Claim7.holds Tryd.pinned (.plain (OpenSpec.upto clashNoneSpec)) clashNoneUptoCard

/-- THE SECOND FORM's CARD OF 'chroniclelaw20.ClashPlaces'. -/
def clashPlacesUptoCard : Claim7 := { stood := { row := clashPlacesUptoRow, standIns := [], harness := (true, "6dfc4097fe2b325d3ca96cff3a73bc8fc823e458def25ecfe523e24ce39b8cef"), looks := false }, kinds := [], alts := [], laidByText := true, laidKinds := [.data, .data], laidTests := true, laidLooks := .later }
def ClashPlacesUptoCardSaid : Prop := Claim7.holds Tryd.pinned (.plain (OpenSpec.upto clashPlacesSpec)) clashPlacesUptoCard

/-- THE SECOND FORM's CARD OF 'chroniclelaw19.CheckProofs'. -/
def checkProofsUptoCard : Claim7 := { stood := { row := checkProofsUptoRow, standIns := [], harness := (true, "6dfc4097fe2b325d3ca96cff3a73bc8fc823e458def25ecfe523e24ce39b8cef"), looks := false }, kinds := [], alts := [], laidByText := true, laidKinds := [.data, .data], laidTests := true, laidLooks := .later }
def CheckProofsUptoCardSaid : Prop := Claim7.holds Tryd.pinned (.plain (OpenSpec.upto checkProofsSpec)) checkProofsUptoCard

/-- THE SECOND FORM's CARD OF 'chroniclelaw19.CheckRight'. -/
def checkRightUptoCard : Claim7 := { stood := { row := checkRightUptoRow, standIns := [], harness := (true, "6dfc4097fe2b325d3ca96cff3a73bc8fc823e458def25ecfe523e24ce39b8cef"), looks := false }, kinds := [], alts := [], laidByText := true, laidKinds := [.data, .data], laidTests := true, laidLooks := .later }
def CheckRightUptoCardSaid : Prop := Claim7.holds Tryd.pinned (.plain (OpenSpec.upto checkRightSpec)) checkRightUptoCard

/-- THE SECOND FORM's CARD OF 'chroniclelaw19.CheckOther'. -/
def checkOtherUptoCard : Claim7 := { stood := { row := checkOtherUptoRow, standIns := [], harness := (true, "6dfc4097fe2b325d3ca96cff3a73bc8fc823e458def25ecfe523e24ce39b8cef"), looks := false }, kinds := [], alts := [], laidByText := true, laidKinds := [.data, .data], laidTests := true, laidLooks := .later }
def CheckOtherUptoCardSaid : Prop := Claim7.holds Tryd.pinned (.plain (OpenSpec.upto checkOtherSpec)) checkOtherUptoCard

/-- THE SECOND FORM's CARD OF 'chroniclelaw19.CheckAll'. -/
def checkAllUptoCard : Claim7 := { stood := { row := checkAllUptoRow, standIns := [], harness := (true, "6dfc4097fe2b325d3ca96cff3a73bc8fc823e458def25ecfe523e24ce39b8cef"), looks := false }, kinds := [], alts := [], laidByText := true, laidKinds := [.data, .data], laidTests := true, laidLooks := .later }
def CheckAllUptoCardSaid : Prop := Claim7.holds Tryd.pinned (.plain (OpenSpec.upto checkAllSpec)) checkAllUptoCard

/-- THE SECOND FORM's CARD OF 'chroniclelaw20.ClashPaths'. -/
def clashPathsUptoCard : Claim7 := { stood := { row := clashPathsUptoRow, standIns := [], harness := (true, "6dfc4097fe2b325d3ca96cff3a73bc8fc823e458def25ecfe523e24ce39b8cef"), looks := false }, kinds := [], alts := [], laidByText := true, laidKinds := [.data, .data], laidTests := true, laidLooks := .later }
def ClashPathsUptoCardSaid : Prop := Claim7.holds Tryd.pinned (.plain (OpenSpec.upto clashPathsSpec)) clashPathsUptoCard

/-- THE SECOND FORM's CARD OF 'chroniclelaw20.ClashProofs'. -/
def clashProofsUptoCard : Claim7 := { stood := { row := clashProofsUptoRow, standIns := [], harness := (true, "6dfc4097fe2b325d3ca96cff3a73bc8fc823e458def25ecfe523e24ce39b8cef"), looks := false }, kinds := [], alts := [], laidByText := true, laidKinds := [.data, .data], laidTests := true, laidLooks := .later }
def ClashProofsUptoCardSaid : Prop := Claim7.holds Tryd.pinned (.plain (OpenSpec.upto clashProofsSpec)) clashProofsUptoCard
end Rows
end Go.Proofs.YtadiijieldldhaaDoor
