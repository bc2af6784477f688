/-
  DERIVED. GIVEN WITH THE SEED: THE CARDS: each row of YtfbbkknfcmofcaaDoorRows.lean that lists a variable, with what it lists TIED to the program's text (the seventh form; the later family's looks); each row that meets fmt, with fmt's text TOLD by the authors' own Lean function (tested against real Go, not proved from fmt's source: count such statements apart). THE CARD IS WHAT COUNTS. Prove the row's statement (the work); the ties are given (YtfbbkknfcmofcaaDoorTie.lean); close each card by the builder's one call (the guide's Derived/Test/ToyasCard.lean, 'card_holds'). Laid BY PROGRAM, IN A SANDBOX (cutbox-door.mjs). By AI agents, Wed Nov 11 2026. No macro, syntax, notation, axiom, sorry.
-/
import Derived.Test.YtfbbkknfcmofcaaDoorRows
import GoSem.ClaimSeven
namespace Go.Proofs.YtfbbkknfcmofcaaDoor
namespace Rows

/-- THE TIED CARD OF 'partbooklaw38.FrontMatchesReference'. -/
def frontMatchesReferenceCard : Claim7 := { stood := { row := frontMatchesReferenceRow, standIns := [], harness := (true, "c502c08f04683b288be27753206e7fee9abd25a8cae803ca2aa1b17a8d29020e"), looks := false }, kinds := [], alts := [], laidByText := true, laidKinds := [.data, .data, .data], laidTests := true, laidLooks := .later }
def FrontMatchesReferenceCardSaid : Prop := Claim7.holds Tryd.pinned (.plain (OpenSpec.ofChange frontMatchesReferenceSpec)) frontMatchesReferenceCard

/-- THE TIED CARD OF 'partbooklaw38.FrontBetween'. -/
def frontBetweenCard : Claim7 := { stood := { row := frontBetweenRow, standIns := [], harness := (true, "c502c08f04683b288be27753206e7fee9abd25a8cae803ca2aa1b17a8d29020e"), looks := false }, kinds := [], alts := [], laidByText := true, laidKinds := [.data, .data, .data], laidTests := true, laidLooks := .later }
def FrontBetweenCardSaid : Prop := Claim7.holds Tryd.pinned (.plain (OpenSpec.ofChange frontBetweenSpec)) frontBetweenCard

/-- THE TIED CARD OF 'partbooklaw38.FrontLater'. -/
def frontLaterCard : Claim7 := { stood := { row := frontLaterRow, standIns := [], harness := (true, "c502c08f04683b288be27753206e7fee9abd25a8cae803ca2aa1b17a8d29020e"), looks := false }, kinds := [], alts := [], laidByText := true, laidKinds := [.data, .data, .data], laidTests := true, laidLooks := .later }
def FrontLaterCardSaid : Prop := Claim7.holds Tryd.pinned (.plain (OpenSpec.ofChange frontLaterSpec)) frontLaterCard

/-- THE TIED CARD OF 'partbooklaw38.FrontSheets'. -/
def frontSheetsCard : Claim7 := { stood := { row := frontSheetsRow, standIns := [], harness := (true, "c502c08f04683b288be27753206e7fee9abd25a8cae803ca2aa1b17a8d29020e"), looks := false }, kinds := [], alts := [], laidByText := true, laidKinds := [.data, .data, .data], laidTests := true, laidLooks := .later }
def FrontSheetsCardSaid : Prop := Claim7.holds Tryd.pinned (.plain (OpenSpec.ofChange frontSheetsSpec)) frontSheetsCard

/-- THE TIED CARD OF 'partbooklaw38.FrontLast'. -/
def frontLastCard : Claim7 := { stood := { row := frontLastRow, standIns := [], harness := (true, "c502c08f04683b288be27753206e7fee9abd25a8cae803ca2aa1b17a8d29020e"), looks := false }, kinds := [], alts := [], laidByText := true, laidKinds := [.data, .data, .data], laidTests := true, laidLooks := .later }
def FrontLastCardSaid : Prop := Claim7.holds Tryd.pinned (.plain (OpenSpec.ofChange frontLastSpec)) frontLastCard

/-- THE TIED CARD OF 'partbooklaw38.FrontBegins'. -/
def frontBeginsCard : Claim7 := { stood := { row := frontBeginsRow, standIns := [], harness := (true, "c502c08f04683b288be27753206e7fee9abd25a8cae803ca2aa1b17a8d29020e"), looks := false }, kinds := [], alts := [], laidByText := true, laidKinds := [.data, .data, .data], laidTests := true, laidLooks := .later }
def FrontBeginsCardSaid : Prop := Claim7.holds Tryd.pinned (.plain (OpenSpec.ofChange frontBeginsSpec)) frontBeginsCard

/-- THE SECOND FORM's CARD OF 'partbooklaw38.FrontMatchesReference'. -/
def frontMatchesReferenceUptoCard : Claim7 := { stood := { row := frontMatchesReferenceUptoRow, standIns := [], harness := (true, "c502c08f04683b288be27753206e7fee9abd25a8cae803ca2aa1b17a8d29020e"), looks := false }, kinds := [], alts := [], laidByText := true, laidKinds := [.data, .data, .data], laidTests := true, laidLooks := .later }
def FrontMatchesReferenceUptoCardSaid : Prop := Claim7.holds Tryd.pinned (.plain (OpenSpec.upto frontMatchesReferenceSpec)) frontMatchesReferenceUptoCard

/-- THE SECOND FORM's CARD OF 'partbooklaw38.FrontBetween'. -/
def frontBetweenUptoCard : Claim7 := { stood := { row := frontBetweenUptoRow, standIns := [], harness := (true, "c502c08f04683b288be27753206e7fee9abd25a8cae803ca2aa1b17a8d29020e"), looks := false }, kinds := [], alts := [], laidByText := true, laidKinds := [.data, .data, .data], laidTests := true, laidLooks := .later }
def FrontBetweenUptoCardSaid : Prop := Claim7.holds Tryd.pinned (.plain (OpenSpec.upto frontBetweenSpec)) frontBetweenUptoCard

/-- THE SECOND FORM's CARD OF 'partbooklaw38.FrontLater'. -/
def frontLaterUptoCard : Claim7 := { stood := { row := frontLaterUptoRow, standIns := [], harness := (true, "c502c08f04683b288be27753206e7fee9abd25a8cae803ca2aa1b17a8d29020e"), looks := false }, kinds := [], alts := [], laidByText := true, laidKinds := [.data, .data, .data], laidTests := true, laidLooks := .later }
def FrontLaterUptoCardSaid : Prop := Claim7.holds Tryd.pinned (.plain (OpenSpec.upto frontLaterSpec)) frontLaterUptoCard

/-- THE SECOND FORM's CARD OF 'partbooklaw38.FrontSheets'. -/
def frontSheetsUptoCard : Claim7 := { stood := { row := frontSheetsUptoRow, standIns := [], harness := (true, "c502c08f04683b288be27753206e7fee9abd25a8cae803ca2aa1b17a8d29020e"), looks := false }, kinds := [], alts := [], laidByText := true, laidKinds := [.data, .data, .data], laidTests := true, laidLooks := .later }
def FrontSheetsUptoCardSaid : Prop := Claim7.holds Tryd.pinned (.plain (OpenSpec.upto frontSheetsSpec)) frontSheetsUptoCard

/-- THE SECOND FORM's CARD OF 'partbooklaw38.FrontLast'. -/
def frontLastUptoCard : Claim7 := { stood := { row := frontLastUptoRow, standIns := [], harness := (true, "c502c08f04683b288be27753206e7fee9abd25a8cae803ca2aa1b17a8d29020e"), looks := false }, kinds := [], alts := [], laidByText := true, laidKinds := [.data, .data, .data], laidTests := true, laidLooks := .later }
def FrontLastUptoCardSaid : Prop := Claim7.holds Tryd.pinned (.plain (OpenSpec.upto frontLastSpec)) frontLastUptoCard

/-- THE SECOND FORM's CARD OF 'partbooklaw38.FrontBegins'. -/
def frontBeginsUptoCard : Claim7 := { stood := { row := frontBeginsUptoRow, standIns := [], harness := (true, "c502c08f04683b288be27753206e7fee9abd25a8cae803ca2aa1b17a8d29020e"), looks := false }, kinds := [], alts := [], laidByText := true, laidKinds := [.data, .data, .data], laidTests := true, laidLooks := .later }
def FrontBeginsUptoCardSaid : Prop := Claim7.holds Tryd.pinned (.plain (OpenSpec.upto frontBeginsSpec)) frontBeginsUptoCard
end Rows
end Go.Proofs.YtfbbkknfcmofcaaDoor
