/-
  DERIVED. GIVEN WITH THE SEED: THE CARDS: each row of YtgibafageolbnaaDoorRows.lean that lists a variable, with what it lists TIED to the program's text (the seventh form; the later family's looks); each row that meets fmt, with fmt's text TOLD by the authors' own Lean function (tested against real Go, not proved from fmt's source: count such statements apart). THE CARD IS WHAT COUNTS. Prove the row's statement (the work); the ties are given (YtgibafageolbnaaDoorTie.lean); close each card by the builder's one call (the guide's Derived/Test/ToyasCard.lean, 'card_holds'). Laid BY PROGRAM, IN A SANDBOX (cutbox-door.mjs). By AI agents, Wed Nov 11 2026. No macro, syntax, notation, axiom, sorry.
-/
import Derived.Test.YtgibafageolbnaaDoorRows
import GoSem.ClaimSeven
namespace Go.Proofs.YtgibafageolbnaaDoor
namespace Rows

/-- THE TIED CARD OF 'partbooklaw37.SealMatchesReference'. -/
def sealMatchesReferenceCard : Claim7 := { stood := { row := sealMatchesReferenceRow, standIns := [], harness := (true, "a2dc86fc5890cc5861c74c386efcf0ec98b33ab9fb2a9d2243d72006bcb16f64"), looks := false }, kinds := [], alts := [], laidByText := true, laidKinds := [.data, .data, .data], laidTests := true, laidLooks := .later }
def SealMatchesReferenceCardSaid : Prop := Claim7.holds Tryd.pinned (.plain (OpenSpec.ofChange sealMatchesReferenceSpec)) sealMatchesReferenceCard

/-- THE TIED CARD OF 'partbooklaw37.SealAppends'. -/
def sealAppendsCard : Claim7 := { stood := { row := sealAppendsRow, standIns := [], harness := (true, "a2dc86fc5890cc5861c74c386efcf0ec98b33ab9fb2a9d2243d72006bcb16f64"), looks := false }, kinds := [], alts := [], laidByText := true, laidKinds := [.data, .data, .data], laidTests := true, laidLooks := .later }
def SealAppendsCardSaid : Prop := Claim7.holds Tryd.pinned (.plain (OpenSpec.ofChange sealAppendsSpec)) sealAppendsCard

/-- THE TIED CARD OF 'partbooklaw37.SealBegins'. -/
def sealBeginsCard : Claim7 := { stood := { row := sealBeginsRow, standIns := [], harness := (true, "a2dc86fc5890cc5861c74c386efcf0ec98b33ab9fb2a9d2243d72006bcb16f64"), looks := false }, kinds := [], alts := [], laidByText := true, laidKinds := [.data, .data, .data], laidTests := true, laidLooks := .later }
def SealBeginsCardSaid : Prop := Claim7.holds Tryd.pinned (.plain (OpenSpec.ofChange sealBeginsSpec)) sealBeginsCard

/-- THE TIED CARD OF 'partbooklaw37.SealChanged'. -/
def sealChangedCard : Claim7 := { stood := { row := sealChangedRow, standIns := [], harness := (true, "a2dc86fc5890cc5861c74c386efcf0ec98b33ab9fb2a9d2243d72006bcb16f64"), looks := false }, kinds := [], alts := [], laidByText := true, laidKinds := [.data, .data, .data], laidTests := true, laidLooks := .later }
def SealChangedCardSaid : Prop := Claim7.holds Tryd.pinned (.plain (OpenSpec.ofChange sealChangedSpec)) sealChangedCard

/-- THE TIED CARD OF 'partbooklaw37.SealSeals'. -/
def sealSealsCard : Claim7 := { stood := { row := sealSealsRow, standIns := [], harness := (true, "a2dc86fc5890cc5861c74c386efcf0ec98b33ab9fb2a9d2243d72006bcb16f64"), looks := false }, kinds := [], alts := [], laidByText := true, laidKinds := [.data, .data, .data], laidTests := true, laidLooks := .later }
def SealSealsCardSaid : Prop := Claim7.holds Tryd.pinned (.plain (OpenSpec.ofChange sealSealsSpec)) sealSealsCard

/-- THE TIED CARD OF 'partbooklaw37.SealForks'. -/
def sealForksCard : Claim7 := { stood := { row := sealForksRow, standIns := [], harness := (true, "a2dc86fc5890cc5861c74c386efcf0ec98b33ab9fb2a9d2243d72006bcb16f64"), looks := false }, kinds := [], alts := [], laidByText := true, laidKinds := [.data, .data, .data], laidTests := true, laidLooks := .later }
def SealForksCardSaid : Prop := Claim7.holds Tryd.pinned (.plain (OpenSpec.ofChange sealForksSpec)) sealForksCard

/-- THE SECOND FORM's CARD OF 'partbooklaw37.SealMatchesReference'. -/
def sealMatchesReferenceUptoCard : Claim7 := { stood := { row := sealMatchesReferenceUptoRow, standIns := [], harness := (true, "a2dc86fc5890cc5861c74c386efcf0ec98b33ab9fb2a9d2243d72006bcb16f64"), looks := false }, kinds := [], alts := [], laidByText := true, laidKinds := [.data, .data, .data], laidTests := true, laidLooks := .later }
def SealMatchesReferenceUptoCardSaid : Prop := Claim7.holds Tryd.pinned (.plain (OpenSpec.upto sealMatchesReferenceSpec)) sealMatchesReferenceUptoCard

/-- THE SECOND FORM's CARD OF 'partbooklaw37.SealAppends'. -/
def sealAppendsUptoCard : Claim7 := { stood := { row := sealAppendsUptoRow, standIns := [], harness := (true, "a2dc86fc5890cc5861c74c386efcf0ec98b33ab9fb2a9d2243d72006bcb16f64"), looks := false }, kinds := [], alts := [], laidByText := true, laidKinds := [.data, .data, .data], laidTests := true, laidLooks := .later }
def SealAppendsUptoCardSaid : Prop := Claim7.holds Tryd.pinned (.plain (OpenSpec.upto sealAppendsSpec)) sealAppendsUptoCard

/-- THE SECOND FORM's CARD OF 'partbooklaw37.SealBegins'. -/
def sealBeginsUptoCard : Claim7 := { stood := { row := sealBeginsUptoRow, standIns := [], harness := (true, "a2dc86fc5890cc5861c74c386efcf0ec98b33ab9fb2a9d2243d72006bcb16f64"), looks := false }, kinds := [], alts := [], laidByText := true, laidKinds := [.data, .data, .data], laidTests := true, laidLooks := .later }
def SealBeginsUptoCardSaid : Prop := Claim7.holds Tryd.pinned (.plain (OpenSpec.upto sealBeginsSpec)) sealBeginsUptoCard

/-- THE SECOND FORM's CARD OF 'partbooklaw37.SealChanged'. -/
def sealChangedUptoCard : Claim7 := { stood := { row := sealChangedUptoRow, standIns := [], harness := (true, "a2dc86fc5890cc5861c74c386efcf0ec98b33ab9fb2a9d2243d72006bcb16f64"), looks := false }, kinds := [], alts := [], laidByText := true, laidKinds := [.data, .data, .data], laidTests := true, laidLooks := .later }
def SealChangedUptoCardSaid : Prop := Claim7.holds Tryd.pinned (.plain (OpenSpec.upto sealChangedSpec)) sealChangedUptoCard

/-- THE SECOND FORM's CARD OF 'partbooklaw37.SealSeals'. -/
def sealSealsUptoCard : Claim7 := { stood := { row := sealSealsUptoRow, standIns := [], harness := (true, "a2dc86fc5890cc5861c74c386efcf0ec98b33ab9fb2a9d2243d72006bcb16f64"), looks := false }, kinds := [], alts := [], laidByText := true, laidKinds := [.data, .data, .data], laidTests := true, laidLooks := .later }
def SealSealsUptoCardSaid : Prop := Claim7.holds Tryd.pinned (.plain (OpenSpec.upto sealSealsSpec)) sealSealsUptoCard

/-- THE SECOND FORM's CARD OF 'partbooklaw37.SealForks'. -/
def sealForksUptoCard : Claim7 := { stood := { row := sealForksUptoRow, standIns := [], harness := (true, "a2dc86fc5890cc5861c74c386efcf0ec98b33ab9fb2a9d2243d72006bcb16f64"), looks := false }, kinds := [], alts := [], laidByText := true, laidKinds := [.data, .data, .data], laidTests := true, laidLooks := .later }
def SealForksUptoCardSaid : Prop := Claim7.holds Tryd.pinned (.plain (OpenSpec.upto sealForksSpec)) sealForksUptoCard
end Rows
end Go.Proofs.YtgibafageolbnaaDoor
