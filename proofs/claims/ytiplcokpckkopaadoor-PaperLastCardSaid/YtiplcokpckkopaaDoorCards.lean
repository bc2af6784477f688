/-
  DERIVED. GIVEN WITH THE SEED: THE CARDS: each row of YtiplcokpckkopaaDoorRows.lean that lists a variable, with what it lists TIED to the program's text (the seventh form; the later family's looks); each row that meets fmt, with fmt's text TOLD by the authors' own Lean function (tested against real Go, not proved from fmt's source: count such statements apart). THE CARD IS WHAT COUNTS. Prove the row's statement (the work); the ties are given (YtiplcokpckkopaaDoorTie.lean); close each card by the builder's one call (the guide's Derived/Test/ToyasCard.lean, 'card_holds'). Laid BY PROGRAM, IN A SANDBOX (cutbox-door.mjs). By AI agents, Wed Nov 11 2026. No macro, syntax, notation, axiom, sorry.
-/
import Derived.Test.YtiplcokpckkopaaDoorRows
import GoSem.ClaimSeven
namespace Go.Proofs.YtiplcokpckkopaaDoor
namespace Rows

/-- THE TIED CARD OF 'partbooklaw27.PaperMatchesReference'. -/
def paperMatchesReferenceCard : Claim7 := { stood := { row := paperMatchesReferenceRow, standIns := [], harness := (true, "f43e0a3739ec3384499617ca40d0b17ac227756ed9d524a5229856f6e52f673a"), looks := false }, kinds := [], alts := [], laidByText := true, laidKinds := [.data, .data, .data], laidTests := true, laidLooks := .later }
def PaperMatchesReferenceCardSaid : Prop := Claim7.holds Tryd.pinned (.plain (OpenSpec.ofChange paperMatchesReferenceSpec)) paperMatchesReferenceCard

/-- THE TIED CARD OF 'partbooklaw27.PaperPrints'. -/
def paperPrintsCard : Claim7 := { stood := { row := paperPrintsRow, standIns := [], harness := (true, "f43e0a3739ec3384499617ca40d0b17ac227756ed9d524a5229856f6e52f673a"), looks := false }, kinds := [], alts := [], laidByText := true, laidKinds := [.data, .data, .data], laidTests := true, laidLooks := .later }
def PaperPrintsCardSaid : Prop := Claim7.holds Tryd.pinned (.plain (OpenSpec.ofChange paperPrintsSpec)) paperPrintsCard

/-- THE TIED CARD OF 'partbooklaw27.PaperMisprints'. -/
def paperMisprintsCard : Claim7 := { stood := { row := paperMisprintsRow, standIns := [], harness := (true, "f43e0a3739ec3384499617ca40d0b17ac227756ed9d524a5229856f6e52f673a"), looks := false }, kinds := [], alts := [], laidByText := true, laidKinds := [.data, .data, .data], laidTests := true, laidLooks := .later }
def PaperMisprintsCardSaid : Prop := Claim7.holds Tryd.pinned (.plain (OpenSpec.ofChange paperMisprintsSpec)) paperMisprintsCard

/-- THE TIED CARD OF 'partbooklaw27.PaperAlone'. -/
def paperAloneCard : Claim7 := { stood := { row := paperAloneRow, standIns := [], harness := (true, "f43e0a3739ec3384499617ca40d0b17ac227756ed9d524a5229856f6e52f673a"), looks := false }, kinds := [], alts := [], laidByText := true, laidKinds := [.data, .data, .data], laidTests := true, laidLooks := .later }
def PaperAloneCardSaid : Prop := Claim7.holds Tryd.pinned (.plain (OpenSpec.ofChange paperAloneSpec)) paperAloneCard

/-- THE TIED CARD OF 'partbooklaw27.PaperLast'. -/
def paperLastCard : Claim7 := { stood := { row := paperLastRow, standIns := [], harness := (true, "f43e0a3739ec3384499617ca40d0b17ac227756ed9d524a5229856f6e52f673a"), looks := false }, kinds := [], alts := [], laidByText := true, laidKinds := [.data, .data, .data], laidTests := true, laidLooks := .later }
def PaperLastCardSaid : Prop := Claim7.holds Tryd.pinned (.plain (OpenSpec.ofChange paperLastSpec)) paperLastCard

/-- THE SECOND FORM's CARD OF 'partbooklaw27.PaperMatchesReference'. -/
def paperMatchesReferenceUptoCard : Claim7 := { stood := { row := paperMatchesReferenceUptoRow, standIns := [], harness := (true, "f43e0a3739ec3384499617ca40d0b17ac227756ed9d524a5229856f6e52f673a"), looks := false }, kinds := [], alts := [], laidByText := true, laidKinds := [.data, .data, .data], laidTests := true, laidLooks := .later }
def PaperMatchesReferenceUptoCardSaid : Prop := Claim7.holds Tryd.pinned (.plain (OpenSpec.upto paperMatchesReferenceSpec)) paperMatchesReferenceUptoCard

/-- THE SECOND FORM's CARD OF 'partbooklaw27.PaperPrints'. -/
def paperPrintsUptoCard : Claim7 := { stood := { row := paperPrintsUptoRow, standIns := [], harness := (true, "f43e0a3739ec3384499617ca40d0b17ac227756ed9d524a5229856f6e52f673a"), looks := false }, kinds := [], alts := [], laidByText := true, laidKinds := [.data, .data, .data], laidTests := true, laidLooks := .later }
def PaperPrintsUptoCardSaid : Prop := Claim7.holds Tryd.pinned (.plain (OpenSpec.upto paperPrintsSpec)) paperPrintsUptoCard

/-- THE SECOND FORM's CARD OF 'partbooklaw27.PaperMisprints'. -/
def paperMisprintsUptoCard : Claim7 := { stood := { row := paperMisprintsUptoRow, standIns := [], harness := (true, "f43e0a3739ec3384499617ca40d0b17ac227756ed9d524a5229856f6e52f673a"), looks := false }, kinds := [], alts := [], laidByText := true, laidKinds := [.data, .data, .data], laidTests := true, laidLooks := .later }
def PaperMisprintsUptoCardSaid : Prop := Claim7.holds Tryd.pinned (.plain (OpenSpec.upto paperMisprintsSpec)) paperMisprintsUptoCard

/-- THE SECOND FORM's CARD OF 'partbooklaw27.PaperAlone'. -/
def paperAloneUptoCard : Claim7 := { stood := { row := paperAloneUptoRow, standIns := [], harness := (true, "f43e0a3739ec3384499617ca40d0b17ac227756ed9d524a5229856f6e52f673a"), looks := false }, kinds := [], alts := [], laidByText := true, laidKinds := [.data, .data, .data], laidTests := true, laidLooks := .later }
def PaperAloneUptoCardSaid : Prop := Claim7.holds Tryd.pinned (.plain (OpenSpec.upto paperAloneSpec)) paperAloneUptoCard

/-- THE SECOND FORM's CARD OF 'partbooklaw27.PaperLast'. -/
def paperLastUptoCard : Claim7 := { stood := { row := paperLastUptoRow, standIns := [], harness := (true, "f43e0a3739ec3384499617ca40d0b17ac227756ed9d524a5229856f6e52f673a"), looks := false }, kinds := [], alts := [], laidByText := true, laidKinds := [.data, .data, .data], laidTests := true, laidLooks := .later }
def PaperLastUptoCardSaid : Prop := Claim7.holds Tryd.pinned (.plain (OpenSpec.upto paperLastSpec)) paperLastUptoCard
end Rows
end Go.Proofs.YtiplcokpckkopaaDoor
