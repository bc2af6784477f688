/-
  DERIVED. GIVEN WITH THE SEED: THE CARDS: each row of YtiejdafjjneaeaaDoorRows.lean that lists a variable, with what it lists TIED to the program's text (the seventh form; the later family's looks); each row that meets fmt, with fmt's text TOLD by the authors' own Lean function (tested against real Go, not proved from fmt's source: count such statements apart). THE CARD IS WHAT COUNTS. Prove the row's statement (the work); the ties are given (YtiejdafjjneaeaaDoorTie.lean); close each card by the builder's one call (the guide's Derived/Test/ToyasCard.lean, 'card_holds'). Laid BY PROGRAM, IN A SANDBOX (cutbox-door.mjs). By AI agents, Wed Nov 11 2026. No macro, syntax, notation, axiom, sorry.
-/
import Derived.Test.YtiejdafjjneaeaaDoorRows
import GoSem.ClaimSeven
namespace Go.Proofs.YtiejdafjjneaeaaDoor
namespace Rows

/-- THE TIED CARD OF 'partbooklaw04.DigestMatchesReference'. -/
def digestMatchesReferenceCard : Claim7 := { stood := { row := digestMatchesReferenceRow, standIns := [], harness := (true, "e2cf6dc2e203337953b1ab01100477d04a56d3de0dd4b8a40b527af4b0b6d36e"), looks := false }, kinds := [], alts := [], laidByText := true, laidKinds := [.data, .data, .data], laidTests := true, laidLooks := .later }
def DigestMatchesReferenceCardSaid : Prop := Claim7.holds Tryd.pinned (.plain (OpenSpec.ofChange digestMatchesReferenceSpec)) digestMatchesReferenceCard

/-- THE TIED CARD OF 'partbooklaw04.DigestOneByte'. -/
def digestOneByteCard : Claim7 := { stood := { row := digestOneByteRow, standIns := [], harness := (true, "e2cf6dc2e203337953b1ab01100477d04a56d3de0dd4b8a40b527af4b0b6d36e"), looks := false }, kinds := [], alts := [], laidByText := true, laidKinds := [.data, .data, .data], laidTests := true, laidLooks := .later }
def DigestOneByteCardSaid : Prop := Claim7.holds Tryd.pinned (.plain (OpenSpec.ofChange digestOneByteSpec)) digestOneByteCard

/-- THE TIED CARD OF 'partbooklaw04.DigestBehind'. -/
def digestBehindCard : Claim7 := { stood := { row := digestBehindRow, standIns := [], harness := (true, "e2cf6dc2e203337953b1ab01100477d04a56d3de0dd4b8a40b527af4b0b6d36e"), looks := false }, kinds := [], alts := [], laidByText := true, laidKinds := [.data, .data, .data], laidTests := true, laidLooks := .later }
def DigestBehindCardSaid : Prop := Claim7.holds Tryd.pinned (.plain (OpenSpec.ofChange digestBehindSpec)) digestBehindCard

/-- THE TIED CARD OF 'partbooklaw04.DigestTexts'. -/
def digestTextsCard : Claim7 := { stood := { row := digestTextsRow, standIns := [], harness := (true, "e2cf6dc2e203337953b1ab01100477d04a56d3de0dd4b8a40b527af4b0b6d36e"), looks := false }, kinds := [], alts := [], laidByText := true, laidKinds := [.data, .data, .data], laidTests := true, laidLooks := .later }
def DigestTextsCardSaid : Prop := Claim7.holds Tryd.pinned (.plain (OpenSpec.ofChange digestTextsSpec)) digestTextsCard

/-- THE TIED CARD OF 'partbooklaw04.DigestChains'. -/
def digestChainsCard : Claim7 := { stood := { row := digestChainsRow, standIns := [], harness := (true, "e2cf6dc2e203337953b1ab01100477d04a56d3de0dd4b8a40b527af4b0b6d36e"), looks := false }, kinds := [], alts := [], laidByText := true, laidKinds := [.data, .data, .data], laidTests := true, laidLooks := .later }
def DigestChainsCardSaid : Prop := Claim7.holds Tryd.pinned (.plain (OpenSpec.ofChange digestChainsSpec)) digestChainsCard

/-- THE TIED CARD OF 'partbooklaw04.DigestLast'. -/
def digestLastCard : Claim7 := { stood := { row := digestLastRow, standIns := [], harness := (true, "e2cf6dc2e203337953b1ab01100477d04a56d3de0dd4b8a40b527af4b0b6d36e"), looks := false }, kinds := [], alts := [], laidByText := true, laidKinds := [.data, .data, .data], laidTests := true, laidLooks := .later }
def DigestLastCardSaid : Prop := Claim7.holds Tryd.pinned (.plain (OpenSpec.ofChange digestLastSpec)) digestLastCard

/-- THE SECOND FORM's CARD OF 'partbooklaw04.DigestMatchesReference'. -/
def digestMatchesReferenceUptoCard : Claim7 := { stood := { row := digestMatchesReferenceUptoRow, standIns := [], harness := (true, "e2cf6dc2e203337953b1ab01100477d04a56d3de0dd4b8a40b527af4b0b6d36e"), looks := false }, kinds := [], alts := [], laidByText := true, laidKinds := [.data, .data, .data], laidTests := true, laidLooks := .later }
def DigestMatchesReferenceUptoCardSaid : Prop := Claim7.holds Tryd.pinned (.plain (OpenSpec.upto digestMatchesReferenceSpec)) digestMatchesReferenceUptoCard

/-- THE SECOND FORM's CARD OF 'partbooklaw04.DigestOneByte'. -/
def digestOneByteUptoCard : Claim7 := { stood := { row := digestOneByteUptoRow, standIns := [], harness := (true, "e2cf6dc2e203337953b1ab01100477d04a56d3de0dd4b8a40b527af4b0b6d36e"), looks := false }, kinds := [], alts := [], laidByText := true, laidKinds := [.data, .data, .data], laidTests := true, laidLooks := .later }
def DigestOneByteUptoCardSaid : Prop := Claim7.holds Tryd.pinned (.plain (OpenSpec.upto digestOneByteSpec)) digestOneByteUptoCard

/-- THE SECOND FORM's CARD OF 'partbooklaw04.DigestBehind'. -/
def digestBehindUptoCard : Claim7 := { stood := { row := digestBehindUptoRow, standIns := [], harness := (true, "e2cf6dc2e203337953b1ab01100477d04a56d3de0dd4b8a40b527af4b0b6d36e"), looks := false }, kinds := [], alts := [], laidByText := true, laidKinds := [.data, .data, .data], laidTests := true, laidLooks := .later }
def DigestBehindUptoCardSaid : Prop := Claim7.holds Tryd.pinned (.plain (OpenSpec.upto digestBehindSpec)) digestBehindUptoCard

/-- THE SECOND FORM's CARD OF 'partbooklaw04.DigestTexts'. -/
def digestTextsUptoCard : Claim7 := { stood := { row := digestTextsUptoRow, standIns := [], harness := (true, "e2cf6dc2e203337953b1ab01100477d04a56d3de0dd4b8a40b527af4b0b6d36e"), looks := false }, kinds := [], alts := [], laidByText := true, laidKinds := [.data, .data, .data], laidTests := true, laidLooks := .later }
def DigestTextsUptoCardSaid : Prop := Claim7.holds Tryd.pinned (.plain (OpenSpec.upto digestTextsSpec)) digestTextsUptoCard

/-- THE SECOND FORM's CARD OF 'partbooklaw04.DigestChains'. -/
def digestChainsUptoCard : Claim7 := { stood := { row := digestChainsUptoRow, standIns := [], harness := (true, "e2cf6dc2e203337953b1ab01100477d04a56d3de0dd4b8a40b527af4b0b6d36e"), looks := false }, kinds := [], alts := [], laidByText := true, laidKinds := [.data, .data, .data], laidTests := true, laidLooks := .later }
def DigestChainsUptoCardSaid : Prop := Claim7.holds Tryd.pinned (.plain (OpenSpec.upto digestChainsSpec)) digestChainsUptoCard

/-- THE SECOND FORM's CARD OF 'partbooklaw04.DigestLast'. -/
def digestLastUptoCard : Claim7 := { stood := { row := digestLastUptoRow, standIns := [], harness := (true, "e2cf6dc2e203337953b1ab01100477d04a56d3de0dd4b8a40b527af4b0b6d36e"), looks := false }, kinds := [], alts := [], laidByText := true, laidKinds := [.data, .data, .data], laidTests := true, laidLooks := .later }
def DigestLastUptoCardSaid : Prop := Claim7.holds Tryd.pinned (.plain (OpenSpec.upto digestLastSpec)) digestLastUptoCard
end Rows
end Go.Proofs.YtiejdafjjneaeaaDoor
