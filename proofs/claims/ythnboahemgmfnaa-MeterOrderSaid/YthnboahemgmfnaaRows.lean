/-
  No cell of these rows narrows 'for every input' (looked for: loops, veiled, ifaces, maps, wideKeys, modest, calm, conditions, laid).
  DERIVED. THE GIVEN ROWS OF THIS SEAT. 6 by the template 'for every input the law returns true; each argument reads behind the call as it read before'; 0 by the template 'total and deterministic' (their statements: YthnboahemgmfnaaTotals.lean).
  GIVEN WITH THE SEED: the statements are not yours to turn. If you find one false, say at which input.
  Laid BY PROGRAM, IN A SANDBOX (cutbox-rows.mjs): the forced cells as the released guide's own fill.sh prints them over the translation 3d563c3530f69607… (all of the seat's roots in one cut). By AI agents, Wed Nov 11 2026. No macro, syntax, notation, axiom, sorry.
-/
import Derived.Test.YthnboahemgmfnaaChecked
import GoSem.Claim
import GoSem.ClaimJoined
import GoSem.ClaimMapViews
import Derived.JoinedTies
import Derived.KernelRfl
namespace Go.Proofs.Ythnboahemgmfnaa
/- THE CELL 'sum', in the pinned program and in every row, IS THE sha256 OF THE DUMP (.gsa) THAT YthnboahemgmfnaaProg.lean LOADS. Nothing in Lean hashes anything: it is a label: what it is worth is what the hold of that sum in a sandbox is worth. -/
noncomputable def Try.pinned : Pinned := { name := "ythnboahemgmfnaa", sum := "3d563c3530f69607af0dcdf3db1ce0f9072c5feff5f99fd218fdd95960df8854", checked := Try.checked }
namespace Rows
def none {H : Type} : Left H := { results := [], args := [] }

/-- 'partbooklaw06.MeterMatchesReference': WHATEVER THE INPUT: true; the input reads as it did. -/
def meterMatchesReferenceSpec : ChangeSpec := { name := "meterMatchesReference", fn := fun _ => fun
  | [d1, d2, d3, d4] => { results := [.lit (.bool true)], args := [d1, d2, d3, d4] }
  | _ => none }
def meterMatchesReferenceRow : OpenClaim := { program := "ythnboahemgmfnaa", sum := "3d563c3530f69607af0dcdf3db1ce0f9072c5feff5f99fd218fdd95960df8854", func := "partbook/partbooklaw06.MeterMatchesReference", spec := "meterMatchesReference", unfollowed := true, recurses := true, apart := false }
def MeterMatchesReferenceSaid : Prop := meterMatchesReferenceRow.holds Try.pinned (OpenSpec.ofChange meterMatchesReferenceSpec)

/-- ITS FALSE NEIGHBOUR: 'it returns false'. Refute it at one input. -/
def meterMatchesReferenceWrong : ChangeSpec := { name := "meterMatchesReference", fn := fun _ => fun
  | [d1, d2, d3, d4] => { results := [.lit (.bool false)], args := [d1, d2, d3, d4] }
  | _ => none }
def MeterMatchesReferenceWrongFalsely : Prop := meterMatchesReferenceRow.holds Try.pinned (OpenSpec.ofChange meterMatchesReferenceWrong)

/-- 'partbooklaw06.MeterBack': WHATEVER THE INPUT: true; the input reads as it did. -/
def meterBackSpec : ChangeSpec := { name := "meterBack", fn := fun _ => fun
  | [d1, d2, d3] => { results := [.lit (.bool true)], args := [d1, d2, d3] }
  | _ => none }
def meterBackRow : OpenClaim := { program := "ythnboahemgmfnaa", sum := "3d563c3530f69607af0dcdf3db1ce0f9072c5feff5f99fd218fdd95960df8854", func := "partbook/partbooklaw06.MeterBack", spec := "meterBack", unfollowed := true, recurses := true, apart := false }
def MeterBackSaid : Prop := meterBackRow.holds Try.pinned (OpenSpec.ofChange meterBackSpec)

/-- ITS FALSE NEIGHBOUR: 'it returns false'. Refute it at one input. -/
def meterBackWrong : ChangeSpec := { name := "meterBack", fn := fun _ => fun
  | [d1, d2, d3] => { results := [.lit (.bool false)], args := [d1, d2, d3] }
  | _ => none }
def MeterBackWrongFalsely : Prop := meterBackRow.holds Try.pinned (OpenSpec.ofChange meterBackWrong)

/-- 'partbooklaw06.MeterOrder': WHATEVER THE INPUT: true; the input reads as it did. -/
def meterOrderSpec : ChangeSpec := { name := "meterOrder", fn := fun _ => fun
  | [d1, d2, d3] => { results := [.lit (.bool true)], args := [d1, d2, d3] }
  | _ => none }
def meterOrderRow : OpenClaim := { program := "ythnboahemgmfnaa", sum := "3d563c3530f69607af0dcdf3db1ce0f9072c5feff5f99fd218fdd95960df8854", func := "partbook/partbooklaw06.MeterOrder", spec := "meterOrder", unfollowed := true, recurses := true, apart := false }
def MeterOrderSaid : Prop := meterOrderRow.holds Try.pinned (OpenSpec.ofChange meterOrderSpec)

/-- ITS FALSE NEIGHBOUR: 'it returns false'. Refute it at one input. -/
def meterOrderWrong : ChangeSpec := { name := "meterOrder", fn := fun _ => fun
  | [d1, d2, d3] => { results := [.lit (.bool false)], args := [d1, d2, d3] }
  | _ => none }
def MeterOrderWrongFalsely : Prop := meterOrderRow.holds Try.pinned (OpenSpec.ofChange meterOrderWrong)

/-- 'partbooklaw06.MeterBars': WHATEVER THE INPUT: true; the input reads as it did. -/
def meterBarsSpec : ChangeSpec := { name := "meterBars", fn := fun _ => fun
  | [d] => { results := [.lit (.bool true)], args := [d] }
  | _ => none }
def meterBarsRow : OpenClaim := { program := "ythnboahemgmfnaa", sum := "3d563c3530f69607af0dcdf3db1ce0f9072c5feff5f99fd218fdd95960df8854", func := "partbook/partbooklaw06.MeterBars", spec := "meterBars", unfollowed := true, recurses := true, apart := false }
def MeterBarsSaid : Prop := meterBarsRow.holds Try.pinned (OpenSpec.ofChange meterBarsSpec)

/-- ITS FALSE NEIGHBOUR: 'it returns false'. Refute it at one input. -/
def meterBarsWrong : ChangeSpec := { name := "meterBars", fn := fun _ => fun
  | [d] => { results := [.lit (.bool false)], args := [d] }
  | _ => none }
def MeterBarsWrongFalsely : Prop := meterBarsRow.holds Try.pinned (OpenSpec.ofChange meterBarsWrong)

/-- 'partbooklaw06.MeterParts': WHATEVER THE INPUT: true; the input reads as it did. -/
def meterPartsSpec : ChangeSpec := { name := "meterParts", fn := fun _ => fun
  | [d1, d2, d3] => { results := [.lit (.bool true)], args := [d1, d2, d3] }
  | _ => none }
def meterPartsRow : OpenClaim := { program := "ythnboahemgmfnaa", sum := "3d563c3530f69607af0dcdf3db1ce0f9072c5feff5f99fd218fdd95960df8854", func := "partbook/partbooklaw06.MeterParts", spec := "meterParts", unfollowed := true, recurses := true, apart := false }
def MeterPartsSaid : Prop := meterPartsRow.holds Try.pinned (OpenSpec.ofChange meterPartsSpec)

/-- ITS FALSE NEIGHBOUR: 'it returns false'. Refute it at one input. -/
def meterPartsWrong : ChangeSpec := { name := "meterParts", fn := fun _ => fun
  | [d1, d2, d3] => { results := [.lit (.bool false)], args := [d1, d2, d3] }
  | _ => none }
def MeterPartsWrongFalsely : Prop := meterPartsRow.holds Try.pinned (OpenSpec.ofChange meterPartsWrong)

/-- 'partbooklaw06.MeterShifts': WHATEVER THE INPUT: true; the input reads as it did. -/
def meterShiftsSpec : ChangeSpec := { name := "meterShifts", fn := fun _ => fun
  | [d1, d2, d3, d4] => { results := [.lit (.bool true)], args := [d1, d2, d3, d4] }
  | _ => none }
def meterShiftsRow : OpenClaim := { program := "ythnboahemgmfnaa", sum := "3d563c3530f69607af0dcdf3db1ce0f9072c5feff5f99fd218fdd95960df8854", func := "partbook/partbooklaw06.MeterShifts", spec := "meterShifts", unfollowed := true, recurses := true, apart := false }
def MeterShiftsSaid : Prop := meterShiftsRow.holds Try.pinned (OpenSpec.ofChange meterShiftsSpec)

/-- ITS FALSE NEIGHBOUR: 'it returns false'. Refute it at one input. -/
def meterShiftsWrong : ChangeSpec := { name := "meterShifts", fn := fun _ => fun
  | [d1, d2, d3, d4] => { results := [.lit (.bool false)], args := [d1, d2, d3, d4] }
  | _ => none }
def MeterShiftsWrongFalsely : Prop := meterShiftsRow.holds Try.pinned (OpenSpec.ofChange meterShiftsWrong)

/- THE SECOND FORM. 'bulk': how many values and letters a reading holds, each counted each time it is reached (what is shared counts as often as it is met; a slice's spare places count too). A statement '..UptoSaid' is the law's where the arguments, and the package variables that the reading takes, are together of bulk at most 1048576: NARROWER than '..Said'. Prove '..Said' where nothing that the law and all that it calls make is longer than what came in: it says more and counts as full. Else prove '..UptoSaid'. A law counts once. -/
mutual
def uptoBulk {H : Type} : DataW H → Nat
  | .lit (.string bytes) => bytes.length + 1
  | .lit _ => 1
  | .nil => 1
  | .ptr d => uptoBulk d + 1
  | .slice elems spare => uptoBulkAll elems + uptoBulkAll spare + 1
  | .agg parts => uptoBulkAll parts + 1
  | .iface _ d => uptoBulk d + 1
  | .map entries => uptoBulkEntries entries + 1
  | .held _ => 1
def uptoBulkAll {H : Type} : List (DataW H) → Nat
  | [] => 0
  | d :: r => uptoBulk d + uptoBulkAll r
def uptoBulkEntries {H : Type} : List (Lit × DataW H) → Nat
  | [] => 0
  | x :: r => uptoBulkEntry x + uptoBulkEntries r
def uptoBulkEntry {H : Type} : Lit × DataW H → Nat
  | (.string bytes, d) => bytes.length + uptoBulk d + 1
  | (_, d) => uptoBulk d + 1
 end
def uptoSmall : (H : Type) → List (DataW H) → Bool := fun _ ds => decide (uptoBulkAll ds ≤ 1048576)
def OpenSpec.upto (s : _root_.Go.ChangeSpec) : _root_.Go.OpenSpec := { _root_.Go.OpenSpec.ofChange s with cond := some uptoSmall }

/-- 'partbooklaw06.MeterMatchesReference', WHERE WHAT IT READS IS OF BULK AT MOST 1048576: true; the input reads as it did. -/
def meterMatchesReferenceUptoRow : OpenClaim := { program := "ythnboahemgmfnaa", sum := "3d563c3530f69607af0dcdf3db1ce0f9072c5feff5f99fd218fdd95960df8854", func := "partbook/partbooklaw06.MeterMatchesReference", spec := "meterMatchesReference", unfollowed := true, recurses := true, apart := false, narrowed := true }
def MeterMatchesReferenceUptoSaid : Prop := meterMatchesReferenceUptoRow.holds Try.pinned (OpenSpec.upto meterMatchesReferenceSpec)

/-- 'partbooklaw06.MeterBack', WHERE WHAT IT READS IS OF BULK AT MOST 1048576: true; the input reads as it did. -/
def meterBackUptoRow : OpenClaim := { program := "ythnboahemgmfnaa", sum := "3d563c3530f69607af0dcdf3db1ce0f9072c5feff5f99fd218fdd95960df8854", func := "partbook/partbooklaw06.MeterBack", spec := "meterBack", unfollowed := true, recurses := true, apart := false, narrowed := true }
def MeterBackUptoSaid : Prop := meterBackUptoRow.holds Try.pinned (OpenSpec.upto meterBackSpec)

/-- 'partbooklaw06.MeterOrder', WHERE WHAT IT READS IS OF BULK AT MOST 1048576: true; the input reads as it did. -/
def meterOrderUptoRow : OpenClaim := { program := "ythnboahemgmfnaa", sum := "3d563c3530f69607af0dcdf3db1ce0f9072c5feff5f99fd218fdd95960df8854", func := "partbook/partbooklaw06.MeterOrder", spec := "meterOrder", unfollowed := true, recurses := true, apart := false, narrowed := true }
def MeterOrderUptoSaid : Prop := meterOrderUptoRow.holds Try.pinned (OpenSpec.upto meterOrderSpec)

/-- 'partbooklaw06.MeterBars', WHERE WHAT IT READS IS OF BULK AT MOST 1048576: true; the input reads as it did. -/
def meterBarsUptoRow : OpenClaim := { program := "ythnboahemgmfnaa", sum := "3d563c3530f69607af0dcdf3db1ce0f9072c5feff5f99fd218fdd95960df8854", func := "partbook/partbooklaw06.MeterBars", spec := "meterBars", unfollowed := true, recurses := true, apart := false, narrowed := true }
def MeterBarsUptoSaid : Prop := meterBarsUptoRow.holds Try.pinned (OpenSpec.upto meterBarsSpec)

/-- 'partbooklaw06.MeterParts', WHERE WHAT IT READS IS OF BULK AT MOST 1048576: true; the input reads as it did. -/
def meterPartsUptoRow : OpenClaim := { program := "ythnboahemgmfnaa", sum := "3d563c3530f69607af0dcdf3db1ce0f9072c5feff5f99fd218fdd95960df8854", func := "partbook/partbooklaw06.MeterParts", spec := "meterParts", unfollowed := true, recurses := true, apart := false, narrowed := true }
def MeterPartsUptoSaid : Prop := meterPartsUptoRow.holds Try.pinned (OpenSpec.upto meterPartsSpec)

/-- 'partbooklaw06.MeterShifts', WHERE WHAT IT READS IS OF BULK AT MOST 1048576: true; the input reads as it did. -/
def meterShiftsUptoRow : OpenClaim := { program := "ythnboahemgmfnaa", sum := "3d563c3530f69607af0dcdf3db1ce0f9072c5feff5f99fd218fdd95960df8854", func := "partbook/partbooklaw06.MeterShifts", spec := "meterShifts", unfollowed := true, recurses := true, apart := false, narrowed := true }
def MeterShiftsUptoSaid : Prop := meterShiftsUptoRow.holds Try.pinned (OpenSpec.upto meterShiftsSpec)

end Rows
end Go.Proofs.Ythnboahemgmfnaa
