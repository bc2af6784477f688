/-
  No cell of these rows narrows 'for every input' (looked for: loops, veiled, ifaces, maps, wideKeys, modest, calm, conditions, laid).
  DERIVED. THE GIVEN ROWS OF THIS SEAT. 6 by the template 'for every input the law returns true; each argument reads behind the call as it read before'; 0 by the template 'total and deterministic' (their statements: YtdkggjgmlccjcaaTotals.lean).
  GIVEN WITH THE SEED: the statements are not yours to turn. If you find one false, say at which input.
  Laid BY PROGRAM, IN A SANDBOX (cutbox-rows.mjs): the forced cells as the released guide's own fill.sh prints them over the translation c426141864b71045… (all of the seat's roots in one cut). By AI agents, Wed Nov 11 2026. No macro, syntax, notation, axiom, sorry.
-/
import Derived.Test.YtdkggjgmlccjcaaChecked
import GoSem.Claim
import GoSem.ClaimJoined
import GoSem.ClaimMapViews
import Derived.JoinedTies
import Derived.KernelRfl
namespace Go.Proofs.Ytdkggjgmlccjcaa
/- THE CELL 'sum', in the pinned program and in every row, IS THE sha256 OF THE DUMP (.gsa) THAT YtdkggjgmlccjcaaProg.lean LOADS. Nothing in Lean hashes anything: it is a label: what it is worth is what the hold of that sum in a sandbox is worth. -/
noncomputable def Try.pinned : Pinned := { name := "ytdkggjgmlccjcaa", sum := "c426141864b7104521ca2d601bd0acb2350165ee7a609bee1c833cb9cc134958", checked := Try.checked }
namespace Rows
def none {H : Type} : Left H := { results := [], args := [] }

/-- 'partbooklaw16.FoldMatchesReference': WHATEVER THE INPUT: true; the input reads as it did. -/
def foldMatchesReferenceSpec : ChangeSpec := { name := "foldMatchesReference", fn := fun _ => fun
  | [d1, d2, d3] => { results := [.lit (.bool true)], args := [d1, d2, d3] }
  | _ => none }
def foldMatchesReferenceRow : OpenClaim := { program := "ytdkggjgmlccjcaa", sum := "c426141864b7104521ca2d601bd0acb2350165ee7a609bee1c833cb9cc134958", func := "partbook/partbooklaw16.FoldMatchesReference", spec := "foldMatchesReference", unfollowed := true, recurses := true, plainKeys := false, apart := false }
def FoldMatchesReferenceSaid : Prop := foldMatchesReferenceRow.holds Try.pinned (OpenSpec.ofChange foldMatchesReferenceSpec)

/-- ITS FALSE NEIGHBOUR: 'it returns false'. Refute it at one input. -/
def foldMatchesReferenceWrong : ChangeSpec := { name := "foldMatchesReference", fn := fun _ => fun
  | [d1, d2, d3] => { results := [.lit (.bool false)], args := [d1, d2, d3] }
  | _ => none }
def FoldMatchesReferenceWrongFalsely : Prop := foldMatchesReferenceRow.holds Try.pinned (OpenSpec.ofChange foldMatchesReferenceWrong)

/-- 'partbooklaw16.FoldAll': WHATEVER THE INPUT: true; the input reads as it did. -/
def foldAllSpec : ChangeSpec := { name := "foldAll", fn := fun _ => fun
  | [d1, d2] => { results := [.lit (.bool true)], args := [d1, d2] }
  | _ => none }
def foldAllRow : OpenClaim := { program := "ytdkggjgmlccjcaa", sum := "c426141864b7104521ca2d601bd0acb2350165ee7a609bee1c833cb9cc134958", func := "partbook/partbooklaw16.FoldAll", spec := "foldAll", unfollowed := true, recurses := true, plainKeys := false, apart := false }
def FoldAllSaid : Prop := foldAllRow.holds Try.pinned (OpenSpec.ofChange foldAllSpec)

/-- ITS FALSE NEIGHBOUR: 'it returns false'. Refute it at one input. -/
def foldAllWrong : ChangeSpec := { name := "foldAll", fn := fun _ => fun
  | [d1, d2] => { results := [.lit (.bool false)], args := [d1, d2] }
  | _ => none }
def FoldAllWrongFalsely : Prop := foldAllRow.holds Try.pinned (OpenSpec.ofChange foldAllWrong)

/-- 'partbooklaw16.FoldWhole': WHATEVER THE INPUT: true; the input reads as it did. -/
def foldWholeSpec : ChangeSpec := { name := "foldWhole", fn := fun _ => fun
  | [d1, d2] => { results := [.lit (.bool true)], args := [d1, d2] }
  | _ => none }
def foldWholeRow : OpenClaim := { program := "ytdkggjgmlccjcaa", sum := "c426141864b7104521ca2d601bd0acb2350165ee7a609bee1c833cb9cc134958", func := "partbook/partbooklaw16.FoldWhole", spec := "foldWhole", unfollowed := true, recurses := true, plainKeys := false, apart := false }
def FoldWholeSaid : Prop := foldWholeRow.holds Try.pinned (OpenSpec.ofChange foldWholeSpec)

/-- ITS FALSE NEIGHBOUR: 'it returns false'. Refute it at one input. -/
def foldWholeWrong : ChangeSpec := { name := "foldWhole", fn := fun _ => fun
  | [d1, d2] => { results := [.lit (.bool false)], args := [d1, d2] }
  | _ => none }
def FoldWholeWrongFalsely : Prop := foldWholeRow.holds Try.pinned (OpenSpec.ofChange foldWholeWrong)

/-- 'partbooklaw16.FoldStops': WHATEVER THE INPUT: true; the input reads as it did. -/
def foldStopsSpec : ChangeSpec := { name := "foldStops", fn := fun _ => fun
  | [d1, d2, d3] => { results := [.lit (.bool true)], args := [d1, d2, d3] }
  | _ => none }
def foldStopsRow : OpenClaim := { program := "ytdkggjgmlccjcaa", sum := "c426141864b7104521ca2d601bd0acb2350165ee7a609bee1c833cb9cc134958", func := "partbook/partbooklaw16.FoldStops", spec := "foldStops", unfollowed := true, recurses := true, plainKeys := false, apart := false }
def FoldStopsSaid : Prop := foldStopsRow.holds Try.pinned (OpenSpec.ofChange foldStopsSpec)

/-- ITS FALSE NEIGHBOUR: 'it returns false'. Refute it at one input. -/
def foldStopsWrong : ChangeSpec := { name := "foldStops", fn := fun _ => fun
  | [d1, d2, d3] => { results := [.lit (.bool false)], args := [d1, d2, d3] }
  | _ => none }
def FoldStopsWrongFalsely : Prop := foldStopsRow.holds Try.pinned (OpenSpec.ofChange foldStopsWrong)

/-- 'partbooklaw16.FoldNotes': WHATEVER THE INPUT: true; the input reads as it did. -/
def foldNotesSpec : ChangeSpec := { name := "foldNotes", fn := fun _ => fun
  | [d1, d2, d3, d4] => { results := [.lit (.bool true)], args := [d1, d2, d3, d4] }
  | _ => none }
def foldNotesRow : OpenClaim := { program := "ytdkggjgmlccjcaa", sum := "c426141864b7104521ca2d601bd0acb2350165ee7a609bee1c833cb9cc134958", func := "partbook/partbooklaw16.FoldNotes", spec := "foldNotes", unfollowed := true, recurses := true, plainKeys := false, apart := false }
def FoldNotesSaid : Prop := foldNotesRow.holds Try.pinned (OpenSpec.ofChange foldNotesSpec)

/-- ITS FALSE NEIGHBOUR: 'it returns false'. Refute it at one input. -/
def foldNotesWrong : ChangeSpec := { name := "foldNotes", fn := fun _ => fun
  | [d1, d2, d3, d4] => { results := [.lit (.bool false)], args := [d1, d2, d3, d4] }
  | _ => none }
def FoldNotesWrongFalsely : Prop := foldNotesRow.holds Try.pinned (OpenSpec.ofChange foldNotesWrong)

/-- 'partbooklaw16.FoldWidths': WHATEVER THE INPUT: true; the input reads as it did. -/
def foldWidthsSpec : ChangeSpec := { name := "foldWidths", fn := fun _ => fun
  | [d1, d2] => { results := [.lit (.bool true)], args := [d1, d2] }
  | _ => none }
def foldWidthsRow : OpenClaim := { program := "ytdkggjgmlccjcaa", sum := "c426141864b7104521ca2d601bd0acb2350165ee7a609bee1c833cb9cc134958", func := "partbook/partbooklaw16.FoldWidths", spec := "foldWidths", unfollowed := true, recurses := true, plainKeys := false, apart := false }
def FoldWidthsSaid : Prop := foldWidthsRow.holds Try.pinned (OpenSpec.ofChange foldWidthsSpec)

/-- ITS FALSE NEIGHBOUR: 'it returns false'. Refute it at one input. -/
def foldWidthsWrong : ChangeSpec := { name := "foldWidths", fn := fun _ => fun
  | [d1, d2] => { results := [.lit (.bool false)], args := [d1, d2] }
  | _ => none }
def FoldWidthsWrongFalsely : Prop := foldWidthsRow.holds Try.pinned (OpenSpec.ofChange foldWidthsWrong)

/- THE SECOND FORM. 'bulk': how many values and letters a reading holds, each counted each time it is reached (what is shared counts as often as it is met; a slice's spare places count too). A statement '..UptoSaid' is the law's where the arguments, and the package variables that the reading takes, are together of bulk at most 1048576: NARROWER than '..Said'. Prove '..Said' where nothing that the law and all that it calls make is longer than what came in: it says more and counts as full. Else prove '..UptoSaid'. A law counts once. -/
mutual
def uptoBulk {H : Type} : DataW H → Nat
  | .lit (.string bytes) => bytes.length + 1
  | .lit _ => 1
  | .nil => 1
  | .ptr d => uptoBulk d + 1
  | .slice elems spare => uptoBulkAll elems + uptoBulkAll spare + 1
  | .agg parts => uptoBulkAll parts + 1
  | .iface _ d => uptoBulk d + 1
  | .map entries => uptoBulkEntries entries + 1
  | .held _ => 1
def uptoBulkAll {H : Type} : List (DataW H) → Nat
  | [] => 0
  | d :: r => uptoBulk d + uptoBulkAll r
def uptoBulkEntries {H : Type} : List (Lit × DataW H) → Nat
  | [] => 0
  | x :: r => uptoBulkEntry x + uptoBulkEntries r
def uptoBulkEntry {H : Type} : Lit × DataW H → Nat
  | (.string bytes, d) => bytes.length + uptoBulk d + 1
  | (_, d) => uptoBulk d + 1
 end
def uptoSmall : (H : Type) → List (DataW H) → Bool := fun _ ds => decide (uptoBulkAll ds ≤ 1048576)
def OpenSpec.upto (s : _root_.Go.ChangeSpec) : _root_.Go.OpenSpec := { _root_.Go.OpenSpec.ofChange s with cond := some uptoSmall }

/-- 'partbooklaw16.FoldMatchesReference', WHERE WHAT IT READS IS OF BULK AT MOST 1048576: true; the input reads as it did. -/
def foldMatchesReferenceUptoRow : OpenClaim := { program := "ytdkggjgmlccjcaa", sum := "c426141864b7104521ca2d601bd0acb2350165ee7a609bee1c833cb9cc134958", func := "partbook/partbooklaw16.FoldMatchesReference", spec := "foldMatchesReference", unfollowed := true, recurses := true, plainKeys := false, apart := false, narrowed := true }
def FoldMatchesReferenceUptoSaid : Prop := foldMatchesReferenceUptoRow.holds Try.pinned (OpenSpec.upto foldMatchesReferenceSpec)

/-- 'partbooklaw16.FoldAll', WHERE WHAT IT READS IS OF BULK AT MOST 1048576: true; the input reads as it did. -/
def foldAllUptoRow : OpenClaim := { program := "ytdkggjgmlccjcaa", sum := "c426141864b7104521ca2d601bd0acb2350165ee7a609bee1c833cb9cc134958", func := "partbook/partbooklaw16.FoldAll", spec := "foldAll", unfollowed := true, recurses := true, plainKeys := false, apart := false, narrowed := true }
def FoldAllUptoSaid : Prop := foldAllUptoRow.holds Try.pinned (OpenSpec.upto foldAllSpec)

/-- 'partbooklaw16.FoldWhole', WHERE WHAT IT READS IS OF BULK AT MOST 1048576: true; the input reads as it did. -/
def foldWholeUptoRow : OpenClaim := { program := "ytdkggjgmlccjcaa", sum := "c426141864b7104521ca2d601bd0acb2350165ee7a609bee1c833cb9cc134958", func := "partbook/partbooklaw16.FoldWhole", spec := "foldWhole", unfollowed := true, recurses := true, plainKeys := false, apart := false, narrowed := true }
def FoldWholeUptoSaid : Prop := foldWholeUptoRow.holds Try.pinned (OpenSpec.upto foldWholeSpec)

/-- 'partbooklaw16.FoldStops', WHERE WHAT IT READS IS OF BULK AT MOST 1048576: true; the input reads as it did. -/
def foldStopsUptoRow : OpenClaim := { program := "ytdkggjgmlccjcaa", sum := "c426141864b7104521ca2d601bd0acb2350165ee7a609bee1c833cb9cc134958", func := "partbook/partbooklaw16.FoldStops", spec := "foldStops", unfollowed := true, recurses := true, plainKeys := false, apart := false, narrowed := true }
def FoldStopsUptoSaid : Prop := foldStopsUptoRow.holds Try.pinned (OpenSpec.upto foldStopsSpec)

/-- 'partbooklaw16.FoldNotes', WHERE WHAT IT READS IS OF BULK AT MOST 1048576: true; the input reads as it did. -/
def foldNotesUptoRow : OpenClaim := { program := "ytdkggjgmlccjcaa", sum := "c426141864b7104521ca2d601bd0acb2350165ee7a609bee1c833cb9cc134958", func := "partbook/partbooklaw16.FoldNotes", spec := "foldNotes", unfollowed := true, recurses := true, plainKeys := false, apart := false, narrowed := true }
def FoldNotesUptoSaid : Prop := foldNotesUptoRow.holds Try.pinned (OpenSpec.upto foldNotesSpec)

/-- 'partbooklaw16.FoldWidths', WHERE WHAT IT READS IS OF BULK AT MOST 1048576: true; the input reads as it did. -/
def foldWidthsUptoRow : OpenClaim := { program := "ytdkggjgmlccjcaa", sum := "c426141864b7104521ca2d601bd0acb2350165ee7a609bee1c833cb9cc134958", func := "partbook/partbooklaw16.FoldWidths", spec := "foldWidths", unfollowed := true, recurses := true, plainKeys := false, apart := false, narrowed := true }
def FoldWidthsUptoSaid : Prop := foldWidthsUptoRow.holds Try.pinned (OpenSpec.upto foldWidthsSpec)

end Rows
end Go.Proofs.Ytdkggjgmlccjcaa
