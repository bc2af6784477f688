/-
  No cell of these rows narrows 'for every input' (looked for: loops, veiled, ifaces, maps, wideKeys, modest, calm, conditions, laid).
  DERIVED. THE GIVEN ROWS OF THIS SEAT. 6 by the template 'for every input the law returns true; each argument reads behind the call as it read before'; 0 by the template 'total and deterministic' (their statements: YtpdgmlkagfeglaaTotals.lean).
  GIVEN WITH THE SEED: the statements are not yours to turn. If you find one false, say at which input.
  Laid BY PROGRAM, IN A SANDBOX (cutbox-rows.mjs): the forced cells as the released guide's own fill.sh prints them over the translation 4025140c9a20ef6b… (all of the seat's roots in one cut). By AI agents, Wed Nov 11 2026. No macro, syntax, notation, axiom, sorry.
-/
import Derived.Test.YtpdgmlkagfeglaaChecked
import GoSem.Claim
import GoSem.ClaimJoined
import GoSem.ClaimMapViews
import Derived.JoinedTies
import Derived.KernelRfl
namespace Go.Proofs.Ytpdgmlkagfeglaa
/- THE CELL 'sum', in the pinned program and in every row, IS THE sha256 OF THE DUMP (.gsa) THAT YtpdgmlkagfeglaaProg.lean LOADS. Nothing in Lean hashes anything: it is a label: what it is worth is what the hold of that sum in a sandbox is worth. -/
noncomputable def Try.pinned : Pinned := { name := "ytpdgmlkagfeglaa", sum := "4025140c9a20ef6b2002778b4ffa8973d5f1e8624fdce360f4de902275db78a2", checked := Try.checked }
namespace Rows
def none {H : Type} : Left H := { results := [], args := [] }

/-- 'partbooklaw09.FormMatchesReference': WHATEVER THE INPUT: true; the input reads as it did. -/
def formMatchesReferenceSpec : ChangeSpec := { name := "formMatchesReference", fn := fun _ => fun
  | [d1, d2, d3, d4, d5] => { results := [.lit (.bool true)], args := [d1, d2, d3, d4, d5] }
  | _ => none }
def formMatchesReferenceRow : OpenClaim := { program := "ytpdgmlkagfeglaa", sum := "4025140c9a20ef6b2002778b4ffa8973d5f1e8624fdce360f4de902275db78a2", func := "partbook/partbooklaw09.FormMatchesReference", spec := "formMatchesReference", unfollowed := true, recurses := true, plainKeys := false, apart := false }
def FormMatchesReferenceSaid : Prop := formMatchesReferenceRow.holds Try.pinned (OpenSpec.ofChange formMatchesReferenceSpec)

/-- ITS FALSE NEIGHBOUR: 'it returns false'. Refute it at one input. -/
def formMatchesReferenceWrong : ChangeSpec := { name := "formMatchesReference", fn := fun _ => fun
  | [d1, d2, d3, d4, d5] => { results := [.lit (.bool false)], args := [d1, d2, d3, d4, d5] }
  | _ => none }
def FormMatchesReferenceWrongFalsely : Prop := formMatchesReferenceRow.holds Try.pinned (OpenSpec.ofChange formMatchesReferenceWrong)

/-- 'partbooklaw09.FormVisits': WHATEVER THE INPUT: true; the input reads as it did. -/
def formVisitsSpec : ChangeSpec := { name := "formVisits", fn := fun _ => fun
  | [d] => { results := [.lit (.bool true)], args := [d] }
  | _ => none }
def formVisitsRow : OpenClaim := { program := "ytpdgmlkagfeglaa", sum := "4025140c9a20ef6b2002778b4ffa8973d5f1e8624fdce360f4de902275db78a2", func := "partbook/partbooklaw09.FormVisits", spec := "formVisits", unfollowed := true, recurses := true, plainKeys := false, apart := false }
def FormVisitsSaid : Prop := formVisitsRow.holds Try.pinned (OpenSpec.ofChange formVisitsSpec)

/-- ITS FALSE NEIGHBOUR: 'it returns false'. Refute it at one input. -/
def formVisitsWrong : ChangeSpec := { name := "formVisits", fn := fun _ => fun
  | [d] => { results := [.lit (.bool false)], args := [d] }
  | _ => none }
def FormVisitsWrongFalsely : Prop := formVisitsRow.holds Try.pinned (OpenSpec.ofChange formVisitsWrong)

/-- 'partbooklaw09.FormSteps': WHATEVER THE INPUT: true; the input reads as it did. -/
def formStepsSpec : ChangeSpec := { name := "formSteps", fn := fun _ => fun
  | [d] => { results := [.lit (.bool true)], args := [d] }
  | _ => none }
def formStepsRow : OpenClaim := { program := "ytpdgmlkagfeglaa", sum := "4025140c9a20ef6b2002778b4ffa8973d5f1e8624fdce360f4de902275db78a2", func := "partbook/partbooklaw09.FormSteps", spec := "formSteps", unfollowed := true, recurses := true, plainKeys := false, apart := false }
def FormStepsSaid : Prop := formStepsRow.holds Try.pinned (OpenSpec.ofChange formStepsSpec)

/-- ITS FALSE NEIGHBOUR: 'it returns false'. Refute it at one input. -/
def formStepsWrong : ChangeSpec := { name := "formSteps", fn := fun _ => fun
  | [d] => { results := [.lit (.bool false)], args := [d] }
  | _ => none }
def FormStepsWrongFalsely : Prop := formStepsRow.holds Try.pinned (OpenSpec.ofChange formStepsWrong)

/-- 'partbooklaw09.FormCuts': WHATEVER THE INPUT: true; the input reads as it did. -/
def formCutsSpec : ChangeSpec := { name := "formCuts", fn := fun _ => fun
  | [d1, d2, d3] => { results := [.lit (.bool true)], args := [d1, d2, d3] }
  | _ => none }
def formCutsRow : OpenClaim := { program := "ytpdgmlkagfeglaa", sum := "4025140c9a20ef6b2002778b4ffa8973d5f1e8624fdce360f4de902275db78a2", func := "partbook/partbooklaw09.FormCuts", spec := "formCuts", unfollowed := true, recurses := true, plainKeys := false, apart := false }
def FormCutsSaid : Prop := formCutsRow.holds Try.pinned (OpenSpec.ofChange formCutsSpec)

/-- ITS FALSE NEIGHBOUR: 'it returns false'. Refute it at one input. -/
def formCutsWrong : ChangeSpec := { name := "formCuts", fn := fun _ => fun
  | [d1, d2, d3] => { results := [.lit (.bool false)], args := [d1, d2, d3] }
  | _ => none }
def FormCutsWrongFalsely : Prop := formCutsRow.holds Try.pinned (OpenSpec.ofChange formCutsWrong)

/-- 'partbooklaw09.FormFinds': WHATEVER THE INPUT: true; the input reads as it did. -/
def formFindsSpec : ChangeSpec := { name := "formFinds", fn := fun _ => fun
  | [d1, d2, d3] => { results := [.lit (.bool true)], args := [d1, d2, d3] }
  | _ => none }
def formFindsRow : OpenClaim := { program := "ytpdgmlkagfeglaa", sum := "4025140c9a20ef6b2002778b4ffa8973d5f1e8624fdce360f4de902275db78a2", func := "partbook/partbooklaw09.FormFinds", spec := "formFinds", unfollowed := true, recurses := true, plainKeys := false, apart := false }
def FormFindsSaid : Prop := formFindsRow.holds Try.pinned (OpenSpec.ofChange formFindsSpec)

/-- ITS FALSE NEIGHBOUR: 'it returns false'. Refute it at one input. -/
def formFindsWrong : ChangeSpec := { name := "formFinds", fn := fun _ => fun
  | [d1, d2, d3] => { results := [.lit (.bool false)], args := [d1, d2, d3] }
  | _ => none }
def FormFindsWrongFalsely : Prop := formFindsRow.holds Try.pinned (OpenSpec.ofChange formFindsWrong)

/-- 'partbooklaw09.FormTimes': WHATEVER THE INPUT: true; the input reads as it did. -/
def formTimesSpec : ChangeSpec := { name := "formTimes", fn := fun _ => fun
  | [d1, d2, d3] => { results := [.lit (.bool true)], args := [d1, d2, d3] }
  | _ => none }
def formTimesRow : OpenClaim := { program := "ytpdgmlkagfeglaa", sum := "4025140c9a20ef6b2002778b4ffa8973d5f1e8624fdce360f4de902275db78a2", func := "partbook/partbooklaw09.FormTimes", spec := "formTimes", unfollowed := true, recurses := true, plainKeys := false, apart := false }
def FormTimesSaid : Prop := formTimesRow.holds Try.pinned (OpenSpec.ofChange formTimesSpec)

/-- ITS FALSE NEIGHBOUR: 'it returns false'. Refute it at one input. -/
def formTimesWrong : ChangeSpec := { name := "formTimes", fn := fun _ => fun
  | [d1, d2, d3] => { results := [.lit (.bool false)], args := [d1, d2, d3] }
  | _ => none }
def FormTimesWrongFalsely : Prop := formTimesRow.holds Try.pinned (OpenSpec.ofChange formTimesWrong)

/- THE SECOND FORM. 'bulk': how many values and letters a reading holds, each counted each time it is reached (what is shared counts as often as it is met; a slice's spare places count too). A statement '..UptoSaid' is the law's where the arguments, and the package variables that the reading takes, are together of bulk at most 1048576: NARROWER than '..Said'. Prove '..Said' where nothing that the law and all that it calls make is longer than what came in: it says more and counts as full. Else prove '..UptoSaid'. A law counts once. -/
mutual
def uptoBulk {H : Type} : DataW H → Nat
  | .lit (.string bytes) => bytes.length + 1
  | .lit _ => 1
  | .nil => 1
  | .ptr d => uptoBulk d + 1
  | .slice elems spare => uptoBulkAll elems + uptoBulkAll spare + 1
  | .agg parts => uptoBulkAll parts + 1
  | .iface _ d => uptoBulk d + 1
  | .map entries => uptoBulkEntries entries + 1
  | .held _ => 1
def uptoBulkAll {H : Type} : List (DataW H) → Nat
  | [] => 0
  | d :: r => uptoBulk d + uptoBulkAll r
def uptoBulkEntries {H : Type} : List (Lit × DataW H) → Nat
  | [] => 0
  | x :: r => uptoBulkEntry x + uptoBulkEntries r
def uptoBulkEntry {H : Type} : Lit × DataW H → Nat
  | (.string bytes, d) => bytes.length + uptoBulk d + 1
  | (_, d) => uptoBulk d + 1
 end
def uptoSmall : (H : Type) → List (DataW H) → Bool := fun _ ds => decide (uptoBulkAll ds ≤ 1048576)
def OpenSpec.upto (s : _root_.Go.ChangeSpec) : _root_.Go.OpenSpec := { _root_.Go.OpenSpec.ofChange s with cond := some uptoSmall }

/-- 'partbooklaw09.FormMatchesReference', WHERE WHAT IT READS IS OF BULK AT MOST 1048576: true; the input reads as it did. -/
def formMatchesReferenceUptoRow : OpenClaim := { program := "ytpdgmlkagfeglaa", sum := "4025140c9a20ef6b2002778b4ffa8973d5f1e8624fdce360f4de902275db78a2", func := "partbook/partbooklaw09.FormMatchesReference", spec := "formMatchesReference", unfollowed := true, recurses := true, plainKeys := false, apart := false, narrowed := true }
def FormMatchesReferenceUptoSaid : Prop := formMatchesReferenceUptoRow.holds Try.pinned (OpenSpec.upto formMatchesReferenceSpec)

/-- 'partbooklaw09.FormVisits', WHERE WHAT IT READS IS OF BULK AT MOST 1048576: true; the input reads as it did. -/
def formVisitsUptoRow : OpenClaim := { program := "ytpdgmlkagfeglaa", sum := "4025140c9a20ef6b2002778b4ffa8973d5f1e8624fdce360f4de902275db78a2", func := "partbook/partbooklaw09.FormVisits", spec := "formVisits", unfollowed := true, recurses := true, plainKeys := false, apart := false, narrowed := true }
def FormVisitsUptoSaid : Prop := formVisitsUptoRow.holds Try.pinned (OpenSpec.upto formVisitsSpec)

/-- 'partbooklaw09.FormSteps', WHERE WHAT IT READS IS OF BULK AT MOST 1048576: true; the input reads as it did. -/
def formStepsUptoRow : OpenClaim := { program := "ytpdgmlkagfeglaa", sum := "4025140c9a20ef6b2002778b4ffa8973d5f1e8624fdce360f4de902275db78a2", func := "partbook/partbooklaw09.FormSteps", spec := "formSteps", unfollowed := true, recurses := true, plainKeys := false, apart := false, narrowed := true }
def FormStepsUptoSaid : Prop := formStepsUptoRow.holds Try.pinned (OpenSpec.upto formStepsSpec)

/-- 'partbooklaw09.FormCuts', WHERE WHAT IT READS IS OF BULK AT MOST 1048576: true; the input reads as it did. -/
def formCutsUptoRow : OpenClaim := { program := "ytpdgmlkagfeglaa", sum := "4025140c9a20ef6b2002778b4ffa8973d5f1e8624fdce360f4de902275db78a2", func := "partbook/partbooklaw09.FormCuts", spec := "formCuts", unfollowed := true, recurses := true, plainKeys := false, apart := false, narrowed := true }
def FormCutsUptoSaid : Prop := formCutsUptoRow.holds Try.pinned (OpenSpec.upto formCutsSpec)

/-- 'partbooklaw09.FormFinds', WHERE WHAT IT READS IS OF BULK AT MOST 1048576: true; the input reads as it did. -/
def formFindsUptoRow : OpenClaim := { program := "ytpdgmlkagfeglaa", sum := "4025140c9a20ef6b2002778b4ffa8973d5f1e8624fdce360f4de902275db78a2", func := "partbook/partbooklaw09.FormFinds", spec := "formFinds", unfollowed := true, recurses := true, plainKeys := false, apart := false, narrowed := true }
def FormFindsUptoSaid : Prop := formFindsUptoRow.holds Try.pinned (OpenSpec.upto formFindsSpec)

/-- 'partbooklaw09.FormTimes', WHERE WHAT IT READS IS OF BULK AT MOST 1048576: true; the input reads as it did. -/
def formTimesUptoRow : OpenClaim := { program := "ytpdgmlkagfeglaa", sum := "4025140c9a20ef6b2002778b4ffa8973d5f1e8624fdce360f4de902275db78a2", func := "partbook/partbooklaw09.FormTimes", spec := "formTimes", unfollowed := true, recurses := true, plainKeys := false, apart := false, narrowed := true }
def FormTimesUptoSaid : Prop := formTimesUptoRow.holds Try.pinned (OpenSpec.upto formTimesSpec)

end Rows
end Go.Proofs.Ytpdgmlkagfeglaa
