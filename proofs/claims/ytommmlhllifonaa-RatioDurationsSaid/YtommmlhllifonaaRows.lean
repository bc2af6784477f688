/-
  No cell of these rows narrows 'for every input' (looked for: loops, veiled, ifaces, maps, wideKeys, modest, calm, conditions, laid).
  DERIVED. THE GIVEN ROWS OF THIS SEAT. 7 by the template 'for every input the law returns true; each argument reads behind the call as it read before'; 0 by the template 'total and deterministic' (their statements: YtommmlhllifonaaTotals.lean).
  GIVEN WITH THE SEED: the statements are not yours to turn. If you find one false, say at which input.
  Laid BY PROGRAM, IN A SANDBOX (cutbox-rows.mjs): the forced cells as the released guide's own fill.sh prints them over the translation 0d9f5f2f15b9dc42… (all of the seat's roots in one cut). By AI agents, Wed Nov 11 2026. No macro, syntax, notation, axiom, sorry.
-/
import Derived.Test.YtommmlhllifonaaChecked
import GoSem.Claim
import GoSem.ClaimJoined
import GoSem.ClaimMapViews
import Derived.JoinedTies
import Derived.KernelRfl
namespace Go.Proofs.Ytommmlhllifonaa
/- THE CELL 'sum', in the pinned program and in every row, IS THE sha256 OF THE DUMP (.gsa) THAT YtommmlhllifonaaProg.lean LOADS. Nothing in Lean hashes anything: it is a label: what it is worth is what the hold of that sum in a sandbox is worth. -/
noncomputable def Try.pinned : Pinned := { name := "ytommmlhllifonaa", sum := "0d9f5f2f15b9dc4285db38c866d06adbe7e834854c77e1cfe1ad4b4d448f2edc", checked := Try.checked }
namespace Rows
def none {H : Type} : Left H := { results := [], args := [] }

/-- 'partbooklaw01.RatioMakes': WHATEVER THE INPUT: true; the input reads as it did. -/
def ratioMakesSpec : ChangeSpec := { name := "ratioMakes", fn := fun _ => fun
  | [d1, d2, d3, d4] => { results := [.lit (.bool true)], args := [d1, d2, d3, d4] }
  | _ => none }
def ratioMakesRow : OpenClaim := { program := "ytommmlhllifonaa", sum := "0d9f5f2f15b9dc4285db38c866d06adbe7e834854c77e1cfe1ad4b4d448f2edc", func := "partbook/partbooklaw01.RatioMakes", spec := "ratioMakes", unfollowed := true, recurses := true, apart := false }
def RatioMakesSaid : Prop := ratioMakesRow.holds Try.pinned (OpenSpec.ofChange ratioMakesSpec)

/-- ITS FALSE NEIGHBOUR: 'it returns false'. Refute it at one input. -/
def ratioMakesWrong : ChangeSpec := { name := "ratioMakes", fn := fun _ => fun
  | [d1, d2, d3, d4] => { results := [.lit (.bool false)], args := [d1, d2, d3, d4] }
  | _ => none }
def RatioMakesWrongFalsely : Prop := ratioMakesRow.holds Try.pinned (OpenSpec.ofChange ratioMakesWrong)

/-- 'partbooklaw01.RatioProducts': WHATEVER THE INPUT: true; the input reads as it did. -/
def ratioProductsSpec : ChangeSpec := { name := "ratioProducts", fn := fun _ => fun
  | [d1, d2, d3] => { results := [.lit (.bool true)], args := [d1, d2, d3] }
  | _ => none }
def ratioProductsRow : OpenClaim := { program := "ytommmlhllifonaa", sum := "0d9f5f2f15b9dc4285db38c866d06adbe7e834854c77e1cfe1ad4b4d448f2edc", func := "partbook/partbooklaw01.RatioProducts", spec := "ratioProducts", unfollowed := true, recurses := true, apart := false }
def RatioProductsSaid : Prop := ratioProductsRow.holds Try.pinned (OpenSpec.ofChange ratioProductsSpec)

/-- ITS FALSE NEIGHBOUR: 'it returns false'. Refute it at one input. -/
def ratioProductsWrong : ChangeSpec := { name := "ratioProducts", fn := fun _ => fun
  | [d1, d2, d3] => { results := [.lit (.bool false)], args := [d1, d2, d3] }
  | _ => none }
def RatioProductsWrongFalsely : Prop := ratioProductsRow.holds Try.pinned (OpenSpec.ofChange ratioProductsWrong)

/-- 'partbooklaw01.RatioFloors': WHATEVER THE INPUT: true; the input reads as it did. -/
def ratioFloorsSpec : ChangeSpec := { name := "ratioFloors", fn := fun _ => fun
  | [d] => { results := [.lit (.bool true)], args := [d] }
  | _ => none }
def ratioFloorsRow : OpenClaim := { program := "ytommmlhllifonaa", sum := "0d9f5f2f15b9dc4285db38c866d06adbe7e834854c77e1cfe1ad4b4d448f2edc", func := "partbook/partbooklaw01.RatioFloors", spec := "ratioFloors", unfollowed := true, recurses := true, apart := false }
def RatioFloorsSaid : Prop := ratioFloorsRow.holds Try.pinned (OpenSpec.ofChange ratioFloorsSpec)

/-- ITS FALSE NEIGHBOUR: 'it returns false'. Refute it at one input. -/
def ratioFloorsWrong : ChangeSpec := { name := "ratioFloors", fn := fun _ => fun
  | [d] => { results := [.lit (.bool false)], args := [d] }
  | _ => none }
def RatioFloorsWrongFalsely : Prop := ratioFloorsRow.holds Try.pinned (OpenSpec.ofChange ratioFloorsWrong)

/-- 'partbooklaw01.RatioDurations': WHATEVER THE INPUT: true; the input reads as it did. -/
def ratioDurationsSpec : ChangeSpec := { name := "ratioDurations", fn := fun _ => fun
  | [d] => { results := [.lit (.bool true)], args := [d] }
  | _ => none }
def ratioDurationsRow : OpenClaim := { program := "ytommmlhllifonaa", sum := "0d9f5f2f15b9dc4285db38c866d06adbe7e834854c77e1cfe1ad4b4d448f2edc", func := "partbook/partbooklaw01.RatioDurations", spec := "ratioDurations", unfollowed := true, recurses := true, apart := false }
def RatioDurationsSaid : Prop := ratioDurationsRow.holds Try.pinned (OpenSpec.ofChange ratioDurationsSpec)

/-- ITS FALSE NEIGHBOUR: 'it returns false'. Refute it at one input. -/
def ratioDurationsWrong : ChangeSpec := { name := "ratioDurations", fn := fun _ => fun
  | [d] => { results := [.lit (.bool false)], args := [d] }
  | _ => none }
def RatioDurationsWrongFalsely : Prop := ratioDurationsRow.holds Try.pinned (OpenSpec.ofChange ratioDurationsWrong)

/-- 'partbooklaw01.RatioSums': WHATEVER THE INPUT: true; the input reads as it did. -/
def ratioSumsSpec : ChangeSpec := { name := "ratioSums", fn := fun _ => fun
  | [d1, d2, d3] => { results := [.lit (.bool true)], args := [d1, d2, d3] }
  | _ => none }
def ratioSumsRow : OpenClaim := { program := "ytommmlhllifonaa", sum := "0d9f5f2f15b9dc4285db38c866d06adbe7e834854c77e1cfe1ad4b4d448f2edc", func := "partbook/partbooklaw01.RatioSums", spec := "ratioSums", unfollowed := true, recurses := true, apart := false }
def RatioSumsSaid : Prop := ratioSumsRow.holds Try.pinned (OpenSpec.ofChange ratioSumsSpec)

/-- ITS FALSE NEIGHBOUR: 'it returns false'. Refute it at one input. -/
def ratioSumsWrong : ChangeSpec := { name := "ratioSums", fn := fun _ => fun
  | [d1, d2, d3] => { results := [.lit (.bool false)], args := [d1, d2, d3] }
  | _ => none }
def RatioSumsWrongFalsely : Prop := ratioSumsRow.holds Try.pinned (OpenSpec.ofChange ratioSumsWrong)

/-- 'partbooklaw01.RatioMatchesReference': WHATEVER THE INPUT: true; the input reads as it did. -/
def ratioMatchesReferenceSpec : ChangeSpec := { name := "ratioMatchesReference", fn := fun _ => fun
  | [d1, d2, d3, d4, d5] => { results := [.lit (.bool true)], args := [d1, d2, d3, d4, d5] }
  | _ => none }
def ratioMatchesReferenceRow : OpenClaim := { program := "ytommmlhllifonaa", sum := "0d9f5f2f15b9dc4285db38c866d06adbe7e834854c77e1cfe1ad4b4d448f2edc", func := "partbook/partbooklaw01.RatioMatchesReference", spec := "ratioMatchesReference", unfollowed := true, recurses := true, apart := false }
def RatioMatchesReferenceSaid : Prop := ratioMatchesReferenceRow.holds Try.pinned (OpenSpec.ofChange ratioMatchesReferenceSpec)

/-- ITS FALSE NEIGHBOUR: 'it returns false'. Refute it at one input. -/
def ratioMatchesReferenceWrong : ChangeSpec := { name := "ratioMatchesReference", fn := fun _ => fun
  | [d1, d2, d3, d4, d5] => { results := [.lit (.bool false)], args := [d1, d2, d3, d4, d5] }
  | _ => none }
def RatioMatchesReferenceWrongFalsely : Prop := ratioMatchesReferenceRow.holds Try.pinned (OpenSpec.ofChange ratioMatchesReferenceWrong)

/-- 'partbooklaw01.RatioOrder': WHATEVER THE INPUT: true; the input reads as it did. -/
def ratioOrderSpec : ChangeSpec := { name := "ratioOrder", fn := fun _ => fun
  | [d1, d2, d3] => { results := [.lit (.bool true)], args := [d1, d2, d3] }
  | _ => none }
def ratioOrderRow : OpenClaim := { program := "ytommmlhllifonaa", sum := "0d9f5f2f15b9dc4285db38c866d06adbe7e834854c77e1cfe1ad4b4d448f2edc", func := "partbook/partbooklaw01.RatioOrder", spec := "ratioOrder", unfollowed := true, recurses := true, apart := false }
def RatioOrderSaid : Prop := ratioOrderRow.holds Try.pinned (OpenSpec.ofChange ratioOrderSpec)

/-- ITS FALSE NEIGHBOUR: 'it returns false'. Refute it at one input. -/
def ratioOrderWrong : ChangeSpec := { name := "ratioOrder", fn := fun _ => fun
  | [d1, d2, d3] => { results := [.lit (.bool false)], args := [d1, d2, d3] }
  | _ => none }
def RatioOrderWrongFalsely : Prop := ratioOrderRow.holds Try.pinned (OpenSpec.ofChange ratioOrderWrong)

/- THE SECOND FORM. 'bulk': how many values and letters a reading holds, each counted each time it is reached (what is shared counts as often as it is met; a slice's spare places count too). A statement '..UptoSaid' is the law's where the arguments, and the package variables that the reading takes, are together of bulk at most 1048576: NARROWER than '..Said'. Prove '..Said' where nothing that the law and all that it calls make is longer than what came in: it says more and counts as full. Else prove '..UptoSaid'. A law counts once. -/
mutual
def uptoBulk {H : Type} : DataW H → Nat
  | .lit (.string bytes) => bytes.length + 1
  | .lit _ => 1
  | .nil => 1
  | .ptr d => uptoBulk d + 1
  | .slice elems spare => uptoBulkAll elems + uptoBulkAll spare + 1
  | .agg parts => uptoBulkAll parts + 1
  | .iface _ d => uptoBulk d + 1
  | .map entries => uptoBulkEntries entries + 1
  | .held _ => 1
def uptoBulkAll {H : Type} : List (DataW H) → Nat
  | [] => 0
  | d :: r => uptoBulk d + uptoBulkAll r
def uptoBulkEntries {H : Type} : List (Lit × DataW H) → Nat
  | [] => 0
  | x :: r => uptoBulkEntry x + uptoBulkEntries r
def uptoBulkEntry {H : Type} : Lit × DataW H → Nat
  | (.string bytes, d) => bytes.length + uptoBulk d + 1
  | (_, d) => uptoBulk d + 1
 end
def uptoSmall : (H : Type) → List (DataW H) → Bool := fun _ ds => decide (uptoBulkAll ds ≤ 1048576)
def OpenSpec.upto (s : _root_.Go.ChangeSpec) : _root_.Go.OpenSpec := { _root_.Go.OpenSpec.ofChange s with cond := some uptoSmall }

/-- 'partbooklaw01.RatioMakes', WHERE WHAT IT READS IS OF BULK AT MOST 1048576: true; the input reads as it did. -/
def ratioMakesUptoRow : OpenClaim := { program := "ytommmlhllifonaa", sum := "0d9f5f2f15b9dc4285db38c866d06adbe7e834854c77e1cfe1ad4b4d448f2edc", func := "partbook/partbooklaw01.RatioMakes", spec := "ratioMakes", unfollowed := true, recurses := true, apart := false, narrowed := true }
def RatioMakesUptoSaid : Prop := ratioMakesUptoRow.holds Try.pinned (OpenSpec.upto ratioMakesSpec)

/-- 'partbooklaw01.RatioProducts', WHERE WHAT IT READS IS OF BULK AT MOST 1048576: true; the input reads as it did. -/
def ratioProductsUptoRow : OpenClaim := { program := "ytommmlhllifonaa", sum := "0d9f5f2f15b9dc4285db38c866d06adbe7e834854c77e1cfe1ad4b4d448f2edc", func := "partbook/partbooklaw01.RatioProducts", spec := "ratioProducts", unfollowed := true, recurses := true, apart := false, narrowed := true }
def RatioProductsUptoSaid : Prop := ratioProductsUptoRow.holds Try.pinned (OpenSpec.upto ratioProductsSpec)

/-- 'partbooklaw01.RatioFloors', WHERE WHAT IT READS IS OF BULK AT MOST 1048576: true; the input reads as it did. -/
def ratioFloorsUptoRow : OpenClaim := { program := "ytommmlhllifonaa", sum := "0d9f5f2f15b9dc4285db38c866d06adbe7e834854c77e1cfe1ad4b4d448f2edc", func := "partbook/partbooklaw01.RatioFloors", spec := "ratioFloors", unfollowed := true, recurses := true, apart := false, narrowed := true }
def RatioFloorsUptoSaid : Prop := ratioFloorsUptoRow.holds Try.pinned (OpenSpec.upto ratioFloorsSpec)

/-- 'partbooklaw01.RatioDurations', WHERE WHAT IT READS IS OF BULK AT MOST 1048576: true; the input reads as it did. -/
def ratioDurationsUptoRow : OpenClaim := { program := "ytommmlhllifonaa", sum := "0d9f5f2f15b9dc4285db38c866d06adbe7e834854c77e1cfe1ad4b4d448f2edc", func := "partbook/partbooklaw01.RatioDurations", spec := "ratioDurations", unfollowed := true, recurses := true, apart := false, narrowed := true }
def RatioDurationsUptoSaid : Prop := ratioDurationsUptoRow.holds Try.pinned (OpenSpec.upto ratioDurationsSpec)

/-- 'partbooklaw01.RatioSums', WHERE WHAT IT READS IS OF BULK AT MOST 1048576: true; the input reads as it did. -/
def ratioSumsUptoRow : OpenClaim := { program := "ytommmlhllifonaa", sum := "0d9f5f2f15b9dc4285db38c866d06adbe7e834854c77e1cfe1ad4b4d448f2edc", func := "partbook/partbooklaw01.RatioSums", spec := "ratioSums", unfollowed := true, recurses := true, apart := false, narrowed := true }
def RatioSumsUptoSaid : Prop := ratioSumsUptoRow.holds Try.pinned (OpenSpec.upto ratioSumsSpec)

/-- 'partbooklaw01.RatioMatchesReference', WHERE WHAT IT READS IS OF BULK AT MOST 1048576: true; the input reads as it did. -/
def ratioMatchesReferenceUptoRow : OpenClaim := { program := "ytommmlhllifonaa", sum := "0d9f5f2f15b9dc4285db38c866d06adbe7e834854c77e1cfe1ad4b4d448f2edc", func := "partbook/partbooklaw01.RatioMatchesReference", spec := "ratioMatchesReference", unfollowed := true, recurses := true, apart := false, narrowed := true }
def RatioMatchesReferenceUptoSaid : Prop := ratioMatchesReferenceUptoRow.holds Try.pinned (OpenSpec.upto ratioMatchesReferenceSpec)

/-- 'partbooklaw01.RatioOrder', WHERE WHAT IT READS IS OF BULK AT MOST 1048576: true; the input reads as it did. -/
def ratioOrderUptoRow : OpenClaim := { program := "ytommmlhllifonaa", sum := "0d9f5f2f15b9dc4285db38c866d06adbe7e834854c77e1cfe1ad4b4d448f2edc", func := "partbook/partbooklaw01.RatioOrder", spec := "ratioOrder", unfollowed := true, recurses := true, apart := false, narrowed := true }
def RatioOrderUptoSaid : Prop := ratioOrderUptoRow.holds Try.pinned (OpenSpec.upto ratioOrderSpec)

end Rows
end Go.Proofs.Ytommmlhllifonaa
