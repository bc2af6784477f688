/-
  No cell of these rows narrows 'for every input' (looked for: loops, veiled, ifaces, maps, wideKeys, modest, calm, conditions, laid).
  DERIVED. THE GIVEN ROWS OF THIS SEAT. 6 by the template 'for every input the law returns true; each argument reads behind the call as it read before'; 0 by the template 'total and deterministic' (their statements: YtjghgdccaakfmaaTotals.lean).
  GIVEN WITH THE SEED: the statements are not yours to turn. If you find one false, say at which input.
  Laid BY PROGRAM, IN A SANDBOX (cutbox-rows.mjs): the forced cells as the released guide's own fill.sh prints them over the translation 0a2aa4ba3721ab21… (all of the seat's roots in one cut). By AI agents, Wed Nov 11 2026. No macro, syntax, notation, axiom, sorry.
-/
import Derived.Test.YtjghgdccaakfmaaChecked
import GoSem.Claim
import GoSem.ClaimJoined
import GoSem.ClaimMapViews
import Derived.JoinedTies
import Derived.KernelRfl
namespace Go.Proofs.Ytjghgdccaakfmaa
/- THE CELL 'sum', in the pinned program and in every row, IS THE sha256 OF THE DUMP (.gsa) THAT YtjghgdccaakfmaaProg.lean LOADS. Nothing in Lean hashes anything: it is a label: what it is worth is what the hold of that sum in a sandbox is worth. -/
noncomputable def Try.pinned : Pinned := { name := "ytjghgdccaakfmaa", sum := "0a2aa4ba3721ab21b426d01223d67de52003c884efcb1539b5dfc2fdaada3429", checked := Try.checked }
namespace Rows
def none {H : Type} : Left H := { results := [], args := [] }

/-- 'partbooklaw10.TempoMatchesReference': WHATEVER THE INPUT: true; the input reads as it did. -/
def tempoMatchesReferenceSpec : ChangeSpec := { name := "tempoMatchesReference", fn := fun _ => fun
  | [d1, d2, d3, d4, d5, d6, d7, d8] => { results := [.lit (.bool true)], args := [d1, d2, d3, d4, d5, d6, d7, d8] }
  | _ => none }
def tempoMatchesReferenceRow : OpenClaim := { program := "ytjghgdccaakfmaa", sum := "0a2aa4ba3721ab21b426d01223d67de52003c884efcb1539b5dfc2fdaada3429", func := "partbook/partbooklaw10.TempoMatchesReference", spec := "tempoMatchesReference", unfollowed := true, recurses := true, plainKeys := false, apart := false }
def TempoMatchesReferenceSaid : Prop := tempoMatchesReferenceRow.holds Try.pinned (OpenSpec.ofChange tempoMatchesReferenceSpec)

/-- ITS FALSE NEIGHBOUR: 'it returns false'. Refute it at one input. -/
def tempoMatchesReferenceWrong : ChangeSpec := { name := "tempoMatchesReference", fn := fun _ => fun
  | [d1, d2, d3, d4, d5, d6, d7, d8] => { results := [.lit (.bool false)], args := [d1, d2, d3, d4, d5, d6, d7, d8] }
  | _ => none }
def TempoMatchesReferenceWrongFalsely : Prop := tempoMatchesReferenceRow.holds Try.pinned (OpenSpec.ofChange tempoMatchesReferenceWrong)

/-- 'partbooklaw10.TempoParts': WHATEVER THE INPUT: true; the input reads as it did. -/
def tempoPartsSpec : ChangeSpec := { name := "tempoParts", fn := fun _ => fun
  | [d1, d2, d3, d4, d5] => { results := [.lit (.bool true)], args := [d1, d2, d3, d4, d5] }
  | _ => none }
def tempoPartsRow : OpenClaim := { program := "ytjghgdccaakfmaa", sum := "0a2aa4ba3721ab21b426d01223d67de52003c884efcb1539b5dfc2fdaada3429", func := "partbook/partbooklaw10.TempoParts", spec := "tempoParts", unfollowed := true, recurses := true, plainKeys := false, apart := false }
def TempoPartsSaid : Prop := tempoPartsRow.holds Try.pinned (OpenSpec.ofChange tempoPartsSpec)

/-- ITS FALSE NEIGHBOUR: 'it returns false'. Refute it at one input. -/
def tempoPartsWrong : ChangeSpec := { name := "tempoParts", fn := fun _ => fun
  | [d1, d2, d3, d4, d5] => { results := [.lit (.bool false)], args := [d1, d2, d3, d4, d5] }
  | _ => none }
def TempoPartsWrongFalsely : Prop := tempoPartsRow.holds Try.pinned (OpenSpec.ofChange tempoPartsWrong)

/-- 'partbooklaw10.TempoPlain': WHATEVER THE INPUT: true; the input reads as it did. -/
def tempoPlainSpec : ChangeSpec := { name := "tempoPlain", fn := fun _ => fun
  | [d1, d2, d3, d4] => { results := [.lit (.bool true)], args := [d1, d2, d3, d4] }
  | _ => none }
def tempoPlainRow : OpenClaim := { program := "ytjghgdccaakfmaa", sum := "0a2aa4ba3721ab21b426d01223d67de52003c884efcb1539b5dfc2fdaada3429", func := "partbook/partbooklaw10.TempoPlain", spec := "tempoPlain", unfollowed := true, recurses := true, plainKeys := false, apart := false }
def TempoPlainSaid : Prop := tempoPlainRow.holds Try.pinned (OpenSpec.ofChange tempoPlainSpec)

/-- ITS FALSE NEIGHBOUR: 'it returns false'. Refute it at one input. -/
def tempoPlainWrong : ChangeSpec := { name := "tempoPlain", fn := fun _ => fun
  | [d1, d2, d3, d4] => { results := [.lit (.bool false)], args := [d1, d2, d3, d4] }
  | _ => none }
def TempoPlainWrongFalsely : Prop := tempoPlainRow.holds Try.pinned (OpenSpec.ofChange tempoPlainWrong)

/-- 'partbooklaw10.TempoLater': WHATEVER THE INPUT: true; the input reads as it did. -/
def tempoLaterSpec : ChangeSpec := { name := "tempoLater", fn := fun _ => fun
  | [d1, d2, d3, d4, d5] => { results := [.lit (.bool true)], args := [d1, d2, d3, d4, d5] }
  | _ => none }
def tempoLaterRow : OpenClaim := { program := "ytjghgdccaakfmaa", sum := "0a2aa4ba3721ab21b426d01223d67de52003c884efcb1539b5dfc2fdaada3429", func := "partbook/partbooklaw10.TempoLater", spec := "tempoLater", unfollowed := true, recurses := true, plainKeys := false, apart := false }
def TempoLaterSaid : Prop := tempoLaterRow.holds Try.pinned (OpenSpec.ofChange tempoLaterSpec)

/-- ITS FALSE NEIGHBOUR: 'it returns false'. Refute it at one input. -/
def tempoLaterWrong : ChangeSpec := { name := "tempoLater", fn := fun _ => fun
  | [d1, d2, d3, d4, d5] => { results := [.lit (.bool false)], args := [d1, d2, d3, d4, d5] }
  | _ => none }
def TempoLaterWrongFalsely : Prop := tempoLaterRow.holds Try.pinned (OpenSpec.ofChange tempoLaterWrong)

/-- 'partbooklaw10.TempoConstant': WHATEVER THE INPUT: true; the input reads as it did. -/
def tempoConstantSpec : ChangeSpec := { name := "tempoConstant", fn := fun _ => fun
  | [d1, d2, d3, d4] => { results := [.lit (.bool true)], args := [d1, d2, d3, d4] }
  | _ => none }
def tempoConstantRow : OpenClaim := { program := "ytjghgdccaakfmaa", sum := "0a2aa4ba3721ab21b426d01223d67de52003c884efcb1539b5dfc2fdaada3429", func := "partbook/partbooklaw10.TempoConstant", spec := "tempoConstant", unfollowed := true, recurses := true, plainKeys := false, apart := false }
def TempoConstantSaid : Prop := tempoConstantRow.holds Try.pinned (OpenSpec.ofChange tempoConstantSpec)

/-- ITS FALSE NEIGHBOUR: 'it returns false'. Refute it at one input. -/
def tempoConstantWrong : ChangeSpec := { name := "tempoConstant", fn := fun _ => fun
  | [d1, d2, d3, d4] => { results := [.lit (.bool false)], args := [d1, d2, d3, d4] }
  | _ => none }
def TempoConstantWrongFalsely : Prop := tempoConstantRow.holds Try.pinned (OpenSpec.ofChange tempoConstantWrong)

/-- 'partbooklaw10.TempoPlayed': WHATEVER THE INPUT: true; the input reads as it did. -/
def tempoPlayedSpec : ChangeSpec := { name := "tempoPlayed", fn := fun _ => fun
  | [d1, d2, d3, d4] => { results := [.lit (.bool true)], args := [d1, d2, d3, d4] }
  | _ => none }
def tempoPlayedRow : OpenClaim := { program := "ytjghgdccaakfmaa", sum := "0a2aa4ba3721ab21b426d01223d67de52003c884efcb1539b5dfc2fdaada3429", func := "partbook/partbooklaw10.TempoPlayed", spec := "tempoPlayed", unfollowed := true, recurses := true, plainKeys := false, apart := false }
def TempoPlayedSaid : Prop := tempoPlayedRow.holds Try.pinned (OpenSpec.ofChange tempoPlayedSpec)

/-- ITS FALSE NEIGHBOUR: 'it returns false'. Refute it at one input. -/
def tempoPlayedWrong : ChangeSpec := { name := "tempoPlayed", fn := fun _ => fun
  | [d1, d2, d3, d4] => { results := [.lit (.bool false)], args := [d1, d2, d3, d4] }
  | _ => none }
def TempoPlayedWrongFalsely : Prop := tempoPlayedRow.holds Try.pinned (OpenSpec.ofChange tempoPlayedWrong)

/- THE SECOND FORM. 'bulk': how many values and letters a reading holds, each counted each time it is reached (what is shared counts as often as it is met; a slice's spare places count too). A statement '..UptoSaid' is the law's where the arguments, and the package variables that the reading takes, are together of bulk at most 1048576: NARROWER than '..Said'. Prove '..Said' where nothing that the law and all that it calls make is longer than what came in: it says more and counts as full. Else prove '..UptoSaid'. A law counts once. -/
mutual
def uptoBulk {H : Type} : DataW H → Nat
  | .lit (.string bytes) => bytes.length + 1
  | .lit _ => 1
  | .nil => 1
  | .ptr d => uptoBulk d + 1
  | .slice elems spare => uptoBulkAll elems + uptoBulkAll spare + 1
  | .agg parts => uptoBulkAll parts + 1
  | .iface _ d => uptoBulk d + 1
  | .map entries => uptoBulkEntries entries + 1
  | .held _ => 1
def uptoBulkAll {H : Type} : List (DataW H) → Nat
  | [] => 0
  | d :: r => uptoBulk d + uptoBulkAll r
def uptoBulkEntries {H : Type} : List (Lit × DataW H) → Nat
  | [] => 0
  | x :: r => uptoBulkEntry x + uptoBulkEntries r
def uptoBulkEntry {H : Type} : Lit × DataW H → Nat
  | (.string bytes, d) => bytes.length + uptoBulk d + 1
  | (_, d) => uptoBulk d + 1
 end
def uptoSmall : (H : Type) → List (DataW H) → Bool := fun _ ds => decide (uptoBulkAll ds ≤ 1048576)
def OpenSpec.upto (s : _root_.Go.ChangeSpec) : _root_.Go.OpenSpec := { _root_.Go.OpenSpec.ofChange s with cond := some uptoSmall }

/-- 'partbooklaw10.TempoMatchesReference', WHERE WHAT IT READS IS OF BULK AT MOST 1048576: true; the input reads as it did. -/
def tempoMatchesReferenceUptoRow : OpenClaim := { program := "ytjghgdccaakfmaa", sum := "0a2aa4ba3721ab21b426d01223d67de52003c884efcb1539b5dfc2fdaada3429", func := "partbook/partbooklaw10.TempoMatchesReference", spec := "tempoMatchesReference", unfollowed := true, recurses := true, plainKeys := false, apart := false, narrowed := true }
def TempoMatchesReferenceUptoSaid : Prop := tempoMatchesReferenceUptoRow.holds Try.pinned (OpenSpec.upto tempoMatchesReferenceSpec)

/-- 'partbooklaw10.TempoParts', WHERE WHAT IT READS IS OF BULK AT MOST 1048576: true; the input reads as it did. -/
def tempoPartsUptoRow : OpenClaim := { program := "ytjghgdccaakfmaa", sum := "0a2aa4ba3721ab21b426d01223d67de52003c884efcb1539b5dfc2fdaada3429", func := "partbook/partbooklaw10.TempoParts", spec := "tempoParts", unfollowed := true, recurses := true, plainKeys := false, apart := false, narrowed := true }
def TempoPartsUptoSaid : Prop := tempoPartsUptoRow.holds Try.pinned (OpenSpec.upto tempoPartsSpec)

/-- 'partbooklaw10.TempoPlain', WHERE WHAT IT READS IS OF BULK AT MOST 1048576: true; the input reads as it did. -/
def tempoPlainUptoRow : OpenClaim := { program := "ytjghgdccaakfmaa", sum := "0a2aa4ba3721ab21b426d01223d67de52003c884efcb1539b5dfc2fdaada3429", func := "partbook/partbooklaw10.TempoPlain", spec := "tempoPlain", unfollowed := true, recurses := true, plainKeys := false, apart := false, narrowed := true }
def TempoPlainUptoSaid : Prop := tempoPlainUptoRow.holds Try.pinned (OpenSpec.upto tempoPlainSpec)

/-- 'partbooklaw10.TempoLater', WHERE WHAT IT READS IS OF BULK AT MOST 1048576: true; the input reads as it did. -/
def tempoLaterUptoRow : OpenClaim := { program := "ytjghgdccaakfmaa", sum := "0a2aa4ba3721ab21b426d01223d67de52003c884efcb1539b5dfc2fdaada3429", func := "partbook/partbooklaw10.TempoLater", spec := "tempoLater", unfollowed := true, recurses := true, plainKeys := false, apart := false, narrowed := true }
def TempoLaterUptoSaid : Prop := tempoLaterUptoRow.holds Try.pinned (OpenSpec.upto tempoLaterSpec)

/-- 'partbooklaw10.TempoConstant', WHERE WHAT IT READS IS OF BULK AT MOST 1048576: true; the input reads as it did. -/
def tempoConstantUptoRow : OpenClaim := { program := "ytjghgdccaakfmaa", sum := "0a2aa4ba3721ab21b426d01223d67de52003c884efcb1539b5dfc2fdaada3429", func := "partbook/partbooklaw10.TempoConstant", spec := "tempoConstant", unfollowed := true, recurses := true, plainKeys := false, apart := false, narrowed := true }
def TempoConstantUptoSaid : Prop := tempoConstantUptoRow.holds Try.pinned (OpenSpec.upto tempoConstantSpec)

/-- 'partbooklaw10.TempoPlayed', WHERE WHAT IT READS IS OF BULK AT MOST 1048576: true; the input reads as it did. -/
def tempoPlayedUptoRow : OpenClaim := { program := "ytjghgdccaakfmaa", sum := "0a2aa4ba3721ab21b426d01223d67de52003c884efcb1539b5dfc2fdaada3429", func := "partbook/partbooklaw10.TempoPlayed", spec := "tempoPlayed", unfollowed := true, recurses := true, plainKeys := false, apart := false, narrowed := true }
def TempoPlayedUptoSaid : Prop := tempoPlayedUptoRow.holds Try.pinned (OpenSpec.upto tempoPlayedSpec)

end Rows
end Go.Proofs.Ytjghgdccaakfmaa
