/-
  No cell of these rows narrows 'for every input' (looked for: loops, veiled, ifaces, maps, wideKeys, modest, calm, conditions, laid).
  DERIVED. THE GIVEN ROWS OF THIS SEAT. 6 by the template 'for every input the law returns true; each argument reads behind the call as it read before'; 0 by the template 'total and deterministic' (their statements: YtcklbglladijlaaTotals.lean).
  GIVEN WITH THE SEED: the statements are not yours to turn. If you find one false, say at which input.
  Laid BY PROGRAM, IN A SANDBOX (cutbox-rows.mjs): the forced cells as the released guide's own fill.sh prints them over the translation dbbabedbfd195bb4… (all of the seat's roots in one cut). By AI agents, Wed Nov 11 2026. No macro, syntax, notation, axiom, sorry.
-/
import Derived.Test.YtcklbglladijlaaChecked
import GoSem.Claim
import GoSem.ClaimJoined
import GoSem.ClaimMapViews
import Derived.JoinedTies
import Derived.KernelRfl
namespace Go.Proofs.Ytcklbglladijlaa
/- THE CELL 'sum', in the pinned program and in every row, IS THE sha256 OF THE DUMP (.gsa) THAT YtcklbglladijlaaProg.lean LOADS. Nothing in Lean hashes anything: it is a label: what it is worth is what the hold of that sum in a sandbox is worth. -/
noncomputable def Try.pinned : Pinned := { name := "ytcklbglladijlaa", sum := "dbbabedbfd195bb4de86c3a39715cb54344c91a6d953b208764fcf1c93cea7e4", checked := Try.checked }
namespace Rows
def none {H : Type} : Left H := { results := [], args := [] }

/-- 'partbooklaw30.DecideMatchesReference': WHATEVER THE INPUT: true; the input reads as it did. -/
def decideMatchesReferenceSpec : ChangeSpec := { name := "decideMatchesReference", fn := fun _ => fun
  | [d1, d2, d3, d4, d5] => { results := [.lit (.bool true)], args := [d1, d2, d3, d4, d5] }
  | _ => none }
def decideMatchesReferenceRow : OpenClaim := { program := "ytcklbglladijlaa", sum := "dbbabedbfd195bb4de86c3a39715cb54344c91a6d953b208764fcf1c93cea7e4", func := "partbook/partbooklaw30.DecideMatchesReference", spec := "decideMatchesReference", inPlace := ["slices.overlaps[int]"], unfollowed := true, recurses := true, plainKeys := false, apart := false }
def DecideMatchesReferenceSaid : Prop := decideMatchesReferenceRow.holds Try.pinned (OpenSpec.ofChange decideMatchesReferenceSpec)

/-- ITS FALSE NEIGHBOUR: 'it returns false'. Refute it at one input. -/
def decideMatchesReferenceWrong : ChangeSpec := { name := "decideMatchesReference", fn := fun _ => fun
  | [d1, d2, d3, d4, d5] => { results := [.lit (.bool false)], args := [d1, d2, d3, d4, d5] }
  | _ => none }
def DecideMatchesReferenceWrongFalsely : Prop := decideMatchesReferenceRow.holds Try.pinned (OpenSpec.ofChange decideMatchesReferenceWrong)

/-- 'partbooklaw30.DecidePushes': WHATEVER THE INPUT: true; the input reads as it did. -/
def decidePushesSpec : ChangeSpec := { name := "decidePushes", fn := fun _ => fun
  | [d1, d2, d3, d4, d5] => { results := [.lit (.bool true)], args := [d1, d2, d3, d4, d5] }
  | _ => none }
def decidePushesRow : OpenClaim := { program := "ytcklbglladijlaa", sum := "dbbabedbfd195bb4de86c3a39715cb54344c91a6d953b208764fcf1c93cea7e4", func := "partbook/partbooklaw30.DecidePushes", spec := "decidePushes", inPlace := ["slices.overlaps[int]"], unfollowed := true, recurses := true, plainKeys := false, apart := false }
def DecidePushesSaid : Prop := decidePushesRow.holds Try.pinned (OpenSpec.ofChange decidePushesSpec)

/-- ITS FALSE NEIGHBOUR: 'it returns false'. Refute it at one input. -/
def decidePushesWrong : ChangeSpec := { name := "decidePushes", fn := fun _ => fun
  | [d1, d2, d3, d4, d5] => { results := [.lit (.bool false)], args := [d1, d2, d3, d4, d5] }
  | _ => none }
def DecidePushesWrongFalsely : Prop := decidePushesRow.holds Try.pinned (OpenSpec.ofChange decidePushesWrong)

/-- 'partbooklaw30.DecideAgrees': WHATEVER THE INPUT: true; the input reads as it did. -/
def decideAgreesSpec : ChangeSpec := { name := "decideAgrees", fn := fun _ => fun
  | [d1, d2, d3, d4, d5] => { results := [.lit (.bool true)], args := [d1, d2, d3, d4, d5] }
  | _ => none }
def decideAgreesRow : OpenClaim := { program := "ytcklbglladijlaa", sum := "dbbabedbfd195bb4de86c3a39715cb54344c91a6d953b208764fcf1c93cea7e4", func := "partbook/partbooklaw30.DecideAgrees", spec := "decideAgrees", inPlace := ["slices.overlaps[int]"], unfollowed := true, recurses := true, plainKeys := false, apart := false }
def DecideAgreesSaid : Prop := decideAgreesRow.holds Try.pinned (OpenSpec.ofChange decideAgreesSpec)

/-- ITS FALSE NEIGHBOUR: 'it returns false'. Refute it at one input. -/
def decideAgreesWrong : ChangeSpec := { name := "decideAgrees", fn := fun _ => fun
  | [d1, d2, d3, d4, d5] => { results := [.lit (.bool false)], args := [d1, d2, d3, d4, d5] }
  | _ => none }
def DecideAgreesWrongFalsely : Prop := decideAgreesRow.holds Try.pinned (OpenSpec.ofChange decideAgreesWrong)

/-- 'partbooklaw30.DecideRooms': WHATEVER THE INPUT: true; the input reads as it did. -/
def decideRoomsSpec : ChangeSpec := { name := "decideRooms", fn := fun _ => fun
  | [d1, d2, d3, d4] => { results := [.lit (.bool true)], args := [d1, d2, d3, d4] }
  | _ => none }
def decideRoomsRow : OpenClaim := { program := "ytcklbglladijlaa", sum := "dbbabedbfd195bb4de86c3a39715cb54344c91a6d953b208764fcf1c93cea7e4", func := "partbook/partbooklaw30.DecideRooms", spec := "decideRooms", inPlace := ["slices.overlaps[int]"], unfollowed := true, recurses := true, plainKeys := false, apart := false }
def DecideRoomsSaid : Prop := decideRoomsRow.holds Try.pinned (OpenSpec.ofChange decideRoomsSpec)

/-- ITS FALSE NEIGHBOUR: 'it returns false'. Refute it at one input. -/
def decideRoomsWrong : ChangeSpec := { name := "decideRooms", fn := fun _ => fun
  | [d1, d2, d3, d4] => { results := [.lit (.bool false)], args := [d1, d2, d3, d4] }
  | _ => none }
def DecideRoomsWrongFalsely : Prop := decideRoomsRow.holds Try.pinned (OpenSpec.ofChange decideRoomsWrong)

/-- 'partbooklaw30.DecideBack': WHATEVER THE INPUT: true; the input reads as it did. -/
def decideBackSpec : ChangeSpec := { name := "decideBack", fn := fun _ => fun
  | [d1, d2, d3] => { results := [.lit (.bool true)], args := [d1, d2, d3] }
  | _ => none }
def decideBackRow : OpenClaim := { program := "ytcklbglladijlaa", sum := "dbbabedbfd195bb4de86c3a39715cb54344c91a6d953b208764fcf1c93cea7e4", func := "partbook/partbooklaw30.DecideBack", spec := "decideBack", inPlace := ["slices.overlaps[int]"], unfollowed := true, recurses := true, plainKeys := false, apart := false }
def DecideBackSaid : Prop := decideBackRow.holds Try.pinned (OpenSpec.ofChange decideBackSpec)

/-- ITS FALSE NEIGHBOUR: 'it returns false'. Refute it at one input. -/
def decideBackWrong : ChangeSpec := { name := "decideBack", fn := fun _ => fun
  | [d1, d2, d3] => { results := [.lit (.bool false)], args := [d1, d2, d3] }
  | _ => none }
def DecideBackWrongFalsely : Prop := decideBackRow.holds Try.pinned (OpenSpec.ofChange decideBackWrong)

/-- 'partbooklaw30.DecideVersions': WHATEVER THE INPUT: true; the input reads as it did. -/
def decideVersionsSpec : ChangeSpec := { name := "decideVersions", fn := fun _ => fun
  | [d1, d2, d3] => { results := [.lit (.bool true)], args := [d1, d2, d3] }
  | _ => none }
def decideVersionsRow : OpenClaim := { program := "ytcklbglladijlaa", sum := "dbbabedbfd195bb4de86c3a39715cb54344c91a6d953b208764fcf1c93cea7e4", func := "partbook/partbooklaw30.DecideVersions", spec := "decideVersions", inPlace := ["slices.overlaps[int]"], unfollowed := true, recurses := true, plainKeys := false, apart := false }
def DecideVersionsSaid : Prop := decideVersionsRow.holds Try.pinned (OpenSpec.ofChange decideVersionsSpec)

/-- ITS FALSE NEIGHBOUR: 'it returns false'. Refute it at one input. -/
def decideVersionsWrong : ChangeSpec := { name := "decideVersions", fn := fun _ => fun
  | [d1, d2, d3] => { results := [.lit (.bool false)], args := [d1, d2, d3] }
  | _ => none }
def DecideVersionsWrongFalsely : Prop := decideVersionsRow.holds Try.pinned (OpenSpec.ofChange decideVersionsWrong)

/- THE SECOND FORM. 'bulk': how many values and letters a reading holds, each counted each time it is reached (what is shared counts as often as it is met; a slice's spare places count too). A statement '..UptoSaid' is the law's where the arguments, and the package variables that the reading takes, are together of bulk at most 1048576: NARROWER than '..Said'. Prove '..Said' where nothing that the law and all that it calls make is longer than what came in: it says more and counts as full. Else prove '..UptoSaid'. A law counts once. -/
mutual
def uptoBulk {H : Type} : DataW H → Nat
  | .lit (.string bytes) => bytes.length + 1
  | .lit _ => 1
  | .nil => 1
  | .ptr d => uptoBulk d + 1
  | .slice elems spare => uptoBulkAll elems + uptoBulkAll spare + 1
  | .agg parts => uptoBulkAll parts + 1
  | .iface _ d => uptoBulk d + 1
  | .map entries => uptoBulkEntries entries + 1
  | .held _ => 1
def uptoBulkAll {H : Type} : List (DataW H) → Nat
  | [] => 0
  | d :: r => uptoBulk d + uptoBulkAll r
def uptoBulkEntries {H : Type} : List (Lit × DataW H) → Nat
  | [] => 0
  | x :: r => uptoBulkEntry x + uptoBulkEntries r
def uptoBulkEntry {H : Type} : Lit × DataW H → Nat
  | (.string bytes, d) => bytes.length + uptoBulk d + 1
  | (_, d) => uptoBulk d + 1
 end
def uptoSmall : (H : Type) → List (DataW H) → Bool := fun _ ds => decide (uptoBulkAll ds ≤ 1048576)
def OpenSpec.upto (s : _root_.Go.ChangeSpec) : _root_.Go.OpenSpec := { _root_.Go.OpenSpec.ofChange s with cond := some uptoSmall }

/-- 'partbooklaw30.DecideMatchesReference', WHERE WHAT IT READS IS OF BULK AT MOST 1048576: true; the input reads as it did. -/
def decideMatchesReferenceUptoRow : OpenClaim := { program := "ytcklbglladijlaa", sum := "dbbabedbfd195bb4de86c3a39715cb54344c91a6d953b208764fcf1c93cea7e4", func := "partbook/partbooklaw30.DecideMatchesReference", spec := "decideMatchesReference", inPlace := ["slices.overlaps[int]"], unfollowed := true, recurses := true, plainKeys := false, apart := false, narrowed := true }
def DecideMatchesReferenceUptoSaid : Prop := decideMatchesReferenceUptoRow.holds Try.pinned (OpenSpec.upto decideMatchesReferenceSpec)

/-- 'partbooklaw30.DecidePushes', WHERE WHAT IT READS IS OF BULK AT MOST 1048576: true; the input reads as it did. -/
def decidePushesUptoRow : OpenClaim := { program := "ytcklbglladijlaa", sum := "dbbabedbfd195bb4de86c3a39715cb54344c91a6d953b208764fcf1c93cea7e4", func := "partbook/partbooklaw30.DecidePushes", spec := "decidePushes", inPlace := ["slices.overlaps[int]"], unfollowed := true, recurses := true, plainKeys := false, apart := false, narrowed := true }
def DecidePushesUptoSaid : Prop := decidePushesUptoRow.holds Try.pinned (OpenSpec.upto decidePushesSpec)

/-- 'partbooklaw30.DecideAgrees', WHERE WHAT IT READS IS OF BULK AT MOST 1048576: true; the input reads as it did. -/
def decideAgreesUptoRow : OpenClaim := { program := "ytcklbglladijlaa", sum := "dbbabedbfd195bb4de86c3a39715cb54344c91a6d953b208764fcf1c93cea7e4", func := "partbook/partbooklaw30.DecideAgrees", spec := "decideAgrees", inPlace := ["slices.overlaps[int]"], unfollowed := true, recurses := true, plainKeys := false, apart := false, narrowed := true }
def DecideAgreesUptoSaid : Prop := decideAgreesUptoRow.holds Try.pinned (OpenSpec.upto decideAgreesSpec)

/-- 'partbooklaw30.DecideRooms', WHERE WHAT IT READS IS OF BULK AT MOST 1048576: true; the input reads as it did. -/
def decideRoomsUptoRow : OpenClaim := { program := "ytcklbglladijlaa", sum := "dbbabedbfd195bb4de86c3a39715cb54344c91a6d953b208764fcf1c93cea7e4", func := "partbook/partbooklaw30.DecideRooms", spec := "decideRooms", inPlace := ["slices.overlaps[int]"], unfollowed := true, recurses := true, plainKeys := false, apart := false, narrowed := true }
def DecideRoomsUptoSaid : Prop := decideRoomsUptoRow.holds Try.pinned (OpenSpec.upto decideRoomsSpec)

/-- 'partbooklaw30.DecideBack', WHERE WHAT IT READS IS OF BULK AT MOST 1048576: true; the input reads as it did. -/
def decideBackUptoRow : OpenClaim := { program := "ytcklbglladijlaa", sum := "dbbabedbfd195bb4de86c3a39715cb54344c91a6d953b208764fcf1c93cea7e4", func := "partbook/partbooklaw30.DecideBack", spec := "decideBack", inPlace := ["slices.overlaps[int]"], unfollowed := true, recurses := true, plainKeys := false, apart := false, narrowed := true }
def DecideBackUptoSaid : Prop := decideBackUptoRow.holds Try.pinned (OpenSpec.upto decideBackSpec)

/-- 'partbooklaw30.DecideVersions', WHERE WHAT IT READS IS OF BULK AT MOST 1048576: true; the input reads as it did. -/
def decideVersionsUptoRow : OpenClaim := { program := "ytcklbglladijlaa", sum := "dbbabedbfd195bb4de86c3a39715cb54344c91a6d953b208764fcf1c93cea7e4", func := "partbook/partbooklaw30.DecideVersions", spec := "decideVersions", inPlace := ["slices.overlaps[int]"], unfollowed := true, recurses := true, plainKeys := false, apart := false, narrowed := true }
def DecideVersionsUptoSaid : Prop := decideVersionsUptoRow.holds Try.pinned (OpenSpec.upto decideVersionsSpec)

end Rows
end Go.Proofs.Ytcklbglladijlaa
