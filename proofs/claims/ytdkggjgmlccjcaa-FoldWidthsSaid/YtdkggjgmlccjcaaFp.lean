/- Plain numbers: measures, blocks, what folds them. No program in sight. -/
import Derived.Test.YtdkggjgmlccjcaaMq
import Derived.Test.YtdkggjgmlccjcaaSyZ
namespace Go.RatLaw
set_option linter.unusedVariables false
set_option linter.unusedSimpArgs false

abbrev Wr := Int × (Int × (Int × ((Int × Int) × ((Int × Int) × (Int × (Int × Int))))))
/-- a measure: Bar, Key, Length, Notes -/
abbrev Ms := Int × (Int × ((Int × Int) × List Wr))
abbrev Bk := Int × Int
def ms0 : Ms := (0, (0, ((0, 0), [])))
def atM (ms : List Ms) (i : Int) : Ms := ms.getD i.toNat ms0
def notesM (m : Ms) : List Wr := m.2.2.2
def lenB (n d : Int) : Bool := decide (1 ≤ tks n d ∧ tks n d ≤ 40320)
def okM (m : Ms) : Bool := lenB m.2.2.1.1 m.2.2.1.2 && decide (-7 ≤ m.2.1 ∧ m.2.1 ≤ 7)
def w64 (x : Int) : Int := IntKind.i64.wrap x
def nsW (ms : List Ms) : Int := ms.foldl (fun a m => w64 (a + (notesM m).length)) 0
def viewB (ms : List Ms) : Bool := decide (ms.length ≤ 4000) && (ms.all okM && decide (nsW ms ≤ 20000))
def fewB (ms : List Ms) : Bool := decide (ms.length ≤ 60) && decide (nsW (ms.take 100) ≤ 60)
def endB (b : Bk) : Int := b.1 + (if b.2 > 1 then b.2 else 1)
def blk1 (last : Int) (b : Bk) : Bool := decide (last ≤ b.1 ∧ b.1 ≤ 4000 ∧ 0 ≤ b.2 ∧ b.2 ≤ 4000 ∧ endB b ≤ 4000)
def blkFrom (last : Int) : List Bk → Bool
  | [] => true
  | b :: r => blk1 last b && blkFrom (endB b) r
def blkB (l : List Bk) : Bool := blkFrom 0 l
def bk0 : Bk := (0, 0)
/-- the end of the first x blocks -/
def lastB (l : List Bk) (x : Nat) : Int := if x = 0 then 0 else endB (l.getD (x - 1) bk0)
def joinsB (a b : Ms) : Bool := (notesM a).isEmpty && (notesM b).isEmpty && (a.2.2.1.1 == b.2.2.1.1 && a.2.2.1.2 == b.2.2.1.2) && a.2.1 == b.2.1
def stepB (ms : List Ms) (stop : Int → Bool) (i : Nat) (out : List Bk) : List Bk :=
  if (notesM (ms.getD i ms0)).isEmpty = false then out ++ [((i : Int), 0)]
  else if 0 < i ∧ joinsB (ms.getD (i - 1) ms0) (ms.getD i ms0) = true ∧ stop i = false then out.set (out.length - 1) ((out.getD (out.length - 1) bk0).1, (out.getD (out.length - 1) bk0).2 + 1)
  else out ++ [((i : Int), 1)]
/-- the blocks of the first i measures -/
def foldTo (ms : List Ms) (stop : Int → Bool) : Nat → List Bk
  | 0 => []
  | i + 1 => stepB ms stop i (foldTo ms stop i)
def wrongS (ms : List Ms) (n : Int) : Bool := !(decide (0 ≤ n) && decide (n ≤ (ms.length : Int) - 1))
def inL (st : List Int) (n : Int) : Bool := decide (n ∈ st)
def foldS (ms : List Ms) (st : List Int) : List Bk × Int :=
  if viewB ms = false then ([], 1) else if st.length > 4000 then ([], 2) else if st.any (wrongS ms) then ([], 1) else (foldTo ms (inL st) ms.length, 0)
def rangeI (a : Int) (n : Nat) : List Int := (List.range n).map fun i : Nat => a + (i : Int)
def spanB (b : Bk) : List Int := rangeI b.1 (endB b - b.1).toNat
def unfB (l : List Bk) : List Int := l.flatMap spanB
def unfoldS (l : List Bk) : List Int × Int := if blkB l then (unfB l, 0) else ([], 1)
/-- each one once -/
def dist (l : List (Int × Int)) : List (Int × Int) := l.foldl (fun acc x => if x ∈ acc then acc else acc ++ [x]) []
def startsW (l : List Wr) : List (Int × Int) := l.map fun w => w.2.2.2.1
def min64 (x y : Int) : Int := if y < x then y else x
def widthB (l : List Wr) : Int := min64 1000 (w64 (20 + w64 (10 * (dist (startsW l)).length)))
def widB (ms : List Ms) (b : Bk) : Int := if b.2 > 1 then 30 else if b.2 = 1 then 20 else widthB (notesM (atM ms b.1))
def soundsM (m : Ms) : Bool := !(notesM m).isEmpty
def widOk (ms : List Ms) (b : Bk) : Bool := decide (endB b ≤ ms.length) && !(decide (b.2 > 0) && ((ms.take (endB b).toNat).drop b.1.toNat).any soundsM)
def widthsS (ms : List Ms) (l : List Bk) : List Int × Int := if viewB ms && blkB l && l.all (widOk ms) then (l.map (widB ms), 0) else ([], 1)
def idxOf {α : Type} (p : α → Bool) (l : List α) : Int := match l.findIdx? p with
  | some i => i
  | none => -1
def stopsM (st : List Int) : List (Int × Bool) := st.foldl (fun m n => Go.Sy.mput (fun a b => a == b) n true m) []
def distM (l : List (Int × Int)) : List ((Int × Int) × Bool) := l.foldl (fun m n => Go.Sy.mput (Go.Sy.Ty.beq (.tp (.ti .i64) (.ti .i64))) n true m) []
def startW (w : Wr) : Int × Int := w.2.2.2.1
def wr0 : Wr := (0, (0, (0, ((0, 0), ((0, 0), (0, (0, 0)))))))
def getM (l : List (Int × Bool)) (k : Int) : Bool := (Go.Sy.mget (Go.Sy.Ty.beq (.ti .i64)) k l).getD false
/-- measure x begins a block -/
def opensB (ms : List Ms) (stop : Int → Bool) (x : Nat) : Bool := !((notesM (ms.getD x ms0)).isEmpty && decide (0 < x) && joinsB (ms.getD (x - 1) ms0) (ms.getD x ms0) && !stop x)
/-- measures i .. y-1 are in one block of rest -/
def runB (ms : List Ms) (stop : Int → Bool) (i y : Nat) : Prop := i < y ∧ y ≤ ms.length ∧ foldTo ms stop y = foldTo ms stop i ++ [((i : Int), (y : Int) - i)] ∧ (ms.getD (y - 1) ms0).2.1 = (ms.getD i ms0).2.1 ∧ (ms.getD (y - 1) ms0).2.2.1 = (ms.getD i ms0).2.2.1 ∧ (notesM (ms.getD (y - 1) ms0)).isEmpty = (notesM (ms.getD i ms0)).isEmpty
def sameL (l m : List Bk) : Bool := decide (l = m)
def sameIL (l m : List Int) : Bool := decide (l = m)
end Go.RatLaw
