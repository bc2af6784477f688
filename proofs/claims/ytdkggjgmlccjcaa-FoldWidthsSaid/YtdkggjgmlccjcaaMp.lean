/- Plain numbers: bars, when they begin, positions in them. No program in sight. -/
import Derived.Test.YtdkggjgmlccjcaaRt
namespace Go.RatLaw

/-- the 1680ths of a duration; -1: it is none -/
def tks (n d : Int) : Int := if dur n d then tk n d else -1
/-- a bar: ID, length, key -/
abbrev Bar := Int × ((Int × Int) × Int)
def tb (b : Bar) : Int := tks b.2.1.1 b.2.1.2
def okBar (b : Bar) : Bool := decide (1 ≤ b.1 ∧ b.1 ≤ 1000000 ∧ 1 ≤ tb b ∧ tb b ≤ 40320 ∧ -7 ≤ b.2.2 ∧ b.2.2 ≤ 7)
def ids (l : List Bar) : List Int := l.map (·.1)
def okBars (l : List Bar) : Bool := decide (1 ≤ l.length ∧ l.length ≤ 4000 ∧ (∀ b ∈ l, okBar b = true) ∧ (ids l).Nodup)
def bef (l : List Bar) : Int := (l.map tb).sum
def bar0 : Bar := (0, ((0, 0), 0))
def barAt (l : List Bar) (b : Int) : Bar := l.getD b.toNat bar0
/-- a position in bars -/
def posS (l : List Bar) (b n d : Int) : Bool := decide (0 ≤ b ∧ 0 ≤ tks n d ∧ ((b < l.length ∧ tks n d < tb (barAt l b)) ∨ (b = l.length ∧ tks n d = 0)))
/-- the bar, and what is left -/
def find : List Bar → Int → Option (Int × Int)
  | [], t => if t = 0 then some (0, 0) else none
  | b :: r, t => if 0 ≤ t ∧ t < tb b then some (0, t) else (find r (t - tb b)).map fun x => (x.1 + 1, x.2)
abbrev Pos := Int × Int × Int × Int
def posOf (e : Int) : Option (Int × Int) → Pos
  | some x => (x.1, (ofT x.2).1, (ofT x.2).2, 0)
  | none => (0, 0, 0, e)
def totS (l : List Bar) : Int × Int × Int := if okBars l then ((ofT (bef l)).1, (ofT (bef l)).2, 0) else (0, 0, 1)
/-- the 1680ths ahead of a position -/
def aheadB (l : List Bar) (b n d : Int) : Int := bef (l.take b.toNat) + tk n d
def timeS (l : List Bar) (b n d : Int) : Int × Int × Int := if okBars l && posS l b n d then ((ofT (aheadB l b n d)).1, (ofT (aheadB l b n d)).2, 0) else (0, 0, 1)
def whereS (l : List Bar) (n d : Int) : Pos := if okBars l && dur n d then posOf 3 (find l (tk n d)) else (0, 0, 0, 1)
def shiftS (l : List Bar) (b n d x y : Int) : Pos := if okBars l && posS l b n d && (dur x y || dur (-x) y) then posOf 3 (find l (aheadB l b n d + tk x y)) else (0, 0, 0, 1)
/-- the bars and the end, each with the time at which it begins -/
def items (i : Int) (t : Int × Int) : List Bar → List (Int × (Int × Int) × Unit)
  | [] => [(i, t, ())]
  | b :: r => (i, t, ()) :: items (i + 1) ((addR t.1 t.2 b.2.1.1 b.2.1.2).1, (addR t.1 t.2 b.2.1.1 b.2.1.2).2.1) r
/-- what is handed on, as long as it goes on -/
def fed {α : Type} (go : List α → Bool) : List α → List α → List α
  | hist, [] => hist
  | hist, x :: r => if go (hist ++ [x]) then fed go (hist ++ [x]) r else hist ++ [x]
/-- the time at which a bar begins, as the code finds it -/
def begAt (l : List Bar) (b : Int) : Int × Int := if 0 ≤ b ∧ b ≤ l.length then ((items 0 (0, 1) l).getD b.toNat (0, (0, 1), ())).2.1 else (0, 1)
/-- the first x bars are right -/
def preB (l : List Bar) (x : Nat) : Prop := x ≤ l.length ∧ (∀ b ∈ l.take x, okBar b = true) ∧ (ids (l.take x)).Nodup
def seenB (l : List Bar) : List (Int × Bool) := (ids l).map fun i => (i, true)
/-- none of the first y bars has the ID of bar x -/
def noneB (l : List Bar) (x : Int) (y : Nat) : Prop := y ≤ x.toNat ∧ ∀ k, k < y → (l.getD k bar0).1 ≠ (barAt l x).1
/-- the time at which bar x begins, as the code counts it -/
def itB (l : List Bar) (x : Nat) : Int × Int := ((items 0 (0, 1) l).getD x (0, (0, 1), ())).2.1
def notAt (b : Int) (hist : List (Int × (Int × Int) × Unit)) : Bool := match hist.getLast? with
  | some x => x.1 != b
  | none => true
def resAt (b : Int) (hist : List (Int × (Int × Int) × Unit)) : Int × Int := match hist.getLast? with
  | some x => if x.1 = b then x.2.1 else (0, 0)
  | none => (0, 0)
def lessR (a b c d : Int) : Bool := decide ((compareR a b c d).1 < 0)
/-- whether a bar that begins at a/b, c/d long, has ended at n/k -/
def behS (n k a b c d : Int) : Bool := !lessR n k (addR a b c d).1 (addR a b c d).2.1
def goOn (l : List Bar) (n d : Int) (x : Int × (Int × Int) × Unit) : Bool :=
  !lessR n d x.2.1.1 x.2.1.2 && (decide (x.1 < l.length) && behS n d x.2.1.1 x.2.1.2 (barAt l x.1).2.1.1 (barAt l x.1).2.1.2)
def goAt (l : List Bar) (n d : Int) (hist : List (Int × (Int × Int) × Unit)) : Bool := match hist.getLast? with
  | some x => goOn l n d x
  | none => true
def stopAt (l : List Bar) (n d : Int) (x : Int × (Int × Int) × Unit) : Pos :=
  if lessR n d x.2.1.1 x.2.1.2 then (0, 0, 0, 3) else
  if x.1 = l.length ∧ ¬((subR n d x.2.1.1 x.2.1.2).1 = 0 ∧ (subR n d x.2.1.1 x.2.1.2).2.1 = 1) ∨ (subR n d x.2.1.1 x.2.1.2).2.2 ≠ 0 then (0, 0, 0, 3) else (x.1, (subR n d x.2.1.1 x.2.1.2).1, (subR n d x.2.1.1 x.2.1.2).2.1, 0)
def outAt (l : List Bar) (n d : Int) (hist : List (Int × (Int × Int) × Unit)) : Pos := match hist.getLast? with
  | some x => if goOn l n d x then (0, 0, 0, 0) else stopAt l n d x
  | none => (0, 0, 0, 0)
def atR (l : List Bar) (n : Int) (x : Nat) : Prop := x ≤ l.length ∧ find l n = (find (l.drop x) (n - bef (l.take x))).map fun r => (r.1 + (x : Int), r.2)
def exBars : List Bar := [(7, ((3, 1), 0)), (8, ((4, 1), 0)), (9, ((3, 2), -2))]
end Go.RatLaw
