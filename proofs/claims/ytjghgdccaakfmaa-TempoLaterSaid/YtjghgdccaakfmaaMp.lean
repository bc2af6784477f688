/- Plain numbers: bars, when they begin, positions in them. No program in sight. -/
import Derived.Test.YtjghgdccaakfmaaRt
namespace Go.RatLaw

/-- the 1680ths of a duration; -1: it is none -/
def tks (n d : Int) : Int := if dur n d then tk n d else -1
/-- a bar: ID, length, key -/
abbrev Bar := Int × ((Int × Int) × Int)
def tb (b : Bar) : Int := tks b.2.1.1 b.2.1.2
def okBar (b : Bar) : Bool := decide (1 ≤ b.1 ∧ b.1 ≤ 1000000 ∧ 1 ≤ tb b ∧ tb b ≤ 40320 ∧ -7 ≤ b.2.2 ∧ b.2.2 ≤ 7)
def ids (l : List Bar) : List Int := l.map (·.1)
def okBars (l : List Bar) : Bool := decide (1 ≤ l.length ∧ l.length ≤ 4000 ∧ (∀ b ∈ l, okBar b = true) ∧ (ids l).Nodup)
def bef (l : List Bar) : Int := (l.map tb).sum
def bar0 : Bar := (0, ((0, 0), 0))
def barAt (l : List Bar) (b : Int) : Bar := l.getD b.toNat bar0
/-- a position in bars -/
def posS (l : List Bar) (b n d : Int) : Bool := decide (0 ≤ b ∧ 0 ≤ tks n d ∧ ((b < l.length ∧ tks n d < tb (barAt l b)) ∨ (b = l.length ∧ tks n d = 0)))
/-- the 1680ths ahead of a position -/
def aheadB (l : List Bar) (b n d : Int) : Int := bef (l.take b.toNat) + tk n d
def timeS (l : List Bar) (b n d : Int) : Int × Int × Int := if okBars l && posS l b n d then ((ofT (aheadB l b n d)).1, (ofT (aheadB l b n d)).2, 0) else (0, 0, 1)
/-- the bars and the end, each with the time at which it begins -/
def items (i : Int) (t : Int × Int) : List Bar → List (Int × (Int × Int) × Unit)
  | [] => [(i, t, ())]
  | b :: r => (i, t, ()) :: items (i + 1) ((addR t.1 t.2 b.2.1.1 b.2.1.2).1, (addR t.1 t.2 b.2.1.1 b.2.1.2).2.1) r
/-- what is handed on, as long as it goes on -/
def fed {α : Type} (go : List α → Bool) : List α → List α → List α
  | hist, [] => hist
  | hist, x :: r => if go (hist ++ [x]) then fed go (hist ++ [x]) r else hist ++ [x]
/-- the time at which a bar begins, as the code finds it -/
def begAt (l : List Bar) (b : Int) : Int × Int := if 0 ≤ b ∧ b ≤ l.length then ((items 0 (0, 1) l).getD b.toNat (0, (0, 1), ())).2.1 else (0, 1)
/-- the first x bars are right -/
def preB (l : List Bar) (x : Nat) : Prop := x ≤ l.length ∧ (∀ b ∈ l.take x, okBar b = true) ∧ (ids (l.take x)).Nodup
def seenB (l : List Bar) : List (Int × Bool) := (ids l).map fun i => (i, true)
/-- none of the first y bars has the ID of bar x -/
def noneB (l : List Bar) (x : Int) (y : Nat) : Prop := y ≤ x.toNat ∧ ∀ k, k < y → (l.getD k bar0).1 ≠ (barAt l x).1
/-- the time at which bar x begins, as the code counts it -/
def itB (l : List Bar) (x : Nat) : Int × Int := ((items 0 (0, 1) l).getD x (0, (0, 1), ())).2.1
def notAt (b : Int) (hist : List (Int × (Int × Int) × Unit)) : Bool := match hist.getLast? with
  | some x => x.1 != b
  | none => true
def resAt (b : Int) (hist : List (Int × (Int × Int) × Unit)) : Int × Int := match hist.getLast? with
  | some x => if x.1 = b then x.2.1 else (0, 0)
  | none => (0, 0)
def lessR (a b c d : Int) : Bool := decide ((compareR a b c d).1 < 0)
end Go.RatLaw
