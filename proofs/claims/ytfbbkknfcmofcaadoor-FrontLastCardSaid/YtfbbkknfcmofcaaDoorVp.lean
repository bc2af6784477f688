/- Plain: what lies on a stand. No program in sight. -/
import Derived.Test.YtfbbkknfcmofcaaDoorSp
namespace Go.RatLaw
open Go.Sy
set_option linter.unusedVariables false
set_option linter.unusedSimpArgs false
/-- what lies there: version, edition, known, sheets -/
abbrev Fr := Int × (Int × (Int × List Int))
def f0 : Fr := (0, (0, (0, [])))
def putS : List Int → Int → List Int
  | [], n => [n]
  | x :: r, n => if n = x then x :: r else if n < x then n :: x :: r else x :: putS r n
def doE (f : Fr) (e : En) : Fr :=
  if e.2.1 = 1 then (e.2.2.1, (e.2.2.2.1, (f.2.2.1, []))) else if e.2.1 = 2 then (f.1, (f.2.1, (f.2.2.1, putS f.2.2.2 e.2.2.1))) else if e.2.1 = 3 then (f.1, (f.2.1, (e.2.2.1, f.2.2.2))) else f
def laidG (f : Fr) (l : List En) : Fr := l.foldl doE f
def laidF (l : List En) : Fr := laidG f0 l
def uptoB (n : Int) (e : En) : Bool := decide (e.1 ≤ n)
def laidAt (l : List En) (n : Int) : Fr := laidF (l.filter (uptoB n))
def laterB (n : Int) (e : En) : Bool := decide (e.1 > n)
def atS (s : Int) (l : List En) (h n : Int) : Fr × Int := if logB s l h && rngB n 0 1000000000 then (laidAt l n, 0) else (f0, 1)
/-- one more time at which something else lies there -/
def stepC (x : List Int × Fr) (t : Int) (now : Fr) : List Int × Fr := (if x.2 = now then x.1 else x.1 ++ [t], now)
def tmE (l : List En) (k : Nat) : Int := (l.getD k en0).1
/-- by the program: at the end of each time's entries; by the reference: at each entry -/
def pst (l : List En) (f : Fr) (x : List Int × Fr) : Nat → List Int × Fr
  | 0 => x
  | k + 1 => if k + 1 = l.length ∨ tmE l (k + 1) > tmE l k then stepC (pst l f x k) (tmE l k) (laidG f (l.take (k + 1))) else pst l f x k
def rst (l : List En) : Nat → List Int × Fr
  | 0 => ([], f0)
  | k + 1 => stepC (rst l k) (tmE l k) (laidAt l (tmE l k))
def chS (s : Int) (l : List En) (h : Int) : List Int × Int := if logB s l h then ((rst l l.length).1, 0) else ([], 1)
/-- rising ones -/
def rise : List Int → Prop
  | [] => True
  | x :: r => (∀ y ∈ r, x < y) ∧ rise r
def below (l : List Int) (n : Int) : Nat := match l with
  | [] => 0
  | x :: r => if x < n then below r n + 1 else 0
def hasI (l : List Int) (n : Int) : Bool := l.contains n
def eqIs (l m : List Int) : Bool := decide (l = m)
def sameF (f g : Fr) : Bool := decide (f = g)
/-- by the reference: one after the other; whether the number is in -/
def putSt (n : Int) (l : List Int) : List Int × Bool := l.foldl (fun p x => if p.2 = false ∧ n < x then (p.1 ++ [n] ++ [x], true) else (p.1 ++ [x], p.2)) ([], false)
/-- what the last change up to a time brought -/
def wantG (l : List En) (ts : List Int) (n : Int) : Nat → Fr
  | 0 => f0
  | k + 1 => if ts.getD k 0 ≤ n then laidAt l (ts.getD k 0) else wantG l ts n k
/-- whether a sheet lies there after these entries -/
def liesB (z : Int) (l : List En) : Bool := l.foldl (fun b e => e.2.1 == 2 && e.2.2.1 == z || b && e.2.1 != 1) false
/-- the last one shown; what is known -/
def lastS : List En → Int × Int
  | [] => (0, 0)
  | e :: r => if e.2.1 = 1 ∧ (lastS r).1 = 0 then (e.2.2.1, e.2.2.2.1) else lastS r
def mkF (p : Int × Int) (k : Int) : Fr := (p.1, (p.2, (k, [])))
def knowK (l : List En) : Int := l.foldl (fun a e => if e.2.1 = 3 then e.2.2.1 else a) 0
end Go.RatLaw
