/- Plain numbers: tempos, and how long music takes. No program in sight. -/
import Derived.Test.YtjghgdccaakfmaaMr
import Derived.Test.YtjghgdccaakfmaaGr
import Derived.Test.YtjghgdccaakfmaaRt
namespace Go.RatLaw
open Go.Sy
set_option linter.unusedVariables false
set_option linter.unusedSimpArgs false
/-- a quarter's length in seconds -/
def isTm (n d : Int) : Bool := vld n d && decide (0 < n) && decide (n ≤ 10 * d) && decide (Int.tmod 60 d = 0)
/-- in 60ths of a second; -1: it is no tempo -/
def sclT (n d : Int) : Int := if isTm n d then n * Int.tdiv 60 d else -1
/-- a tempo: bar, and a quarter's length -/
def tmBad (nb last : Int) (x : T3) : Bool := !isTm x.2.1 x.2.2 || decide (x.1 ≥ nb) || decide (x.1 ≤ last)
def tmsFrom (nb : Int) : Int → List T3 → Bool
  | _, [] => true
  | last, x :: l => !tmBad nb last x && tmsFrom nb x.1 l
def tmLast (l : List T3) (x : Nat) : Int := if x = 0 then -1 else (l.getD (x - 1) t30).1
def tmsB (nb : Int) (l : List T3) : Bool := decide (1 ≤ l.length) && decide (l.length ≤ 1000) && decide ((l.getD 0 t30).1 = 0) && tmsFrom nb (-1) l
def okTm (bars : List Bar) (l : List T3) : Bool := okBars bars && tmsB bars.length l
/-- rising bars -/
def riseT (l : List T3) : Prop := l.Pairwise fun x y => x.1 < y.1
def upToT (b : Int) (x : T3) : Bool := decide (x.1 ≤ b)
/-- how many begin no later than a bar -/
def tmN (l : List T3) (b : Int) : Nat := (l.takeWhile (upToT b)).length
def tmAt (l : List T3) (b : Int) : Int × Int := (l.getD (tmN l b - 1) t30).2
def tmAtS (bars : List Bar) (l : List T3) (b : Int) : Int × Int × Int := if okTm bars l && decide (0 ≤ b) && decide (b < bars.length) then ((tmAt l b).1, (tmAt l b).2, 0) else (0, 0, 1)
/-- so many 1680ths of a quarter in a bar -/
def takeT (l : List T3) (b ticks : Int) : Int := ticks * sclT (tmAt l b).1 (tmAt l b).2
/-- what the bars before a bar take -/
def sumT (bars : List Bar) (l : List T3) : Nat → Int
  | 0 => 0
  | k + 1 => sumT bars l k + takeT l k (tb (bars.getD k bar0))
/-- what all before a position takes -/
def upT (bars : List Bar) (l : List T3) (b t : Int) : Int := sumT bars l b.toNat + (if b < bars.length then takeT l b t else 0)
def earlS (b n d b' n' d' : Int) : Bool := decide (b < b') || (decide (b = b') && decide (tks n d < tks n' d'))
def secN (bars : List Bar) (l : List T3) (b n d b' n' d' : Int) : Int := upT bars l b' (tk n' d') - upT bars l b (tk n d)
def secS (bars : List Bar) (l : List T3) (b n d b' n' d' : Int) : Int × Int × Int :=
  if okTm bars l && posS bars b n d && posS bars b' n' d' && !earlS b' n' d' b n d then make (secN bars l b n d b' n' d') 100800 else (0, 0, 1)
def playV (bars : List Bar) (l : List T3) (v : Vi) : Int := takeT l v.1 (tb (barAt bars v.1))
def playN (bars : List Bar) (l : List T3) (vs : List Vi) : Int := (vs.map (playV bars l)).sum
def cutV (vs : List Vi) (x y : Int) : List Vi := (vs.take y.toNat).drop x.toNat
def playS (bars : List Bar) (l : List T3) (f : Fm) (x y : Int) : Int × Int × Int :=
  if okTm bars l && validF f && decide (f.1 = bars.length) && decide (0 ≤ x) && decide (x ≤ y) && decide (y ≤ (unfoldS f).1.length) then make (playN bars l (cutV (unfoldS f).1 x y)) 100800 else (0, 0, 1)
/-- the tempo found among the first k -/
def wantT (l : List T3) (b : Int) (k : Nat) : Int × Int := (l.getD (min (tmN l b) k - 1) t30).2
/-- the same, with another tempo from number x on -/
def lastW (l : List T3) (b : Int) (x : Nat) (a d : Int) (k : Nat) : Int × Int := if min (tmN l b) k = 0 then (a, d) else if min (tmN l b) k - 1 < x then (l.getD (min (tmN l b) k - 1) t30).2 else (a, d)
end Go.RatLaw
