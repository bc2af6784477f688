/- Plain numbers: forms, the order in which bars are played, cuts. No program in sight. -/
import Derived.Test.YtcklbglladijlaaSyX
namespace Go.RatLaw
open Go.Sy
set_option linter.unusedVariables false
set_option linter.unusedSimpArgs false
abbrev T3 := Int × (Int × Int)
abbrev Vi := Int × Int
abbrev Fm := Int × (List T3 × (List T3 × (T3 × List T3)))
def t30 : T3 := (0, (0, 0))
def fm0 : Fm := (0, ([], ([], ((0, (0, 0)), []))))
def gidx {α : Type} (p : α → Bool) : List α → Int
 | [] => -1
 | x :: r => if p x then 0 else if gidx p r < 0 then -1 else gidx p r + 1
def inP (x : Int) (q : T3) : Bool := decide (q.1 < x) && decide (x < q.2.1)
def coverP (x y : Int) (q : T3) : Bool := decide (q.1 ≤ x) && decide (y ≤ q.2.1)
def withinB (r : List T3) (x : Int) : Bool := r.any (inP x)
def repBad (last b : Int) (q : T3) : Bool := decide (q.1 < last) || decide (q.1 ≥ q.2.1) || decide (q.2.1 > b) || decide (q.2.2 < 1) || decide (q.2.2 > 9)
def repsFrom (b : Int) : Int → List T3 → Bool
 | _, [] => true
 | last, q :: l => !repBad last b q && repsFrom b q.2.1 l
def lastT (l : List T3) (x : Nat) : Int := if x = 0 then 0 else (l.getD (x - 1) t30).2.1
def repsB (r : List T3) (b : Int) : Bool := repsFrom b 0 r && decide (r.length ≤ 100)
def insideB (r : List T3) (f u : Int) : Bool := r.any (coverP f u)
def endBad (r : List T3) (last : Int) (q : T3) : Bool := decide (q.1 < last) || decide (q.1 ≥ q.2.1) || !insideB r q.1 q.2.1 || decide (q.2.2 < 1) || decide (q.2.2 > 9)
def endsFrom (r : List T3) : Int → List T3 → Bool
 | _, [] => true
 | last, q :: l => !endBad r last q && endsFrom r q.2.1 l
def endsB (r e : List T3) : Bool := endsFrom r 0 e && decide (e.length ≤ 100)
def jumpB (b : Int) (r : List T3) (j t n : Int) : Bool :=
 if j = 0 ∧ t = 0 ∧ n = 0 then true
 else if decide (j < 1) || decide (j > b) || decide (t < 0) || decide (t ≥ j) || decide (n ≤ t) || decide (n > b) then false
 else !withinB r j && !withinB r t && !withinB r n
def cutB (b : Int) (c : T3) : Bool := decide (0 ≤ c.1) && decide (c.1 < c.2.1) && decide (c.2.1 ≤ b) && decide (0 ≤ c.2.2) && decide (c.2.2 ≤ 20)
def cutsB (b : Int) (c : List T3) : Bool := c.all (cutB b) && decide c.Nodup && decide (c.length ≤ 100)
def endHit (bar pass : Int) (x : T3) : Bool := decide (x.1 ≤ bar) && decide (bar < x.2.1) && decide (x.2.2 ≠ pass)
def playedB (e : List T3) (bar pass : Int) : Bool := !e.any (endHit bar pass)
def startP (bar : Int) (q : T3) : Bool := decide (q.1 = bar)
def intsF (a b : Int) : List Int := (List.range (b - a).toNat).map fun i : Nat => a + (i : Int)
def passL (e : List T3) (q : T3) (p : Int) : List Int := (intsF q.1 q.2.1).filter fun i => playedB e i p
def passesL (e : List T3) (q : T3) (first : Int) : List Int := (intsF first (q.2.2 + 1)).flatMap (passL e q)
def firstP (q : T3) (again : Bool) : Int := if again then q.2.2 else 1
def partN (r e : List T3) (again : Bool) (until_ : Int) : Nat → Int → List Int
 | 0, _ => []
 | k + 1, bar => if bar < until_ then (match r.find? (startP bar) with
  | none => bar :: partN r e again until_ k (bar + 1)
  | some q => passesL e q (firstP q again) ++ partN r e again until_ k q.2.1) else []
def partS (r e : List T3) (f u : Int) (again : Bool) : List Int := partN r e again u (u - f).toNat f
def wholeS (b : Int) (r e : List T3) (j t n : Int) : List Int := if j = 0 then partS r e 0 b false else partS r e 0 j false ++ partS r e t n true
def visTo (l : List Int) (k : Nat) : List Vi := (List.range k).map fun i => (l.getD i 0, ((l.take (i + 1)).count (l.getD i 0) : Int))
def visS (l : List Int) : List Vi := visTo l l.length
def okForm (f : Fm) : Bool := decide (1 ≤ f.1) && decide (f.1 ≤ 4000) && repsB f.2.1 f.1 && endsB f.2.1 f.2.2.1 && jumpB f.1 f.2.1 f.2.2.2.1.1 f.2.2.2.1.2.1 f.2.2.2.1.2.2 && cutsB f.1 f.2.2.2.2
def wholeF (f : Fm) : List Int := wholeS f.1 f.2.1 f.2.2.1 f.2.2.2.1.1 f.2.2.2.1.2.1 f.2.2.2.1.2.2
def shortF (f : Fm) : Bool := decide ((wholeF f).length ≤ 20000)
def validF (f : Fm) : Bool := okForm f && shortF f
def isC (c : T3) (x : T3) : Bool := decide (x = c)
def setCuts (f : Fm) (c : List T3) : Fm := (f.1, (f.2.1, (f.2.2.1, (f.2.2.2.1, c))))
def setReps (f : Fm) (r : List T3) : Fm := (f.1, (r, f.2.2))
def cutS (f : Fm) (c : T3) : Fm × Int :=
 if !validF f || !cutB f.1 c then (fm0, 1) else if f.2.2.2.2.any (isC c) then (fm0, 5) else if f.2.2.2.2.length = 100 then (fm0, 2) else (setCuts f (f.2.2.2.2 ++ [c]), 0)
def openS (f : Fm) (c : T3) : Fm × Int :=
 if !validF f then (fm0, 1) else if gidx (isC c) f.2.2.2.2 < 0 then (fm0, 4) else (setCuts f (f.2.2.2.2.eraseIdx (gidx (isC c) f.2.2.2.2).toNat), 0)
def setTimes (r : List T3) (i : Int) (m : Int) : List T3 := r.set i.toNat ((r.getD i.toNat t30).1, ((r.getD i.toNat t30).2.1, m))
def timesS (f : Fm) (i m : Int) : Fm × Int :=
 if !validF f then (fm0, 1) else if i < 0 ∨ f.2.1.length ≤ i then (fm0, 4) else if m < 1 ∨ 9 < m then (fm0, 1)
 else if !shortF (setReps f (setTimes f.2.1 i m)) then (fm0, 2) else (setReps f (setTimes f.2.1 i m), 0)
def sameF (a b : Fm) : Bool := decide (a.1 = b.1) && decide (a.2.2.2.1 = b.2.2.2.1) && decide (a.2.1 = b.2.1) && decide (a.2.2.1 = b.2.2.1) && decide (a.2.2.2.2 = b.2.2.2.2)
def fewF (f : Fm) : Bool := decide (f.1 ≤ 60) && decide (f.2.1.length ≤ 110) && decide (f.2.2.1.length ≤ 60) && decide (f.2.2.2.2.length ≤ 110)
def gfed {α : Type} (go : List α → Bool) : List α → List α → List α
 | hist, [] => hist
 | hist, x :: r => if go (hist ++ [x]) then gfed go (hist ++ [x]) r else hist ++ [x]
def mgetI (b : Int) (m : List (Int × Int)) : Option Int := mget (α := Int) (β := Int) (Ty.beq (.ti .i64)) b m
def bump (m : List (Int × Int)) (b : Int) : List (Int × Int) := mput (β := Int) (Ty.beq (.ti .i64)) b ((mgetI b m).getD 0 + 1) m
def cntM (l : List Int) : List (Int × Int) := l.foldl bump []
def h1 {α : Type} (l : List α) : List (α × Unit) := l.map fun x => (x, ())
def unI (l : List (Int × Unit)) : List Int := l.map (·.1)
abbrev snocV (h : List (Vi × Unit)) (x : Vi × Unit) : List (Vi × Unit) := h ++ [x]
def barIn (bar : Int) (x : T3) : Bool := decide (x.1 ≤ bar) && decide (bar < x.2.1)
def inEndB (e : List T3) (bar : Int) : Bool := e.any (barIn bar)
def skippedB (e : List T3) (f u : Int) : Bool := (intsF f u).all (inEndB e)
def seenC (l : List T3) : List (T3 × Bool) := l.map fun x => (x, true)
def okParts (b : Int) (r : List T3) (x y : Int) : Prop := 1 ≤ b ∧ b ≤ 4000 ∧ repsB r b = true ∧ 0 ≤ x ∧ y ≤ b
def okForm0 (f : Fm) : Bool := decide (1 ≤ f.1) && decide (f.1 ≤ 4000) && repsB f.2.1 f.1 && jumpB f.1 f.2.1 f.2.2.2.1.1 f.2.2.2.1.2.1 f.2.2.2.1.2.2
def onG {α : Type} (go : Lp (α × Unit)) (all d rest : List α) : Prop := d ++ rest = all ∧ ∀ k, 0 < k → k ≤ d.length → go ((h1 all).take k) = true
def goV (go : Lp (Vi × Unit)) (l0 : List Int) (m : Nat) : Lp (Int × Unit) := { go := fun hist => go (h1 (visS (l0 ++ unI hist))), ok := fun hist => go.ok (h1 (visS (l0 ++ unI hist))) ∧ (l0 ++ unI hist).length ≤ m }
def goShort : Lp (Vi × Unit) := { go := fun hist => decide (hist.length ≤ 20000), ok := fun hist => hist.length ≤ 1000000 }
def untilJ (b j : Int) : Int := if j = 0 then b else j
end Go.RatLaw
