/- Plain: works, decisions, what is in force. No program in sight. -/
import Derived.Test.YtcklbglladijlaaIp
namespace Go.RatLaw
open Go.Sy
set_option linter.unusedVariables false
set_option linter.unusedSimpArgs false
abbrev Br := Int × ((Int × Int) × Int)
abbrev PT := Int × (Int × (Int × (Int × (Int × ((Int × Int) × ((Int × (Int × Int)) × (Int × (Int × Int))))))))
abbrev NT := Int × (Int × (Int × (Int × (Int × ((Int × Int) × ((Int × Int) × (Int × (Int × Int))))))))
abbrev Wk := (Int × (List Br × (List PT × List NT))) × (Fm × List T3)
abbrev De := Int × (Int × (Int × (Int × (Int × Int))))
abbrev Rm := Int × (Fm × List Int)
def asRow (τ : Ty) : LV → Option (List τ.T)
 | .d (.sl σ l) => match Ty.same σ τ with
  | some ⟨e⟩ => some (e ▸ l)
  | none => none
 | _ => none
theorem asRow_eq {τ : Ty} {v : LV} {l : List τ.T} (h : asRow τ v = some l) : v = .d (.sl τ l) := by
 unfold asRow at h
 split at h
 ·split at h
  ·rename_i e _
   subst e
   injection h with h
   rw [← h]
  ·cases h
 ·cases h
def wk0 : Wk := ((0, ([], ([], []))), (fm0, []))
def de0 : De := (0, (0, (0, (0, (0, 0)))))
def rm0 : Rm := (0, (fm0, []))
def verW (w : Wk) : Int := w.1.1
def formW (w : Wk) : Fm := w.2.1
def workBad (last : Int) (w : Wk) : Bool := decide (verW w ≤ last) || decide (verW w > 1000000) || decide ((formW w).1 ≠ w.1.2.1.length) || !validF (formW w)
def worksFrom : Int → List Wk → Bool
 | _, [] => true
 | last, w :: l => !workBad last w && worksFrom (verW w) l
def lastW (l : List Wk) (k : Nat) : Int := if k = 0 then 0 else verW (l.getD (k - 1) wk0)
def worksB (l : List Wk) : Bool := worksFrom 0 l && (decide ((l.length : Int) ≥ 1) && decide ((l.length : Int) ≤ 100))
def takeW (w : Wk) : Rm := (verW w, (formW w, []))
def firstR (l : List Wk) : Rm := takeW (l.getD 0 wk0)
def isVer (a : Int) (w : Wk) : Bool := decide (verW w = a)
def versionS (ws : List Wk) (r : Rm) (x : De) : Rm × Int :=
 if x.2.2.2.2.1 ≠ 0 ∨ x.2.2.2.2.2 ≠ 0 then (r, 1) else if gidx (isVer x.2.2.2.1) ws < 0 then (r, 4) else (takeW (ws.getD (gidx (isVer x.2.2.2.1) ws).toNat wk0), 0)
def reformS (r : Rm) (m : Fm × Int) : Rm × Int := if m.2 = 0 then ((r.1, (m.1, r.2.2)), 0) else (r, m.2)
def ossBad (x : De) : Bool := decide (x.2.2.2.1 < 1) || decide (x.2.2.2.1 > 20) || decide (x.2.2.2.2.1 < 0) || decide (x.2.2.2.2.1 > 1) || decide (x.2.2.2.2.2 ≠ 0)
def ossiaS (r : Rm) (x : De) : Rm × Int :=
 if ossBad x then (r, 1) else if hasI r.2.2 x.2.2.2.1 = decide (x.2.2.2.2.1 = 1) then (r, 6)
 else if hasI r.2.2 x.2.2.2.1 then ((r.1, (r.2.1, r.2.2.eraseIdx (below r.2.2 x.2.2.2.1))), 0) else ((r.1, (r.2.1, putS r.2.2 x.2.2.2.1)), 0)
def cutD (r : Rm) (x : De) : Rm × Int := reformS r (cutS r.2.1 x.2.2.2)
def openD (r : Rm) (x : De) : Rm × Int := reformS r (openS r.2.1 x.2.2.2)
def timesD (r : Rm) (x : De) : Rm × Int := if x.2.2.2.2.2 ≠ 0 then (r, 1) else reformS r (timesS r.2.1 x.2.2.2.1 x.2.2.2.2.1)
def doS (ws : List Wk) (r : Rm) (x : De) : Rm × Int :=
 if x.2.2.1 = 1 then versionS ws r x else if x.2.2.1 = 2 then cutD r x else if x.2.2.1 = 3 then openD r x else if x.2.2.1 = 4 then timesD r x else if x.2.2.1 = 5 then ossiaS r x else (r, 1)
def runS (ws : List Wk) : Rm → List De → Rm × Bool
 | r, [] => (r, true)
 | r, x :: d => if (doS ws r x).2 = 0 then runS ws (doS ws r x).1 d else (r, false)
def runE (ws : List Wk) : Rm → List De → Int
 | _, [] => 0
 | r, x :: d => if (doS ws r x).2 = 0 then runE ws (doS ws r x).1 d else (doS ws r x).2
def ossO (a b : Int) (l : List Int) : Nat → List Int × Int
 | 0 => ([], 0)
 | k + 1 => if l.getD k 0 = a then ((ossO a b l k).1, 1) else if l.getD k 0 > a ∧ b = 1 ∧ (k = 0 ∨ l.getD (k - 1) 0 < a) then ((ossO a b l k).1 ++ [a] ++ [l.getD k 0], (ossO a b l k).2) else ((ossO a b l k).1 ++ [l.getD k 0], (ossO a b l k).2)
def isTimeB (n : Int) : Bool := decide (0 ≤ n) && decide (n ≤ 1000000000)
def ordBad (i : Nat) (last : Int) (x : De) : Bool := decide (x.1 ≠ (i : Int) + 1) || decide (x.2.1 < last) || !isTimeB x.2.1
def ordFrom : Nat → Int → List De → Bool
 | _, _, [] => true
 | i, last, x :: d => !ordBad i last x && ordFrom (i + 1) x.2.1 d
def lastD (d : List De) (k : Nat) : Int := if k = 0 then 0 else (d.getD (k - 1) de0).2.1
def ordB (ws : List Wk) (d : List De) : Bool := worksB ws && decide ((d.length : Int) ≤ 1000) && ordFrom 0 0 d
def validD (ws : List Wk) (d : List De) : Bool := ordB ws d && (runS ws (firstR ws) d).2
def inTime (known time : Int) (x : De) : Bool := decide (x.1 ≤ known) && decide (x.2.1 ≤ time)
def untilL (d : List De) (known time : Int) : List De := d.takeWhile (inTime known time)
def pushBad (ws : List Wk) (d : List De) (x : De) : Bool := !validD ws d || decide (x.2.2.1 < 1) || decide (x.2.2.1 > 5) || decide (x.1 ≠ (d.length : Int) + 1) || !isTimeB x.2.1
def pushS (ws : List Wk) (d : List De) (x : De) : List De × Int :=
 if pushBad ws d x then ([], 1) else if d.length > 0 ∧ x.2.1 < (d.getD (d.length - 1) de0).2.1 then ([], 6) else if d.length = 1000 then ([], 2)
 else if (doS ws (runS ws (firstR ws) d).1 x).2 ≠ 0 then ([], (doS ws (runS ws (firstR ws) d).1 x).2) else (d ++ [x], 0)
def atBad (ws : List Wk) (d : List De) (known time : Int) : Bool := !validD ws d || decide (known < 0) || decide (known > d.length) || !isTimeB time
def atD (ws : List Wk) (d : List De) (known time : Int) : Rm × Int := if atBad ws d known time then (rm0, 1) else ((runS ws (firstR ws) (untilL d known time)).1, 0)
def unD (l : List (De × Unit)) : List De := l.map (·.1)
def ossB (o : List Int) : Prop := rise o ∧ ∀ y ∈ o, 1 ≤ y ∧ y ≤ 20
def sameR (a b : Rm) : Bool := decide (a.1 = b.1) && sameF a.2.1 b.2.1 && eqIs a.2.2 b.2.2
def sameD (a b : List De) : Bool := decide (a = b)
def fewW (w : Wk) : Bool := fewF (formW w) && decide (w.1.2.1.length ≤ 60)
def fewD (ws : List Wk) (d : List De) : Bool := ws.all fewW && decide (ws.length ≤ 6) && decide (d.length ≤ 30)
def goRun (ws : List Wk) : Lp (De × Unit) := { go := fun hist => (runS ws (firstR ws) (unD hist)).2, ok := fun hist => (unD hist).length ≤ 1000000 }
end Go.RatLaw
