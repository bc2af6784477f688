/- Plain numbers: laws of visits: they do not come twice, what follows what, what a repeat's times change. No program in sight. -/
import Derived.Test.YtcklbglladijlaaGq
namespace Go.RatLaw
open Go.Sy
set_option linter.unusedVariables false
set_option linter.unusedSimpArgs false
/-! what follows what -/
def gchain (R : Int → Int → Prop) : List Int → Prop
 | [] => True
 | [_] => True
 | a :: b :: l => R a b ∧ gchain R (b :: l)
structure Seg (e : List T3) (R : Int → Int → Prop) (p u : Int) (l : List Int) : Prop where
 no : l = [] → skippedB e p u = true
 hd : ∀ b, l.head? = some b → p ≤ b ∧ skippedB e p b = true
 la : ∀ a, l.getLast? = some a → a < u ∧ skippedB e (a + 1) u = true
 inn : ∀ x ∈ l, p ≤ x ∧ x < u
 li : gchain R l
/-! what the times of a repeat change -/
end Go.RatLaw
