/- What is to be shown of each function, in plain terms. Written by a program (wip/tools/gen.py). -/
import Derived.Test.YtcklbglladijlaaDecidemc
namespace Go.Proofs.Ytcklbglladijlaa
open Go.Sy Go.RatLaw
set_option linter.unusedVariables false

def P_QMatches (ws : List Wk) (ds : List De) (x1 x2 x3 x4 x5 x6 : Int) (kn tm : Int) : Prop :=
 ((!fewD ws ds) = true → true = true) ∧ ((!fewD ws ds) = false → (true && validD ws ds == validD ws ds && sameD (pushS ws ds (x1, x2, x3, x4, x5, x6)).1 (pushS ws ds (x1, x2, x3, x4, x5, x6)).1 && (pushS ws ds (x1, x2, x3, x4, x5, x6)).2
 == (pushS ws ds (x1, x2, x3, x4, x5, x6)).2 && sameR ((atD ws ds kn tm).1.1, ((atD ws ds kn tm).1.2.1.1, (atD ws ds kn tm).1.2.1.2.1, (atD ws ds kn tm).1.2.1.2.2.1, ((atD ws ds kn tm).1.2.1.2.2.2.1.1, (atD ws ds kn tm).1.2.1.2.2.2.1.2.1,
 (atD ws ds kn tm).1.2.1.2.2.2.1.2.2), (atD ws ds kn tm).1.2.1.2.2.2.2), (atD ws ds kn tm).1.2.2) ((atD ws ds kn tm).1.1, ((atD ws ds kn tm).1.2.1.1, (atD ws ds kn tm).1.2.1.2.1, (atD ws ds kn tm).1.2.1.2.2.1, ((atD ws ds kn
 tm).1.2.1.2.2.2.1.1, (atD ws ds kn tm).1.2.1.2.2.2.1.2.1, (atD ws ds kn tm).1.2.1.2.2.2.1.2.2), (atD ws ds kn tm).1.2.1.2.2.2.2), (atD ws ds kn tm).1.2.2) && (atD ws ds kn tm).2 == (atD ws ds kn tm).2) = true)
end Go.Proofs.Ytcklbglladijlaa
