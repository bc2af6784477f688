/- What is to be shown of each function, in plain terms. Written by a program (wip/tools/gen.py). -/
import Derived.Test.YtcklbglladijlaaDeciderc
namespace Go.Proofs.Ytcklbglladijlaa
open Go.Sy Go.RatLaw
set_option linter.unusedVariables false

def P_QVersions (ws : List Wk) (ds : List De) (u : Int) : Prop :=
 ((!usableB ws ds) = false → (↑ds.length : Int) ≤ (9223372036854775807 : Int)) → ((!usableB ws ds || decide ((↑ds.length : Int) > (29 : Int))) = true → true = true) ∧ ((!usableB ws ds || decide ((↑ds.length : Int) > (29 : Int))) = false →
 InI64 u ∧ ((↑ws.length : Int) ≤ (9223372036854775807 : Int) → (↑ws.length : Int) ≠ (0 : Int) ∧ (0 : Int) ≤ u.tmod (↑ws.length : Int) ∧ u.tmod (↑ws.length : Int) < (↑ws.length : Int) ∧ ((↑ds.length : Int) ≤ (9223372036854775807 : Int) →
 InI64 ((↑ds.length : Int) + (1 : Int)) ∧ ((↑(pushS ws ds ((↑ds.length : Int) + (1 : Int), (1000000000 : Int), (1 : Int), (ws.getD (u.tmod (↑ws.length : Int)).toNat WTT.d0).1.1, (0 : Int), (0 : Int))).1.length : Int) ≤ (9223372036854775807
 : Int) → (true && (pushS ws ds ((↑ds.length : Int) + (1 : Int), (1000000000 : Int), (1 : Int), (ws.getD (u.tmod (↑ws.length : Int)).toNat WTT.d0).1.1, (0 : Int), (0 : Int))).2 == (0 : Int) && (atD ws (pushS ws ds ((↑ds.length : Int) + (1
 : Int), (1000000000 : Int), (1 : Int), (ws.getD (u.tmod (↑ws.length : Int)).toNat WTT.d0).1.1, (0 : Int), (0 : Int))).1 (↑(pushS ws ds ((↑ds.length : Int) + (1 : Int), (1000000000 : Int), (1 : Int), (ws.getD (u.tmod (↑ws.length :
 Int)).toNat WTT.d0).1.1, (0 : Int), (0 : Int))).1.length : Int) (1000000000 : Int)).2 == (0 : Int) && sameR ((atD ws (pushS ws ds ((↑ds.length : Int) + (1 : Int), (1000000000 : Int), (1 : Int), (ws.getD (u.tmod (↑ws.length : Int)).toNat
 WTT.d0).1.1, (0 : Int), (0 : Int))).1 (↑(pushS ws ds ((↑ds.length : Int) + (1 : Int), (1000000000 : Int), (1 : Int), (ws.getD (u.tmod (↑ws.length : Int)).toNat WTT.d0).1.1, (0 : Int), (0 : Int))).1.length : Int) (1000000000 : Int)).1.1,
 ((atD ws (pushS ws ds ((↑ds.length : Int) + (1 : Int), (1000000000 : Int), (1 : Int), (ws.getD (u.tmod (↑ws.length : Int)).toNat WTT.d0).1.1, (0 : Int), (0 : Int))).1 (↑(pushS ws ds ((↑ds.length : Int) + (1 : Int), (1000000000 : Int), (1
 : Int), (ws.getD (u.tmod (↑ws.length : Int)).toNat WTT.d0).1.1, (0 : Int), (0 : Int))).1.length : Int) (1000000000 : Int)).1.2.1.1, (atD ws (pushS ws ds ((↑ds.length : Int) + (1 : Int), (1000000000 : Int), (1 : Int), (ws.getD (u.tmod
 (↑ws.length : Int)).toNat WTT.d0).1.1, (0 : Int), (0 : Int))).1 (↑(pushS ws ds ((↑ds.length : Int) + (1 : Int), (1000000000 : Int), (1 : Int), (ws.getD (u.tmod (↑ws.length : Int)).toNat WTT.d0).1.1, (0 : Int), (0 : Int))).1.length : Int)
 (1000000000 : Int)).1.2.1.2.1, (atD ws (pushS ws ds ((↑ds.length : Int) + (1 : Int), (1000000000 : Int), (1 : Int), (ws.getD (u.tmod (↑ws.length : Int)).toNat WTT.d0).1.1, (0 : Int), (0 : Int))).1 (↑(pushS ws ds ((↑ds.length : Int) + (1 :
 Int), (1000000000 : Int), (1 : Int), (ws.getD (u.tmod (↑ws.length : Int)).toNat WTT.d0).1.1, (0 : Int), (0 : Int))).1.length : Int) (1000000000 : Int)).1.2.1.2.2.1, ((atD ws (pushS ws ds ((↑ds.length : Int) + (1 : Int), (1000000000 :
 Int), (1 : Int), (ws.getD (u.tmod (↑ws.length : Int)).toNat WTT.d0).1.1, (0 : Int), (0 : Int))).1 (↑(pushS ws ds ((↑ds.length : Int) + (1 : Int), (1000000000 : Int), (1 : Int), (ws.getD (u.tmod (↑ws.length : Int)).toNat WTT.d0).1.1, (0 :
 Int), (0 : Int))).1.length : Int) (1000000000 : Int)).1.2.1.2.2.2.1.1, (atD ws (pushS ws ds ((↑ds.length : Int) + (1 : Int), (1000000000 : Int), (1 : Int), (ws.getD (u.tmod (↑ws.length : Int)).toNat WTT.d0).1.1, (0 : Int), (0 : Int))).1
 (↑(pushS ws ds ((↑ds.length : Int) + (1 : Int), (1000000000 : Int), (1 : Int), (ws.getD (u.tmod (↑ws.length : Int)).toNat WTT.d0).1.1, (0 : Int), (0 : Int))).1.length : Int) (1000000000 : Int)).1.2.1.2.2.2.1.2.1, (atD ws (pushS ws ds
 ((↑ds.length : Int) + (1 : Int), (1000000000 : Int), (1 : Int), (ws.getD (u.tmod (↑ws.length : Int)).toNat WTT.d0).1.1, (0 : Int), (0 : Int))).1 (↑(pushS ws ds ((↑ds.length : Int) + (1 : Int), (1000000000 : Int), (1 : Int), (ws.getD
 (u.tmod (↑ws.length : Int)).toNat WTT.d0).1.1, (0 : Int), (0 : Int))).1.length : Int) (1000000000 : Int)).1.2.1.2.2.2.1.2.2), (atD ws (pushS ws ds ((↑ds.length : Int) + (1 : Int), (1000000000 : Int), (1 : Int), (ws.getD (u.tmod
 (↑ws.length : Int)).toNat WTT.d0).1.1, (0 : Int), (0 : Int))).1 (↑(pushS ws ds ((↑ds.length : Int) + (1 : Int), (1000000000 : Int), (1 : Int), (ws.getD (u.tmod (↑ws.length : Int)).toNat WTT.d0).1.1, (0 : Int), (0 : Int))).1.length : Int)
 (1000000000 : Int)).1.2.1.2.2.2.2), (atD ws (pushS ws ds ((↑ds.length : Int) + (1 : Int), (1000000000 : Int), (1 : Int), (ws.getD (u.tmod (↑ws.length : Int)).toNat WTT.d0).1.1, (0 : Int), (0 : Int))).1 (↑(pushS ws ds ((↑ds.length : Int) +
 (1 : Int), (1000000000 : Int), (1 : Int), (ws.getD (u.tmod (↑ws.length : Int)).toNat WTT.d0).1.1, (0 : Int), (0 : Int))).1.length : Int) (1000000000 : Int)).1.2.2) ((ws.getD (u.tmod (↑ws.length : Int)).toNat WTT.d0).1.1, ((ws.getD (u.tmod
 (↑ws.length : Int)).toNat WTT.d0).2.1.1, (ws.getD (u.tmod (↑ws.length : Int)).toNat WTT.d0).2.1.2.1, (ws.getD (u.tmod (↑ws.length : Int)).toNat WTT.d0).2.1.2.2.1, ((ws.getD (u.tmod (↑ws.length : Int)).toNat WTT.d0).2.1.2.2.2.1.1, (ws.getD
 (u.tmod (↑ws.length : Int)).toNat WTT.d0).2.1.2.2.2.1.2.1, (ws.getD (u.tmod (↑ws.length : Int)).toNat WTT.d0).2.1.2.2.2.1.2.2), (ws.getD (u.tmod (↑ws.length : Int)).toNat WTT.d0).2.1.2.2.2.2), [])) = true))))
end Go.Proofs.Ytcklbglladijlaa
