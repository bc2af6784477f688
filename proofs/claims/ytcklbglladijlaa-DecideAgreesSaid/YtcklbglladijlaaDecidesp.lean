/- What is to be shown of each function, in plain terms. Written by a program (wip/tools/gen.py). -/
import Derived.Test.YtcklbglladijlaaDecidesc
namespace Go.Proofs.Ytcklbglladijlaa
open Go.Sy Go.RatLaw
set_option linter.unusedVariables false

def P_QAgrees (ws : List Wk) (ds : List De) (u1 u2 tm : Int) : Prop :=
 ((!usableB ws ds || !isTimeB tm) = true → true = true) ∧ ((!usableB ws ds || !isTimeB tm) = false → InI64 u1 ∧ InI64 ((↑ds.length : Int) + (1 : Int)) ∧ (↑ds.length : Int) + (1 : Int) ≠ (0 : Int) ∧ InI64 u2 ∧ InI64 ((↑ds.length : Int) + (1
 : Int)) ∧ (↑ds.length : Int) + (1 : Int) ≠ (0 : Int) ∧ ((↑ds.length : Int) ≤ (9223372036854775807 : Int) → (↑ds.length : Int) ≤ (9223372036854775807 : Int) → (∃ (x : Nat), (min (u1.tmod ((↑ds.length : Int) + (1 : Int))) (u2.tmod
 ((↑ds.length : Int) + (1 : Int))) ≤ (↑x : Int) ∧ x ≤ ds.length ∧ ∀ (i : Nat), i < x → min (u1.tmod ((↑ds.length : Int) + (1 : Int))) (u2.tmod ((↑ds.length : Int) + (1 : Int))) ≤ (↑i : Int) → tm < (ds.getD i de0).2.1) ∧ (if u2.tmod
 ((↑ds.length : Int) + (1 : Int)) < u1.tmod ((↑ds.length : Int) + (1 : Int)) then u2.tmod ((↑ds.length : Int) + (1 : Int)) else u1.tmod ((↑ds.length : Int) + (1 : Int))) = (↑x : Int)) ∧ ∀ (x : Nat), (min (u1.tmod ((↑ds.length : Int) + (1 :
 Int))) (u2.tmod ((↑ds.length : Int) + (1 : Int))) ≤ (↑x : Int) ∧ x ≤ ds.length ∧ ∀ (i : Nat), i < x → min (u1.tmod ((↑ds.length : Int) + (1 : Int))) (u2.tmod ((↑ds.length : Int) + (1 : Int))) ≤ (↑i : Int) → tm < (ds.getD i de0).2.1) →
 (decide ((↑x : Int) < if u2.tmod ((↑ds.length : Int) + (1 : Int)) > u1.tmod ((↑ds.length : Int) + (1 : Int)) then u2.tmod ((↑ds.length : Int) + (1 : Int)) else u1.tmod ((↑ds.length : Int) + (1 : Int))) = true → (0 : Int) ≤ (↑x : Int) ∧
 (↑x : Int) < (↑ds.length : Int) ∧ (decide ((ds.getD (↑x : Int).toNat DTT.d0).2.1 ≤ tm) = true → true = true) ∧ (decide ((ds.getD (↑x : Int).toNat DTT.d0).2.1 ≤ tm) = false → InI64 ((↑x : Int) + (1 : Int)) ∧ ∃ (x' : Nat), (min (u1.tmod
 ((↑ds.length : Int) + (1 : Int))) (u2.tmod ((↑ds.length : Int) + (1 : Int))) ≤ (↑x' : Int) ∧ x' ≤ ds.length ∧ ∀ (i : Nat), i < x' → min (u1.tmod ((↑ds.length : Int) + (1 : Int))) (u2.tmod ((↑ds.length : Int) + (1 : Int))) ≤ (↑i : Int) →
 tm < (ds.getD i de0).2.1) ∧ ds.length - x' < ds.length - x ∧ (↑x : Int) + (1 : Int) = (↑x' : Int) ∧ u2.tmod ((↑ds.length : Int) + (1 : Int)) = u2.tmod ((↑ds.length : Int) + (1 : Int)) ∧ u1.tmod ((↑ds.length : Int) + (1 : Int)) = u1.tmod
 ((↑ds.length : Int) + (1 : Int)) ∧ (!usableB ws ds || !isTimeB tm) = (!usableB ws ds || !isTimeB tm) ∧ true = true ∧ ws = ws ∧ ds = ds ∧ u1 = u1 ∧ u2 = u2 ∧ tm = tm)) ∧ (decide ((↑x : Int) < if u2.tmod ((↑ds.length : Int) + (1 : Int)) >
 u1.tmod ((↑ds.length : Int) + (1 : Int)) then u2.tmod ((↑ds.length : Int) + (1 : Int)) else u1.tmod ((↑ds.length : Int) + (1 : Int))) = false → (true && (atD ws ds (u1.tmod ((↑ds.length : Int) + (1 : Int))) tm).2 == (0 : Int) && (atD ws
 ds (u2.tmod ((↑ds.length : Int) + (1 : Int))) tm).2 == (0 : Int) && sameR ((atD ws ds (u1.tmod ((↑ds.length : Int) + (1 : Int))) tm).1.1, ((atD ws ds (u1.tmod ((↑ds.length : Int) + (1 : Int))) tm).1.2.1.1, (atD ws ds (u1.tmod ((↑ds.length
 : Int) + (1 : Int))) tm).1.2.1.2.1, (atD ws ds (u1.tmod ((↑ds.length : Int) + (1 : Int))) tm).1.2.1.2.2.1, ((atD ws ds (u1.tmod ((↑ds.length : Int) + (1 : Int))) tm).1.2.1.2.2.2.1.1, (atD ws ds (u1.tmod ((↑ds.length : Int) + (1 : Int)))
 tm).1.2.1.2.2.2.1.2.1, (atD ws ds (u1.tmod ((↑ds.length : Int) + (1 : Int))) tm).1.2.1.2.2.2.1.2.2), (atD ws ds (u1.tmod ((↑ds.length : Int) + (1 : Int))) tm).1.2.1.2.2.2.2), (atD ws ds (u1.tmod ((↑ds.length : Int) + (1 : Int)))
 tm).1.2.2) ((atD ws ds (u2.tmod ((↑ds.length : Int) + (1 : Int))) tm).1.1, ((atD ws ds (u2.tmod ((↑ds.length : Int) + (1 : Int))) tm).1.2.1.1, (atD ws ds (u2.tmod ((↑ds.length : Int) + (1 : Int))) tm).1.2.1.2.1, (atD ws ds (u2.tmod
 ((↑ds.length : Int) + (1 : Int))) tm).1.2.1.2.2.1, ((atD ws ds (u2.tmod ((↑ds.length : Int) + (1 : Int))) tm).1.2.1.2.2.2.1.1, (atD ws ds (u2.tmod ((↑ds.length : Int) + (1 : Int))) tm).1.2.1.2.2.2.1.2.1, (atD ws ds (u2.tmod ((↑ds.length :
 Int) + (1 : Int))) tm).1.2.1.2.2.2.1.2.2), (atD ws ds (u2.tmod ((↑ds.length : Int) + (1 : Int))) tm).1.2.1.2.2.2.2), (atD ws ds (u2.tmod ((↑ds.length : Int) + (1 : Int))) tm).1.2.2)) = true)))
end Go.Proofs.Ytcklbglladijlaa
