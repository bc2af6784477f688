/- What is to be shown of each function, in plain terms. Written by a program (wip/tools/gen.py). -/
import Derived.Test.YtcklbglladijlaaDecidelc
namespace Go.Proofs.Ytcklbglladijlaa
open Go.Sy Go.RatLaw
set_option linter.unusedVariables false

def P_work (v n : Int) : Prop :=
 (∃ (x : Nat), x ≤ n.toNat ∧ (0 : Int) = (↑x : Int) ∧ v = v ∧ [] = barsN x ∧ nl (Int × Int × Int × Int × Int × (Int × Int) × (Int × Int × Int) × Int × Int × Int) = nl (Int × Int × Int × Int × Int × (Int × Int) × (Int × Int × Int) × Int ×
 Int × Int) ∧ nl (Int × Int × Int × Int × Int × (Int × Int) × (Int × Int) × Int × Int × Int) = nl (Int × Int × Int × Int × Int × (Int × Int) × (Int × Int) × Int × Int × Int) ∧ n = n ∧ nl (Int × Int × Int) = nl (Int × Int × Int) ∧ nl (Int ×
 Int × Int) = nl (Int × Int × Int) ∧ (0 : Int) = (0 : Int) ∧ (0 : Int) = (0 : Int) ∧ (0 : Int) = (0 : Int) ∧ nl (Int × Int × Int) = nl (Int × Int × Int) ∧ nl (Int × Int × Int) = nl (Int × Int × Int) ∧ (0 : Nat) = (barsN x).length) ∧ ∀ (x :
 Nat), x ≤ n.toNat → (decide ((↑x : Int) < n) = true → InI64 ((↑x : Int) + (1 : Int)) ∧ (barsN x).length = (barsN x).length ∧ ((barsN x).length + ((0 : Nat) + (1 : Nat))) * (32 : Nat) ≤ (140737488355328 : Nat) ∧ InI64 ((↑x : Int) + (1 :
 Int)) ∧ ∃ (x' : Nat), x' ≤ n.toNat ∧ n.toNat - x' < n.toNat - x ∧ (↑x : Int) + (1 : Int) = (↑x' : Int) ∧ n = n ∧ v = v ∧ n = n ∧ v = v ∧ barsN x ++ [((↑x : Int) + (1 : Int), ((4 : Int), (1 : Int)), (0 : Int))] = barsN x' ∧ nl (Int × Int ×
 Int × Int × Int × (Int × Int) × (Int × Int × Int) × Int × Int × Int) = nl (Int × Int × Int × Int × Int × (Int × Int) × (Int × Int × Int) × Int × Int × Int) ∧ nl (Int × Int × Int × Int × Int × (Int × Int) × (Int × Int) × Int × Int × Int) =
 nl (Int × Int × Int × Int × Int × (Int × Int) × (Int × Int) × Int × Int × Int) ∧ n = n ∧ nl (Int × Int × Int) = nl (Int × Int × Int) ∧ nl (Int × Int × Int) = nl (Int × Int × Int) ∧ (0 : Int) = (0 : Int) ∧ (0 : Int) = (0 : Int) ∧ (0 : Int)
 = (0 : Int) ∧ nl (Int × Int × Int) = nl (Int × Int × Int) ∧ nl (Int × Int × Int) = nl (Int × Int × Int) ∧ (barsN x).length + ((0 : Nat) + (1 : Nat)) = (barsN x').length ∧ (0 : Nat) = (0 : Nat) ∧ (0 : Int) = (0 : Int) ∧ nl (Int × (Int ×
 Int) × Int) = nl (Int × (Int × Int) × Int) ∧ nl PUnit = nl PUnit ∧ nl PUnit = nl PUnit ∧ (0 : Int) = (0 : Int) ∧ nl PUnit = nl PUnit ∧ nl PUnit = nl PUnit ∧ (0 : Int) = (0 : Int) ∧ (0 : Int) = (0 : Int) ∧ (0 : Int) = (0 : Int) ∧ nl PUnit
 = nl PUnit ∧ nl PUnit = nl PUnit ∧ (0 : Nat) = (0 : Nat)) ∧ (decide ((↑x : Int) < n) = false → v = v ∧ barsN x = barsN n.toNat ∧ nl (Int × Int × Int × Int × Int × (Int × Int) × (Int × Int × Int) × Int × Int × Int) = nl (Int × Int × Int ×
 Int × Int × (Int × Int) × (Int × Int × Int) × Int × Int × Int) ∧ nl (Int × Int × Int × Int × Int × (Int × Int) × (Int × Int) × Int × Int × Int) = nl (Int × Int × Int × Int × Int × (Int × Int) × (Int × Int) × Int × Int × Int) ∧ n = n ∧ nl
 (Int × Int × Int) = nl (Int × Int × Int) ∧ nl (Int × Int × Int) = nl (Int × Int × Int) ∧ (0 : Int) = (0 : Int) ∧ (0 : Int) = (0 : Int) ∧ (0 : Int) = (0 : Int) ∧ nl (Int × Int × Int) = nl (Int × Int × Int) ∧ nl (Int × Int × Int) = nl (Int
 × Int × Int))
def P_usable (ws : List Wk) (ds : List De) : Prop :=
 (fewD ws ds && validD ws ds) = usableB ws ds
abbrev E_dhead_8  :=
 (pushS [(((1 : Int), barsN (Int.toNat (8 : Int)), [], []), ((8 : Int), [], [], ((0 : Int), (0 : Int), (0 : Int)), []), []), (((4 : Int), barsN (Int.toNat (3 : Int)), [], []), ((3 : Int), [], [], ((0 : Int), (0 : Int), (0 : Int)), []),
 [])] [] ((1 : Int), (10 : Int), (2 : Int), (2 : Int), (4 : Int), (0 : Int)))
abbrev E_dhead_1  :=
 (pushS [(((1 : Int), barsN (Int.toNat (8 : Int)), [], []), ((8 : Int), [], [], ((0 : Int), (0 : Int), (0 : Int)), []), []), (((4 : Int), barsN (Int.toNat (3 : Int)), [], []), ((3 : Int), [], [], ((0 : Int), (0 : Int), (0 : Int)), []),
 [])] (E_dhead_8 ).1 ((2 : Int), (20 : Int), (5 : Int), (3 : Int), (1 : Int), (0 : Int)))
abbrev E_dhead_7  :=
 (pushS [(((1 : Int), barsN (Int.toNat (8 : Int)), [], []), ((8 : Int), [], [], ((0 : Int), (0 : Int), (0 : Int)), []), []), (((4 : Int), barsN (Int.toNat (3 : Int)), [], []), ((3 : Int), [], [], ((0 : Int), (0 : Int), (0 : Int)), []),
 [])] (E_dhead_1 ).1 ((3 : Int), (20 : Int), (1 : Int), (4 : Int), (0 : Int), (0 : Int)))
abbrev E_dhead_2  :=
 (atD [(((1 : Int), barsN (Int.toNat (8 : Int)), [], []), ((8 : Int), [], [], ((0 : Int), (0 : Int), (0 : Int)), []), []), (((4 : Int), barsN (Int.toNat (3 : Int)), [], []), ((3 : Int), [], [], ((0 : Int), (0 : Int), (0 : Int)), []), [])]
 (E_dhead_7 ).1 (3 : Int) (20 : Int))
abbrev E_dhead_3  :=
 (atD [(((1 : Int), barsN (Int.toNat (8 : Int)), [], []), ((8 : Int), [], [], ((0 : Int), (0 : Int), (0 : Int)), []), []), (((4 : Int), barsN (Int.toNat (3 : Int)), [], []), ((3 : Int), [], [], ((0 : Int), (0 : Int), (0 : Int)), []), [])]
 (E_dhead_1 ).1 (1 : Int) (20 : Int))
abbrev E_dhead_4  :=
 (atD [(((1 : Int), barsN (Int.toNat (8 : Int)), [], []), ((8 : Int), [], [], ((0 : Int), (0 : Int), (0 : Int)), []), []), (((4 : Int), barsN (Int.toNat (3 : Int)), [], []), ((3 : Int), [], [], ((0 : Int), (0 : Int), (0 : Int)), []), [])]
 (E_dhead_1 ).1 (2 : Int) (20 : Int))
abbrev E_dhead_5  :=
 (atD [(((1 : Int), barsN (Int.toNat (8 : Int)), [], []), ((8 : Int), [], [], ((0 : Int), (0 : Int), (0 : Int)), []), []), (((4 : Int), barsN (Int.toNat (3 : Int)), [], []), ((3 : Int), [], [], ((0 : Int), (0 : Int), (0 : Int)), []), [])]
 (E_dhead_1 ).1 (2 : Int) (15 : Int))
abbrev E_dhead_6  :=
 (atD [(((1 : Int), barsN (Int.toNat (8 : Int)), [], []), ((8 : Int), [], [], ((0 : Int), (0 : Int), (0 : Int)), []), []), (((4 : Int), barsN (Int.toNat (3 : Int)), [], []), ((3 : Int), [], [], ((0 : Int), (0 : Int), (0 : Int)), []), [])]
 (E_dhead_1 ).1 (2 : Int) (9 : Int))
abbrev E_dhead_9  :=
 (pushS [(((1 : Int), barsN (Int.toNat (8 : Int)), [], []), ((8 : Int), [], [], ((0 : Int), (0 : Int), (0 : Int)), []), []), (((4 : Int), barsN (Int.toNat (3 : Int)), [], []), ((3 : Int), [], [], ((0 : Int), (0 : Int), (0 : Int)), []),
 [])] (E_dhead_1 ).1 ((3 : Int), (20 : Int), (5 : Int), (3 : Int), (1 : Int), (0 : Int)))
abbrev E_dhead_10  :=
 (pushS [(((1 : Int), barsN (Int.toNat (8 : Int)), [], []), ((8 : Int), [], [], ((0 : Int), (0 : Int), (0 : Int)), []), []), (((4 : Int), barsN (Int.toNat (3 : Int)), [], []), ((3 : Int), [], [], ((0 : Int), (0 : Int), (0 : Int)), []),
 [])] (E_dhead_1 ).1 ((3 : Int), (19 : Int), (5 : Int), (3 : Int), (0 : Int), (0 : Int)))
abbrev E_dhead_11  :=
 (atD [(((1 : Int), barsN (Int.toNat (8 : Int)), [], []), ((8 : Int), [], [], ((0 : Int), (0 : Int), (0 : Int)), []), []), (((4 : Int), barsN (Int.toNat (3 : Int)), [], []), ((3 : Int), [], [], ((0 : Int), (0 : Int), (0 : Int)), []), [])]
 (E_dhead_1 ).1 (3 : Int) (20 : Int))
def P_dhead  : Prop :=
 (0 : Int) ≤ (8 : Int) ∧ (8 : Int) ≤ (1000 : Int) ∧ (0 : Int) ≤ (3 : Int) ∧ (3 : Int) ≤ (1000 : Int) ∧ (((E_dhead_8 ).2 == (0 : Int) && (E_dhead_1 ).2 == (0 : Int) && (E_dhead_7 ).2 == (0 : Int) && (E_dhead_4 ).2 == (0 : Int) && (E_dhead_3
 ).2 == (0 : Int) && (E_dhead_5 ).2 == (0 : Int) && (E_dhead_6 ).2 == (0 : Int) && (E_dhead_2 ).2 == (0 : Int) && (E_dhead_9 ).2 == (6 : Int) && (E_dhead_10 ).2 == (6 : Int) && (E_dhead_11 ).2 == (1 : Int) && sameR ((E_dhead_4 ).1.1,
 ((E_dhead_4 ).1.2.1.1, (E_dhead_4 ).1.2.1.2.1, (E_dhead_4 ).1.2.1.2.2.1, ((E_dhead_4 ).1.2.1.2.2.2.1.1, (E_dhead_4 ).1.2.1.2.2.2.1.2.1, (E_dhead_4 ).1.2.1.2.2.2.1.2.2), (E_dhead_4 ).1.2.1.2.2.2.2), (E_dhead_4 ).1.2.2) ((1 : Int), ((8 :
 Int), [], [], ((0 : Int), (0 : Int), (0 : Int)), [((2 : Int), (4 : Int), (0 : Int))]), [(3 : Int)]) && sameR ((E_dhead_3 ).1.1, ((E_dhead_3 ).1.2.1.1, (E_dhead_3 ).1.2.1.2.1, (E_dhead_3 ).1.2.1.2.2.1, ((E_dhead_3 ).1.2.1.2.2.2.1.1,
 (E_dhead_3 ).1.2.1.2.2.2.1.2.1, (E_dhead_3 ).1.2.1.2.2.2.1.2.2), (E_dhead_3 ).1.2.1.2.2.2.2), (E_dhead_3 ).1.2.2) ((1 : Int), ((8 : Int), [], [], ((0 : Int), (0 : Int), (0 : Int)), [((2 : Int), (4 : Int), (0 : Int))]), []) && sameR
 ((E_dhead_5 ).1.1, ((E_dhead_5 ).1.2.1.1, (E_dhead_5 ).1.2.1.2.1, (E_dhead_5 ).1.2.1.2.2.1, ((E_dhead_5 ).1.2.1.2.2.2.1.1, (E_dhead_5 ).1.2.1.2.2.2.1.2.1, (E_dhead_5 ).1.2.1.2.2.2.1.2.2), (E_dhead_5 ).1.2.1.2.2.2.2), (E_dhead_5 ).1.2.2)
 ((E_dhead_3 ).1.1, ((E_dhead_3 ).1.2.1.1, (E_dhead_3 ).1.2.1.2.1, (E_dhead_3 ).1.2.1.2.2.1, ((E_dhead_3 ).1.2.1.2.2.2.1.1, (E_dhead_3 ).1.2.1.2.2.2.1.2.1, (E_dhead_3 ).1.2.1.2.2.2.1.2.2), (E_dhead_3 ).1.2.1.2.2.2.2), (E_dhead_3 ).1.2.2)
 && sameR ((E_dhead_6 ).1.1, ((E_dhead_6 ).1.2.1.1, (E_dhead_6 ).1.2.1.2.1, (E_dhead_6 ).1.2.1.2.2.1, ((E_dhead_6 ).1.2.1.2.2.2.1.1, (E_dhead_6 ).1.2.1.2.2.2.1.2.1, (E_dhead_6 ).1.2.1.2.2.2.1.2.2), (E_dhead_6 ).1.2.1.2.2.2.2), (E_dhead_6
 ).1.2.2) ((1 : Int), ((8 : Int), [], [], ((0 : Int), (0 : Int), (0 : Int)), []), []) && sameR ((E_dhead_2 ).1.1, ((E_dhead_2 ).1.2.1.1, (E_dhead_2 ).1.2.1.2.1, (E_dhead_2 ).1.2.1.2.2.1, ((E_dhead_2 ).1.2.1.2.2.2.1.1, (E_dhead_2
 ).1.2.1.2.2.2.1.2.1, (E_dhead_2 ).1.2.1.2.2.2.1.2.2), (E_dhead_2 ).1.2.1.2.2.2.2), (E_dhead_2 ).1.2.2) ((4 : Int), ((3 : Int), [], [], ((0 : Int), (0 : Int), (0 : Int)), []), []) && validD [(((1 : Int), barsN (Int.toNat (8 : Int)), [],
 []), ((8 : Int), [], [], ((0 : Int), (0 : Int), (0 : Int)), []), []), (((4 : Int), barsN (Int.toNat (3 : Int)), [], []), ((3 : Int), [], [], ((0 : Int), (0 : Int), (0 : Int)), []), [])] (E_dhead_7 ).1) = true → (0 : Int) ≤ (1 : Int) ∧ (1
 : Int) ≤ (↑((0 : Nat) + (1 : Nat) + (1 : Nat)) : Int) ∧ (↑((0 : Nat) + (1 : Nat) + (1 : Nat)) : Int) ≤ (↑((0 : Nat) + (1 : Nat) + (1 : Nat)) : Int)) ∧ ((E_dhead_8 ).2 == (0 : Int) && (E_dhead_1 ).2 == (0 : Int) && (E_dhead_7 ).2 == (0 :
 Int) && (E_dhead_4 ).2 == (0 : Int) && (E_dhead_3 ).2 == (0 : Int) && (E_dhead_5 ).2 == (0 : Int) && (E_dhead_6 ).2 == (0 : Int) && (E_dhead_2 ).2 == (0 : Int) && (E_dhead_9 ).2 == (6 : Int) && (E_dhead_10 ).2 == (6 : Int) && (E_dhead_11
 ).2 == (1 : Int) && sameR ((E_dhead_4 ).1.1, ((E_dhead_4 ).1.2.1.1, (E_dhead_4 ).1.2.1.2.1, (E_dhead_4 ).1.2.1.2.2.1, ((E_dhead_4 ).1.2.1.2.2.2.1.1, (E_dhead_4 ).1.2.1.2.2.2.1.2.1, (E_dhead_4 ).1.2.1.2.2.2.1.2.2), (E_dhead_4
 ).1.2.1.2.2.2.2), (E_dhead_4 ).1.2.2) ((1 : Int), ((8 : Int), [], [], ((0 : Int), (0 : Int), (0 : Int)), [((2 : Int), (4 : Int), (0 : Int))]), [(3 : Int)]) && sameR ((E_dhead_3 ).1.1, ((E_dhead_3 ).1.2.1.1, (E_dhead_3 ).1.2.1.2.1,
 (E_dhead_3 ).1.2.1.2.2.1, ((E_dhead_3 ).1.2.1.2.2.2.1.1, (E_dhead_3 ).1.2.1.2.2.2.1.2.1, (E_dhead_3 ).1.2.1.2.2.2.1.2.2), (E_dhead_3 ).1.2.1.2.2.2.2), (E_dhead_3 ).1.2.2) ((1 : Int), ((8 : Int), [], [], ((0 : Int), (0 : Int), (0 : Int)),
 [((2 : Int), (4 : Int), (0 : Int))]), []) && sameR ((E_dhead_5 ).1.1, ((E_dhead_5 ).1.2.1.1, (E_dhead_5 ).1.2.1.2.1, (E_dhead_5 ).1.2.1.2.2.1, ((E_dhead_5 ).1.2.1.2.2.2.1.1, (E_dhead_5 ).1.2.1.2.2.2.1.2.1, (E_dhead_5 ).1.2.1.2.2.2.1.2.2),
 (E_dhead_5 ).1.2.1.2.2.2.2), (E_dhead_5 ).1.2.2) ((E_dhead_3 ).1.1, ((E_dhead_3 ).1.2.1.1, (E_dhead_3 ).1.2.1.2.1, (E_dhead_3 ).1.2.1.2.2.1, ((E_dhead_3 ).1.2.1.2.2.2.1.1, (E_dhead_3 ).1.2.1.2.2.2.1.2.1, (E_dhead_3 ).1.2.1.2.2.2.1.2.2),
 (E_dhead_3 ).1.2.1.2.2.2.2), (E_dhead_3 ).1.2.2) && sameR ((E_dhead_6 ).1.1, ((E_dhead_6 ).1.2.1.1, (E_dhead_6 ).1.2.1.2.1, (E_dhead_6 ).1.2.1.2.2.1, ((E_dhead_6 ).1.2.1.2.2.2.1.1, (E_dhead_6 ).1.2.1.2.2.2.1.2.1, (E_dhead_6
 ).1.2.1.2.2.2.1.2.2), (E_dhead_6 ).1.2.1.2.2.2.2), (E_dhead_6 ).1.2.2) ((1 : Int), ((8 : Int), [], [], ((0 : Int), (0 : Int), (0 : Int)), []), []) && sameR ((E_dhead_2 ).1.1, ((E_dhead_2 ).1.2.1.1, (E_dhead_2 ).1.2.1.2.1, (E_dhead_2
 ).1.2.1.2.2.1, ((E_dhead_2 ).1.2.1.2.2.2.1.1, (E_dhead_2 ).1.2.1.2.2.2.1.2.1, (E_dhead_2 ).1.2.1.2.2.2.1.2.2), (E_dhead_2 ).1.2.1.2.2.2.2), (E_dhead_2 ).1.2.2) ((4 : Int), ((3 : Int), [], [], ((0 : Int), (0 : Int), (0 : Int)), []), []) &&
 validD [(((1 : Int), barsN (Int.toNat (8 : Int)), [], []), ((8 : Int), [], [], ((0 : Int), (0 : Int), (0 : Int)), []), []), (((4 : Int), barsN (Int.toNat (3 : Int)), [], []), ((3 : Int), [], [], ((0 : Int), (0 : Int), (0 : Int)), []),
 [])] (E_dhead_7 ).1 && !validD (List.drop (Int.toNat (1 : Int)) (List.take (↑((0 : Nat) + (1 : Nat) + (1 : Nat)) : Int).toNat [(((1 : Int), barsN (Int.toNat (8 : Int)), [], []), ((8 : Int), [], [], ((0 : Int), (0 : Int), (0 : Int)), []),
 []), (((4 : Int), barsN (Int.toNat (3 : Int)), [], []), ((3 : Int), [], [], ((0 : Int), (0 : Int), (0 : Int)), []), [])])) (E_dhead_1 ).1) = true
end Go.Proofs.Ytcklbglladijlaa
