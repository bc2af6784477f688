/- What is to be shown of each function, in plain terms. Written by a program (wip/tools/gen.py). -/
import Derived.Test.YtiplcokpckkopaaDoorPaperpc
namespace Go.Proofs.YtiplcokpckkopaaDoor
open Go.Sy Go.RatLaw
set_option linter.unusedVariables false

abbrev E_PLast_2 (ms : List Ms) (l : List Bk) (u : Int) :=
 (ms.getD (Int.toNat (l.getD (u - (1 : Int)).toNat KT.d0).fst) MT.d0)
abbrev E_PLast_4 (ms : List Ms) (l : List Bk) (u : Int) :=
 ((↑(List.length (E_PLast_2 ms l u).snd.snd.snd) : Int) - (1 : Int))
abbrev E_PLast_5 (ms : List Ms) (l : List Bk) (u : Int) :=
 (List.getD (E_PLast_2 ms l u).snd.snd.snd (E_PLast_4 ms l u).toNat WT.d0)
abbrev E_PLast_6 (ms : List Ms) (l : List Bk) (u : Int) :=
 (([] ++ (E_PLast_2 ms l u).snd.snd.snd).getD (E_PLast_4 ms l u).toNat qW.d0)
abbrev E_PLast_1 (ms : List Ms) (l : List Bk) (u : Int) (wh : Int) :=
 ((E_PLast_5 ms l u).fst - Int.tmod (E_PLast_5 ms l u).fst (10 : Int) + (Int.tmod (E_PLast_5 ms l u).fst (10 : Int) + (1 : Int) + wh.tmod (9 : Int)).tmod (10 : Int), (E_PLast_6 ms l u).snd.fst, (E_PLast_6 ms l u).snd.snd.fst, ((E_PLast_6
 ms l u).snd.snd.snd.fst.fst, (E_PLast_6 ms l u).snd.snd.snd.fst.snd), ((E_PLast_6 ms l u).snd.snd.snd.snd.fst.fst, (E_PLast_6 ms l u).snd.snd.snd.snd.fst.snd), (E_PLast_6 ms l u).snd.snd.snd.snd.snd.fst, (E_PLast_6 ms l
 u).snd.snd.snd.snd.snd.snd.fst, (E_PLast_6 ms l u).snd.snd.snd.snd.snd.snd.snd)
abbrev E_PLast_3 (ms : List Ms) (l : List Bk) (u : Int) (wh : Int) :=
 (([] ++ ms).set (Int.toNat (l.getD (u - (1 : Int)).toNat KT.d0).fst) ((([] ++ ms).getD (Int.toNat (l.getD (u - (1 : Int)).toNat KT.d0).fst) qM.d0).fst, (([] ++ ms).getD (Int.toNat (l.getD (u - (1 : Int)).toNat KT.d0).fst) qM.d0).snd.fst,
 ((([] ++ ms).getD (Int.toNat (l.getD (u - (1 : Int)).toNat KT.d0).fst) qM.d0).snd.snd.fst.fst, (([] ++ ms).getD (Int.toNat (l.getD (u - (1 : Int)).toNat KT.d0).fst) qM.d0).snd.snd.fst.snd), ([] ++ (E_PLast_2 ms l u).snd.snd.snd).set
 (E_PLast_4 ms l u).toNat (E_PLast_1 ms l u wh)))
def P_PLast (p : Int) (ms : List Ms) (l : List Bk) (f u wh : Int) : Prop :=
 ((!few27 ms l [] || !blocksB ms l || decide (f < (0 : Int)) || decide (f ≥ u)) = false → (↑l.length : Int) ≤ (9223372036854775807 : Int)) → ((!few27 ms l [] || !blocksB ms l || decide (f < (0 : Int)) || decide (f ≥ u) || decide (u >
 (↑l.length : Int))) = true → true = true) ∧ ((!few27 ms l [] || !blocksB ms l || decide (f < (0 : Int)) || decide (f ≥ u) || decide (u > (↑l.length : Int))) = false → InI64 (u - (1 : Int)) ∧ (0 : Int) ≤ u - (1 : Int) ∧ u - (1 : Int) <
 (↑l.length : Int) ∧ (0 : Int) ≤ (l.getD (u - (1 : Int)).toNat KT.d0).fst ∧ (l.getD (u - (1 : Int)).toNat KT.d0).fst < (↑ms.length : Int) ∧ ((↑(List.length (E_PLast_2 ms l u).snd.snd.snd) : Int) ≤ (9223372036854775807 : Int) →
 (((↑(List.length (E_PLast_2 ms l u).snd.snd.snd) : Int) == (0 : Int)) = true → true = true) ∧ (((↑(List.length (E_PLast_2 ms l u).snd.snd.snd) : Int) == (0 : Int)) = false → (0 : Int) ≤ (l.getD (u - (1 : Int)).toNat KT.d0).fst ∧ (l.getD
 (u - (1 : Int)).toNat KT.d0).fst < (↑ms.length : Int) ∧ InI64 (E_PLast_4 ms l u) ∧ (0 : Int) ≤ (↑(List.length (E_PLast_2 ms l u).snd.snd.snd) : Int) - (1 : Int) ∧ (↑(List.length (E_PLast_2 ms l u).snd.snd.snd) : Int) - (1 : Int) <
 (↑(List.length (E_PLast_2 ms l u).snd.snd.snd) : Int) ∧ ((decide ((E_PLast_5 ms l u).fst < (0 : Int)) || decide ((E_PLast_5 ms l u).fst > (1000000000000 : Int))) = true → true = true) ∧ ((decide ((E_PLast_5 ms l u).fst < (0 : Int)) ||
 decide ((E_PLast_5 ms l u).fst > (1000000000000 : Int))) = false → (0 : Nat) = (0 : Nat) ∧ ((0 : Nat) + ms.length) * (56 : Nat) ≤ (140737488355328 : Nat) ∧ (0 : Int) ≤ (l.getD (u - (1 : Int)).toNat KT.d0).fst ∧ (l.getD (u - (1 :
 Int)).toNat KT.d0).fst < (↑ms.length : Int) ∧ (0 : Nat) = (0 : Nat) ∧ ((0 : Nat) + List.length (E_PLast_2 ms l u).snd.snd.snd) * (80 : Nat) ≤ (140737488355328 : Nat) ∧ (0 : Int) ≤ (l.getD (u - (1 : Int)).toNat KT.d0).fst ∧ (l.getD (u - (1
 : Int)).toNat KT.d0).fst < (↑([] ++ ms).length : Int) ∧ (0 : Nat) + ms.length = ([] ++ ms).length ∧ ([] ++ ms).length = ([] ++ ms).length ∧ Int.toNat (l.getD (u - (1 : Int)).toNat KT.d0).fst < ([] ++ ms).length ∧ ([] ++ ms).length = ([]
 ++ ms).length ∧ Int.toNat (l.getD (u - (1 : Int)).toNat KT.d0).fst < ([] ++ ms).length ∧ (0 : Int) ≤ (l.getD (u - (1 : Int)).toNat KT.d0).fst ∧ (l.getD (u - (1 : Int)).toNat KT.d0).fst < (↑([] ++ ms).length : Int) ∧ (0 : Nat) + ms.length
 = ([] ++ ms).length ∧ ([] ++ ms).length = ([] ++ ms).length ∧ Int.toNat (l.getD (u - (1 : Int)).toNat KT.d0).fst < ([] ++ ms).length ∧ ([] ++ ms).length = ([] ++ ms).length ∧ Int.toNat (l.getD (u - (1 : Int)).toNat KT.d0).fst < ([] ++
 ms).length ∧ Int.toNat (l.getD (u - (1 : Int)).toNat KT.d0).fst = Int.toNat (l.getD (u - (1 : Int)).toNat KT.d0).fst ∧ InI64 (E_PLast_4 ms l u) ∧ (10 : Int) ≠ (0 : Int) ∧ InI64 ((E_PLast_5 ms l u).fst - Int.tmod (E_PLast_5 ms l u).fst (10
 : Int)) ∧ (10 : Int) ≠ (0 : Int) ∧ InI64 (Int.tmod (E_PLast_5 ms l u).fst (10 : Int) + (1 : Int)) ∧ InI64 wh ∧ (9 : Int) ≠ (0 : Int) ∧ InI64 (Int.tmod (E_PLast_5 ms l u).fst (10 : Int) + (1 : Int) + wh.tmod (9 : Int)) ∧ (10 : Int) ≠ (0 :
 Int) ∧ InI64 ((E_PLast_5 ms l u).fst - Int.tmod (E_PLast_5 ms l u).fst (10 : Int) + (Int.tmod (E_PLast_5 ms l u).fst (10 : Int) + (1 : Int) + wh.tmod (9 : Int)).tmod (10 : Int)) ∧ (0 : Int) ≤ (↑(List.length (E_PLast_2 ms l u).snd.snd.snd)
 : Int) - (1 : Int) ∧ (↑(List.length (E_PLast_2 ms l u).snd.snd.snd) : Int) - (1 : Int) < (↑([] ++ (E_PLast_2 ms l u).snd.snd.snd).length : Int) ∧ (0 : Nat) + List.length (E_PLast_2 ms l u).snd.snd.snd = ([] ++ (E_PLast_2 ms l
 u).snd.snd.snd).length ∧ ([] ++ (E_PLast_2 ms l u).snd.snd.snd).length = ([] ++ (E_PLast_2 ms l u).snd.snd.snd).length ∧ (E_PLast_4 ms l u).toNat < ([] ++ (E_PLast_2 ms l u).snd.snd.snd).length ∧ ([] ++ (E_PLast_2 ms l
 u).snd.snd.snd).length = ([] ++ (E_PLast_2 ms l u).snd.snd.snd).length ∧ (E_PLast_4 ms l u).toNat < ([] ++ (E_PLast_2 ms l u).snd.snd.snd).length ∧ wfM ms ∧ InI64 p ∧ (0 : Nat) + ms.length = (E_PLast_3 ms l u wh).length ∧ (0 : Nat) +
 List.length (E_PLast_2 ms l u).snd.snd.snd = (([] ++ (E_PLast_2 ms l u).snd.snd.snd).set (E_PLast_4 ms l u).toNat (E_PLast_1 ms l u wh)).length ∧ wfM (E_PLast_3 ms l u wh) ∧ InI64 p ∧ (true && (digestS p ms l f u (3 : Int) (4 : Int)).snd
 == (0 : Int) && (digestS p (E_PLast_3 ms l u wh) l f u (3 : Int) (4 : Int)).snd == (0 : Int) && (digestS p ms l f u (3 : Int) (4 : Int)).fst != (digestS p (E_PLast_3 ms l u wh) l f u (3 : Int) (4 : Int)).fst) = true))))
end Go.Proofs.YtiplcokpckkopaaDoor
