/- What is to be shown of each function, in plain terms. Written by a program (wip/tools/gen.py). -/
import Derived.Test.YtiejdafjjneaeaaDoorDigestlc
namespace Go.Proofs.YtiejdafjjneaeaaDoor
open Go.Sy Go.RatLaw
set_option linter.unusedVariables false

def P_turned (l : List Int) (w b : Int) : Prop :=
  (↑l.length : Int) ≤ (9223372036854775807 : Int) → (((↑l.length : Int) == (0 : Int)) = true → [] = (turnS l w b).fst ∧ false = (turnS l w b).snd) ∧ (((↑l.length : Int) == (0 : Int)) = false → (0 : Nat) = (0 : Nat) ∧ ((0 : Nat) + l.length)
  * (8 : Nat) ≤ (140737488355328 : Nat) ∧ InI64 w ∧ ((↑((0 : Nat) + l.length) : Int) ≤ (9223372036854775807 : Int) → (↑((0 : Nat) + l.length) : Int) ≠ (0 : Int) ∧ (0 : Int) ≤ w.tmod (↑((0 : Nat) + l.length) : Int) ∧ w.tmod (↑((0 : Nat) +
  l.length) : Int) < (↑([] ++ l).length : Int) ∧ (0 : Nat) + l.length = ([] ++ l).length ∧ ([] ++ l).length = ([] ++ l).length ∧ (w.tmod (↑((0 : Nat) + l.length) : Int)).toNat < ([] ++ l).length ∧ ((decide (([] ++ l).getD (w.tmod (↑((0 :
  Nat) + l.length) : Int)).toNat (Ty.ti IntKind.i64).d0 < (0 : Int)) || decide (([] ++ l).getD (w.tmod (↑((0 : Nat) + l.length) : Int)).toNat (Ty.ti IntKind.i64).d0 > (1000000000000 : Int))) = true → [] = (turnS l w b).fst ∧ false = (turnS
  l w b).snd) ∧ ((decide (([] ++ l).getD (w.tmod (↑((0 : Nat) + l.length) : Int)).toNat (Ty.ti IntKind.i64).d0 < (0 : Int)) || decide (([] ++ l).getD (w.tmod (↑((0 : Nat) + l.length) : Int)).toNat (Ty.ti IntKind.i64).d0 > (1000000000000 :
  Int))) = false → (10 : Int) ≠ (0 : Int) ∧ InI64 (([] ++ l).getD (w.tmod (↑((0 : Nat) + l.length) : Int)).toNat (Ty.ti IntKind.i64).d0 - Int.tmod (([] ++ l).getD (w.tmod (↑((0 : Nat) + l.length) : Int)).toNat (Ty.ti IntKind.i64).d0) (10 :
  Int)) ∧ (10 : Int) ≠ (0 : Int) ∧ InI64 (Int.tmod (([] ++ l).getD (w.tmod (↑((0 : Nat) + l.length) : Int)).toNat (Ty.ti IntKind.i64).d0) (10 : Int) + (1 : Int)) ∧ InI64 b ∧ (9 : Int) ≠ (0 : Int) ∧ InI64 (Int.tmod (([] ++ l).getD (w.tmod
  (↑((0 : Nat) + l.length) : Int)).toNat (Ty.ti IntKind.i64).d0) (10 : Int) + (1 : Int) + b.tmod (9 : Int)) ∧ (10 : Int) ≠ (0 : Int) ∧ InI64 (([] ++ l).getD (w.tmod (↑((0 : Nat) + l.length) : Int)).toNat (Ty.ti IntKind.i64).d0 - Int.tmod
  (([] ++ l).getD (w.tmod (↑((0 : Nat) + l.length) : Int)).toNat (Ty.ti IntKind.i64).d0) (10 : Int) + (Int.tmod (([] ++ l).getD (w.tmod (↑((0 : Nat) + l.length) : Int)).toNat (Ty.ti IntKind.i64).d0) (10 : Int) + (1 : Int) + b.tmod (9 :
  Int)).tmod (10 : Int)) ∧ (0 : Int) ≤ w.tmod (↑((0 : Nat) + l.length) : Int) ∧ w.tmod (↑((0 : Nat) + l.length) : Int) < (↑([] ++ l).length : Int) ∧ (0 : Nat) + l.length = ([] ++ l).length ∧ ([] ++ l).length = ([] ++ l).length ∧ (w.tmod
  (↑((0 : Nat) + l.length) : Int)).toNat < ([] ++ l).length ∧ (0 : Nat) + l.length = (([] ++ l).set (w.tmod (↑((0 : Nat) + l.length) : Int)).toNat (([] ++ l).getD (w.tmod (↑((0 : Nat) + l.length) : Int)).toNat (Ty.ti IntKind.i64).d0 -
  Int.tmod (([] ++ l).getD (w.tmod (↑((0 : Nat) + l.length) : Int)).toNat (Ty.ti IntKind.i64).d0) (10 : Int) + (Int.tmod (([] ++ l).getD (w.tmod (↑((0 : Nat) + l.length) : Int)).toNat (Ty.ti IntKind.i64).d0) (10 : Int) + (1 : Int) + b.tmod
  (9 : Int)).tmod (10 : Int))).length ∧ ([] ++ l).set (w.tmod (↑((0 : Nat) + l.length) : Int)).toNat (([] ++ l).getD (w.tmod (↑((0 : Nat) + l.length) : Int)).toNat (Ty.ti IntKind.i64).d0 - Int.tmod (([] ++ l).getD (w.tmod (↑((0 : Nat) +
  l.length) : Int)).toNat (Ty.ti IntKind.i64).d0) (10 : Int) + (Int.tmod (([] ++ l).getD (w.tmod (↑((0 : Nat) + l.length) : Int)).toNat (Ty.ti IntKind.i64).d0) (10 : Int) + (1 : Int) + b.tmod (9 : Int)).tmod (10 : Int)) = (turnS l w b).fst
  ∧ true = (turnS l w b).snd)))
def P_DMatches (b : List Int) (d : Int) (l : List Int) (ll : List (List Int)) : Prop :=
  (↑b.length : Int) ≤ (9223372036854775807 : Int) → (decide ((↑b.length : Int) > (500 : Int)) = false → (↑l.length : Int) ≤ (9223372036854775807 : Int)) → ((decide ((↑b.length : Int) > (500 : Int)) || decide ((↑l.length : Int) > (40 : Int))
  || !fewL ll) = true → true = true) ∧ ((decide ((↑b.length : Int) > (500 : Int)) || decide ((↑l.length : Int) > (40 : Int)) || !fewL ll) = false → ((true && sumS b == sumS b) = true → allI l) ∧ ((true && sumS b == sumS b) = true → allI l ∧
  l.length ≤ (1000001 : Nat)) ∧ ((true && sumS b == sumS b && nextS d l == nextS d l) = true → okL ll) ∧ ((true && sumS b == sumS b && nextS d l == nextS d l) = true → okL ll) ∧ (true && sumS b == sumS b && nextS d l == nextS d l && chainS
  ll == chainS ll) = true)
def P_DOne (l : List Int) (w b : Int) : Prop :=
  (↑l.length : Int) ≤ (9223372036854775807 : Int) → (((↑l.length : Int) == (0 : Int)) = false → (↑l.length : Int) ≤ (9223372036854775807 : Int)) → (((↑l.length : Int) == (0 : Int) || decide ((↑l.length : Int) > (500 : Int))) = true → true =
  true) ∧ (((↑l.length : Int) == (0 : Int) || decide ((↑l.length : Int) > (500 : Int))) = false → (0 : Nat) = (0 : Nat) ∧ ((0 : Nat) + l.length) * (1 : Nat) ≤ (140737488355328 : Nat) ∧ InI64 w ∧ ((↑((0 : Nat) + l.length) : Int) ≤
  (9223372036854775807 : Int) → (↑((0 : Nat) + l.length) : Int) ≠ (0 : Int) ∧ (0 : Int) ≤ w.tmod (↑((0 : Nat) + l.length) : Int) ∧ w.tmod (↑((0 : Nat) + l.length) : Int) < (↑([] ++ l).length : Int) ∧ (0 : Nat) + l.length = ([] ++ l).length
  ∧ ([] ++ l).length = ([] ++ l).length ∧ (w.tmod (↑((0 : Nat) + l.length) : Int)).toNat < ([] ++ l).length ∧ (0 : Int) ≤ w.tmod (↑((0 : Nat) + l.length) : Int) ∧ w.tmod (↑((0 : Nat) + l.length) : Int) < (↑([] ++ l).length : Int) ∧ (0 :
  Nat) + l.length = ([] ++ l).length ∧ ([] ++ l).length = ([] ++ l).length ∧ (w.tmod (↑((0 : Nat) + l.length) : Int)).toNat < ([] ++ l).length ∧ (true = true → (0 : Nat) + l.length = (([] ++ l).set (w.tmod (↑((0 : Nat) + l.length) :
  Int)).toNat (xorW IntKind.u8 (([] ++ l).getD (w.tmod (↑((0 : Nat) + l.length) : Int)).toNat (Ty.ti IntKind.u8).d0) b)).length ∧ (([] ++ l).set (w.tmod (↑((0 : Nat) + l.length) : Int)).toNat (xorW IntKind.u8 (([] ++ l).getD (w.tmod (↑((0 :
  Nat) + l.length) : Int)).toNat (Ty.ti IntKind.u8).d0) b)).length = (([] ++ l).set (w.tmod (↑((0 : Nat) + l.length) : Int)).toNat (xorW IntKind.u8 (([] ++ l).getD (w.tmod (↑((0 : Nat) + l.length) : Int)).toNat (Ty.ti IntKind.u8).d0)
  b)).length) ∧ (true && (sumS l == sumS (([] ++ l).set (w.tmod (↑((0 : Nat) + l.length) : Int)).toNat (xorW IntKind.u8 (([] ++ l).getD (w.tmod (↑((0 : Nat) + l.length) : Int)).toNat (Ty.ti IntKind.u8).d0) b))) == (b == (0 : Int))) = true))
def P_DBehind (a b m : List Int) : Prop :=
  (↑a.length : Int) ≤ (9223372036854775807 : Int) → (decide ((↑a.length : Int) > (200 : Int)) = false → (↑b.length : Int) ≤ (9223372036854775807 : Int)) → ((decide ((↑a.length : Int) > (200 : Int)) || decide ((↑b.length : Int) > (200 :
  Int))) = false → (↑m.length : Int) ≤ (9223372036854775807 : Int)) → ((decide ((↑a.length : Int) > (200 : Int)) || decide ((↑b.length : Int) > (200 : Int)) || decide ((↑m.length : Int) > (200 : Int))) = true → true = true) ∧ ((decide
  ((↑a.length : Int) > (200 : Int)) || decide ((↑b.length : Int) > (200 : Int)) || decide ((↑m.length : Int) > (200 : Int))) = false → (0 : Nat) = (0 : Nat) ∧ ((0 : Nat) + a.length) * (1 : Nat) ≤ (140737488355328 : Nat) ∧ ([] ++ a).length =
  (0 : Nat) + a.length ∧ ((0 : Nat) + a.length + m.length) * (1 : Nat) ≤ (140737488355328 : Nat) ∧ (0 : Nat) = (0 : Nat) ∧ ((0 : Nat) + b.length) * (1 : Nat) ≤ (140737488355328 : Nat) ∧ ([] ++ b).length = (0 : Nat) + b.length ∧ ((0 : Nat) +
  b.length + m.length) * (1 : Nat) ≤ (140737488355328 : Nat) ∧ (true && (sumS a == sumS b) == (sumS ([] ++ a ++ m) == sumS ([] ++ b ++ m))) = true)
def P_DTexts (d : Int) (l : List Int) (w b : Int) : Prop :=
  (↑l.length : Int) ≤ (9223372036854775807 : Int) → (decide ((↑l.length : Int) > (40 : Int)) = true → true = true) ∧ (decide ((↑l.length : Int) > (40 : Int)) = false → (true = true → allI l) ∧ (true = true → allI l ∧ l.length ≤ (1000001 :
  Nat)) ∧ (0 : Int) ≤ w ∧ w ≤ (65535 : Int) ∧ (0 : Int) ≤ b ∧ b ≤ (255 : Int) ∧ l.length * (8 : Nat) ≤ (140737488355328 : Nat) ∧ ((!(turnS l w b).snd) = true → (true && nextS d l == sumS (textS d l)) = true) ∧ ((!(turnS l w b).snd) = false
  → ((true && nextS d l == sumS (textS d l)) = true → allI l) ∧ ((true && nextS d l == sumS (textS d l)) = true → allI (turnS l w b).fst) ∧ (true && nextS d l == sumS (textS d l) && nextS d l != nextS d (turnS l w b).fst) = true))
def P_DChains (a b m : List (List Int)) (l : List Int) : Prop :=
  ((!fewL a || !fewL b || !fewL m) = false → (↑l.length : Int) ≤ (9223372036854775807 : Int)) → ((!fewL a || !fewL b || !fewL m || decide ((↑l.length : Int) > (40 : Int))) = true → true = true) ∧ ((!fewL a || !fewL b || !fewL m || decide
  ((↑l.length : Int) > (40 : Int))) = false → (0 : Nat) = (0 : Nat) ∧ ((0 : Nat) + a.length) * (24 : Nat) ≤ (140737488355328 : Nat) ∧ ([] ++ a).length = (0 : Nat) + a.length ∧ ((0 : Nat) + a.length + ((0 : Nat) + (1 : Nat))) * (24 : Nat) ≤
  (140737488355328 : Nat) ∧ ((↑l.length : Int) ≤ (9223372036854775807 : Int) → (0 : Nat) + (1 : Nat) = (0 : Nat) + (1 : Nat) ∧ ((0 : Nat) + (1 : Nat) + l.length) * (8 : Nat) ≤ (140737488355328 : Nat) ∧ (true = true → okL ([] ++ a ++ [l])) ∧
  (true = true → okL a) ∧ (true = true → allI ([(↑l.length : Int)] ++ l)) ∧ (0 : Nat) = (0 : Nat) ∧ ((0 : Nat) + a.length) * (24 : Nat) ≤ (140737488355328 : Nat) ∧ ([] ++ a).length = (0 : Nat) + a.length ∧ ((0 : Nat) + a.length + m.length)
  * (24 : Nat) ≤ (140737488355328 : Nat) ∧ (0 : Nat) = (0 : Nat) ∧ ((0 : Nat) + b.length) * (24 : Nat) ≤ (140737488355328 : Nat) ∧ ([] ++ b).length = (0 : Nat) + b.length ∧ ((0 : Nat) + b.length + m.length) * (24 : Nat) ≤ (140737488355328 :
  Nat) ∧ ((true && chainS ([] ++ a ++ [l]) == nextS (chainS a) ([(↑l.length : Int)] ++ l)) = true → okL a) ∧ ((true && chainS ([] ++ a ++ [l]) == nextS (chainS a) ([(↑l.length : Int)] ++ l)) = true → okL b) ∧ ((chainS a != chainS b) = false
  ∧ (true && chainS ([] ++ a ++ [l]) == nextS (chainS a) ([(↑l.length : Int)] ++ l)) = true → okL ([] ++ a ++ m)) ∧ ((chainS a != chainS b) = false ∧ (true && chainS ([] ++ a ++ [l]) == nextS (chainS a) ([(↑l.length : Int)] ++ l)) = true →
  okL ([] ++ b ++ m)) ∧ (true && chainS ([] ++ a ++ [l]) == nextS (chainS a) ([(↑l.length : Int)] ++ l) && (chainS a != chainS b || chainS ([] ++ a ++ m) == chainS ([] ++ b ++ m))) = true))
def P_DLast (ll : List (List Int)) (l : List Int) (w b : Int) : Prop :=
  (0 : Int) ≤ w ∧ w ≤ (65535 : Int) ∧ (0 : Int) ≤ b ∧ b ≤ (255 : Int) ∧ l.length * (8 : Nat) ≤ (140737488355328 : Nat) ∧ (((!fewL ll) = false → (↑l.length : Int) ≤ (9223372036854775807 : Int)) → ((!fewL ll || decide ((↑l.length : Int) > (40
  : Int)) || !(turnS l w b).snd) = true → true = true) ∧ ((!fewL ll || decide ((↑l.length : Int) > (40 : Int)) || !(turnS l w b).snd) = false → (0 : Nat) = (0 : Nat) ∧ ((0 : Nat) + ll.length) * (24 : Nat) ≤ (140737488355328 : Nat) ∧ ([] ++
  ll).length = (0 : Nat) + ll.length ∧ ((0 : Nat) + ll.length + ((0 : Nat) + (1 : Nat))) * (24 : Nat) ≤ (140737488355328 : Nat) ∧ okL ([] ++ ll ++ [l]) ∧ (0 : Nat) = (0 : Nat) ∧ ((0 : Nat) + ll.length) * (24 : Nat) ≤ (140737488355328 : Nat)
  ∧ ([] ++ ll).length = (0 : Nat) + ll.length ∧ ((0 : Nat) + ll.length + ((0 : Nat) + (1 : Nat))) * (24 : Nat) ≤ (140737488355328 : Nat) ∧ okL ([] ++ ll ++ [(turnS l w b).fst]) ∧ (true && chainS ([] ++ ll ++ [l]) != chainS ([] ++ ll ++
  [(turnS l w b).fst])) = true))
end Go.Proofs.YtiejdafjjneaeaaDoor
