/- What is to be shown of each function, in plain terms. Written by a program (wip/tools/gen.py). -/
import Derived.Test.YtiplcokpckkopaaDoorDigestc
namespace Go.Proofs.YtiplcokpckkopaaDoor
open Go.Sy Go.RatLaw
set_option linter.unusedVariables false

def P_run1 (d : Int) (l : List Int) : Prop :=
 (↑l.length : Int) ≤ (9223372036854775807 : Int) → (∃ (x : Nat), x ≤ l.length ∧ (0 : Int) = (↑x : Int) ∧ d = dig d (List.take x l)) ∧ ∀ (x : Nat), x ≤ l.length → (decide ((↑x : Int) < (↑l.length : Int)) = true → (0 : Int) ≤ (↑x : Int) ∧
 (↑x : Int) < (↑l.length : Int) ∧ InI64 ((↑x : Int) + (1 : Int)) ∧ ∃ (x' : Nat), x' ≤ l.length ∧ l.length - x' < l.length - x ∧ (↑x : Int) + (1 : Int) = (↑x' : Int) ∧ (↑l.length : Int) = (↑l.length : Int) ∧ l = l ∧ l = l ∧ IntKind.u64.wrap
 (xorW IntKind.u64 (dig d (List.take x l)) (IntKind.u64.wrap (l.getD (↑x : Int).toNat (Ty.ti IntKind.u8).d0)) * (1099511628211 : Int)) = dig d (List.take x' l)) ∧ (decide ((↑x : Int) < (↑l.length : Int)) = false → dig d (List.take x l) =
 dig d l)
def P_run2 (d : Int) : Prop :=
 d = d ∧ d = d
def P_run  : Prop :=
 coL (LV.clo (67 : FuncId) [] [((2 : Nat), (0 : Nat))]) (LV.clo (67 : Nat) [] [((2 : Nat), (0 : Nat))]) = LV.clo (67 : FuncId) [] [((2 : Nat), (0 : Nat))] ∧ coL (LV.clo (68 : FuncId) [] [((2 : Nat), (0 : Nat))]) (LV.clo (68 : Nat) [] [((2
 : Nat), (0 : Nat))]) = LV.clo (68 : FuncId) [] [((2 : Nat), (0 : Nat))] ∧ (14695981039346656037 : Int) = (14695981039346656037 : Int)
def P_next (d : Int) (l : List Int) : Prop :=
 (∃ (x : Nat), x ≤ (8 : Nat) ∧ (56 : Int) = (56 : Int) - (8 : Int) * (↑x : Int) ∧ (14695981039346656037 : Int) = dig dig0 (List.take x (eightB d))) ∧ ∀ (x : Nat), x ≤ (8 : Nat) → (decide ((56 : Int) - (8 : Int) * (↑x : Int) ≥ (0 : Int)) =
 true → (0 : Int) ≤ (56 : Int) - (8 : Int) * (↑x : Int) ∧ InI64 ((56 : Int) - (8 : Int) * (↑x : Int) - (8 : Int)) ∧ ∃ (x' : Nat), x' ≤ (8 : Nat) ∧ (8 : Nat) - x' < (8 : Nat) - x ∧ (56 : Int) - (8 : Int) * (↑x : Int) - (8 : Int) = (56 :
 Int) - (8 : Int) * (↑x' : Int) ∧ coL (LV.clo (68 : FuncId) [] [((100000 : Nat) + (100 : Nat) * (13 : Nat), (0 : Nat))]) (LV.clo (68 : FuncId) [] [((100000 : Nat) + (100 : Nat) * (13 : Nat), (0 : Nat))]) = LV.clo (68 : FuncId) [] [((100000
 : Nat) + (100 : Nat) * (13 : Nat), (0 : Nat))] ∧ coL (LV.clo (67 : FuncId) [] [((100000 : Nat) + (100 : Nat) * (13 : Nat), (0 : Nat))]) (LV.clo (67 : FuncId) [] [((100000 : Nat) + (100 : Nat) * (13 : Nat), (0 : Nat))]) = LV.clo (67 :
 FuncId) [] [((100000 : Nat) + (100 : Nat) * (13 : Nat), (0 : Nat))] ∧ (0 : Int) = (0 : Int) ∧ d = d ∧ l = l ∧ dig (dig dig0 (List.take x (eightB d))) [IntKind.u8.wrap (shrW IntKind.u64 d ((56 : Int) - (8 : Int) * (↑x : Int)))] = dig dig0
 (List.take x' (eightB d))) ∧ (decide ((56 : Int) - (8 : Int) * (↑x : Int) ≥ (0 : Int)) = false → (↑l.length : Int) ≤ (9223372036854775807 : Int) → (∃ (x_1 : Nat), x_1 ≤ l.length ∧ (0 : Int) = (↑x_1 : Int) ∧ dig dig0 (List.take x (eightB
 d)) = sumS (textS d (List.take x_1 l))) ∧ ∀ (x_1 : Nat), x_1 ≤ l.length → (decide ((↑x_1 : Int) < (↑l.length : Int)) = true → (0 : Int) ≤ (↑x_1 : Int) ∧ (↑x_1 : Int) < (↑l.length : Int) ∧ InI64 (l.getD (↑x_1 : Int).toNat (Ty.ti
 IntKind.i64).d0) ∧ (∃ (x : Nat), x ≤ (itoaB (l.getD (↑x_1 : Int).toNat (0 : Int))).length ∧ ByteArray.mk (Lib.itoa (l.getD (↑x_1 : Int).toNat (Ty.ti IntKind.i64).d0)).toArray = itoaS (l.getD (↑x_1 : Int).toNat (0 : Int)) ∧ (0 : Nat) = x ∧
 sumS (textS d (List.take x_1 l)) = dig (sumS (textS d (List.take (↑x_1 : Int).toNat l))) (List.take x (itoaB (l.getD (↑x_1 : Int).toNat (0 : Int))))) ∧ ∀ (x_2 : Nat), x_2 ≤ (itoaB (l.getD (↑x_1 : Int).toNat (0 : Int))).length → (decide
 (x_2 < (itoaS (l.getD (↑x_1 : Int).toNat (0 : Int))).size) = true → decide (x_2 < (itoaS (l.getD (↑x_1 : Int).toNat (0 : Int))).size) = true ∧ ∃ (x' : Nat), x' ≤ (itoaB (l.getD (↑x_1 : Int).toNat (0 : Int))).length ∧ (itoaB (l.getD (↑x_1
 : Int).toNat (0 : Int))).length - x' < (itoaB (l.getD (↑x_1 : Int).toNat (0 : Int))).length - x_2 ∧ l.getD (↑x_1 : Int).toNat (Ty.ti IntKind.i64).d0 = l.getD (↑x_1 : Int).toNat (Ty.ti IntKind.i64).d0 ∧ decide ((↑x_1 : Int) < (↑l.length :
 Int)) = decide ((↑x_1 : Int) < (↑l.length : Int)) ∧ (↑x_1 : Int) = (↑x_1 : Int) ∧ (↑l.length : Int) = (↑l.length : Int) ∧ l = l ∧ decide ((56 : Int) - (8 : Int) * (↑x : Int) ≥ (0 : Int)) = decide ((56 : Int) - (8 : Int) * (↑x : Int) ≥ (0
 : Int)) ∧ (56 : Int) - (8 : Int) * (↑x : Int) = (56 : Int) - (8 : Int) * (↑x : Int) ∧ coL (LV.clo (68 : FuncId) [] [((100000 : Nat) + (100 : Nat) * (13 : Nat), (0 : Nat))]) (LV.clo (68 : FuncId) [] [((100000 : Nat) + (100 : Nat) * (13 :
 Nat), (0 : Nat))]) = LV.clo (68 : FuncId) [] [((100000 : Nat) + (100 : Nat) * (13 : Nat), (0 : Nat))] ∧ coL (LV.clo (67 : FuncId) [] [((100000 : Nat) + (100 : Nat) * (13 : Nat), (0 : Nat))]) (LV.clo (67 : FuncId) [] [((100000 : Nat) +
 (100 : Nat) * (13 : Nat), (0 : Nat))]) = LV.clo (67 : FuncId) [] [((100000 : Nat) + (100 : Nat) * (13 : Nat), (0 : Nat))] ∧ (0 : Int) = (0 : Int) ∧ d = d ∧ l = l ∧ itoaS (l.getD (↑x_1 : Int).toNat (0 : Int)) = itoaS (l.getD (↑x_1 :
 Int).toNat (0 : Int)) ∧ nxP (itoaS (l.getD (↑x_1 : Int).toNat (0 : Int))) x_2 = x' ∧ dig (dig (sumS (textS d (List.take (↑x_1 : Int).toNat l))) (List.take x_2 (itoaB (l.getD (↑x_1 : Int).toNat (0 : Int))))) [IntKind.u8.wrap (↑(Utf8.decode
 (itoaS (l.getD (↑x_1 : Int).toNat (0 : Int))) x_2).fst : Int)] = dig (sumS (textS d (List.take (↑x_1 : Int).toNat l))) (List.take x' (itoaB (l.getD (↑x_1 : Int).toNat (0 : Int))))) ∧ (decide (x_2 < (itoaS (l.getD (↑x_1 : Int).toNat (0 :
 Int))).size) = false → InI64 ((↑x_1 : Int) + (1 : Int)) ∧ ∃ (x' : Nat), x' ≤ l.length ∧ l.length - x' < l.length - x_1 ∧ (↑x_1 : Int) + (1 : Int) = (↑x' : Int) ∧ (↑l.length : Int) = (↑l.length : Int) ∧ l = l ∧ decide ((56 : Int) - (8 :
 Int) * (↑x : Int) ≥ (0 : Int)) = decide ((56 : Int) - (8 : Int) * (↑x : Int) ≥ (0 : Int)) ∧ (56 : Int) - (8 : Int) * (↑x : Int) = (56 : Int) - (8 : Int) * (↑x : Int) ∧ coL (LV.clo (68 : FuncId) [] [((100000 : Nat) + (100 : Nat) * (13 :
 Nat), (0 : Nat))]) (LV.clo (68 : FuncId) [] [((100000 : Nat) + (100 : Nat) * (13 : Nat), (0 : Nat))]) = LV.clo (68 : FuncId) [] [((100000 : Nat) + (100 : Nat) * (13 : Nat), (0 : Nat))] ∧ coL (LV.clo (67 : FuncId) [] [((100000 : Nat) +
 (100 : Nat) * (13 : Nat), (0 : Nat))]) (LV.clo (67 : FuncId) [] [((100000 : Nat) + (100 : Nat) * (13 : Nat), (0 : Nat))]) = LV.clo (67 : FuncId) [] [((100000 : Nat) + (100 : Nat) * (13 : Nat), (0 : Nat))] ∧ (0 : Int) = (0 : Int) ∧ d = d ∧
 l = l ∧ dig (dig (sumS (textS d (List.take (↑x_1 : Int).toNat l))) (List.take x_2 (itoaB (l.getD (↑x_1 : Int).toNat (0 : Int))))) [(32 : Int)] = sumS (textS d (List.take x' l)))) ∧ (decide ((↑x_1 : Int) < (↑l.length : Int)) = false → sumS
 (textS d (List.take x_1 l)) = nextS d l))
def P_chain (l : List (List Int)) : Prop :=
 (↑l.length : Int) ≤ (9223372036854775807 : Int) → (∃ (x : Nat), x ≤ l.length ∧ (0 : Int) = (↑x : Int) ∧ (14695981039346656037 : Int) = chainS (List.take x l)) ∧ ∀ (x : Nat), x ≤ l.length → (decide ((↑x : Int) < (↑l.length : Int)) = true →
 (0 : Int) ≤ (↑x : Int) ∧ (↑x : Int) < (↑l.length : Int) ∧ ((↑(List.length (l.getD (↑x : Int).toNat (Ty.ti IntKind.i64).tl.d0)) : Int) ≤ (9223372036854775807 : Int) → (0 : Nat) + (1 : Nat) = (0 : Nat) + (1 : Nat) ∧ ((0 : Nat) + (1 : Nat) +
 List.length (l.getD (↑x : Int).toNat (Ty.ti IntKind.i64).tl.d0)) * (8 : Nat) ≤ (140737488355328 : Nat) ∧ allI ([(↑(List.length (l.getD (↑x : Int).toNat (Ty.ti IntKind.i64).tl.d0)) : Int)] ++ l.getD (↑x : Int).toNat (Ty.ti
 IntKind.i64).tl.d0) ∧ InI64 ((↑x : Int) + (1 : Int)) ∧ ∃ (x' : Nat), x' ≤ l.length ∧ l.length - x' < l.length - x ∧ (↑x : Int) + (1 : Int) = (↑x' : Int) ∧ nextS (chainS (List.take x l)) ([(↑(List.length (l.getD (↑x : Int).toNat (Ty.ti
 IntKind.i64).tl.d0)) : Int)] ++ l.getD (↑x : Int).toNat (Ty.ti IntKind.i64).tl.d0) = chainS (List.take x' l) ∧ (↑l.length : Int) = (↑l.length : Int) ∧ l = l ∧ (0 : Int) = (0 : Int) ∧ l = l)) ∧ (decide ((↑x : Int) < (↑l.length : Int)) =
 false → chainS (List.take x l) = chainS l)
def P_rSum (l : List Int) : Prop :=
 (∃ (x : Nat), x ≤ l.length ∧ (0 : Int) = (↑x : Int) ∧ (14695981039346656037 : Int) = sumS (List.take x l)) ∧ ∀ (x : Nat), x ≤ l.length → (↑l.length : Int) ≤ (9223372036854775807 : Int) → (decide ((↑x : Int) < (↑l.length : Int)) = true →
 (0 : Int) ≤ (↑x : Int) ∧ (↑x : Int) < (↑l.length : Int) ∧ InI64 ((↑x : Int) + (1 : Int)) ∧ ∃ (x' : Nat), x' ≤ l.length ∧ l.length - x' < l.length - x ∧ (↑x : Int) + (1 : Int) = (↑x' : Int) ∧ IntKind.u64.wrap (xorW IntKind.u64 (sumS
 (List.take x l)) (IntKind.u64.wrap (l.getD (↑x : Int).toNat (Ty.ti IntKind.u8).d0)) * (1099511628211 : Int)) = sumS (List.take x' l) ∧ (0 : Int) = (0 : Int) ∧ l = l) ∧ (decide ((↑x : Int) < (↑l.length : Int)) = false → sumS (List.take x
 l) = sumS l)
def P_rDec (n : Int) : Prop :=
 ((n == (0 : Int)) = true → DV.lit (Value.string (ByteArray.mk #[(48 : UInt8)])) = DV.lit (Value.string (itoaS n))) ∧ ((n == (0 : Int)) = false → (∃ (x : Nat × Int), (InI64 x.snd ∧ x.fst ≤ (20 : Nat) ∧ digsR n (20 : Nat) = digsR n x.fst ++
 digsR x.snd ((20 : Nat) - x.fst) ∧ x.snd.natAbs < (10 : Nat) ^ ((20 : Nat) - x.fst) ∧ (digsR n x.fst).length = x.fst) ∧ n = x.snd ∧ [] = digsR n x.fst ∧ (0 : Nat) = (digsR n x.fst).length) ∧ ∀ (x : Nat × Int), InI64 x.snd ∧ x.fst ≤ (20 :
 Nat) ∧ digsR n (20 : Nat) = digsR n x.fst ++ digsR x.snd ((20 : Nat) - x.fst) ∧ x.snd.natAbs < (10 : Nat) ^ ((20 : Nat) - x.fst) ∧ (digsR n x.fst).length = x.fst → ((x.snd != (0 : Int)) = true → (10 : Int) ≠ (0 : Int) ∧ (decide
 (x.snd.tmod (10 : Int) < (0 : Int)) = true → InI64 ((48 : Int) + negW (x.snd.tmod (10 : Int))) ∧ (digsR n x.fst).length = (digsR n x.fst).length ∧ ((digsR n x.fst).length + ((0 : Nat) + (1 : Nat))) * (1 : Nat) ≤ (140737488355328 : Nat) ∧
 (10 : Int) ≠ (0 : Int) ∧ InI64 (x.snd.tdiv (10 : Int)) ∧ ∃ (x' : Nat × Int), (InI64 x'.snd ∧ x'.fst ≤ (20 : Nat) ∧ digsR n (20 : Nat) = digsR n x'.fst ++ digsR x'.snd ((20 : Nat) - x'.fst) ∧ x'.snd.natAbs < (10 : Nat) ^ ((20 : Nat) -
 x'.fst) ∧ (digsR n x'.fst).length = x'.fst) ∧ x'.snd.natAbs < x.snd.natAbs ∧ x.snd.tdiv (10 : Int) = x'.snd ∧ digsR n x.fst ++ [IntKind.u8.wrap ((48 : Int) + negW (x.snd.tmod (10 : Int)))] = digsR n x'.fst ∧ (n == (0 : Int)) = (n == (0 :
 Int)) ∧ DV.lit (Value.string (ByteArray.mk #[])) = DV.lit (Value.string (ByteArray.mk #[])) ∧ n = n ∧ (digsR n x.fst).length + ((0 : Nat) + (1 : Nat)) = (digsR n x'.fst).length) ∧ (decide (x.snd.tmod (10 : Int) < (0 : Int)) = false →
 InI64 ((48 : Int) + x.snd.tmod (10 : Int)) ∧ (digsR n x.fst).length = (digsR n x.fst).length ∧ ((digsR n x.fst).length + ((0 : Nat) + (1 : Nat))) * (1 : Nat) ≤ (140737488355328 : Nat) ∧ (10 : Int) ≠ (0 : Int) ∧ InI64 (x.snd.tdiv (10 :
 Int)) ∧ ∃ (x' : Nat × Int), (InI64 x'.snd ∧ x'.fst ≤ (20 : Nat) ∧ digsR n (20 : Nat) = digsR n x'.fst ++ digsR x'.snd ((20 : Nat) - x'.fst) ∧ x'.snd.natAbs < (10 : Nat) ^ ((20 : Nat) - x'.fst) ∧ (digsR n x'.fst).length = x'.fst) ∧
 x'.snd.natAbs < x.snd.natAbs ∧ x.snd.tdiv (10 : Int) = x'.snd ∧ digsR n x.fst ++ [IntKind.u8.wrap ((48 : Int) + x.snd.tmod (10 : Int))] = digsR n x'.fst ∧ (n == (0 : Int)) = (n == (0 : Int)) ∧ DV.lit (Value.string (ByteArray.mk #[])) =
 DV.lit (Value.string (ByteArray.mk #[])) ∧ n = n ∧ (digsR n x.fst).length + ((0 : Nat) + (1 : Nat)) = (digsR n x'.fst).length)) ∧ ((x.snd != (0 : Int)) = false → (decide (n < (0 : Int)) = true → (digsR n x.fst).length = (digsR n
 x.fst).length ∧ ((digsR n x.fst).length + ((0 : Nat) + (1 : Nat))) * (1 : Nat) ≤ (140737488355328 : Nat) ∧ ((↑(digsR n x.fst ++ [(45 : Int)]).length : Int) ≤ (9223372036854775807 : Int) → InI64 ((↑(digsR n x.fst ++ [(45 : Int)]).length :
 Int) - (1 : Int)) ∧ (∃ (x_1 : Nat), x_1 ≤ (digsR n x.fst ++ [(45 : Int)]).length ∧ (↑(digsR n x.fst ++ [(45 : Int)]).length : Int) - (1 : Int) = (↑(digsR n x.fst ++ [(45 : Int)]).length : Int) - (1 : Int) - (↑x_1 : Int) ∧ [] = List.take
 x_1 (digsR n x.fst ++ [(45 : Int)]).reverse ∧ (0 : Nat) = (List.take x_1 (digsR n x.fst ++ [(45 : Int)]).reverse).length) ∧ ∀ (x_1 : Nat), x_1 ≤ (digsR n x.fst ++ [(45 : Int)]).length → (decide ((↑(digsR n x.fst ++ [(45 : Int)]).length :
 Int) - (1 : Int) - (↑x_1 : Int) ≥ (0 : Int)) = true → (0 : Int) ≤ (↑(digsR n x.fst ++ [(45 : Int)]).length : Int) - (1 : Int) - (↑x_1 : Int) ∧ (↑(digsR n x.fst ++ [(45 : Int)]).length : Int) - (1 : Int) - (↑x_1 : Int) < (↑(digsR n x.fst
 ++ [(45 : Int)]).length : Int) ∧ (List.take x_1 (digsR n x.fst ++ [(45 : Int)]).reverse).length = (List.take x_1 (digsR n x.fst ++ [(45 : Int)]).reverse).length ∧ ((List.take x_1 (digsR n x.fst ++ [(45 : Int)]).reverse).length + ((0 :
 Nat) + (1 : Nat))) * (1 : Nat) ≤ (140737488355328 : Nat) ∧ InI64 ((↑(digsR n x.fst ++ [(45 : Int)]).length : Int) - (1 : Int) - (↑x_1 : Int) - (1 : Int)) ∧ ∃ (x' : Nat), x' ≤ (digsR n x.fst ++ [(45 : Int)]).length ∧ (digsR n x.fst ++ [(45
 : Int)]).length - x' < (digsR n x.fst ++ [(45 : Int)]).length - x_1 ∧ (↑(digsR n x.fst ++ [(45 : Int)]).length : Int) - (1 : Int) - (↑x_1 : Int) - (1 : Int) = (↑(digsR n x.fst ++ [(45 : Int)]).length : Int) - (1 : Int) - (↑x' : Int) ∧
 List.take x_1 (digsR n x.fst ++ [(45 : Int)]).reverse ++ [(digsR n x.fst ++ [(45 : Int)]).getD ((↑(digsR n x.fst ++ [(45 : Int)]).length : Int) - (1 : Int) - (↑x_1 : Int)).toNat (Ty.ti IntKind.u8).d0] = List.take x' (digsR n x.fst ++ [(45
 : Int)]).reverse ∧ digsR n x.fst ++ [(45 : Int)] = digsR n x.fst ++ [(45 : Int)] ∧ decide (n < (0 : Int)) = decide (n < (0 : Int)) ∧ (x.snd != (0 : Int)) = (x.snd != (0 : Int)) ∧ x.snd = x.snd ∧ (n == (0 : Int)) = (n == (0 : Int)) ∧
 DV.lit (Value.string (ByteArray.mk #[])) = DV.lit (Value.string (ByteArray.mk #[])) ∧ n = n ∧ (List.take x_1 (digsR n x.fst ++ [(45 : Int)]).reverse).length + ((0 : Nat) + (1 : Nat)) = (List.take x' (digsR n x.fst ++ [(45 :
 Int)]).reverse).length ∧ (digsR n x.fst).length + ((0 : Nat) + (1 : Nat)) = (digsR n x.fst).length + ((0 : Nat) + (1 : Nat)) ∧ (0 : Nat) + (1 : Nat) = (0 : Nat) + (1 : Nat)) ∧ (decide ((↑(digsR n x.fst ++ [(45 : Int)]).length : Int) - (1
 : Int) - (↑x_1 : Int) ≥ (0 : Int)) = false → DV.lit (Value.string (bStr (List.take x_1 (digsR n x.fst ++ [(45 : Int)]).reverse))) = DV.lit (Value.string (itoaS n))))) ∧ (decide (n < (0 : Int)) = false → (↑(digsR n x.fst).length : Int) ≤
 (9223372036854775807 : Int) → InI64 ((↑(digsR n x.fst).length : Int) - (1 : Int)) ∧ (∃ (x_1 : Nat), x_1 ≤ (digsR n x.fst).length ∧ (↑(digsR n x.fst).length : Int) - (1 : Int) = (↑(digsR n x.fst).length : Int) - (1 : Int) - (↑x_1 : Int) ∧
 [] = List.take x_1 (digsR n x.fst).reverse ∧ (0 : Nat) = (List.take x_1 (digsR n x.fst).reverse).length) ∧ ∀ (x_1 : Nat), x_1 ≤ (digsR n x.fst).length → (decide ((↑(digsR n x.fst).length : Int) - (1 : Int) - (↑x_1 : Int) ≥ (0 : Int)) =
 true → (0 : Int) ≤ (↑(digsR n x.fst).length : Int) - (1 : Int) - (↑x_1 : Int) ∧ (↑(digsR n x.fst).length : Int) - (1 : Int) - (↑x_1 : Int) < (↑(digsR n x.fst).length : Int) ∧ (List.take x_1 (digsR n x.fst).reverse).length = (List.take x_1
 (digsR n x.fst).reverse).length ∧ ((List.take x_1 (digsR n x.fst).reverse).length + ((0 : Nat) + (1 : Nat))) * (1 : Nat) ≤ (140737488355328 : Nat) ∧ InI64 ((↑(digsR n x.fst).length : Int) - (1 : Int) - (↑x_1 : Int) - (1 : Int)) ∧ ∃ (x' :
 Nat), x' ≤ (digsR n x.fst).length ∧ (digsR n x.fst).length - x' < (digsR n x.fst).length - x_1 ∧ (↑(digsR n x.fst).length : Int) - (1 : Int) - (↑x_1 : Int) - (1 : Int) = (↑(digsR n x.fst).length : Int) - (1 : Int) - (↑x' : Int) ∧
 List.take x_1 (digsR n x.fst).reverse ++ [(digsR n x.fst).getD ((↑(digsR n x.fst).length : Int) - (1 : Int) - (↑x_1 : Int)).toNat (Ty.ti IntKind.u8).d0] = List.take x' (digsR n x.fst).reverse ∧ decide (n < (0 : Int)) = decide (n < (0 :
 Int)) ∧ (x.snd != (0 : Int)) = (x.snd != (0 : Int)) ∧ x.snd = x.snd ∧ digsR n x.fst = digsR n x.fst ∧ (n == (0 : Int)) = (n == (0 : Int)) ∧ DV.lit (Value.string (ByteArray.mk #[])) = DV.lit (Value.string (ByteArray.mk #[])) ∧ n = n ∧
 (List.take x_1 (digsR n x.fst).reverse).length + ((0 : Nat) + (1 : Nat)) = (List.take x' (digsR n x.fst).reverse).length ∧ (digsR n x.fst).length = (digsR n x.fst).length) ∧ (decide ((↑(digsR n x.fst).length : Int) - (1 : Int) - (↑x_1 :
 Int) ≥ (0 : Int)) = false → DV.lit (Value.string (bStr (List.take x_1 (digsR n x.fst).reverse))) = DV.lit (Value.string (itoaS n))))))
def P_rText (d : Int) (l : List Int) : Prop :=
 (∃ (x : Nat), x ≤ (8 : Nat) ∧ (0 : Int) = (↑x : Int) ∧ [] = List.take x (eightB d) ∧ (0 : Nat) = (List.take x (eightB d)).length) ∧ ∀ (x : Nat), x ≤ (8 : Nat) → (decide ((↑x : Int) < (8 : Int)) = true → InI64 ((8 : Int) * (↑x : Int)) ∧
 InI64 ((56 : Int) - (8 : Int) * (↑x : Int)) ∧ (0 : Int) ≤ (56 : Int) - (8 : Int) * (↑x : Int) ∧ (List.take x (eightB d)).length = (List.take x (eightB d)).length ∧ ((List.take x (eightB d)).length + ((0 : Nat) + (1 : Nat))) * (1 : Nat) ≤
 (140737488355328 : Nat) ∧ InI64 ((↑x : Int) + (1 : Int)) ∧ ∃ (x' : Nat), x' ≤ (8 : Nat) ∧ (8 : Nat) - x' < (8 : Nat) - x ∧ (↑x : Int) + (1 : Int) = (↑x' : Int) ∧ List.take x (eightB d) ++ [IntKind.u8.wrap (shrW IntKind.u64 d ((56 : Int) -
 (8 : Int) * (↑x : Int)))] = List.take x' (eightB d) ∧ nl Int = nl Int ∧ d = d ∧ l = l ∧ (List.take x (eightB d)).length + ((0 : Nat) + (1 : Nat)) = (List.take x' (eightB d)).length ∧ (0 : Nat) = (0 : Nat)) ∧ (decide ((↑x : Int) < (8 :
 Int)) = false → (∃ (x_1 : Nat), x_1 ≤ l.length ∧ (0 : Int) = (↑x_1 : Int) ∧ List.take x (eightB d) = textS d (List.take x_1 l) ∧ (List.take x (eightB d)).length = ((List.map (fun (i : Nat) => IntKind.u8.wrap (shrW IntKind.u64 d ((56 :
 Int) - (8 : Int) * (↑i : Int)))) []).append (textL (List.take x_1 l))).length + (1 : Nat) + (1 : Nat) + (1 : Nat) + (1 : Nat) + (1 : Nat) + (1 : Nat) + (1 : Nat) + (1 : Nat)) ∧ ∀ (x_1 : Nat), x_1 ≤ l.length → (↑l.length : Int) ≤
 (9223372036854775807 : Int) → (decide ((↑x_1 : Int) < (↑l.length : Int)) = true → (0 : Int) ≤ (↑x_1 : Int) ∧ (↑x_1 : Int) < (↑l.length : Int) ∧ InI64 (l.getD (↑x_1 : Int).toNat (Ty.ti IntKind.i64).d0) ∧ ((List.map (fun (i : Nat) =>
 IntKind.u8.wrap (shrW IntKind.u64 d ((56 : Int) - (8 : Int) * (↑i : Int)))) []).append (textL (List.take x_1 l))).length + (1 : Nat) + (1 : Nat) + (1 : Nat) + (1 : Nat) + (1 : Nat) + (1 : Nat) + (1 : Nat) + (1 : Nat) = ((List.map (fun (i
 : Nat) => IntKind.u8.wrap (shrW IntKind.u64 d ((56 : Int) - (8 : Int) * (↑i : Int)))) []).append (textL (List.take x_1 l))).length + (1 : Nat) + (1 : Nat) + (1 : Nat) + (1 : Nat) + (1 : Nat) + (1 : Nat) + (1 : Nat) + (1 : Nat) ∧
 (((List.map (fun (i : Nat) => IntKind.u8.wrap (shrW IntKind.u64 d ((56 : Int) - (8 : Int) * (↑i : Int)))) []).append (textL (List.take x_1 l))).length + (1 : Nat) + (1 : Nat) + (1 : Nat) + (1 : Nat) + (1 : Nat) + (1 : Nat) + (1 : Nat) +
 (1 : Nat) + (strB (itoaS (l.getD (↑x_1 : Int).toNat (Ty.ti IntKind.i64).d0))).length) * (1 : Nat) ≤ (140737488355328 : Nat) ∧ (((List.map (fun (i : Nat) => IntKind.u8.wrap (shrW IntKind.u64 d ((56 : Int) - (8 : Int) * (↑i : Int))))
 []).append (textL (List.take x_1 l))).append (strB (itoaS (l.getD (↑x_1 : Int).toNat (Ty.ti IntKind.i64).d0)))).length + (1 : Nat) + (1 : Nat) + (1 : Nat) + (1 : Nat) + (1 : Nat) + (1 : Nat) + (1 : Nat) + (1 : Nat) = ((List.map (fun (i :
 Nat) => IntKind.u8.wrap (shrW IntKind.u64 d ((56 : Int) - (8 : Int) * (↑i : Int)))) []).append (textL (List.take x_1 l))).length + (1 : Nat) + (1 : Nat) + (1 : Nat) + (1 : Nat) + (1 : Nat) + (1 : Nat) + (1 : Nat) + (1 : Nat) + (strB
 (itoaS (l.getD (↑x_1 : Int).toNat (Ty.ti IntKind.i64).d0))).length ∧ (((List.map (fun (i : Nat) => IntKind.u8.wrap (shrW IntKind.u64 d ((56 : Int) - (8 : Int) * (↑i : Int)))) []).append (textL (List.take x_1 l))).length + (1 : Nat) + (1 :
 Nat) + (1 : Nat) + (1 : Nat) + (1 : Nat) + (1 : Nat) + (1 : Nat) + (1 : Nat) + (strB (itoaS (l.getD (↑x_1 : Int).toNat (Ty.ti IntKind.i64).d0))).length + ((0 : Nat) + (1 : Nat))) * (1 : Nat) ≤ (140737488355328 : Nat) ∧ InI64 ((↑x_1 : Int)
 + (1 : Int)) ∧ ∃ (x' : Nat), x' ≤ l.length ∧ l.length - x' < l.length - x_1 ∧ (↑x_1 : Int) + (1 : Int) = (↑x' : Int) ∧ textS d (List.take x_1 l) ++ strB (itoaS (l.getD (↑x_1 : Int).toNat (Ty.ti IntKind.i64).d0)) ++ [(32 : Int)] = textS d
 (List.take x' l) ∧ decide ((↑x : Int) < (8 : Int)) = decide ((↑x : Int) < (8 : Int)) ∧ (↑x : Int) = (↑x : Int) ∧ nl Int = nl Int ∧ d = d ∧ l = l ∧ ((List.map (fun (i : Nat) => IntKind.u8.wrap (shrW IntKind.u64 d ((56 : Int) - (8 : Int) *
 (↑i : Int)))) []).append (textL (List.take x_1 l))).length + (1 : Nat) + (1 : Nat) + (1 : Nat) + (1 : Nat) + (1 : Nat) + (1 : Nat) + (1 : Nat) + (1 : Nat) + (strB (itoaS (l.getD (↑x_1 : Int).toNat (Ty.ti IntKind.i64).d0))).length + ((0 :
 Nat) + (1 : Nat)) = ((List.map (fun (i : Nat) => IntKind.u8.wrap (shrW IntKind.u64 d ((56 : Int) - (8 : Int) * (↑i : Int)))) []).append (textL (List.take x' l))).length + (1 : Nat) + (1 : Nat) + (1 : Nat) + (1 : Nat) + (1 : Nat) + (1 :
 Nat) + (1 : Nat) + (1 : Nat) ∧ (0 : Nat) = (0 : Nat)) ∧ (decide ((↑x_1 : Int) < (↑l.length : Int)) = false → textS d (List.take x_1 l) = textS d l))
def P_rNext (d : Int) (l : List Int) : Prop :=
 allI l ∧ l.length ≤ (1000001 : Nat) ∧ sumS (textS d l) = nextS d l
def P_rChain (l : List (List Int)) : Prop :=
 (∃ (x : Nat), x ≤ l.length ∧ (0 : Int) = (↑x : Int) ∧ sumS [] = chainS (List.take x l)) ∧ ∀ (x : Nat), x ≤ l.length → (↑l.length : Int) ≤ (9223372036854775807 : Int) → (decide ((↑x : Int) < (↑l.length : Int)) = true → (0 : Int) ≤ (↑x :
 Int) ∧ (↑x : Int) < (↑l.length : Int) ∧ ((↑(List.length (l.getD (↑x : Int).toNat (Ty.ti IntKind.i64).tl.d0)) : Int) ≤ (9223372036854775807 : Int) → (0 : Int) ≤ (↑x : Int) ∧ (↑x : Int) < (↑l.length : Int) ∧ (0 : Nat) + (1 : Nat) = (0 :
 Nat) + (1 : Nat) ∧ ((0 : Nat) + (1 : Nat) + List.length (l.getD (↑x : Int).toNat (Ty.ti IntKind.i64).tl.d0)) * (8 : Nat) ≤ (140737488355328 : Nat) ∧ allI ([(↑(List.length (l.getD (↑x : Int).toNat (Ty.ti IntKind.i64).tl.d0)) : Int)] ++
 l.getD (↑x : Int).toNat (Ty.ti IntKind.i64).tl.d0) ∧ ([].append (l.getD (↑x : Int).toNat (Ty.ti IntKind.i64).tl.d0)).length + (1 : Nat) ≤ (1000001 : Nat) ∧ InI64 ((↑x : Int) + (1 : Int)) ∧ ∃ (x' : Nat), x' ≤ l.length ∧ l.length - x' <
 l.length - x ∧ (↑x : Int) + (1 : Int) = (↑x' : Int) ∧ nextS (chainS (List.take x l)) ([(↑(List.length (l.getD (↑x : Int).toNat (Ty.ti IntKind.i64).tl.d0)) : Int)] ++ l.getD (↑x : Int).toNat (Ty.ti IntKind.i64).tl.d0) = chainS (List.take
 x' l) ∧ (0 : Int) = (0 : Int) ∧ l = l)) ∧ (decide ((↑x : Int) < (↑l.length : Int)) = false → chainS (List.take x l) = chainS l)
end Go.Proofs.YtiplcokpckkopaaDoor
