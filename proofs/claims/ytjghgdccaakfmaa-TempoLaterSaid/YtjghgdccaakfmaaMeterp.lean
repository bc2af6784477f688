/- What is to be shown of each function, in plain terms. Written by a program (wip/tools/gen.py). -/
import Derived.Test.YtjghgdccaakfmaaMeterc
namespace Go.Proofs.Ytjghgdccaakfmaa
open Go.Sy Go.RatLaw
set_option linter.unusedVariables false

def P_none  : Prop :=
  (0 : Int) = (0 : Int) ∧ (1 : Int) = (1 : Int)
def P_isDuration (n d : Int) : Prop :=
  ((vld n d && decide (n ≥ (0 : Int))) = true → d ≠ (0 : Int)) ∧ (vld n d && decide (n ≥ (0 : Int)) && Int.tmod (1680 : Int) d == (0 : Int)) = dur n d
def P_less (a b c d : Int) : Prop :=
  decide ((compareR a b c d).fst < (0 : Int)) = decide ((compareR a b c d).fst < (0 : Int))
def P_mValid (l : List Bar) : Prop :=
  (↑l.length : Int) ≤ (9223372036854775807 : Int) → (∃ (x : Nat), preB l x ∧ (0 : Int) = (↑x : Int) ∧ [] = seenB (List.take x l)) ∧ ∀ (x : Nat), preB l x → (decide ((↑x : Int) < (↑l.length : Int)) = true → (0 : Int) ≤ (↑x : Int) ∧ (↑x :
  Int) < (↑l.length : Int) ∧ ((decide ((l.getD (↑x : Int).toNat BT.d0).fst < (1 : Int)) || decide ((l.getD (↑x : Int).toNat BT.d0).fst > (1000000 : Int)) || (mget (Ty.ti IntKind.i64).beq (l.getD (↑x : Int).toNat BT.d0).fst (seenB (List.take
  x l))).getD Ty.tb.d0 || decide ((l.getD (↑x : Int).toNat BT.d0).snd.snd < (-7 : Int)) || decide ((l.getD (↑x : Int).toNat BT.d0).snd.snd > (7 : Int))) = true → false = okBars l) ∧ ((decide ((l.getD (↑x : Int).toNat BT.d0).fst < (1 : Int))
  || decide ((l.getD (↑x : Int).toNat BT.d0).fst > (1000000 : Int)) || (mget (Ty.ti IntKind.i64).beq (l.getD (↑x : Int).toNat BT.d0).fst (seenB (List.take x l))).getD Ty.tb.d0 || decide ((l.getD (↑x : Int).toNat BT.d0).snd.snd < (-7 : Int))
  || decide ((l.getD (↑x : Int).toNat BT.d0).snd.snd > (7 : Int))) = false → ((!dur (l.getD (↑x : Int).toNat BT.d0).snd.fst.fst (l.getD (↑x : Int).toNat BT.d0).snd.fst.snd || (l.getD (↑x : Int).toNat BT.d0).snd.fst.fst == (0 : Int) ||
  decide ((compareR (24 : Int) (1 : Int) (l.getD (↑x : Int).toNat BT.d0).snd.fst.fst (l.getD (↑x : Int).toNat BT.d0).snd.fst.snd).fst < (0 : Int))) = true → false = okBars l) ∧ ((!dur (l.getD (↑x : Int).toNat BT.d0).snd.fst.fst (l.getD (↑x
  : Int).toNat BT.d0).snd.fst.snd || (l.getD (↑x : Int).toNat BT.d0).snd.fst.fst == (0 : Int) || decide ((compareR (24 : Int) (1 : Int) (l.getD (↑x : Int).toNat BT.d0).snd.fst.fst (l.getD (↑x : Int).toNat BT.d0).snd.fst.snd).fst < (0 :
  Int))) = false → InI64 ((↑x : Int) + (1 : Int)) ∧ ∃ (x' : Nat), preB l x' ∧ l.length - x' < l.length - x ∧ (↑x : Int) + (1 : Int) = (↑x' : Int) ∧ (↑l.length : Int) = (↑l.length : Int) ∧ l = l ∧ l = l ∧ mput (Ty.ti IntKind.i64).beq (l.getD
  (↑x : Int).toNat BT.d0).fst true (seenB (List.take x l)) = seenB (List.take x' l)))) ∧ (decide ((↑x : Int) < (↑l.length : Int)) = false → (↑l.length : Int) ≤ (9223372036854775807 : Int) → (decide ((↑l.length : Int) ≥ (1 : Int)) = true →
  (↑l.length : Int) ≤ (9223372036854775807 : Int)) → (decide ((↑l.length : Int) ≥ (1 : Int)) && decide ((↑l.length : Int) ≤ (4000 : Int))) = okBars l)
def P_begins1 (l : List Bar) (go : Lp (Int × (Int × Int) × Unit)) : Prop :=
  (↑l.length : Int) ≤ (9223372036854775807 : Int) → (∃ (x : Nat), (x ≤ l.length ∧ ∀ (k : Nat), (0 : Nat) < k → k ≤ x → go.1 (List.take k (items (0 : Int) ((0 : Int), (1 : Int)) l)) = true) ∧ (0 : Int) = (↑x : Int) ∧ [] = List.take x (items
  (0 : Int) ((0 : Int), (1 : Int)) l) ∧ go = go ∧ (0 : Int) = (itB l x).fst ∧ (1 : Int) = (itB l x).snd) ∧ ∀ (x : Nat), (x ≤ l.length ∧ ∀ (k : Nat), (0 : Nat) < k → k ≤ x → go.1 (List.take k (items (0 : Int) ((0 : Int), (1 : Int)) l)) =
  true) → (decide ((↑x : Int) < (↑l.length : Int)) = true → (0 : Int) ≤ (↑x : Int) ∧ (↑x : Int) < (↑l.length : Int) ∧ liveX go (List.take x (items (0 : Int) ((0 : Int), (1 : Int)) l)) ((↑x : Int), ((itB l x).fst, (itB l x).snd), ()) ∧
  ((!go.1 (List.take x (items (0 : Int) ((0 : Int), (1 : Int)) l) ++ [((↑x : Int), ((itB l x).fst, (itB l x).snd), ())])) = true → List.take x (items (0 : Int) ((0 : Int), (1 : Int)) l) ++ [((↑x : Int), ((itB l x).fst, (itB l x).snd), ())]
  = fed go.1 [] (items (0 : Int) ((0 : Int), (1 : Int)) l) ∧ go = go ∧ l = l) ∧ ((!go.1 (List.take x (items (0 : Int) ((0 : Int), (1 : Int)) l) ++ [((↑x : Int), ((itB l x).fst, (itB l x).snd), ())])) = false → InI64 ((↑x : Int) + (1 : Int))
  ∧ ∃ (x' : Nat), (x' ≤ l.length ∧ ∀ (k : Nat), (0 : Nat) < k → k ≤ x' → go.1 (List.take k (items (0 : Int) ((0 : Int), (1 : Int)) l)) = true) ∧ l.length - x' < l.length - x ∧ (↑x : Int) + (1 : Int) = (↑x' : Int) ∧ (↑l.length : Int) =
  (↑l.length : Int) ∧ l = l ∧ List.take x (items (0 : Int) ((0 : Int), (1 : Int)) l) ++ [((↑x : Int), ((itB l x).fst, (itB l x).snd), ())] = List.take x' (items (0 : Int) ((0 : Int), (1 : Int)) l) ∧ go = go ∧ (addR (itB l x).fst (itB l
  x).snd (l.getD (↑x : Int).toNat BT.d0).snd.fst.fst (l.getD (↑x : Int).toNat BT.d0).snd.fst.snd).fst = (itB l x').fst ∧ (addR (itB l x).fst (itB l x).snd (l.getD (↑x : Int).toNat BT.d0).snd.fst.fst (l.getD (↑x : Int).toNat
  BT.d0).snd.fst.snd).snd.fst = (itB l x').snd ∧ l = l)) ∧ (decide ((↑x : Int) < (↑l.length : Int)) = false → (↑l.length : Int) ≤ (9223372036854775807 : Int) → liveX go (List.take x (items (0 : Int) ((0 : Int), (1 : Int)) l)) ((↑l.length :
  Int), ((itB l x).fst, (itB l x).snd), ()) ∧ List.take x (items (0 : Int) ((0 : Int), (1 : Int)) l) ++ [((↑l.length : Int), ((itB l x).fst, (itB l x).snd), ())] = fed go.1 [] (items (0 : Int) ((0 : Int), (1 : Int)) l) ∧ go = go ∧ l = l)
def P_begins (l : List Bar) : Prop :=
  coL (LV.clo (92 : FuncId) [] [((1 : Nat), (0 : Nat))]) (LV.clo (92 : Nat) [] [((1 : Nat), (0 : Nat))]) = LV.clo (92 : FuncId) [] [((1 : Nat), (0 : Nat))] ∧ l = l
def P_beginning (l : List Bar) (b : Int) : Prop :=
  (∀ (k : Nat), True) ∧ goB b = goB b ∧ True ∧ ((0 : Int) = (resAt b []).fst ∧ (0 : Int) = (resAt b []).snd) ∧ (∀ (hist : List (Int × (Int × Int) × PUnit)), True → ∀ (x : Int × (Int × Int) × PUnit), liveX (goB b) hist x → ((x.fst == b) =
  true → notAt b (hist ++ [x]) = false ∧ True ∧ True ∧ x.snd.fst.fst = (resAt b (hist ++ [x])).fst ∧ x.snd.fst.snd = (resAt b (hist ++ [x])).snd ∧ b = b) ∧ ((x.fst == b) = false → notAt b (hist ++ [x]) = true ∧ True ∧ (resAt b hist).fst =
  (resAt b (hist ++ [x])).fst ∧ (resAt b hist).snd = (resAt b (hist ++ [x])).snd ∧ b = b)) ∧ (True → (live (goB b) (fed (notAt b) [] (items (0 : Int) ((0 : Int), (1 : Int)) l)) → (0 : Int) = (begAt l b).fst ∧ (1 : Int) = (begAt l b).snd) ∧
  (¬live (goB b) (fed (notAt b) [] (items (0 : Int) ((0 : Int), (1 : Int)) l)) → True → (resAt b (fed (notAt b) [] (items (0 : Int) ((0 : Int), (1 : Int)) l))).fst = (begAt l b).fst ∧ (resAt b (fed (notAt b) [] (items (0 : Int) ((0 : Int),
  (1 : Int)) l))).snd = (begAt l b).snd) ∧ True)
def P_isPosition (l : List Bar) (b n d : Int) : Prop :=
  (↑l.length : Int) ≤ (9223372036854775807 : Int) → ((b == (↑l.length : Int) && (n == (0 : Int) && d == (1 : Int))) = true → true = posS l b n d) ∧ ((b == (↑l.length : Int) && (n == (0 : Int) && d == (1 : Int))) = false → (decide (b < (0 :
  Int)) = false → (↑l.length : Int) ≤ (9223372036854775807 : Int)) → ((decide (b < (0 : Int)) || decide (b ≥ (↑l.length : Int)) || !dur n d) = true → false = posS l b n d) ∧ ((decide (b < (0 : Int)) || decide (b ≥ (↑l.length : Int)) || !dur
  n d) = false → (0 : Int) ≤ b ∧ b < (↑l.length : Int) ∧ decide ((compareR n d (l.getD b.toNat BT.d0).snd.fst.fst (l.getD b.toNat BT.d0).snd.fst.snd).fst < (0 : Int)) = posS l b n d))
def P_mTime (l : List Bar) (b n d : Int) : Prop :=
  ((!okBars l) = false → okBars l = true) ∧ ((!okBars l || !posS l b n d) = true → (0 : Int) = (timeS l b n d).fst ∧ (0 : Int) = (timeS l b n d).snd.fst ∧ (1 : Int) = (timeS l b n d).snd.snd) ∧ ((!okBars l || !posS l b n d) = false → (addR
  (begAt l b).fst (begAt l b).snd n d).fst = (timeS l b n d).fst ∧ (addR (begAt l b).fst (begAt l b).snd n d).snd.fst = (timeS l b n d).snd.fst ∧ (addR (begAt l b).fst (begAt l b).snd n d).snd.snd = (timeS l b n d).snd.snd)
def P_Ticks (n d : Int) : Prop :=
  (decide (d < (1 : Int)) = false → d ≠ (0 : Int)) ∧ ((decide (d < (1 : Int)) || Int.tmod (1680 : Int) d != (0 : Int) || decide (n < (0 : Int)) || decide (n > (1000000000 : Int))) = false → (0 : Int) ≤ n ∧ (0 : Int) ≤ d) ∧ ((decide (d < (1
  : Int)) || Int.tmod (1680 : Int) d != (0 : Int) || decide (n < (0 : Int)) || decide (n > (1000000000 : Int)) || (↑(n.gcd d) : Int) != (1 : Int)) = true → (-1 : Int) = tks n d) ∧ ((decide (d < (1 : Int)) || Int.tmod (1680 : Int) d != (0 :
  Int) || decide (n < (0 : Int)) || decide (n > (1000000000 : Int)) || (↑(n.gcd d) : Int) != (1 : Int)) = false → d ≠ (0 : Int) ∧ InI64 (Int.tdiv (1680 : Int) d) ∧ InI64 (n * Int.tdiv (1680 : Int) d) ∧ n * Int.tdiv (1680 : Int) d = tks n d)
def P_rValid (l : List Bar) : Prop :=
  (↑l.length : Int) ≤ (9223372036854775807 : Int) → (decide ((↑l.length : Int) < (1 : Int)) = false → (↑l.length : Int) ≤ (9223372036854775807 : Int)) → ((decide ((↑l.length : Int) < (1 : Int)) || decide ((↑l.length : Int) > (4000 : Int)))
  = true → false = okBars l) ∧ ((decide ((↑l.length : Int) < (1 : Int)) || decide ((↑l.length : Int) > (4000 : Int))) = false → (∃ (x : Nat), preB l x ∧ (0 : Int) = (↑x : Int)) ∧ ∀ (x : Nat), preB l x → (↑l.length : Int) ≤
  (9223372036854775807 : Int) → (decide ((↑x : Int) < (↑l.length : Int)) = true → (0 : Int) ≤ (↑x : Int) ∧ (↑x : Int) < (↑l.length : Int) ∧ (0 : Int) ≤ (↑x : Int) ∧ (↑x : Int) < (↑l.length : Int) ∧ (decide ((l.getD (↑x : Int).toNat
  BT.d0).fst < (1 : Int)) = false → (0 : Int) ≤ (↑x : Int) ∧ (↑x : Int) < (↑l.length : Int)) ∧ ((decide ((l.getD (↑x : Int).toNat BT.d0).fst < (1 : Int)) || decide ((l.getD (↑x : Int).toNat BT.d0).fst > (1000000 : Int)) || decide (tks
  (l.getD (↑x : Int).toNat BT.d0).snd.fst.fst (l.getD (↑x : Int).toNat BT.d0).snd.fst.snd < (1 : Int)) || decide (tks (l.getD (↑x : Int).toNat BT.d0).snd.fst.fst (l.getD (↑x : Int).toNat BT.d0).snd.fst.snd > (40320 : Int))) = false → (0 :
  Int) ≤ (↑x : Int) ∧ (↑x : Int) < (↑l.length : Int)) ∧ ((decide ((l.getD (↑x : Int).toNat BT.d0).fst < (1 : Int)) || decide ((l.getD (↑x : Int).toNat BT.d0).fst > (1000000 : Int)) || decide (tks (l.getD (↑x : Int).toNat BT.d0).snd.fst.fst
  (l.getD (↑x : Int).toNat BT.d0).snd.fst.snd < (1 : Int)) || decide (tks (l.getD (↑x : Int).toNat BT.d0).snd.fst.fst (l.getD (↑x : Int).toNat BT.d0).snd.fst.snd > (40320 : Int)) || decide ((l.getD (↑x : Int).toNat BT.d0).snd.snd < (-7 :
  Int))) = false → (0 : Int) ≤ (↑x : Int) ∧ (↑x : Int) < (↑l.length : Int)) ∧ ((decide ((l.getD (↑x : Int).toNat BT.d0).fst < (1 : Int)) || decide ((l.getD (↑x : Int).toNat BT.d0).fst > (1000000 : Int)) || decide (tks (l.getD (↑x :
  Int).toNat BT.d0).snd.fst.fst (l.getD (↑x : Int).toNat BT.d0).snd.fst.snd < (1 : Int)) || decide (tks (l.getD (↑x : Int).toNat BT.d0).snd.fst.fst (l.getD (↑x : Int).toNat BT.d0).snd.fst.snd > (40320 : Int)) || decide ((l.getD (↑x :
  Int).toNat BT.d0).snd.snd < (-7 : Int)) || decide ((l.getD (↑x : Int).toNat BT.d0).snd.snd > (7 : Int))) = true → false = okBars l) ∧ ((decide ((l.getD (↑x : Int).toNat BT.d0).fst < (1 : Int)) || decide ((l.getD (↑x : Int).toNat
  BT.d0).fst > (1000000 : Int)) || decide (tks (l.getD (↑x : Int).toNat BT.d0).snd.fst.fst (l.getD (↑x : Int).toNat BT.d0).snd.fst.snd < (1 : Int)) || decide (tks (l.getD (↑x : Int).toNat BT.d0).snd.fst.fst (l.getD (↑x : Int).toNat
  BT.d0).snd.fst.snd > (40320 : Int)) || decide ((l.getD (↑x : Int).toNat BT.d0).snd.snd < (-7 : Int)) || decide ((l.getD (↑x : Int).toNat BT.d0).snd.snd > (7 : Int))) = false → (∃ (x_1 : Nat), noneB l (↑x : Int) x_1 ∧ (0 : Int) = (↑x_1 :
  Int)) ∧ ∀ (x_1 : Nat), noneB l (↑x : Int) x_1 → (decide ((↑x_1 : Int) < (↑x : Int)) = true → (0 : Int) ≤ (↑x_1 : Int) ∧ (↑x_1 : Int) < (↑l.length : Int) ∧ (0 : Int) ≤ (↑x : Int) ∧ (↑x : Int) < (↑l.length : Int) ∧ (((l.getD (↑x_1 :
  Int).toNat BT.d0).fst == (l.getD (↑x : Int).toNat BT.d0).fst) = true → false = okBars l) ∧ (((l.getD (↑x_1 : Int).toNat BT.d0).fst == (l.getD (↑x : Int).toNat BT.d0).fst) = false → InI64 ((↑x_1 : Int) + (1 : Int)) ∧ ∃ (x' : Nat), noneB l
  (↑x : Int) x' ∧ (↑x : Int).toNat - x' < (↑x : Int).toNat - x_1 ∧ (↑x_1 : Int) + (1 : Int) = (↑x' : Int) ∧ (decide ((l.getD (↑x : Int).toNat BT.d0).fst < (1 : Int)) || decide ((l.getD (↑x : Int).toNat BT.d0).fst > (1000000 : Int)) ||
  decide (tks (l.getD (↑x : Int).toNat BT.d0).snd.fst.fst (l.getD (↑x : Int).toNat BT.d0).snd.fst.snd < (1 : Int)) || decide (tks (l.getD (↑x : Int).toNat BT.d0).snd.fst.fst (l.getD (↑x : Int).toNat BT.d0).snd.fst.snd > (40320 : Int)) ||
  decide ((l.getD (↑x : Int).toNat BT.d0).snd.snd < (-7 : Int)) || decide ((l.getD (↑x : Int).toNat BT.d0).snd.snd > (7 : Int))) = (decide ((l.getD (↑x : Int).toNat BT.d0).fst < (1 : Int)) || decide ((l.getD (↑x : Int).toNat BT.d0).fst >
  (1000000 : Int)) || decide (tks (l.getD (↑x : Int).toNat BT.d0).snd.fst.fst (l.getD (↑x : Int).toNat BT.d0).snd.fst.snd < (1 : Int)) || decide (tks (l.getD (↑x : Int).toNat BT.d0).snd.fst.fst (l.getD (↑x : Int).toNat BT.d0).snd.fst.snd >
  (40320 : Int)) || decide ((l.getD (↑x : Int).toNat BT.d0).snd.snd < (-7 : Int)) || decide ((l.getD (↑x : Int).toNat BT.d0).snd.snd > (7 : Int))) ∧ tks (l.getD (↑x : Int).toNat BT.d0).snd.fst.fst (l.getD (↑x : Int).toNat BT.d0).snd.fst.snd
  = tks (l.getD (↑x : Int).toNat BT.d0).snd.fst.fst (l.getD (↑x : Int).toNat BT.d0).snd.fst.snd ∧ decide ((↑x : Int) < (↑l.length : Int)) = decide ((↑x : Int) < (↑l.length : Int)) ∧ (↑x : Int) = (↑x : Int) ∧ (decide ((↑l.length : Int) < (1
  : Int)) || decide ((↑l.length : Int) > (4000 : Int))) = (decide ((↑l.length : Int) < (1 : Int)) || decide ((↑l.length : Int) > (4000 : Int))) ∧ l = l)) ∧ (decide ((↑x_1 : Int) < (↑x : Int)) = false → InI64 ((↑x : Int) + (1 : Int)) ∧ ∃ (x'
  : Nat), preB l x' ∧ l.length - x' < l.length - x ∧ (↑x : Int) + (1 : Int) = (↑x' : Int) ∧ (decide ((↑l.length : Int) < (1 : Int)) || decide ((↑l.length : Int) > (4000 : Int))) = (decide ((↑l.length : Int) < (1 : Int)) || decide
  ((↑l.length : Int) > (4000 : Int))) ∧ l = l))) ∧ (decide ((↑x : Int) < (↑l.length : Int)) = false → true = okBars l))
def P_Position (l : List Bar) (b n d : Int) : Prop :=
  (decide (b < (0 : Int)) = false → (↑l.length : Int) ≤ (9223372036854775807 : Int)) → ((decide (b < (0 : Int)) || decide (b > (↑l.length : Int)) || decide (tks n d < (0 : Int))) = true → false = posS l b n d) ∧ ((decide (b < (0 : Int)) ||
  decide (b > (↑l.length : Int)) || decide (tks n d < (0 : Int))) = false → (↑l.length : Int) ≤ (9223372036854775807 : Int) → ((b == (↑l.length : Int)) = true → (tks n d == (0 : Int)) = posS l b n d) ∧ ((b == (↑l.length : Int)) = false → (0
  : Int) ≤ b ∧ b < (↑l.length : Int) ∧ decide (tks n d < tks (l.getD b.toNat BT.d0).snd.fst.fst (l.getD b.toNat BT.d0).snd.fst.snd) = posS l b n d))
end Go.Proofs.Ytjghgdccaakfmaa
