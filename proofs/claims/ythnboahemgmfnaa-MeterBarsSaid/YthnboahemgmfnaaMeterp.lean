/- What is to be shown of each function, in plain terms. Written by a program (wip/tools/gen.py). -/
import Derived.Test.YthnboahemgmfnaaMeterc
namespace Go.Proofs.Ythnboahemgmfnaa
open Go.Sy Go.RatLaw
set_option linter.unusedVariables false

def P_none  : Prop :=
  (0 : Int) = (0 : Int) ∧ (1 : Int) = (1 : Int)
def P_isDuration (n d : Int) : Prop :=
  ((vld n d && decide (n ≥ (0 : Int))) = true → d ≠ (0 : Int)) ∧
    (vld n d && decide (n ≥ (0 : Int)) && Int.tmod (1680 : Int) d == (0 : Int)) = dur n d
def P_less (a b c d : Int) : Prop :=
 decide ((compareR a b c d).fst < (0 : Int)) = decide ((compareR a b c d).fst < (0 : Int))
def P_mValid (l : List Bar) : Prop :=
  (↑l.length : Int) ≤ (9223372036854775807 : Int) →
    (∃ (x : Nat),
        preB l x ∧
          (0 : Int) = (↑x : Int) ∧
            HO.mp (Ty.ti IntKind.i64) Ty.tb [] = HO.mp (Ty.ti IntKind.i64) Ty.tb (seenB (List.take x l))) ∧
      ∀ (x : Nat),
        preB l x →
          (decide ((↑x : Int) < (↑l.length : Int)) = true →
              (0 : Int) ≤ (↑x : Int) ∧
                (↑x : Int) < (↑l.length : Int) ∧
                  ((decide ((l.getD (↑x : Int).toNat BT.d0).fst < (1 : Int)) ||
                                decide ((l.getD (↑x : Int).toNat BT.d0).fst > (1000000 : Int)) ||
                              (mget (Ty.ti IntKind.i64).beq (l.getD (↑x : Int).toNat BT.d0).fst
                                    (seenB (List.take x l))).getD
                                Ty.tb.d0 ||
                            decide ((l.getD (↑x : Int).toNat BT.d0).snd.snd < (-7 : Int)) ||
                          decide ((l.getD (↑x : Int).toNat BT.d0).snd.snd > (7 : Int))) =
                        true →
                      false = okBars l) ∧
                    ((decide ((l.getD (↑x : Int).toNat BT.d0).fst < (1 : Int)) ||
                                decide ((l.getD (↑x : Int).toNat BT.d0).fst > (1000000 : Int)) ||
                              (mget (Ty.ti IntKind.i64).beq (l.getD (↑x : Int).toNat BT.d0).fst
                                    (seenB (List.take x l))).getD
                                Ty.tb.d0 ||
                            decide ((l.getD (↑x : Int).toNat BT.d0).snd.snd < (-7 : Int)) ||
                          decide ((l.getD (↑x : Int).toNat BT.d0).snd.snd > (7 : Int))) =
                        false →
                      ((!dur (l.getD (↑x : Int).toNat BT.d0).snd.fst.fst (l.getD (↑x : Int).toNat BT.d0).snd.fst.snd ||
                                (l.getD (↑x : Int).toNat BT.d0).snd.fst.fst == (0 : Int) ||
                              decide
                                ((compareR (24 : Int) (1 : Int) (l.getD (↑x : Int).toNat BT.d0).snd.fst.fst
                                      (l.getD (↑x : Int).toNat BT.d0).snd.fst.snd).fst <
                                  (0 : Int))) =
                            true →
                          false = okBars l) ∧
                        ((!dur (l.getD (↑x : Int).toNat BT.d0).snd.fst.fst
                                    (l.getD (↑x : Int).toNat BT.d0).snd.fst.snd ||
                                (l.getD (↑x : Int).toNat BT.d0).snd.fst.fst == (0 : Int) ||
                              decide
                                ((compareR (24 : Int) (1 : Int) (l.getD (↑x : Int).toNat BT.d0).snd.fst.fst
                                      (l.getD (↑x : Int).toNat BT.d0).snd.fst.snd).fst <
                                  (0 : Int))) =
                            false →
                          InI64 ((↑x : Int) + (1 : Int)) ∧
                            ∃ (x' : Nat),
                              preB l x' ∧
                                l.length - x' < l.length - x ∧
                                  (↑x : Int) + (1 : Int) = (↑x' : Int) ∧
                                    (↑l.length : Int) = (↑l.length : Int) ∧
                                      l = l ∧
                                        l = l ∧
                                          HO.mp (Ty.ti IntKind.i64) Ty.tb
                                              (mput (Ty.ti IntKind.i64).beq (l.getD (↑x : Int).toNat BT.d0).fst true
                                                (seenB (List.take x l))) =
                                            HO.mp (Ty.ti IntKind.i64) Ty.tb (seenB (List.take x' l))))) ∧
            (decide ((↑x : Int) < (↑l.length : Int)) = false →
              (↑l.length : Int) ≤ (9223372036854775807 : Int) →
                (decide ((↑l.length : Int) ≥ (1 : Int)) = true → (↑l.length : Int) ≤ (9223372036854775807 : Int)) →
                  (decide ((↑l.length : Int) ≥ (1 : Int)) && decide ((↑l.length : Int) ≤ (4000 : Int))) = okBars l)
def P_begins1 (l : List Bar) (go : Lp (Int × (Int × Int) × Unit)) : Prop :=
  (↑l.length : Int) ≤ (9223372036854775807 : Int) →
    (∃ (x : Nat),
        (x ≤ l.length ∧
            ∀ (k : Nat), (0 : Nat) < k → k ≤ x → go.1 (List.take k (items (0 : Int) ((0 : Int), (1 : Int)) l)) = true) ∧
          (0 : Int) = (↑x : Int) ∧
            [] = List.take x (items (0 : Int) ((0 : Int), (1 : Int)) l) ∧
              go = go ∧ (0 : Int) = (itB l x).fst ∧ (1 : Int) = (itB l x).snd) ∧
      ∀ (x : Nat),
        (x ≤ l.length ∧
            ∀ (k : Nat), (0 : Nat) < k → k ≤ x → go.1 (List.take k (items (0 : Int) ((0 : Int), (1 : Int)) l)) = true) →
          (decide ((↑x : Int) < (↑l.length : Int)) = true →
              (0 : Int) ≤ (↑x : Int) ∧
                (↑x : Int) < (↑l.length : Int) ∧
                  liveX go (List.take x (items (0 : Int) ((0 : Int), (1 : Int)) l))
                      ((↑x : Int), ((itB l x).fst, (itB l x).snd), ()) ∧
                    ((!go.1
                              (List.take x (items (0 : Int) ((0 : Int), (1 : Int)) l) ++
                                [((↑x : Int), ((itB l x).fst, (itB l x).snd), ())])) =
                          true →
                        List.take x (items (0 : Int) ((0 : Int), (1 : Int)) l) ++
                              [((↑x : Int), ((itB l x).fst, (itB l x).snd), ())] =
                            fed go.1 [] (items (0 : Int) ((0 : Int), (1 : Int)) l) ∧
                          go = go ∧ l = l) ∧
                      ((!go.1
                              (List.take x (items (0 : Int) ((0 : Int), (1 : Int)) l) ++
                                [((↑x : Int), ((itB l x).fst, (itB l x).snd), ())])) =
                          false →
                        InI64 ((↑x : Int) + (1 : Int)) ∧
                          ∃ (x' : Nat),
                            (x' ≤ l.length ∧
                                ∀ (k : Nat),
                                  (0 : Nat) < k →
                                    k ≤ x' → go.1 (List.take k (items (0 : Int) ((0 : Int), (1 : Int)) l)) = true) ∧
                              l.length - x' < l.length - x ∧
                                (↑x : Int) + (1 : Int) = (↑x' : Int) ∧
                                  (↑l.length : Int) = (↑l.length : Int) ∧
                                    l = l ∧
                                      List.take x (items (0 : Int) ((0 : Int), (1 : Int)) l) ++
                                            [((↑x : Int), ((itB l x).fst, (itB l x).snd), ())] =
                                          List.take x' (items (0 : Int) ((0 : Int), (1 : Int)) l) ∧
                                        go = go ∧
                                          (addR (itB l x).fst (itB l x).snd (l.getD (↑x : Int).toNat BT.d0).snd.fst.fst
                                                  (l.getD (↑x : Int).toNat BT.d0).snd.fst.snd).fst =
                                              (itB l x').fst ∧
                                            (addR (itB l x).fst (itB l x).snd
                                                      (l.getD (↑x : Int).toNat BT.d0).snd.fst.fst
                                                      (l.getD (↑x : Int).toNat BT.d0).snd.fst.snd).snd.fst =
                                                (itB l x').snd ∧
                                              l = l)) ∧
            (decide ((↑x : Int) < (↑l.length : Int)) = false →
              (↑l.length : Int) ≤ (9223372036854775807 : Int) →
                liveX go (List.take x (items (0 : Int) ((0 : Int), (1 : Int)) l))
                    ((↑l.length : Int), ((itB l x).fst, (itB l x).snd), ()) ∧
                  List.take x (items (0 : Int) ((0 : Int), (1 : Int)) l) ++
                        [((↑l.length : Int), ((itB l x).fst, (itB l x).snd), ())] =
                      fed go.1 [] (items (0 : Int) ((0 : Int), (1 : Int)) l) ∧
                    go = go ∧ l = l)
def P_begins (l : List Bar) : Prop :=
  coL (LV.clo (47 : FuncId) [] [((1 : Nat), (0 : Nat))]) (LV.clo (47 : Nat) [] [((1 : Nat), (0 : Nat))]) =
      LV.clo (47 : FuncId) [] [((1 : Nat), (0 : Nat))] ∧
    l = l
def P_beginning (l : List Bar) (b : Int) : Prop :=
  (∀ (k : Nat), True) ∧
    goB b = goB b ∧
      True ∧
        ((0 : Int) = (resAt b []).fst ∧ (0 : Int) = (resAt b []).snd) ∧
          (∀ (hist : List (Int × (Int × Int) × PUnit)),
              True →
                ∀ (x : Int × (Int × Int) × PUnit),
                  liveX (goB b) hist x →
                    ((x.fst == b) = true →
                        notAt b (hist ++ [x]) = false ∧
                          True ∧
                            True ∧
                              x.snd.fst.fst = (resAt b (hist ++ [x])).fst ∧
                                x.snd.fst.snd = (resAt b (hist ++ [x])).snd ∧ b = b) ∧
                      ((x.fst == b) = false →
                        notAt b (hist ++ [x]) = true ∧
                          True ∧
                            (resAt b hist).fst = (resAt b (hist ++ [x])).fst ∧
                              (resAt b hist).snd = (resAt b (hist ++ [x])).snd ∧ b = b)) ∧
            (True →
              (live (goB b) (fed (notAt b) [] (items (0 : Int) ((0 : Int), (1 : Int)) l)) →
                  (0 : Int) = (begAt l b).fst ∧ (1 : Int) = (begAt l b).snd) ∧
                (¬live (goB b) (fed (notAt b) [] (items (0 : Int) ((0 : Int), (1 : Int)) l)) →
                    True →
                      (resAt b (fed (notAt b) [] (items (0 : Int) ((0 : Int), (1 : Int)) l))).fst = (begAt l b).fst ∧
                        (resAt b (fed (notAt b) [] (items (0 : Int) ((0 : Int), (1 : Int)) l))).snd = (begAt l b).snd) ∧
                  True)
def P_isPosition (l : List Bar) (b n d : Int) : Prop :=
  (↑l.length : Int) ≤ (9223372036854775807 : Int) →
    ((b == (↑l.length : Int) && (n == (0 : Int) && d == (1 : Int))) = true → true = posS l b n d) ∧
      ((b == (↑l.length : Int) && (n == (0 : Int) && d == (1 : Int))) = false →
        (decide (b < (0 : Int)) = false → (↑l.length : Int) ≤ (9223372036854775807 : Int)) →
          ((decide (b < (0 : Int)) || decide (b ≥ (↑l.length : Int)) || !dur n d) = true → false = posS l b n d) ∧
            ((decide (b < (0 : Int)) || decide (b ≥ (↑l.length : Int)) || !dur n d) = false →
              (0 : Int) ≤ b ∧
                b < (↑l.length : Int) ∧
                  decide
                      ((compareR n d (l.getD b.toNat BT.d0).snd.fst.fst (l.getD b.toNat BT.d0).snd.fst.snd).fst <
                        (0 : Int)) =
                    posS l b n d))
def P_mTotal (l : List Bar) : Prop :=
  ((!okBars l) = true → (0 : Int) = (totS l).fst ∧ (0 : Int) = (totS l).snd.fst ∧ (1 : Int) = (totS l).snd.snd) ∧
    ((!okBars l) = false →
      (↑l.length : Int) ≤ (9223372036854775807 : Int) →
        (begAt l (↑l.length : Int)).fst = (totS l).fst ∧
          (begAt l (↑l.length : Int)).snd = (totS l).snd.fst ∧ (0 : Int) = (totS l).snd.snd)
def P_mTime (l : List Bar) (b n d : Int) : Prop :=
  ((!okBars l) = false → okBars l = true) ∧
    ((!okBars l || !posS l b n d) = true →
        (0 : Int) = (timeS l b n d).fst ∧ (0 : Int) = (timeS l b n d).snd.fst ∧ (1 : Int) = (timeS l b n d).snd.snd) ∧
      ((!okBars l || !posS l b n d) = false →
        (addR (begAt l b).fst (begAt l b).snd n d).fst = (timeS l b n d).fst ∧
          (addR (begAt l b).fst (begAt l b).snd n d).snd.fst = (timeS l b n d).snd.fst ∧
            (addR (begAt l b).fst (begAt l b).snd n d).snd.snd = (timeS l b n d).snd.snd)
def P_behind (a b c d n k : Int) : Prop :=
  (!decide ((compareR n k (addR a b c d).fst (addR a b c d).snd.fst).fst < (0 : Int))) = behS n k a b c d ∧
    n = n ∧ k = k
def P_mat (l : List Bar) (n d : Int) : Prop :=
  (∀ (k : Nat),
      ∃ (k_1 : Nat),
        List.take k (items (0 : Int) ((0 : Int), (1 : Int)) l) =
          List.take k_1 (items (0 : Int) ((0 : Int), (1 : Int)) l)) ∧
    goL l n d = goL l n d ∧
      True ∧
        ((0 : Int) = (outAt l n d []).fst ∧
            (0 : Int) = (outAt l n d []).snd.fst ∧
              (0 : Int) = (outAt l n d []).snd.snd.fst ∧ (0 : Int) = (outAt l n d []).snd.snd.snd) ∧
          (∀ (hist : List (Int × (Int × Int) × PUnit)),
              True →
                ∀ (x : Int × (Int × Int) × PUnit),
                  liveX (goL l n d) hist x →
                    (decide ((compareR n d x.snd.fst.fst x.snd.fst.snd).fst < (0 : Int)) = true →
                        goAt l n d (hist ++ [x]) = false ∧
                          True ∧
                            True ∧
                              (0 : Int) = (outAt l n d (hist ++ [x])).fst ∧
                                (0 : Int) = (outAt l n d (hist ++ [x])).snd.fst ∧
                                  (0 : Int) = (outAt l n d (hist ++ [x])).snd.snd.fst ∧
                                    (3 : Int) = (outAt l n d (hist ++ [x])).snd.snd.snd ∧
                                      LV.clo (43 : Nat) [] [((3 : Nat), (0 : Nat))] =
                                          LV.clo (43 : Nat) [] [((3 : Nat), (0 : Nat))] ∧
                                        n = n ∧ d = d ∧ l = l) ∧
                      (decide ((compareR n d x.snd.fst.fst x.snd.fst.snd).fst < (0 : Int)) = false →
                        (decide (x.fst < (↑l.length : Int)) = true → (0 : Int) ≤ x.fst ∧ x.fst < (↑l.length : Int)) ∧
                          ((↑l.length : Int) ≤ (9223372036854775807 : Int) →
                            ((decide (x.fst < (↑l.length : Int)) &&
                                    behS n d x.snd.fst.fst x.snd.fst.snd (l.getD (Int.toNat x.fst) BT.d0).snd.fst.fst
                                      (l.getD (Int.toNat x.fst) BT.d0).snd.fst.snd) =
                                  true →
                                goAt l n d (hist ++ [x]) = true ∧
                                  True ∧
                                    (outAt l n d hist).fst = (outAt l n d (hist ++ [x])).fst ∧
                                      (outAt l n d hist).snd.fst = (outAt l n d (hist ++ [x])).snd.fst ∧
                                        (outAt l n d hist).snd.snd.fst = (outAt l n d (hist ++ [x])).snd.snd.fst ∧
                                          (outAt l n d hist).snd.snd.snd = (outAt l n d (hist ++ [x])).snd.snd.snd ∧
                                            LV.clo (43 : Nat) [] [((3 : Nat), (0 : Nat))] =
                                                LV.clo (43 : Nat) [] [((3 : Nat), (0 : Nat))] ∧
                                              n = n ∧ d = d ∧ l = l) ∧
                              ((decide (x.fst < (↑l.length : Int)) &&
                                    behS n d x.snd.fst.fst x.snd.fst.snd (l.getD (Int.toNat x.fst) BT.d0).snd.fst.fst
                                      (l.getD (Int.toNat x.fst) BT.d0).snd.fst.snd) =
                                  false →
                                (↑l.length : Int) ≤ (9223372036854775807 : Int) →
                                  ((x.fst == (↑l.length : Int) &&
                                          !((subR n d x.snd.fst.fst x.snd.fst.snd).fst == (0 : Int) &&
                                              (subR n d x.snd.fst.fst x.snd.fst.snd).snd.fst == (1 : Int))) =
                                        true →
                                      (((3 : Int) != (0 : Int)) = true →
                                          goAt l n d (hist ++ [x]) = false ∧
                                            True ∧
                                              True ∧
                                                (0 : Int) = (outAt l n d (hist ++ [x])).fst ∧
                                                  (0 : Int) = (outAt l n d (hist ++ [x])).snd.fst ∧
                                                    (0 : Int) = (outAt l n d (hist ++ [x])).snd.snd.fst ∧
                                                      (3 : Int) = (outAt l n d (hist ++ [x])).snd.snd.snd ∧
                                                        LV.clo (43 : Nat) [] [((3 : Nat), (0 : Nat))] =
                                                            LV.clo (43 : Nat) [] [((3 : Nat), (0 : Nat))] ∧
                                                          n = n ∧ d = d ∧ l = l) ∧
                                        (((3 : Int) != (0 : Int)) = false →
                                          goAt l n d (hist ++ [x]) = false ∧
                                            True ∧
                                              True ∧
                                                x.fst = (outAt l n d (hist ++ [x])).fst ∧
                                                  (subR n d x.snd.fst.fst x.snd.fst.snd).fst =
                                                      (outAt l n d (hist ++ [x])).snd.fst ∧
                                                    (subR n d x.snd.fst.fst x.snd.fst.snd).snd.fst =
                                                        (outAt l n d (hist ++ [x])).snd.snd.fst ∧
                                                      (0 : Int) = (outAt l n d (hist ++ [x])).snd.snd.snd ∧
                                                        LV.clo (43 : Nat) [] [((3 : Nat), (0 : Nat))] =
                                                            LV.clo (43 : Nat) [] [((3 : Nat), (0 : Nat))] ∧
                                                          n = n ∧ d = d ∧ l = l)) ∧
                                    ((x.fst == (↑l.length : Int) &&
                                          !((subR n d x.snd.fst.fst x.snd.fst.snd).fst == (0 : Int) &&
                                              (subR n d x.snd.fst.fst x.snd.fst.snd).snd.fst == (1 : Int))) =
                                        false →
                                      (((subR n d x.snd.fst.fst x.snd.fst.snd).snd.snd != (0 : Int)) = true →
                                          goAt l n d (hist ++ [x]) = false ∧
                                            True ∧
                                              True ∧
                                                (0 : Int) = (outAt l n d (hist ++ [x])).fst ∧
                                                  (0 : Int) = (outAt l n d (hist ++ [x])).snd.fst ∧
                                                    (0 : Int) = (outAt l n d (hist ++ [x])).snd.snd.fst ∧
                                                      (3 : Int) = (outAt l n d (hist ++ [x])).snd.snd.snd ∧
                                                        LV.clo (43 : Nat) [] [((3 : Nat), (0 : Nat))] =
                                                            LV.clo (43 : Nat) [] [((3 : Nat), (0 : Nat))] ∧
                                                          n = n ∧ d = d ∧ l = l) ∧
                                        (((subR n d x.snd.fst.fst x.snd.fst.snd).snd.snd != (0 : Int)) = false →
                                          goAt l n d (hist ++ [x]) = false ∧
                                            True ∧
                                              True ∧
                                                x.fst = (outAt l n d (hist ++ [x])).fst ∧
                                                  (subR n d x.snd.fst.fst x.snd.fst.snd).fst =
                                                      (outAt l n d (hist ++ [x])).snd.fst ∧
                                                    (subR n d x.snd.fst.fst x.snd.fst.snd).snd.fst =
                                                        (outAt l n d (hist ++ [x])).snd.snd.fst ∧
                                                      (0 : Int) = (outAt l n d (hist ++ [x])).snd.snd.snd ∧
                                                        LV.clo (43 : Nat) [] [((3 : Nat), (0 : Nat))] =
                                                            LV.clo (43 : Nat) [] [((3 : Nat), (0 : Nat))] ∧
                                                          n = n ∧ d = d ∧ l = l)))))) ∧
            (True →
              (live (goL l n d)
                    (fed (fun (hist : List (Int × (Int × Int) × Unit)) => goAt l n d hist) []
                      (items (0 : Int) ((0 : Int), (1 : Int)) l)) →
                  (0 : Int) = (posOf (3 : Int) (find l (tk n d))).fst ∧
                    (0 : Int) = (posOf (3 : Int) (find l (tk n d))).snd.fst ∧
                      (0 : Int) = (posOf (3 : Int) (find l (tk n d))).snd.snd.fst ∧
                        (3 : Int) = (posOf (3 : Int) (find l (tk n d))).snd.snd.snd) ∧
                (¬live (goL l n d)
                        (fed (fun (hist : List (Int × (Int × Int) × Unit)) => goAt l n d hist) []
                          (items (0 : Int) ((0 : Int), (1 : Int)) l)) →
                    True →
                      (outAt l n d
                              (fed (fun (hist : List (Int × (Int × Int) × Unit)) => goAt l n d hist) []
                                (items (0 : Int) ((0 : Int), (1 : Int)) l))).fst =
                          (posOf (3 : Int) (find l (tk n d))).fst ∧
                        (outAt l n d
                                  (fed (fun (hist : List (Int × (Int × Int) × Unit)) => goAt l n d hist) []
                                    (items (0 : Int) ((0 : Int), (1 : Int)) l))).snd.fst =
                            (posOf (3 : Int) (find l (tk n d))).snd.fst ∧
                          (outAt l n d
                                      (fed (fun (hist : List (Int × (Int × Int) × Unit)) => goAt l n d hist) []
                                        (items (0 : Int) ((0 : Int), (1 : Int)) l))).snd.snd.fst =
                              (posOf (3 : Int) (find l (tk n d))).snd.snd.fst ∧
                            (outAt l n d
                                      (fed (fun (hist : List (Int × (Int × Int) × Unit)) => goAt l n d hist) []
                                        (items (0 : Int) ((0 : Int), (1 : Int)) l))).snd.snd.snd =
                              (posOf (3 : Int) (find l (tk n d))).snd.snd.snd) ∧
                  True)
def P_mWhere (l : List Bar) (n d : Int) : Prop :=
  ((!okBars l || !dur n d) = true →
      (0 : Int) = (whereS l n d).fst ∧
        (0 : Int) = (whereS l n d).snd.fst ∧
          (0 : Int) = (whereS l n d).snd.snd.fst ∧ (1 : Int) = (whereS l n d).snd.snd.snd) ∧
    ((!okBars l || !dur n d) = false →
      okBars l = true ∧
        dur n d = true ∧
          (posOf (3 : Int) (find l (tk n d))).fst = (whereS l n d).fst ∧
            (posOf (3 : Int) (find l (tk n d))).snd.fst = (whereS l n d).snd.fst ∧
              (posOf (3 : Int) (find l (tk n d))).snd.snd.fst = (whereS l n d).snd.snd.fst ∧
                (posOf (3 : Int) (find l (tk n d))).snd.snd.snd = (whereS l n d).snd.snd.snd)
def P_mShift (l : List Bar) (b n d x y : Int) : Prop :=
  (((timeS l b n d).snd.snd != (0 : Int) || !dur x y && !dur (negW x) y) = true →
      (0 : Int) = (shiftS l b n d x y).fst ∧
        (0 : Int) = (shiftS l b n d x y).snd.fst ∧
          (0 : Int) = (shiftS l b n d x y).snd.snd.fst ∧ (1 : Int) = (shiftS l b n d x y).snd.snd.snd) ∧
    (((timeS l b n d).snd.snd != (0 : Int) || !dur x y && !dur (negW x) y) = false →
      (((addR (timeS l b n d).fst (timeS l b n d).snd.fst x y).snd.snd != (0 : Int) ||
              decide ((addR (timeS l b n d).fst (timeS l b n d).snd.fst x y).fst < (0 : Int))) =
            true →
          (0 : Int) = (shiftS l b n d x y).fst ∧
            (0 : Int) = (shiftS l b n d x y).snd.fst ∧
              (0 : Int) = (shiftS l b n d x y).snd.snd.fst ∧ (3 : Int) = (shiftS l b n d x y).snd.snd.snd) ∧
        (((addR (timeS l b n d).fst (timeS l b n d).snd.fst x y).snd.snd != (0 : Int) ||
              decide ((addR (timeS l b n d).fst (timeS l b n d).snd.fst x y).fst < (0 : Int))) =
            false →
          okBars l = true ∧
            dur (addR (timeS l b n d).fst (timeS l b n d).snd.fst x y).fst
                  (addR (timeS l b n d).fst (timeS l b n d).snd.fst x y).snd.fst =
                true ∧
              (posOf (3 : Int)
                      (find l
                        (tk (addR (timeS l b n d).fst (timeS l b n d).snd.fst x y).fst
                          (addR (timeS l b n d).fst (timeS l b n d).snd.fst x y).snd.fst))).fst =
                  (shiftS l b n d x y).fst ∧
                (posOf (3 : Int)
                          (find l
                            (tk (addR (timeS l b n d).fst (timeS l b n d).snd.fst x y).fst
                              (addR (timeS l b n d).fst (timeS l b n d).snd.fst x y).snd.fst))).snd.fst =
                    (shiftS l b n d x y).snd.fst ∧
                  (posOf (3 : Int)
                              (find l
                                (tk (addR (timeS l b n d).fst (timeS l b n d).snd.fst x y).fst
                                  (addR (timeS l b n d).fst (timeS l b n d).snd.fst x y).snd.fst))).snd.snd.fst =
                      (shiftS l b n d x y).snd.snd.fst ∧
                    (posOf (3 : Int)
                              (find l
                                (tk (addR (timeS l b n d).fst (timeS l b n d).snd.fst x y).fst
                                  (addR (timeS l b n d).fst (timeS l b n d).snd.fst x y).snd.fst))).snd.snd.snd =
                      (shiftS l b n d x y).snd.snd.snd))
def P_Ticks (n d : Int) : Prop :=
  (decide (d < (1 : Int)) = false → d ≠ (0 : Int)) ∧
    ((decide (d < (1 : Int)) || Int.tmod (1680 : Int) d != (0 : Int) || decide (n < (0 : Int)) ||
            decide (n > (1000000000 : Int))) =
          false →
        (0 : Int) ≤ n ∧ (0 : Int) ≤ d) ∧
      ((decide (d < (1 : Int)) || Int.tmod (1680 : Int) d != (0 : Int) || decide (n < (0 : Int)) ||
                decide (n > (1000000000 : Int)) ||
              (↑(n.gcd d) : Int) != (1 : Int)) =
            true →
          (-1 : Int) = tks n d) ∧
        ((decide (d < (1 : Int)) || Int.tmod (1680 : Int) d != (0 : Int) || decide (n < (0 : Int)) ||
                decide (n > (1000000000 : Int)) ||
              (↑(n.gcd d) : Int) != (1 : Int)) =
            false →
          d ≠ (0 : Int) ∧
            InI64 (Int.tdiv (1680 : Int) d) ∧
              InI64 (n * Int.tdiv (1680 : Int) d) ∧ n * Int.tdiv (1680 : Int) d = tks n d)
def P_Of (n : Int) : Prop :=
  (0 : Int) ≤ n ∧
    (0 : Int) ≤ (1680 : Int) ∧
      (↑(n.gcd (1680 : Int)) : Int) ≠ (0 : Int) ∧
        InI64 (n.tdiv (↑(n.gcd (1680 : Int)) : Int)) ∧
          (↑(n.gcd (1680 : Int)) : Int) ≠ (0 : Int) ∧
            InI64 (Int.tdiv (1680 : Int) (↑(n.gcd (1680 : Int)) : Int)) ∧
              n.tdiv (↑(n.gcd (1680 : Int)) : Int) = (ofT n).fst ∧
                Int.tdiv (1680 : Int) (↑(n.gcd (1680 : Int)) : Int) = (ofT n).snd
def P_Duration (n d : Int) : Prop :=
 decide (tks n d ≥ (0 : Int)) = dur n d
def P_rValid (l : List Bar) : Prop :=
  (↑l.length : Int) ≤ (9223372036854775807 : Int) →
    (decide ((↑l.length : Int) < (1 : Int)) = false → (↑l.length : Int) ≤ (9223372036854775807 : Int)) →
      ((decide ((↑l.length : Int) < (1 : Int)) || decide ((↑l.length : Int) > (4000 : Int))) = true →
          false = okBars l) ∧
        ((decide ((↑l.length : Int) < (1 : Int)) || decide ((↑l.length : Int) > (4000 : Int))) = false →
          (∃ (x : Nat), preB l x ∧ (0 : Int) = (↑x : Int)) ∧
            ∀ (x : Nat),
              preB l x →
                (↑l.length : Int) ≤ (9223372036854775807 : Int) →
                  (decide ((↑x : Int) < (↑l.length : Int)) = true →
                      (0 : Int) ≤ (↑x : Int) ∧
                        (↑x : Int) < (↑l.length : Int) ∧
                          (0 : Int) ≤ (↑x : Int) ∧
                            (↑x : Int) < (↑l.length : Int) ∧
                              (decide ((l.getD (↑x : Int).toNat BT.d0).fst < (1 : Int)) = false →
                                  (0 : Int) ≤ (↑x : Int) ∧ (↑x : Int) < (↑l.length : Int)) ∧
                                ((decide ((l.getD (↑x : Int).toNat BT.d0).fst < (1 : Int)) ||
                                            decide ((l.getD (↑x : Int).toNat BT.d0).fst > (1000000 : Int)) ||
                                          decide
                                            (tks (l.getD (↑x : Int).toNat BT.d0).snd.fst.fst
                                                (l.getD (↑x : Int).toNat BT.d0).snd.fst.snd <
                                              (1 : Int)) ||
                                        decide
                                          (tks (l.getD (↑x : Int).toNat BT.d0).snd.fst.fst
                                              (l.getD (↑x : Int).toNat BT.d0).snd.fst.snd >
                                            (40320 : Int))) =
                                      false →
                                    (0 : Int) ≤ (↑x : Int) ∧ (↑x : Int) < (↑l.length : Int)) ∧
                                  ((decide ((l.getD (↑x : Int).toNat BT.d0).fst < (1 : Int)) ||
                                                decide ((l.getD (↑x : Int).toNat BT.d0).fst > (1000000 : Int)) ||
                                              decide
                                                (tks (l.getD (↑x : Int).toNat BT.d0).snd.fst.fst
                                                    (l.getD (↑x : Int).toNat BT.d0).snd.fst.snd <
                                                  (1 : Int)) ||
                                            decide
                                              (tks (l.getD (↑x : Int).toNat BT.d0).snd.fst.fst
                                                  (l.getD (↑x : Int).toNat BT.d0).snd.fst.snd >
                                                (40320 : Int)) ||
                                          decide ((l.getD (↑x : Int).toNat BT.d0).snd.snd < (-7 : Int))) =
                                        false →
                                      (0 : Int) ≤ (↑x : Int) ∧ (↑x : Int) < (↑l.length : Int)) ∧
                                    ((decide ((l.getD (↑x : Int).toNat BT.d0).fst < (1 : Int)) ||
                                                    decide ((l.getD (↑x : Int).toNat BT.d0).fst > (1000000 : Int)) ||
                                                  decide
                                                    (tks (l.getD (↑x : Int).toNat BT.d0).snd.fst.fst
                                                        (l.getD (↑x : Int).toNat BT.d0).snd.fst.snd <
                                                      (1 : Int)) ||
                                                decide
                                                  (tks (l.getD (↑x : Int).toNat BT.d0).snd.fst.fst
                                                      (l.getD (↑x : Int).toNat BT.d0).snd.fst.snd >
                                                    (40320 : Int)) ||
                                              decide ((l.getD (↑x : Int).toNat BT.d0).snd.snd < (-7 : Int)) ||
                                            decide ((l.getD (↑x : Int).toNat BT.d0).snd.snd > (7 : Int))) =
                                          true →
                                        false = okBars l) ∧
                                      ((decide ((l.getD (↑x : Int).toNat BT.d0).fst < (1 : Int)) ||
                                                    decide ((l.getD (↑x : Int).toNat BT.d0).fst > (1000000 : Int)) ||
                                                  decide
                                                    (tks (l.getD (↑x : Int).toNat BT.d0).snd.fst.fst
                                                        (l.getD (↑x : Int).toNat BT.d0).snd.fst.snd <
                                                      (1 : Int)) ||
                                                decide
                                                  (tks (l.getD (↑x : Int).toNat BT.d0).snd.fst.fst
                                                      (l.getD (↑x : Int).toNat BT.d0).snd.fst.snd >
                                                    (40320 : Int)) ||
                                              decide ((l.getD (↑x : Int).toNat BT.d0).snd.snd < (-7 : Int)) ||
                                            decide ((l.getD (↑x : Int).toNat BT.d0).snd.snd > (7 : Int))) =
                                          false →
                                        (∃ (x_1 : Nat), noneB l (↑x : Int) x_1 ∧ (0 : Int) = (↑x_1 : Int)) ∧
                                          ∀ (x_1 : Nat),
                                            noneB l (↑x : Int) x_1 →
                                              (decide ((↑x_1 : Int) < (↑x : Int)) = true →
                                                  (0 : Int) ≤ (↑x_1 : Int) ∧
                                                    (↑x_1 : Int) < (↑l.length : Int) ∧
                                                      (0 : Int) ≤ (↑x : Int) ∧
                                                        (↑x : Int) < (↑l.length : Int) ∧
                                                          (((l.getD (↑x_1 : Int).toNat BT.d0).fst ==
                                                                  (l.getD (↑x : Int).toNat BT.d0).fst) =
                                                                true →
                                                              false = okBars l) ∧
                                                            (((l.getD (↑x_1 : Int).toNat BT.d0).fst ==
                                                                  (l.getD (↑x : Int).toNat BT.d0).fst) =
                                                                false →
                                                              InI64 ((↑x_1 : Int) + (1 : Int)) ∧
                                                                ∃ (x' : Nat),
                                                                  noneB l (↑x : Int) x' ∧
                                                                    (↑x : Int).toNat - x' < (↑x : Int).toNat - x_1 ∧
                                                                      (↑x_1 : Int) + (1 : Int) = (↑x' : Int) ∧
                                                                        (decide
                                                                                        ((l.getD (↑x : Int).toNat
                                                                                              BT.d0).fst <
                                                                                          (1 : Int)) ||
                                                                                      decide
                                                                                        ((l.getD (↑x : Int).toNat
                                                                                              BT.d0).fst >
                                                                                          (1000000 : Int)) ||
                                                                                    decide
                                                                                      (tks
                                                                                          (l.getD (↑x : Int).toNat
                                                                                                  BT.d0).snd.fst.fst
                                                                                          (l.getD (↑x : Int).toNat
                                                                                                  BT.d0).snd.fst.snd <
                                                                                        (1 : Int)) ||
                                                                                  decide
                                                                                    (tks
                                                                                        (l.getD (↑x : Int).toNat
                                                                                                BT.d0).snd.fst.fst
                                                                                        (l.getD (↑x : Int).toNat
                                                                                                BT.d0).snd.fst.snd >
                                                                                      (40320 : Int)) ||
                                                                                decide
                                                                                  ((l.getD (↑x : Int).toNat
                                                                                          BT.d0).snd.snd <
                                                                                    (-7 : Int)) ||
                                                                              decide
                                                                                ((l.getD (↑x : Int).toNat
                                                                                        BT.d0).snd.snd >
                                                                                  (7 : Int))) =
                                                                            (decide
                                                                                        ((l.getD (↑x : Int).toNat
                                                                                              BT.d0).fst <
                                                                                          (1 : Int)) ||
                                                                                      decide
                                                                                        ((l.getD (↑x : Int).toNat
                                                                                              BT.d0).fst >
                                                                                          (1000000 : Int)) ||
                                                                                    decide
                                                                                      (tks
                                                                                          (l.getD (↑x : Int).toNat
                                                                                                  BT.d0).snd.fst.fst
                                                                                          (l.getD (↑x : Int).toNat
                                                                                                  BT.d0).snd.fst.snd <
                                                                                        (1 : Int)) ||
                                                                                  decide
                                                                                    (tks
                                                                                        (l.getD (↑x : Int).toNat
                                                                                                BT.d0).snd.fst.fst
                                                                                        (l.getD (↑x : Int).toNat
                                                                                                BT.d0).snd.fst.snd >
                                                                                      (40320 : Int)) ||
                                                                                decide
                                                                                  ((l.getD (↑x : Int).toNat
                                                                                          BT.d0).snd.snd <
                                                                                    (-7 : Int)) ||
                                                                              decide
                                                                                ((l.getD (↑x : Int).toNat
                                                                                        BT.d0).snd.snd >
                                                                                  (7 : Int))) ∧
                                                                          tks
                                                                                (l.getD (↑x : Int).toNat
                                                                                        BT.d0).snd.fst.fst
                                                                                (l.getD (↑x : Int).toNat
                                                                                        BT.d0).snd.fst.snd =
                                                                              tks
                                                                                (l.getD (↑x : Int).toNat
                                                                                        BT.d0).snd.fst.fst
                                                                                (l.getD (↑x : Int).toNat
                                                                                        BT.d0).snd.fst.snd ∧
                                                                            decide ((↑x : Int) < (↑l.length : Int)) =
                                                                                decide
                                                                                  ((↑x : Int) < (↑l.length : Int)) ∧
                                                                              (↑x : Int) = (↑x : Int) ∧
                                                                                (decide
                                                                                        ((↑l.length : Int) <
                                                                                          (1 : Int)) ||
                                                                                      decide
                                                                                        ((↑l.length : Int) >
                                                                                          (4000 : Int))) =
                                                                                    (decide
                                                                                        ((↑l.length : Int) <
                                                                                          (1 : Int)) ||
                                                                                      decide
                                                                                        ((↑l.length : Int) >
                                                                                          (4000 : Int))) ∧
                                                                                  l = l)) ∧
                                                (decide ((↑x_1 : Int) < (↑x : Int)) = false →
                                                  InI64 ((↑x : Int) + (1 : Int)) ∧
                                                    ∃ (x' : Nat),
                                                      preB l x' ∧
                                                        l.length - x' < l.length - x ∧
                                                          (↑x : Int) + (1 : Int) = (↑x' : Int) ∧
                                                            (decide ((↑l.length : Int) < (1 : Int)) ||
                                                                  decide ((↑l.length : Int) > (4000 : Int))) =
                                                                (decide ((↑l.length : Int) < (1 : Int)) ||
                                                                  decide ((↑l.length : Int) > (4000 : Int))) ∧
                                                              l = l))) ∧
                    (decide ((↑x : Int) < (↑l.length : Int)) = false → true = okBars l))
def P_Before (l : List Bar) (b : Int) : Prop :=
  (∃ (x : Nat), x ≤ b.toNat ∧ (0 : Int) = (↑x : Int) ∧ (0 : Int) = bef (List.take x l)) ∧
    ∀ (x : Nat),
      x ≤ b.toNat →
        (decide ((↑x : Int) < b) = true →
            (0 : Int) ≤ (↑x : Int) ∧
              (↑x : Int) < (↑l.length : Int) ∧
                InI64
                    (bef (List.take x l) +
                      tks (l.getD (↑x : Int).toNat BT.d0).snd.fst.fst (l.getD (↑x : Int).toNat BT.d0).snd.fst.snd) ∧
                  InI64 ((↑x : Int) + (1 : Int)) ∧
                    ∃ (x' : Nat),
                      x' ≤ b.toNat ∧
                        b.toNat - x' < b.toNat - x ∧
                          (↑x : Int) + (1 : Int) = (↑x' : Int) ∧
                            bef (List.take x l) +
                                  tks (l.getD (↑x : Int).toNat BT.d0).snd.fst.fst
                                    (l.getD (↑x : Int).toNat BT.d0).snd.fst.snd =
                                bef (List.take x' l) ∧
                              (0 : Int) = (0 : Int) ∧ l = l ∧ b = b) ∧
          (decide ((↑x : Int) < b) = false → bef (List.take x l) = bef (List.take b.toNat l))
def P_rTotal (l : List Bar) : Prop :=
  ((!okBars l) = true → (0 : Int) = (totS l).fst ∧ (0 : Int) = (totS l).snd.fst ∧ (1 : Int) = (totS l).snd.snd) ∧
    ((!okBars l) = false →
      (↑l.length : Int) ≤ (9223372036854775807 : Int) →
        (0 : Int) ≤ (↑l.length : Int) ∧
          (↑l.length : Int) ≤ (↑l.length : Int) ∧
            l.length ≤ (10000 : Nat) ∧
              (0 : Int) ≤ bef (List.take (↑l.length : Int).toNat l) ∧
                bef (List.take (↑l.length : Int).toNat l) ≤ (1000000000000000000 : Int) ∧
                  (ofT (bef (List.take (↑l.length : Int).toNat l))).fst = (totS l).fst ∧
                    (ofT (bef (List.take (↑l.length : Int).toNat l))).snd = (totS l).snd.fst ∧
                      (0 : Int) = (totS l).snd.snd)
def P_Position (l : List Bar) (b n d : Int) : Prop :=
  (decide (b < (0 : Int)) = false → (↑l.length : Int) ≤ (9223372036854775807 : Int)) →
    ((decide (b < (0 : Int)) || decide (b > (↑l.length : Int)) || decide (tks n d < (0 : Int))) = true →
        false = posS l b n d) ∧
      ((decide (b < (0 : Int)) || decide (b > (↑l.length : Int)) || decide (tks n d < (0 : Int))) = false →
        (↑l.length : Int) ≤ (9223372036854775807 : Int) →
          ((b == (↑l.length : Int)) = true → (tks n d == (0 : Int)) = posS l b n d) ∧
            ((b == (↑l.length : Int)) = false →
              (0 : Int) ≤ b ∧
                b < (↑l.length : Int) ∧
                  decide (tks n d < tks (l.getD b.toNat BT.d0).snd.fst.fst (l.getD b.toNat BT.d0).snd.fst.snd) =
                    posS l b n d))
def P_rTime (l : List Bar) (b n d : Int) : Prop :=
  ((!okBars l || !posS l b n d) = true →
      (0 : Int) = (timeS l b n d).fst ∧ (0 : Int) = (timeS l b n d).snd.fst ∧ (1 : Int) = (timeS l b n d).snd.snd) ∧
    ((!okBars l || !posS l b n d) = false →
      (0 : Int) ≤ b ∧
        b ≤ (↑l.length : Int) ∧
          l.length ≤ (10000 : Nat) ∧
            InI64 (bef (List.take b.toNat l) + tks n d) ∧
              (0 : Int) ≤ bef (List.take b.toNat l) + tks n d ∧
                bef (List.take b.toNat l) + tks n d ≤ (1000000000000000000 : Int) ∧
                  (ofT (bef (List.take b.toNat l) + tks n d)).fst = (timeS l b n d).fst ∧
                    (ofT (bef (List.take b.toNat l) + tks n d)).snd = (timeS l b n d).snd.fst ∧
                      (0 : Int) = (timeS l b n d).snd.snd)
def P_rat6 (l : List Bar) (n : Int) : Prop :=
  (∃ (x : Nat), atR l n x ∧ (0 : Int) = (↑x : Int) ∧ n = n - bef (List.take x l)) ∧
    ∀ (x : Nat),
      atR l n x →
        (↑l.length : Int) ≤ (9223372036854775807 : Int) →
          (decide ((↑x : Int) < (↑l.length : Int)) = true →
              (0 : Int) ≤ (↑x : Int) ∧
                (↑x : Int) < (↑l.length : Int) ∧
                  ((decide (n - bef (List.take x l) ≥ (0 : Int)) &&
                          decide
                            (n - bef (List.take x l) <
                              tks (l.getD (↑x : Int).toNat BT.d0).snd.fst.fst
                                (l.getD (↑x : Int).toNat BT.d0).snd.fst.snd)) =
                        true →
                      (0 : Int) ≤ n - bef (List.take x l) ∧
                        n - bef (List.take x l) ≤ (1000000000000000000 : Int) ∧
                          (↑x : Int) = (posOf (1 : Int) (find l n)).fst ∧
                            (ofT (n - bef (List.take x l))).fst = (posOf (1 : Int) (find l n)).snd.fst ∧
                              (ofT (n - bef (List.take x l))).snd = (posOf (1 : Int) (find l n)).snd.snd.fst ∧
                                true = ((posOf (1 : Int) (find l n)).snd.snd.snd == (0 : Int))) ∧
                    ((decide (n - bef (List.take x l) ≥ (0 : Int)) &&
                          decide
                            (n - bef (List.take x l) <
                              tks (l.getD (↑x : Int).toNat BT.d0).snd.fst.fst
                                (l.getD (↑x : Int).toNat BT.d0).snd.fst.snd)) =
                        false →
                      InI64
                          (n - bef (List.take x l) -
                            tks (l.getD (↑x : Int).toNat BT.d0).snd.fst.fst
                              (l.getD (↑x : Int).toNat BT.d0).snd.fst.snd) ∧
                        InI64 ((↑x : Int) + (1 : Int)) ∧
                          ∃ (x' : Nat),
                            atR l n x' ∧
                              l.length - x' < l.length - x ∧
                                (↑x : Int) + (1 : Int) = (↑x' : Int) ∧
                                  n - bef (List.take x l) -
                                        tks (l.getD (↑x : Int).toNat BT.d0).snd.fst.fst
                                          (l.getD (↑x : Int).toNat BT.d0).snd.fst.snd =
                                      n - bef (List.take x' l) ∧
                                    l = l ∧ (0 : Int) = (0 : Int) ∧ (0 : Int) = (0 : Int) ∧ (0 : Int) = (0 : Int))) ∧
            (decide ((↑x : Int) < (↑l.length : Int)) = false →
              ((n - bef (List.take x l) == (0 : Int)) = true →
                  (↑l.length : Int) ≤ (9223372036854775807 : Int) →
                    (0 : Int) ≤ (0 : Int) ∧
                      (0 : Int) ≤ (1000000000000000000 : Int) ∧
                        (↑l.length : Int) = (posOf (1 : Int) (find l n)).fst ∧
                          (ofT (0 : Int)).fst = (posOf (1 : Int) (find l n)).snd.fst ∧
                            (ofT (0 : Int)).snd = (posOf (1 : Int) (find l n)).snd.snd.fst ∧
                              true = ((posOf (1 : Int) (find l n)).snd.snd.snd == (0 : Int))) ∧
                ((n - bef (List.take x l) == (0 : Int)) = false →
                  (0 : Int) = (posOf (1 : Int) (find l n)).fst ∧
                    (0 : Int) = (posOf (1 : Int) (find l n)).snd.fst ∧
                      (0 : Int) = (posOf (1 : Int) (find l n)).snd.snd.fst ∧
                        false = ((posOf (1 : Int) (find l n)).snd.snd.snd == (0 : Int))))
def P_rWhere (l : List Bar) (n d : Int) : Prop :=
  ((!okBars l || !dur n d) = true →
      (0 : Int) = (whereS l n d).fst ∧
        (0 : Int) = (whereS l n d).snd.fst ∧
          (0 : Int) = (whereS l n d).snd.snd.fst ∧ (1 : Int) = (whereS l n d).snd.snd.snd) ∧
    ((!okBars l || !dur n d) = false →
      okBars l = true ∧
        (-1000000000000000 : Int) ≤ tks n d ∧
          tks n d ≤ (1000000000000000 : Int) ∧
            ((!(posOf (1 : Int) (find l (tks n d))).snd.snd.snd == (0 : Int)) = true →
                (0 : Int) = (whereS l n d).fst ∧
                  (0 : Int) = (whereS l n d).snd.fst ∧
                    (0 : Int) = (whereS l n d).snd.snd.fst ∧ (3 : Int) = (whereS l n d).snd.snd.snd) ∧
              ((!(posOf (1 : Int) (find l (tks n d))).snd.snd.snd == (0 : Int)) = false →
                (posOf (1 : Int) (find l (tks n d))).fst = (whereS l n d).fst ∧
                  (posOf (1 : Int) (find l (tks n d))).snd.fst = (whereS l n d).snd.fst ∧
                    (posOf (1 : Int) (find l (tks n d))).snd.snd.fst = (whereS l n d).snd.snd.fst ∧
                      (0 : Int) = (whereS l n d).snd.snd.snd))
def P_rShift (l : List Bar) (b n d x y : Int) : Prop :=
  ((!okBars l || !posS l b n d || !dur x y && !dur (negW x) y) = true →
      (0 : Int) = (shiftS l b n d x y).fst ∧
        (0 : Int) = (shiftS l b n d x y).snd.fst ∧
          (0 : Int) = (shiftS l b n d x y).snd.snd.fst ∧ (1 : Int) = (shiftS l b n d x y).snd.snd.snd) ∧
    ((!okBars l || !posS l b n d || !dur x y && !dur (negW x) y) = false →
      (0 : Int) ≤ b ∧
        b ≤ (↑l.length : Int) ∧
          l.length ≤ (10000 : Nat) ∧
            InI64 (bef (List.take b.toNat l) + tks n d) ∧
              (dur x y = true →
                  InI64 (bef (List.take b.toNat l) + tks n d + tks x y) ∧
                    okBars l = true ∧
                      (-1000000000000000 : Int) ≤ bef (List.take b.toNat l) + tks n d + tks x y ∧
                        bef (List.take b.toNat l) + tks n d + tks x y ≤ (1000000000000000 : Int) ∧
                          ((decide (bef (List.take b.toNat l) + tks n d + tks x y < (0 : Int)) ||
                                  !(posOf (1 : Int)
                                              (find l (bef (List.take b.toNat l) + tks n d + tks x y))).snd.snd.snd ==
                                      (0 : Int)) =
                                true →
                              (0 : Int) = (shiftS l b n d x y).fst ∧
                                (0 : Int) = (shiftS l b n d x y).snd.fst ∧
                                  (0 : Int) = (shiftS l b n d x y).snd.snd.fst ∧
                                    (3 : Int) = (shiftS l b n d x y).snd.snd.snd) ∧
                            ((decide (bef (List.take b.toNat l) + tks n d + tks x y < (0 : Int)) ||
                                  !(posOf (1 : Int)
                                              (find l (bef (List.take b.toNat l) + tks n d + tks x y))).snd.snd.snd ==
                                      (0 : Int)) =
                                false →
                              (posOf (1 : Int) (find l (bef (List.take b.toNat l) + tks n d + tks x y))).fst =
                                  (shiftS l b n d x y).fst ∧
                                (posOf (1 : Int) (find l (bef (List.take b.toNat l) + tks n d + tks x y))).snd.fst =
                                    (shiftS l b n d x y).snd.fst ∧
                                  (posOf (1 : Int)
                                              (find l (bef (List.take b.toNat l) + tks n d + tks x y))).snd.snd.fst =
                                      (shiftS l b n d x y).snd.snd.fst ∧
                                    (0 : Int) = (shiftS l b n d x y).snd.snd.snd)) ∧
                (dur x y = false →
                  InI64 (bef (List.take b.toNat l) + tks n d - tks (negW x) y) ∧
                    okBars l = true ∧
                      (-1000000000000000 : Int) ≤ bef (List.take b.toNat l) + tks n d - tks (negW x) y ∧
                        bef (List.take b.toNat l) + tks n d - tks (negW x) y ≤ (1000000000000000 : Int) ∧
                          ((decide (bef (List.take b.toNat l) + tks n d - tks (negW x) y < (0 : Int)) ||
                                  !(posOf (1 : Int)
                                              (find l
                                                (bef (List.take b.toNat l) + tks n d - tks (negW x) y))).snd.snd.snd ==
                                      (0 : Int)) =
                                true →
                              (0 : Int) = (shiftS l b n d x y).fst ∧
                                (0 : Int) = (shiftS l b n d x y).snd.fst ∧
                                  (0 : Int) = (shiftS l b n d x y).snd.snd.fst ∧
                                    (3 : Int) = (shiftS l b n d x y).snd.snd.snd) ∧
                            ((decide (bef (List.take b.toNat l) + tks n d - tks (negW x) y < (0 : Int)) ||
                                  !(posOf (1 : Int)
                                              (find l
                                                (bef (List.take b.toNat l) + tks n d - tks (negW x) y))).snd.snd.snd ==
                                      (0 : Int)) =
                                false →
                              (posOf (1 : Int) (find l (bef (List.take b.toNat l) + tks n d - tks (negW x) y))).fst =
                                  (shiftS l b n d x y).fst ∧
                                (posOf (1 : Int)
                                          (find l (bef (List.take b.toNat l) + tks n d - tks (negW x) y))).snd.fst =
                                    (shiftS l b n d x y).snd.fst ∧
                                  (posOf (1 : Int)
                                              (find l
                                                (bef (List.take b.toNat l) + tks n d - tks (negW x) y))).snd.snd.fst =
                                      (shiftS l b n d x y).snd.snd.fst ∧
                                    (0 : Int) = (shiftS l b n d x y).snd.snd.snd)))
def P_rFew (l : List Bar) : Prop :=
  (↑l.length : Int) ≤ (9223372036854775807 : Int) →
    (decide ((↑l.length : Int) ≤ (60 : Int)) = false → (↑l.length : Int) ≤ (9223372036854775807 : Int)) →
      (decide ((↑l.length : Int) > (4000 : Int)) = true ∧ decide ((↑l.length : Int) ≤ (60 : Int)) = false →
          (↑l.length : Int) ≤ (9223372036854775807 : Int)) →
        (decide ((↑l.length : Int) ≤ (60 : Int)) ||
            decide ((↑l.length : Int) > (4000 : Int)) && decide ((↑l.length : Int) < (5000 : Int))) =
          (decide (l.length ≤ (60 : Nat)) || decide (l.length > (4000 : Nat)) && decide (l.length < (5000 : Nat)))
end Go.Proofs.Ythnboahemgmfnaa
