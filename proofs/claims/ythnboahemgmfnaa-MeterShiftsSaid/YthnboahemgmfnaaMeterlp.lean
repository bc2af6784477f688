/- What is to be shown of each function, in plain terms. Written by a program (wip/tools/gen.py). -/
import Derived.Test.YthnboahemgmfnaaMeterlc
namespace Go.Proofs.Ythnboahemgmfnaa
open Go.Sy Go.RatLaw
set_option linter.unusedVariables false

def P_example  : Prop :=
  [((7 : Int), ((3 : Int), (1 : Int)), (0 : Int)), ((8 : Int), ((4 : Int), (1 : Int)), (0 : Int)),
      ((9 : Int), ((3 : Int), (2 : Int)), (-2 : Int))] =
    exBars ∧
  (0 : Nat) + (1 : Nat) + (1 : Nat) + (1 : Nat) = (3 : Nat)
def P_head  : Prop :=
  InI64 (-5 : Int) ∧
  (((totS exBars).snd.snd == (0 : Int) && (timeS exBars (1 : Int) (1 : Int) (2 : Int)).snd.snd == (0 : Int) &&
                                (whereS exBars (7 : Int) (1 : Int)).snd.snd.snd == (0 : Int) &&
                              (whereS exBars (17 : Int) (2 : Int)).snd.snd.snd == (0 : Int) &&
                            (shiftS exBars (2 : Int) (1 : Int) (1 : Int) (-5 : Int) (1 : Int)).snd.snd.snd ==
                              (0 : Int) &&
                          (whereS exBars (9 : Int) (1 : Int)).snd.snd.snd == (3 : Int) &&
                        (timeS exBars (1 : Int) (4 : Int) (1 : Int)).snd.snd == (1 : Int) &&
                      (totS []).snd.snd == (1 : Int) &&
                    ((totS exBars).fst == (17 : Int) && (totS exBars).snd.fst == (2 : Int)) &&
                  ((timeS exBars (1 : Int) (1 : Int) (2 : Int)).fst == (7 : Int) &&
                    (timeS exBars (1 : Int) (1 : Int) (2 : Int)).snd.fst == (2 : Int)) &&
                ((whereS exBars (7 : Int) (1 : Int)).fst == (2 : Int) &&
                  ((whereS exBars (7 : Int) (1 : Int)).snd.fst == (0 : Int) &&
                    (whereS exBars (7 : Int) (1 : Int)).snd.snd.fst == (1 : Int))) &&
              ((whereS exBars (17 : Int) (2 : Int)).fst == (3 : Int) &&
                ((whereS exBars (17 : Int) (2 : Int)).snd.fst == (0 : Int) &&
                  (whereS exBars (17 : Int) (2 : Int)).snd.snd.fst == (1 : Int))) &&
            ((shiftS exBars (2 : Int) (1 : Int) (1 : Int) (-5 : Int) (1 : Int)).fst == (1 : Int) &&
              ((shiftS exBars (2 : Int) (1 : Int) (1 : Int) (-5 : Int) (1 : Int)).snd.fst == (0 : Int) &&
                (shiftS exBars (2 : Int) (1 : Int) (1 : Int) (-5 : Int) (1 : Int)).snd.snd.fst == (1 : Int))) &&
          okBars exBars) =
        true →
      (0 : Int) ≤ (0 : Int) ∧ (0 : Int) < (↑((0 : Nat) + (1 : Nat) + (1 : Nat) + (1 : Nat)) : Int)) ∧
    (((totS exBars).snd.snd == (0 : Int) && (timeS exBars (1 : Int) (1 : Int) (2 : Int)).snd.snd == (0 : Int) &&
                                  (whereS exBars (7 : Int) (1 : Int)).snd.snd.snd == (0 : Int) &&
                                (whereS exBars (17 : Int) (2 : Int)).snd.snd.snd == (0 : Int) &&
                              (shiftS exBars (2 : Int) (1 : Int) (1 : Int) (-5 : Int) (1 : Int)).snd.snd.snd ==
                                (0 : Int) &&
                            (whereS exBars (9 : Int) (1 : Int)).snd.snd.snd == (3 : Int) &&
                          (timeS exBars (1 : Int) (4 : Int) (1 : Int)).snd.snd == (1 : Int) &&
                        (totS []).snd.snd == (1 : Int) &&
                      ((totS exBars).fst == (17 : Int) && (totS exBars).snd.fst == (2 : Int)) &&
                    ((timeS exBars (1 : Int) (1 : Int) (2 : Int)).fst == (7 : Int) &&
                      (timeS exBars (1 : Int) (1 : Int) (2 : Int)).snd.fst == (2 : Int)) &&
                  ((whereS exBars (7 : Int) (1 : Int)).fst == (2 : Int) &&
                    ((whereS exBars (7 : Int) (1 : Int)).snd.fst == (0 : Int) &&
                      (whereS exBars (7 : Int) (1 : Int)).snd.snd.fst == (1 : Int))) &&
                ((whereS exBars (17 : Int) (2 : Int)).fst == (3 : Int) &&
                  ((whereS exBars (17 : Int) (2 : Int)).snd.fst == (0 : Int) &&
                    (whereS exBars (17 : Int) (2 : Int)).snd.snd.fst == (1 : Int))) &&
              ((shiftS exBars (2 : Int) (1 : Int) (1 : Int) (-5 : Int) (1 : Int)).fst == (1 : Int) &&
                ((shiftS exBars (2 : Int) (1 : Int) (1 : Int) (-5 : Int) (1 : Int)).snd.fst == (0 : Int) &&
                  (shiftS exBars (2 : Int) (1 : Int) (1 : Int) (-5 : Int) (1 : Int)).snd.snd.fst == (1 : Int))) &&
            okBars exBars) =
          true →
        (0 : Nat) + (1 : Nat) + (1 : Nat) + (1 : Nat) = (3 : Nat) ∧
          ((3 : Nat) + ((0 : Nat) + (1 : Nat))) * (32 : Nat) ≤ (140737488355328 : Nat)) ∧
      ((totS exBars).snd.snd == (0 : Int) && (timeS exBars (1 : Int) (1 : Int) (2 : Int)).snd.snd == (0 : Int) &&
                                  (whereS exBars (7 : Int) (1 : Int)).snd.snd.snd == (0 : Int) &&
                                (whereS exBars (17 : Int) (2 : Int)).snd.snd.snd == (0 : Int) &&
                              (shiftS exBars (2 : Int) (1 : Int) (1 : Int) (-5 : Int) (1 : Int)).snd.snd.snd ==
                                (0 : Int) &&
                            (whereS exBars (9 : Int) (1 : Int)).snd.snd.snd == (3 : Int) &&
                          (timeS exBars (1 : Int) (4 : Int) (1 : Int)).snd.snd == (1 : Int) &&
                        (totS []).snd.snd == (1 : Int) &&
                      ((totS exBars).fst == (17 : Int) && (totS exBars).snd.fst == (2 : Int)) &&
                    ((timeS exBars (1 : Int) (1 : Int) (2 : Int)).fst == (7 : Int) &&
                      (timeS exBars (1 : Int) (1 : Int) (2 : Int)).snd.fst == (2 : Int)) &&
                  ((whereS exBars (7 : Int) (1 : Int)).fst == (2 : Int) &&
                    ((whereS exBars (7 : Int) (1 : Int)).snd.fst == (0 : Int) &&
                      (whereS exBars (7 : Int) (1 : Int)).snd.snd.fst == (1 : Int))) &&
                ((whereS exBars (17 : Int) (2 : Int)).fst == (3 : Int) &&
                  ((whereS exBars (17 : Int) (2 : Int)).snd.fst == (0 : Int) &&
                    (whereS exBars (17 : Int) (2 : Int)).snd.snd.fst == (1 : Int))) &&
              ((shiftS exBars (2 : Int) (1 : Int) (1 : Int) (-5 : Int) (1 : Int)).fst == (1 : Int) &&
                ((shiftS exBars (2 : Int) (1 : Int) (1 : Int) (-5 : Int) (1 : Int)).snd.fst == (0 : Int) &&
                  (shiftS exBars (2 : Int) (1 : Int) (1 : Int) (-5 : Int) (1 : Int)).snd.snd.fst == (1 : Int))) &&
            okBars exBars &&
          !okBars
              (exBars ++
                [((exBars.getD (Int.toNat (0 : Int)) BT.d0).fst,
                    ((exBars.getD (Int.toNat (0 : Int)) BT.d0).snd.fst.fst,
                      (exBars.getD (Int.toNat (0 : Int)) BT.d0).snd.fst.snd),
                    (exBars.getD (Int.toNat (0 : Int)) BT.d0).snd.snd)])) =
        true
def P_usable (l : List Bar) : Prop :=
  (↑l.length : Int) ≤ (9223372036854775807 : Int) →
    (decide ((↑l.length : Int) ≤ (60 : Int)) && okBars l) = (decide (l.length ≤ (60 : Nat)) && okBars l)
def P_Matches (l : List Bar) (b n d p q x y : Int) : Prop :=
  ((!(decide (l.length ≤ (60 : Nat)) || decide (l.length > (4000 : Nat)) && decide (l.length < (5000 : Nat)))) = true →
      true = true) ∧
    ((!(decide (l.length ≤ (60 : Nat)) || decide (l.length > (4000 : Nat)) && decide (l.length < (5000 : Nat)))) =
        false →
      InI64 x ∧
        InI64 x ∧
          (true && okBars l == okBars l && ((totS l).fst == (totS l).fst && (totS l).snd.fst == (totS l).snd.fst) &&
                          (totS l).snd.snd == (totS l).snd.snd &&
                        ((timeS l b n d).fst == (timeS l b n d).fst &&
                          (timeS l b n d).snd.fst == (timeS l b n d).snd.fst) &&
                      (timeS l b n d).snd.snd == (timeS l b n d).snd.snd &&
                    ((whereS l p q).fst == (whereS l p q).fst &&
                      ((whereS l p q).snd.fst == (whereS l p q).snd.fst &&
                        (whereS l p q).snd.snd.fst == (whereS l p q).snd.snd.fst)) &&
                  (whereS l p q).snd.snd.snd == (whereS l p q).snd.snd.snd &&
                ((shiftS l b n d x y).fst == (shiftS l b n d x y).fst &&
                  ((shiftS l b n d x y).snd.fst == (shiftS l b n d x y).snd.fst &&
                    (shiftS l b n d x y).snd.snd.fst == (shiftS l b n d x y).snd.snd.fst)) &&
              (shiftS l b n d x y).snd.snd.snd == (shiftS l b n d x y).snd.snd.snd) =
            true)
def P_Back (l : List Bar) (b n d p q : Int) : Prop :=
  ((!(decide (l.length ≤ (60 : Nat)) && okBars l)) = true → true = true) ∧
    ((!(decide (l.length ≤ (60 : Nat)) && okBars l)) = false →
      (posS l b n d = true →
          (((whereS l p q).snd.snd.snd != (0 : Int)) = true →
              (true && (timeS l b n d).snd.snd == (0 : Int) &&
                        (whereS l (timeS l b n d).fst (timeS l b n d).snd.fst).snd.snd.snd == (0 : Int) &&
                      ((whereS l (timeS l b n d).fst (timeS l b n d).snd.fst).fst == b &&
                        ((whereS l (timeS l b n d).fst (timeS l b n d).snd.fst).snd.fst == n &&
                          (whereS l (timeS l b n d).fst (timeS l b n d).snd.fst).snd.snd.fst == d)) &&
                    ((whereS l p q).snd.snd.snd == (1 : Int) || (whereS l p q).snd.snd.snd == (3 : Int)) &&
                  ((whereS l p q).fst == (0 : Int) &&
                    ((whereS l p q).snd.fst == (0 : Int) && (whereS l p q).snd.snd.fst == (0 : Int)))) =
                true) ∧
            (((whereS l p q).snd.snd.snd != (0 : Int)) = false →
              (true && (timeS l b n d).snd.snd == (0 : Int) &&
                        (whereS l (timeS l b n d).fst (timeS l b n d).snd.fst).snd.snd.snd == (0 : Int) &&
                      ((whereS l (timeS l b n d).fst (timeS l b n d).snd.fst).fst == b &&
                        ((whereS l (timeS l b n d).fst (timeS l b n d).snd.fst).snd.fst == n &&
                          (whereS l (timeS l b n d).fst (timeS l b n d).snd.fst).snd.snd.fst == d)) &&
                    (timeS l (whereS l p q).fst (whereS l p q).snd.fst (whereS l p q).snd.snd.fst).snd.snd ==
                      (0 : Int) &&
                  ((timeS l (whereS l p q).fst (whereS l p q).snd.fst (whereS l p q).snd.snd.fst).fst == p &&
                    (timeS l (whereS l p q).fst (whereS l p q).snd.fst (whereS l p q).snd.snd.fst).snd.fst == q)) =
                true)) ∧
        (posS l b n d = false →
          (((whereS l p q).snd.snd.snd != (0 : Int)) = true →
              (true && ((whereS l p q).snd.snd.snd == (1 : Int) || (whereS l p q).snd.snd.snd == (3 : Int)) &&
                  ((whereS l p q).fst == (0 : Int) &&
                    ((whereS l p q).snd.fst == (0 : Int) && (whereS l p q).snd.snd.fst == (0 : Int)))) =
                true) ∧
            (((whereS l p q).snd.snd.snd != (0 : Int)) = false →
              (true &&
                    (timeS l (whereS l p q).fst (whereS l p q).snd.fst (whereS l p q).snd.snd.fst).snd.snd ==
                      (0 : Int) &&
                  ((timeS l (whereS l p q).fst (whereS l p q).snd.fst (whereS l p q).snd.snd.fst).fst == p &&
                    (timeS l (whereS l p q).fst (whereS l p q).snd.fst (whereS l p q).snd.snd.fst).snd.fst == q)) =
                true)))
def P_Order (l : List Bar) (b n d c p q : Int) : Prop :=
  ((!(decide (l.length ≤ (60 : Nat)) && okBars l) || !posS l b n d || !posS l c p q) = true → true = true) ∧
    ((!(decide (l.length ≤ (60 : Nat)) && okBars l) || !posS l b n d || !posS l c p q) = false →
      (((timeS l b n d).snd.snd != (0 : Int) || (timeS l c p q).snd.snd != (0 : Int) ||
                (compareR (timeS l b n d).fst (timeS l b n d).snd.fst (timeS l c p q).fst
                      (timeS l c p q).snd.fst).snd !=
                  (0 : Int) ||
              (compareR n d p q).snd != (0 : Int)) =
            true →
          false = true) ∧
        (((timeS l b n d).snd.snd != (0 : Int) || (timeS l c p q).snd.snd != (0 : Int) ||
                (compareR (timeS l b n d).fst (timeS l b n d).snd.fst (timeS l c p q).fst
                      (timeS l c p q).snd.fst).snd !=
                  (0 : Int) ||
              (compareR n d p q).snd != (0 : Int)) =
            false →
          (decide (b < c) = true →
              (decide (b > c) = true →
                  (true &&
                      (compareR (timeS l b n d).fst (timeS l b n d).snd.fst (timeS l c p q).fst
                            (timeS l c p q).snd.fst).fst ==
                        (1 : Int)) =
                    true) ∧
                (decide (b > c) = false →
                  (true &&
                      (compareR (timeS l b n d).fst (timeS l b n d).snd.fst (timeS l c p q).fst
                            (timeS l c p q).snd.fst).fst ==
                        (-1 : Int)) =
                    true)) ∧
            (decide (b < c) = false →
              (decide (b > c) = true →
                  (true &&
                      (compareR (timeS l b n d).fst (timeS l b n d).snd.fst (timeS l c p q).fst
                            (timeS l c p q).snd.fst).fst ==
                        (1 : Int)) =
                    true) ∧
                (decide (b > c) = false →
                  (true &&
                      (compareR (timeS l b n d).fst (timeS l b n d).snd.fst (timeS l c p q).fst
                            (timeS l c p q).snd.fst).fst ==
                        (compareR n d p q).fst) =
                    true))))
def P_Bars (l : List Bar) : Prop :=
  ((!(decide (l.length ≤ (60 : Nat)) && okBars l)) = true → true = true) ∧
    ((!(decide (l.length ≤ (60 : Nat)) && okBars l)) = false →
      (∃ (x : Nat),
          (x ≤ l.length + (1 : Nat) ∧ x ≤ (61 : Nat)) ∧
            (0 : Int) = (↑x : Int) ∧
              true = true ∧ (0 : Int) = (itB l (min x l.length)).fst ∧ (1 : Int) = (itB l (min x l.length)).snd) ∧
        ∀ (x : Nat),
          x ≤ l.length + (1 : Nat) ∧ x ≤ (61 : Nat) →
            (↑l.length : Int) ≤ (9223372036854775807 : Int) →
              (decide ((↑x : Int) ≤ (↑l.length : Int)) = true →
                  (((timeS l (↑x : Int) (0 : Int) (1 : Int)).snd.snd != (0 : Int) ||
                          !((timeS l (↑x : Int) (0 : Int) (1 : Int)).fst == (itB l (min x l.length)).fst &&
                              (timeS l (↑x : Int) (0 : Int) (1 : Int)).snd.fst == (itB l (min x l.length)).snd)) =
                        true →
                      false = true) ∧
                    (((timeS l (↑x : Int) (0 : Int) (1 : Int)).snd.snd != (0 : Int) ||
                          !((timeS l (↑x : Int) (0 : Int) (1 : Int)).fst == (itB l (min x l.length)).fst &&
                              (timeS l (↑x : Int) (0 : Int) (1 : Int)).snd.fst == (itB l (min x l.length)).snd)) =
                        false →
                      (↑l.length : Int) ≤ (9223372036854775807 : Int) →
                        (decide ((↑x : Int) < (↑l.length : Int)) = true →
                            (0 : Int) ≤ (↑x : Int) ∧
                              (↑x : Int) < (↑l.length : Int) ∧
                                InI64 ((↑x : Int) + (1 : Int)) ∧
                                  ∃ (x' : Nat),
                                    (x' ≤ l.length + (1 : Nat) ∧ x' ≤ (61 : Nat)) ∧
                                      l.length + (1 : Nat) - x' < l.length + (1 : Nat) - x ∧
                                        (↑x : Int) + (1 : Int) = (↑x' : Int) ∧
                                          (true &&
                                                (addR (itB l (min x l.length)).fst (itB l (min x l.length)).snd
                                                        (l.getD (↑x : Int).toNat BT.d0).snd.fst.fst
                                                        (l.getD (↑x : Int).toNat BT.d0).snd.fst.snd).snd.snd ==
                                                  (0 : Int)) =
                                              true ∧
                                            (!(decide (l.length ≤ (60 : Nat)) && okBars l)) =
                                                !(decide (l.length ≤ (60 : Nat)) && okBars l) ∧
                                              l = l ∧
                                                (addR (itB l (min x l.length)).fst (itB l (min x l.length)).snd
                                                        (l.getD (↑x : Int).toNat BT.d0).snd.fst.fst
                                                        (l.getD (↑x : Int).toNat BT.d0).snd.fst.snd).fst =
                                                    (itB l (min x' l.length)).fst ∧
                                                  (addR (itB l (min x l.length)).fst (itB l (min x l.length)).snd
                                                          (l.getD (↑x : Int).toNat BT.d0).snd.fst.fst
                                                          (l.getD (↑x : Int).toNat BT.d0).snd.fst.snd).snd.fst =
                                                    (itB l (min x' l.length)).snd) ∧
                          (decide ((↑x : Int) < (↑l.length : Int)) = false →
                            InI64 ((↑x : Int) + (1 : Int)) ∧
                              ∃ (x' : Nat),
                                (x' ≤ l.length + (1 : Nat) ∧ x' ≤ (61 : Nat)) ∧
                                  l.length + (1 : Nat) - x' < l.length + (1 : Nat) - x ∧
                                    (↑x : Int) + (1 : Int) = (↑x' : Int) ∧
                                      true = true ∧
                                        (!(decide (l.length ≤ (60 : Nat)) && okBars l)) =
                                            !(decide (l.length ≤ (60 : Nat)) && okBars l) ∧
                                          l = l ∧
                                            (itB l (min x l.length)).fst = (itB l (min x' l.length)).fst ∧
                                              (itB l (min x l.length)).snd = (itB l (min x' l.length)).snd))) ∧
                (decide ((↑x : Int) ≤ (↑l.length : Int)) = false →
                  (true && (totS l).snd.snd == (0 : Int) &&
                      ((totS l).fst == (itB l (min x l.length)).fst &&
                        (totS l).snd.fst == (itB l (min x l.length)).snd)) =
                    true))
def P_Parts (l : List Bar) (u b n d : Int) : Prop :=
  ((!(decide (l.length ≤ (60 : Nat)) && okBars l)) = false → (↑l.length : Int) ≤ (9223372036854775807 : Int)) →
    ((!(decide (l.length ≤ (60 : Nat)) && okBars l) || decide ((↑l.length : Int) < (2 : Int))) = true → true = true) ∧
      ((!(decide (l.length ≤ (60 : Nat)) && okBars l) || decide ((↑l.length : Int) < (2 : Int))) = false →
        InI64 u ∧
          ((↑l.length : Int) ≤ (9223372036854775807 : Int) →
            InI64 ((↑l.length : Int) - (1 : Int)) ∧
              (↑l.length : Int) - (1 : Int) ≠ (0 : Int) ∧
                InI64 ((1 : Int) + u.tmod ((↑l.length : Int) - (1 : Int))) ∧
                  (0 : Int) ≤ (0 : Int) ∧
                    (0 : Int) ≤ (1 : Int) + u.tmod ((↑l.length : Int) - (1 : Int)) ∧
                      (1 : Int) + u.tmod ((↑l.length : Int) - (1 : Int)) ≤ (↑l.length : Int) ∧
                        (0 : Int) ≤ (1 : Int) + u.tmod ((↑l.length : Int) - (1 : Int)) ∧
                          (1 : Int) + u.tmod ((↑l.length : Int) - (1 : Int)) ≤ (↑l.length : Int) ∧
                            (↑l.length : Int) ≤ (↑l.length : Int) ∧
                              (0 : Int) ≤ (0 : Int) ∧
                                (0 : Int) ≤ (1 : Int) + u.tmod ((↑l.length : Int) - (1 : Int)) ∧
                                  (1 : Int) + u.tmod ((↑l.length : Int) - (1 : Int)) ≤ (↑l.length : Int) ∧
                                    ((!posS
                                              (List.drop (Int.toNat (0 : Int))
                                                (List.take ((1 : Int) + u.tmod ((↑l.length : Int) - (1 : Int))).toNat
                                                  l))
                                              b n d) =
                                          true →
                                        (true &&
                                                    (totS
                                                            (List.drop (Int.toNat (0 : Int))
                                                              (List.take
                                                                ((1 : Int) +
                                                                    u.tmod ((↑l.length : Int) - (1 : Int))).toNat
                                                                l))).snd.snd ==
                                                      (0 : Int) &&
                                                  (totS
                                                          (List.drop
                                                            ((1 : Int) + u.tmod ((↑l.length : Int) - (1 : Int))).toNat
                                                            (List.take (↑l.length : Int).toNat l))).snd.snd ==
                                                    (0 : Int) &&
                                                (totS l).snd.snd == (0 : Int) &&
                                              (addR
                                                      (totS
                                                          (List.drop (Int.toNat (0 : Int))
                                                            (List.take
                                                              ((1 : Int) + u.tmod ((↑l.length : Int) - (1 : Int))).toNat
                                                              l))).fst
                                                      (totS
                                                            (List.drop (Int.toNat (0 : Int))
                                                              (List.take
                                                                ((1 : Int) +
                                                                    u.tmod ((↑l.length : Int) - (1 : Int))).toNat
                                                                l))).snd.fst
                                                      (totS
                                                          (List.drop
                                                            ((1 : Int) + u.tmod ((↑l.length : Int) - (1 : Int))).toNat
                                                            (List.take (↑l.length : Int).toNat l))).fst
                                                      (totS
                                                            (List.drop
                                                              ((1 : Int) + u.tmod ((↑l.length : Int) - (1 : Int))).toNat
                                                              (List.take (↑l.length : Int).toNat
                                                                l))).snd.fst).snd.snd ==
                                                (0 : Int) &&
                                            ((totS l).fst ==
                                                (addR
                                                    (totS
                                                        (List.drop (Int.toNat (0 : Int))
                                                          (List.take
                                                            ((1 : Int) + u.tmod ((↑l.length : Int) - (1 : Int))).toNat
                                                            l))).fst
                                                    (totS
                                                          (List.drop (Int.toNat (0 : Int))
                                                            (List.take
                                                              ((1 : Int) + u.tmod ((↑l.length : Int) - (1 : Int))).toNat
                                                              l))).snd.fst
                                                    (totS
                                                        (List.drop
                                                          ((1 : Int) + u.tmod ((↑l.length : Int) - (1 : Int))).toNat
                                                          (List.take (↑l.length : Int).toNat l))).fst
                                                    (totS
                                                          (List.drop
                                                            ((1 : Int) + u.tmod ((↑l.length : Int) - (1 : Int))).toNat
                                                            (List.take (↑l.length : Int).toNat l))).snd.fst).fst &&
                                              (totS l).snd.fst ==
                                                (addR
                                                      (totS
                                                          (List.drop (Int.toNat (0 : Int))
                                                            (List.take
                                                              ((1 : Int) + u.tmod ((↑l.length : Int) - (1 : Int))).toNat
                                                              l))).fst
                                                      (totS
                                                            (List.drop (Int.toNat (0 : Int))
                                                              (List.take
                                                                ((1 : Int) +
                                                                    u.tmod ((↑l.length : Int) - (1 : Int))).toNat
                                                                l))).snd.fst
                                                      (totS
                                                          (List.drop
                                                            ((1 : Int) + u.tmod ((↑l.length : Int) - (1 : Int))).toNat
                                                            (List.take (↑l.length : Int).toNat l))).fst
                                                      (totS
                                                            (List.drop
                                                              ((1 : Int) + u.tmod ((↑l.length : Int) - (1 : Int))).toNat
                                                              (List.take (↑l.length : Int).toNat
                                                                l))).snd.fst).snd.fst)) =
                                          true) ∧
                                      ((!posS
                                              (List.drop (Int.toNat (0 : Int))
                                                (List.take ((1 : Int) + u.tmod ((↑l.length : Int) - (1 : Int))).toNat
                                                  l))
                                              b n d) =
                                          false →
                                        (0 : Int) ≤ (0 : Int) ∧
                                          (0 : Int) ≤ (1 : Int) + u.tmod ((↑l.length : Int) - (1 : Int)) ∧
                                            (1 : Int) + u.tmod ((↑l.length : Int) - (1 : Int)) ≤ (↑l.length : Int) ∧
                                              (true &&
                                                                (totS
                                                                        (List.drop (Int.toNat (0 : Int))
                                                                          (List.take
                                                                            ((1 : Int) +
                                                                                u.tmod
                                                                                  ((↑l.length : Int) - (1 : Int))).toNat
                                                                            l))).snd.snd ==
                                                                  (0 : Int) &&
                                                              (totS
                                                                      (List.drop
                                                                        ((1 : Int) +
                                                                            u.tmod
                                                                              ((↑l.length : Int) - (1 : Int))).toNat
                                                                        (List.take (↑l.length : Int).toNat
                                                                          l))).snd.snd ==
                                                                (0 : Int) &&
                                                            (totS l).snd.snd == (0 : Int) &&
                                                          (addR
                                                                  (totS
                                                                      (List.drop (Int.toNat (0 : Int))
                                                                        (List.take
                                                                          ((1 : Int) +
                                                                              u.tmod
                                                                                ((↑l.length : Int) - (1 : Int))).toNat
                                                                          l))).fst
                                                                  (totS
                                                                        (List.drop (Int.toNat (0 : Int))
                                                                          (List.take
                                                                            ((1 : Int) +
                                                                                u.tmod
                                                                                  ((↑l.length : Int) - (1 : Int))).toNat
                                                                            l))).snd.fst
                                                                  (totS
                                                                      (List.drop
                                                                        ((1 : Int) +
                                                                            u.tmod
                                                                              ((↑l.length : Int) - (1 : Int))).toNat
                                                                        (List.take (↑l.length : Int).toNat l))).fst
                                                                  (totS
                                                                        (List.drop
                                                                          ((1 : Int) +
                                                                              u.tmod
                                                                                ((↑l.length : Int) - (1 : Int))).toNat
                                                                          (List.take (↑l.length : Int).toNat
                                                                            l))).snd.fst).snd.snd ==
                                                            (0 : Int) &&
                                                        ((totS l).fst ==
                                                            (addR
                                                                (totS
                                                                    (List.drop (Int.toNat (0 : Int))
                                                                      (List.take
                                                                        ((1 : Int) +
                                                                            u.tmod
                                                                              ((↑l.length : Int) - (1 : Int))).toNat
                                                                        l))).fst
                                                                (totS
                                                                      (List.drop (Int.toNat (0 : Int))
                                                                        (List.take
                                                                          ((1 : Int) +
                                                                              u.tmod
                                                                                ((↑l.length : Int) - (1 : Int))).toNat
                                                                          l))).snd.fst
                                                                (totS
                                                                    (List.drop
                                                                      ((1 : Int) +
                                                                          u.tmod ((↑l.length : Int) - (1 : Int))).toNat
                                                                      (List.take (↑l.length : Int).toNat l))).fst
                                                                (totS
                                                                      (List.drop
                                                                        ((1 : Int) +
                                                                            u.tmod
                                                                              ((↑l.length : Int) - (1 : Int))).toNat
                                                                        (List.take (↑l.length : Int).toNat
                                                                          l))).snd.fst).fst &&
                                                          (totS l).snd.fst ==
                                                            (addR
                                                                  (totS
                                                                      (List.drop (Int.toNat (0 : Int))
                                                                        (List.take
                                                                          ((1 : Int) +
                                                                              u.tmod
                                                                                ((↑l.length : Int) - (1 : Int))).toNat
                                                                          l))).fst
                                                                  (totS
                                                                        (List.drop (Int.toNat (0 : Int))
                                                                          (List.take
                                                                            ((1 : Int) +
                                                                                u.tmod
                                                                                  ((↑l.length : Int) - (1 : Int))).toNat
                                                                            l))).snd.fst
                                                                  (totS
                                                                      (List.drop
                                                                        ((1 : Int) +
                                                                            u.tmod
                                                                              ((↑l.length : Int) - (1 : Int))).toNat
                                                                        (List.take (↑l.length : Int).toNat l))).fst
                                                                  (totS
                                                                        (List.drop
                                                                          ((1 : Int) +
                                                                              u.tmod
                                                                                ((↑l.length : Int) - (1 : Int))).toNat
                                                                          (List.take (↑l.length : Int).toNat
                                                                            l))).snd.fst).snd.fst) &&
                                                      (timeS
                                                              (List.drop (Int.toNat (0 : Int))
                                                                (List.take
                                                                  ((1 : Int) +
                                                                      u.tmod ((↑l.length : Int) - (1 : Int))).toNat
                                                                  l))
                                                              b n d).snd.snd ==
                                                        (0 : Int) &&
                                                    (timeS l b n d).snd.snd == (0 : Int) &&
                                                  ((timeS
                                                          (List.drop (Int.toNat (0 : Int))
                                                            (List.take
                                                              ((1 : Int) + u.tmod ((↑l.length : Int) - (1 : Int))).toNat
                                                              l))
                                                          b n d).fst ==
                                                      (timeS l b n d).fst &&
                                                    (timeS
                                                            (List.drop (Int.toNat (0 : Int))
                                                              (List.take
                                                                ((1 : Int) +
                                                                    u.tmod ((↑l.length : Int) - (1 : Int))).toNat
                                                                l))
                                                            b n d).snd.fst ==
                                                      (timeS l b n d).snd.fst)) =
                                                true)))
def P_Shifts (l : List Bar) (b n d p q x y : Int) : Prop :=
  ((!(decide (l.length ≤ (60 : Nat)) && okBars l) || !posS l b n d) = true → true = true) ∧
    ((!(decide (l.length ≤ (60 : Nat)) && okBars l) || !posS l b n d) = false →
      InI64 p ∧
        (((shiftS l b n d p q).snd.snd.snd != (0 : Int)) = true →
            (true &&
                ((shiftS l b n d p q).fst == (0 : Int) &&
                  ((shiftS l b n d p q).snd.fst == (0 : Int) && (shiftS l b n d p q).snd.snd.fst == (0 : Int)))) =
              true) ∧
          (((shiftS l b n d p q).snd.snd.snd != (0 : Int)) = false →
            InI64 (negW p) ∧
              InI64 x ∧
                (((shiftS l (shiftS l b n d p q).fst (shiftS l b n d p q).snd.fst (shiftS l b n d p q).snd.snd.fst
                                  (negW p) q).snd.snd.snd !=
                          (0 : Int) ||
                        !((shiftS l (shiftS l b n d p q).fst (shiftS l b n d p q).snd.fst
                                  (shiftS l b n d p q).snd.snd.fst (negW p) q).fst ==
                              b &&
                            ((shiftS l (shiftS l b n d p q).fst (shiftS l b n d p q).snd.fst
                                      (shiftS l b n d p q).snd.snd.fst (negW p) q).snd.fst ==
                                n &&
                              (shiftS l (shiftS l b n d p q).fst (shiftS l b n d p q).snd.fst
                                        (shiftS l b n d p q).snd.snd.fst (negW p) q).snd.snd.fst ==
                                d))) =
                      true →
                    false = true) ∧
                  (((shiftS l (shiftS l b n d p q).fst (shiftS l b n d p q).snd.fst (shiftS l b n d p q).snd.snd.fst
                                  (negW p) q).snd.snd.snd !=
                          (0 : Int) ||
                        !((shiftS l (shiftS l b n d p q).fst (shiftS l b n d p q).snd.fst
                                  (shiftS l b n d p q).snd.snd.fst (negW p) q).fst ==
                              b &&
                            ((shiftS l (shiftS l b n d p q).fst (shiftS l b n d p q).snd.fst
                                      (shiftS l b n d p q).snd.snd.fst (negW p) q).snd.fst ==
                                n &&
                              (shiftS l (shiftS l b n d p q).fst (shiftS l b n d p q).snd.fst
                                        (shiftS l b n d p q).snd.snd.fst (negW p) q).snd.snd.fst ==
                                d))) =
                      false →
                    (((addR p q x y).snd.snd != (0 : Int)) = true → true = true) ∧
                      (((addR p q x y).snd.snd != (0 : Int)) = false →
                        InI64 (addR p q x y).fst ∧
                          (true &&
                                ((shiftS l (shiftS l b n d p q).fst (shiftS l b n d p q).snd.fst
                                        (shiftS l b n d p q).snd.snd.fst x y).fst ==
                                    (shiftS l b n d (addR p q x y).fst (addR p q x y).snd.fst).fst &&
                                  ((shiftS l (shiftS l b n d p q).fst (shiftS l b n d p q).snd.fst
                                            (shiftS l b n d p q).snd.snd.fst x y).snd.fst ==
                                      (shiftS l b n d (addR p q x y).fst (addR p q x y).snd.fst).snd.fst &&
                                    (shiftS l (shiftS l b n d p q).fst (shiftS l b n d p q).snd.fst
                                              (shiftS l b n d p q).snd.snd.fst x y).snd.snd.fst ==
                                      (shiftS l b n d (addR p q x y).fst (addR p q x y).snd.fst).snd.snd.fst)) &&
                              (shiftS l (shiftS l b n d p q).fst (shiftS l b n d p q).snd.fst
                                        (shiftS l b n d p q).snd.snd.fst x y).snd.snd.snd ==
                                (shiftS l b n d (addR p q x y).fst (addR p q x y).snd.fst).snd.snd.snd) =
                            true))))
end Go.Proofs.Ythnboahemgmfnaa
