/- What is to be shown of each function, in plain terms. Written by a program (wip/tools/gen.py). -/
import Derived.Test.YtdkggjgmlccjcaaFoldlc
namespace Go.Proofs.Ytdkggjgmlccjcaa
open Go.Sy Go.RatLaw
set_option linter.unusedVariables false

def P_example  : Prop :=
  (∃ (x : Nat),
    x ≤ (6 : Nat) ∧ (0 : Int) = (↑x : Int) ∧ (0 : Int) = (0 : Int) ∧ (0 : Nat) = (exPre x).length ∧ [] = exPre x) ∧
  ∀ (x : Nat),
    x ≤ (6 : Nat) →
      (decide ((↑x : Int) < (6 : Int)) = true →
          InI64 ((↑x : Int) + (1 : Int)) ∧
            (exPre x).length = (exPre x).length ∧
              ((exPre x).length + ((0 : Nat) + (1 : Nat))) * (56 : Nat) ≤ (140737488355328 : Nat) ∧
                InI64 ((↑x : Int) + (1 : Int)) ∧
                  ∃ (x' : Nat),
                    x' ≤ (6 : Nat) ∧
                      (6 : Nat) - x' < (6 : Nat) - x ∧
                        (↑x : Int) + (1 : Int) = (↑x' : Int) ∧
                          (0 : Int) = (0 : Int) ∧
                            (exPre x).length + ((0 : Nat) + (1 : Nat)) = (exPre x').length ∧
                              exPre x ++ [((↑x : Int) + (1 : Int), (0 : Int), ((4 : Int), (1 : Int)), [])] = exPre x' ∧
                                (0 : Int) = (0 : Int) ∧
                                  (0 : Nat) = (0 : Nat) ∧
                                    nl
                                        (Int ×
                                          Int ×
                                            (Int × Int) ×
                                              List (Int × Int × Int × (Int × Int) × (Int × Int) × Int × Int × Int)) =
                                      nl
                                        (Int ×
                                          Int ×
                                            (Int × Int) ×
                                              List (Int × Int × Int × (Int × Int) × (Int × Int) × Int × Int × Int))) ∧
        (decide ((↑x : Int) < (6 : Int)) = false →
          (0 : Int) ≤ (2 : Int) ∧
            (2 : Int) < (↑(exPre x).length : Int) ∧
              (exPre x).length = (exPre x).length ∧
                (exPre x).length = (exPre x).length ∧
                  Int.toNat (2 : Int) < (exPre x).length ∧
                    (exPre x).length = (exPre x).length ∧
                      Int.toNat (2 : Int) < (exPre x).length ∧
                        (0 : Int) ≤ (5 : Int) ∧
                          (5 : Int) <
                              (↑((exPre x).set (Int.toNat (2 : Int))
                                      (((exPre x).getD (Int.toNat (2 : Int)) MT.d0).fst,
                                        ((exPre x).getD (Int.toNat (2 : Int)) MT.d0).snd.fst,
                                        (((exPre x).getD (Int.toNat (2 : Int)) MT.d0).snd.snd.fst.fst,
                                          ((exPre x).getD (Int.toNat (2 : Int)) MT.d0).snd.snd.fst.snd),
                                        [((1 : Int), (0 : Int), (0 : Int), ((0 : Int), (0 : Int)),
                                            ((0 : Int), (0 : Int)), (0 : Int), (0 : Int), (0 : Int)),
                                          ((2 : Int), (0 : Int), (0 : Int), ((1 : Int), (2 : Int)),
                                            ((0 : Int), (0 : Int)), (0 : Int), (0 : Int), (0 : Int)),
                                          ((3 : Int), (0 : Int), (0 : Int), ((0 : Int), (0 : Int)),
                                            ((0 : Int), (0 : Int)), (0 : Int), (0 : Int), (0 : Int))])).length :
                                Int) ∧
                            (exPre x).length =
                                ((exPre x).set (Int.toNat (2 : Int))
                                    (((exPre x).getD (Int.toNat (2 : Int)) MT.d0).fst,
                                      ((exPre x).getD (Int.toNat (2 : Int)) MT.d0).snd.fst,
                                      (((exPre x).getD (Int.toNat (2 : Int)) MT.d0).snd.snd.fst.fst,
                                        ((exPre x).getD (Int.toNat (2 : Int)) MT.d0).snd.snd.fst.snd),
                                      [((1 : Int), (0 : Int), (0 : Int), ((0 : Int), (0 : Int)), ((0 : Int), (0 : Int)),
                                          (0 : Int), (0 : Int), (0 : Int)),
                                        ((2 : Int), (0 : Int), (0 : Int), ((1 : Int), (2 : Int)),
                                          ((0 : Int), (0 : Int)), (0 : Int), (0 : Int), (0 : Int)),
                                        ((3 : Int), (0 : Int), (0 : Int), ((0 : Int), (0 : Int)),
                                          ((0 : Int), (0 : Int)), (0 : Int), (0 : Int), (0 : Int))])).length ∧
                              ((exPre x).set (Int.toNat (2 : Int))
                                      (((exPre x).getD (Int.toNat (2 : Int)) MT.d0).fst,
                                        ((exPre x).getD (Int.toNat (2 : Int)) MT.d0).snd.fst,
                                        (((exPre x).getD (Int.toNat (2 : Int)) MT.d0).snd.snd.fst.fst,
                                          ((exPre x).getD (Int.toNat (2 : Int)) MT.d0).snd.snd.fst.snd),
                                        [((1 : Int), (0 : Int), (0 : Int), ((0 : Int), (0 : Int)),
                                            ((0 : Int), (0 : Int)), (0 : Int), (0 : Int), (0 : Int)),
                                          ((2 : Int), (0 : Int), (0 : Int), ((1 : Int), (2 : Int)),
                                            ((0 : Int), (0 : Int)), (0 : Int), (0 : Int), (0 : Int)),
                                          ((3 : Int), (0 : Int), (0 : Int), ((0 : Int), (0 : Int)),
                                            ((0 : Int), (0 : Int)), (0 : Int), (0 : Int), (0 : Int))])).length =
                                  ((exPre x).set (Int.toNat (2 : Int))
                                      (((exPre x).getD (Int.toNat (2 : Int)) MT.d0).fst,
                                        ((exPre x).getD (Int.toNat (2 : Int)) MT.d0).snd.fst,
                                        (((exPre x).getD (Int.toNat (2 : Int)) MT.d0).snd.snd.fst.fst,
                                          ((exPre x).getD (Int.toNat (2 : Int)) MT.d0).snd.snd.fst.snd),
                                        [((1 : Int), (0 : Int), (0 : Int), ((0 : Int), (0 : Int)),
                                            ((0 : Int), (0 : Int)), (0 : Int), (0 : Int), (0 : Int)),
                                          ((2 : Int), (0 : Int), (0 : Int), ((1 : Int), (2 : Int)),
                                            ((0 : Int), (0 : Int)), (0 : Int), (0 : Int), (0 : Int)),
                                          ((3 : Int), (0 : Int), (0 : Int), ((0 : Int), (0 : Int)),
                                            ((0 : Int), (0 : Int)), (0 : Int), (0 : Int), (0 : Int))])).length ∧
                                Int.toNat (5 : Int) <
                                    ((exPre x).set (Int.toNat (2 : Int))
                                        (((exPre x).getD (Int.toNat (2 : Int)) MT.d0).fst,
                                          ((exPre x).getD (Int.toNat (2 : Int)) MT.d0).snd.fst,
                                          (((exPre x).getD (Int.toNat (2 : Int)) MT.d0).snd.snd.fst.fst,
                                            ((exPre x).getD (Int.toNat (2 : Int)) MT.d0).snd.snd.fst.snd),
                                          [((1 : Int), (0 : Int), (0 : Int), ((0 : Int), (0 : Int)),
                                              ((0 : Int), (0 : Int)), (0 : Int), (0 : Int), (0 : Int)),
                                            ((2 : Int), (0 : Int), (0 : Int), ((1 : Int), (2 : Int)),
                                              ((0 : Int), (0 : Int)), (0 : Int), (0 : Int), (0 : Int)),
                                            ((3 : Int), (0 : Int), (0 : Int), ((0 : Int), (0 : Int)),
                                              ((0 : Int), (0 : Int)), (0 : Int), (0 : Int), (0 : Int))])).length ∧
                                  ((exPre x).set (Int.toNat (2 : Int))
                                          (((exPre x).getD (Int.toNat (2 : Int)) MT.d0).fst,
                                            ((exPre x).getD (Int.toNat (2 : Int)) MT.d0).snd.fst,
                                            (((exPre x).getD (Int.toNat (2 : Int)) MT.d0).snd.snd.fst.fst,
                                              ((exPre x).getD (Int.toNat (2 : Int)) MT.d0).snd.snd.fst.snd),
                                            [((1 : Int), (0 : Int), (0 : Int), ((0 : Int), (0 : Int)),
                                                ((0 : Int), (0 : Int)), (0 : Int), (0 : Int), (0 : Int)),
                                              ((2 : Int), (0 : Int), (0 : Int), ((1 : Int), (2 : Int)),
                                                ((0 : Int), (0 : Int)), (0 : Int), (0 : Int), (0 : Int)),
                                              ((3 : Int), (0 : Int), (0 : Int), ((0 : Int), (0 : Int)),
                                                ((0 : Int), (0 : Int)), (0 : Int), (0 : Int), (0 : Int))])).length =
                                      ((exPre x).set (Int.toNat (2 : Int))
                                          (((exPre x).getD (Int.toNat (2 : Int)) MT.d0).fst,
                                            ((exPre x).getD (Int.toNat (2 : Int)) MT.d0).snd.fst,
                                            (((exPre x).getD (Int.toNat (2 : Int)) MT.d0).snd.snd.fst.fst,
                                              ((exPre x).getD (Int.toNat (2 : Int)) MT.d0).snd.snd.fst.snd),
                                            [((1 : Int), (0 : Int), (0 : Int), ((0 : Int), (0 : Int)),
                                                ((0 : Int), (0 : Int)), (0 : Int), (0 : Int), (0 : Int)),
                                              ((2 : Int), (0 : Int), (0 : Int), ((1 : Int), (2 : Int)),
                                                ((0 : Int), (0 : Int)), (0 : Int), (0 : Int), (0 : Int)),
                                              ((3 : Int), (0 : Int), (0 : Int), ((0 : Int), (0 : Int)),
                                                ((0 : Int), (0 : Int)), (0 : Int), (0 : Int), (0 : Int))])).length ∧
                                    Int.toNat (5 : Int) <
                                        ((exPre x).set (Int.toNat (2 : Int))
                                            (((exPre x).getD (Int.toNat (2 : Int)) MT.d0).fst,
                                              ((exPre x).getD (Int.toNat (2 : Int)) MT.d0).snd.fst,
                                              (((exPre x).getD (Int.toNat (2 : Int)) MT.d0).snd.snd.fst.fst,
                                                ((exPre x).getD (Int.toNat (2 : Int)) MT.d0).snd.snd.fst.snd),
                                              [((1 : Int), (0 : Int), (0 : Int), ((0 : Int), (0 : Int)),
                                                  ((0 : Int), (0 : Int)), (0 : Int), (0 : Int), (0 : Int)),
                                                ((2 : Int), (0 : Int), (0 : Int), ((1 : Int), (2 : Int)),
                                                  ((0 : Int), (0 : Int)), (0 : Int), (0 : Int), (0 : Int)),
                                                ((3 : Int), (0 : Int), (0 : Int), ((0 : Int), (0 : Int)),
                                                  ((0 : Int), (0 : Int)), (0 : Int), (0 : Int), (0 : Int))])).length ∧
                                      (exPre x).length =
                                          (((exPre x).set (Int.toNat (2 : Int))
                                                  (((exPre x).getD (Int.toNat (2 : Int)) MT.d0).fst,
                                                    ((exPre x).getD (Int.toNat (2 : Int)) MT.d0).snd.fst,
                                                    (((exPre x).getD (Int.toNat (2 : Int)) MT.d0).snd.snd.fst.fst,
                                                      ((exPre x).getD (Int.toNat (2 : Int)) MT.d0).snd.snd.fst.snd),
                                                    [((1 : Int), (0 : Int), (0 : Int), ((0 : Int), (0 : Int)),
                                                        ((0 : Int), (0 : Int)), (0 : Int), (0 : Int), (0 : Int)),
                                                      ((2 : Int), (0 : Int), (0 : Int), ((1 : Int), (2 : Int)),
                                                        ((0 : Int), (0 : Int)), (0 : Int), (0 : Int), (0 : Int)),
                                                      ((3 : Int), (0 : Int), (0 : Int), ((0 : Int), (0 : Int)),
                                                        ((0 : Int), (0 : Int)), (0 : Int), (0 : Int), (0 : Int))])).set
                                              (Int.toNat (5 : Int))
                                              ((((exPre x).set (Int.toNat (2 : Int))
                                                        (((exPre x).getD (Int.toNat (2 : Int)) MT.d0).fst,
                                                          ((exPre x).getD (Int.toNat (2 : Int)) MT.d0).snd.fst,
                                                          (((exPre x).getD (Int.toNat (2 : Int)) MT.d0).snd.snd.fst.fst,
                                                            ((exPre x).getD (Int.toNat (2 : Int))
                                                                      MT.d0).snd.snd.fst.snd),
                                                          [((1 : Int), (0 : Int), (0 : Int), ((0 : Int), (0 : Int)),
                                                              ((0 : Int), (0 : Int)), (0 : Int), (0 : Int), (0 : Int)),
                                                            ((2 : Int), (0 : Int), (0 : Int), ((1 : Int), (2 : Int)),
                                                              ((0 : Int), (0 : Int)), (0 : Int), (0 : Int), (0 : Int)),
                                                            ((3 : Int), (0 : Int), (0 : Int), ((0 : Int), (0 : Int)),
                                                              ((0 : Int), (0 : Int)), (0 : Int), (0 : Int),
                                                              (0 : Int))])).getD
                                                    (Int.toNat (5 : Int)) MT.d0).fst,
                                                (2 : Int),
                                                ((((exPre x).set (Int.toNat (2 : Int))
                                                                (((exPre x).getD (Int.toNat (2 : Int)) MT.d0).fst,
                                                                  ((exPre x).getD (Int.toNat (2 : Int)) MT.d0).snd.fst,
                                                                  (((exPre x).getD (Int.toNat (2 : Int))
                                                                              MT.d0).snd.snd.fst.fst,
                                                                    ((exPre x).getD (Int.toNat (2 : Int))
                                                                              MT.d0).snd.snd.fst.snd),
                                                                  [((1 : Int), (0 : Int), (0 : Int),
                                                                      ((0 : Int), (0 : Int)), ((0 : Int), (0 : Int)),
                                                                      (0 : Int), (0 : Int), (0 : Int)),
                                                                    ((2 : Int), (0 : Int), (0 : Int),
                                                                      ((1 : Int), (2 : Int)), ((0 : Int), (0 : Int)),
                                                                      (0 : Int), (0 : Int), (0 : Int)),
                                                                    ((3 : Int), (0 : Int), (0 : Int),
                                                                      ((0 : Int), (0 : Int)), ((0 : Int), (0 : Int)),
                                                                      (0 : Int), (0 : Int), (0 : Int))])).getD
                                                            (Int.toNat (5 : Int)) MT.d0).snd.snd.fst.fst,
                                                  (((exPre x).set (Int.toNat (2 : Int))
                                                                (((exPre x).getD (Int.toNat (2 : Int)) MT.d0).fst,
                                                                  ((exPre x).getD (Int.toNat (2 : Int)) MT.d0).snd.fst,
                                                                  (((exPre x).getD (Int.toNat (2 : Int))
                                                                              MT.d0).snd.snd.fst.fst,
                                                                    ((exPre x).getD (Int.toNat (2 : Int))
                                                                              MT.d0).snd.snd.fst.snd),
                                                                  [((1 : Int), (0 : Int), (0 : Int),
                                                                      ((0 : Int), (0 : Int)), ((0 : Int), (0 : Int)),
                                                                      (0 : Int), (0 : Int), (0 : Int)),
                                                                    ((2 : Int), (0 : Int), (0 : Int),
                                                                      ((1 : Int), (2 : Int)), ((0 : Int), (0 : Int)),
                                                                      (0 : Int), (0 : Int), (0 : Int)),
                                                                    ((3 : Int), (0 : Int), (0 : Int),
                                                                      ((0 : Int), (0 : Int)), ((0 : Int), (0 : Int)),
                                                                      (0 : Int), (0 : Int), (0 : Int))])).getD
                                                            (Int.toNat (5 : Int)) MT.d0).snd.snd.fst.snd),
                                                (((exPre x).set (Int.toNat (2 : Int))
                                                            (((exPre x).getD (Int.toNat (2 : Int)) MT.d0).fst,
                                                              ((exPre x).getD (Int.toNat (2 : Int)) MT.d0).snd.fst,
                                                              (((exPre x).getD (Int.toNat (2 : Int))
                                                                          MT.d0).snd.snd.fst.fst,
                                                                ((exPre x).getD (Int.toNat (2 : Int))
                                                                          MT.d0).snd.snd.fst.snd),
                                                              [((1 : Int), (0 : Int), (0 : Int), ((0 : Int), (0 : Int)),
                                                                  ((0 : Int), (0 : Int)), (0 : Int), (0 : Int),
                                                                  (0 : Int)),
                                                                ((2 : Int), (0 : Int), (0 : Int),
                                                                  ((1 : Int), (2 : Int)), ((0 : Int), (0 : Int)),
                                                                  (0 : Int), (0 : Int), (0 : Int)),
                                                                ((3 : Int), (0 : Int), (0 : Int),
                                                                  ((0 : Int), (0 : Int)), ((0 : Int), (0 : Int)),
                                                                  (0 : Int), (0 : Int), (0 : Int))])).getD
                                                        (Int.toNat (5 : Int)) MT.d0).snd.snd.snd)).length ∧
                                        (0 : Int) = (0 : Int) ∧
                                          ((exPre x).set (Int.toNat (2 : Int))
                                                  (((exPre x).getD (Int.toNat (2 : Int)) MT.d0).fst,
                                                    ((exPre x).getD (Int.toNat (2 : Int)) MT.d0).snd.fst,
                                                    (((exPre x).getD (Int.toNat (2 : Int)) MT.d0).snd.snd.fst.fst,
                                                      ((exPre x).getD (Int.toNat (2 : Int)) MT.d0).snd.snd.fst.snd),
                                                    [((1 : Int), (0 : Int), (0 : Int), ((0 : Int), (0 : Int)),
                                                        ((0 : Int), (0 : Int)), (0 : Int), (0 : Int), (0 : Int)),
                                                      ((2 : Int), (0 : Int), (0 : Int), ((1 : Int), (2 : Int)),
                                                        ((0 : Int), (0 : Int)), (0 : Int), (0 : Int), (0 : Int)),
                                                      ((3 : Int), (0 : Int), (0 : Int), ((0 : Int), (0 : Int)),
                                                        ((0 : Int), (0 : Int)), (0 : Int), (0 : Int), (0 : Int))])).set
                                              (Int.toNat (5 : Int))
                                              ((((exPre x).set (Int.toNat (2 : Int))
                                                        (((exPre x).getD (Int.toNat (2 : Int)) MT.d0).fst,
                                                          ((exPre x).getD (Int.toNat (2 : Int)) MT.d0).snd.fst,
                                                          (((exPre x).getD (Int.toNat (2 : Int)) MT.d0).snd.snd.fst.fst,
                                                            ((exPre x).getD (Int.toNat (2 : Int))
                                                                      MT.d0).snd.snd.fst.snd),
                                                          [((1 : Int), (0 : Int), (0 : Int), ((0 : Int), (0 : Int)),
                                                              ((0 : Int), (0 : Int)), (0 : Int), (0 : Int), (0 : Int)),
                                                            ((2 : Int), (0 : Int), (0 : Int), ((1 : Int), (2 : Int)),
                                                              ((0 : Int), (0 : Int)), (0 : Int), (0 : Int), (0 : Int)),
                                                            ((3 : Int), (0 : Int), (0 : Int), ((0 : Int), (0 : Int)),
                                                              ((0 : Int), (0 : Int)), (0 : Int), (0 : Int),
                                                              (0 : Int))])).getD
                                                    (Int.toNat (5 : Int)) MT.d0).fst,
                                                (2 : Int),
                                                ((((exPre x).set (Int.toNat (2 : Int))
                                                                (((exPre x).getD (Int.toNat (2 : Int)) MT.d0).fst,
                                                                  ((exPre x).getD (Int.toNat (2 : Int)) MT.d0).snd.fst,
                                                                  (((exPre x).getD (Int.toNat (2 : Int))
                                                                              MT.d0).snd.snd.fst.fst,
                                                                    ((exPre x).getD (Int.toNat (2 : Int))
                                                                              MT.d0).snd.snd.fst.snd),
                                                                  [((1 : Int), (0 : Int), (0 : Int),
                                                                      ((0 : Int), (0 : Int)), ((0 : Int), (0 : Int)),
                                                                      (0 : Int), (0 : Int), (0 : Int)),
                                                                    ((2 : Int), (0 : Int), (0 : Int),
                                                                      ((1 : Int), (2 : Int)), ((0 : Int), (0 : Int)),
                                                                      (0 : Int), (0 : Int), (0 : Int)),
                                                                    ((3 : Int), (0 : Int), (0 : Int),
                                                                      ((0 : Int), (0 : Int)), ((0 : Int), (0 : Int)),
                                                                      (0 : Int), (0 : Int), (0 : Int))])).getD
                                                            (Int.toNat (5 : Int)) MT.d0).snd.snd.fst.fst,
                                                  (((exPre x).set (Int.toNat (2 : Int))
                                                                (((exPre x).getD (Int.toNat (2 : Int)) MT.d0).fst,
                                                                  ((exPre x).getD (Int.toNat (2 : Int)) MT.d0).snd.fst,
                                                                  (((exPre x).getD (Int.toNat (2 : Int))
                                                                              MT.d0).snd.snd.fst.fst,
                                                                    ((exPre x).getD (Int.toNat (2 : Int))
                                                                              MT.d0).snd.snd.fst.snd),
                                                                  [((1 : Int), (0 : Int), (0 : Int),
                                                                      ((0 : Int), (0 : Int)), ((0 : Int), (0 : Int)),
                                                                      (0 : Int), (0 : Int), (0 : Int)),
                                                                    ((2 : Int), (0 : Int), (0 : Int),
                                                                      ((1 : Int), (2 : Int)), ((0 : Int), (0 : Int)),
                                                                      (0 : Int), (0 : Int), (0 : Int)),
                                                                    ((3 : Int), (0 : Int), (0 : Int),
                                                                      ((0 : Int), (0 : Int)), ((0 : Int), (0 : Int)),
                                                                      (0 : Int), (0 : Int), (0 : Int))])).getD
                                                            (Int.toNat (5 : Int)) MT.d0).snd.snd.fst.snd),
                                                (((exPre x).set (Int.toNat (2 : Int))
                                                            (((exPre x).getD (Int.toNat (2 : Int)) MT.d0).fst,
                                                              ((exPre x).getD (Int.toNat (2 : Int)) MT.d0).snd.fst,
                                                              (((exPre x).getD (Int.toNat (2 : Int))
                                                                          MT.d0).snd.snd.fst.fst,
                                                                ((exPre x).getD (Int.toNat (2 : Int))
                                                                          MT.d0).snd.snd.fst.snd),
                                                              [((1 : Int), (0 : Int), (0 : Int), ((0 : Int), (0 : Int)),
                                                                  ((0 : Int), (0 : Int)), (0 : Int), (0 : Int),
                                                                  (0 : Int)),
                                                                ((2 : Int), (0 : Int), (0 : Int),
                                                                  ((1 : Int), (2 : Int)), ((0 : Int), (0 : Int)),
                                                                  (0 : Int), (0 : Int), (0 : Int)),
                                                                ((3 : Int), (0 : Int), (0 : Int),
                                                                  ((0 : Int), (0 : Int)), ((0 : Int), (0 : Int)),
                                                                  (0 : Int), (0 : Int), (0 : Int))])).getD
                                                        (Int.toNat (5 : Int)) MT.d0).snd.snd.snd) =
                                            exMs)
def P_head  : Prop :=
  ((foldS exMs []).snd == (0 : Int) && (foldS exMs [(2 : Int), (1 : Int)]).snd == (0 : Int) &&
                    (unfoldS (foldS exMs []).fst).snd == (0 : Int) &&
                  (widthsS exMs (foldS exMs []).fst).snd == (0 : Int) &&
                (foldS exMs [(6 : Int)]).snd == (1 : Int) &&
              (widthsS exMs [((1 : Int), (2 : Int))]).snd == (1 : Int) &&
            (unfoldS [((1 : Int), (2 : Int)), ((2 : Int), (0 : Int))]).snd == (1 : Int) &&
          sameL (foldS exMs []).fst
            [((0 : Int), (2 : Int)), ((2 : Int), (0 : Int)), ((3 : Int), (2 : Int)), ((5 : Int), (1 : Int))] &&
        sameIL (unfoldS (foldS exMs []).fst).fst [(0 : Int), (1 : Int), (2 : Int), (3 : Int), (4 : Int), (5 : Int)] &&
      sameIL (widthsS exMs (foldS exMs []).fst).fst [(30 : Int), (40 : Int), (30 : Int), (20 : Int)] &&
    sameL (foldS exMs [(2 : Int), (1 : Int)]).fst
      [((0 : Int), (1 : Int)), ((1 : Int), (1 : Int)), ((2 : Int), (0 : Int)), ((3 : Int), (2 : Int)),
        ((5 : Int), (1 : Int))]) =
  true
def P_usable (p : Int) (ms : List Ms) (l : List Int) : Prop :=
  ((!fewB ms || !viewB ms) = false → (↑l.length : Int) ≤ (9223372036854775807 : Int)) →
    ((!fewB ms || !viewB ms || decide ((↑l.length : Int) > (60 : Int))) = true →
        [] = (useS ms l).fst ∧ false = (useS ms l).snd) ∧
      ((!fewB ms || !viewB ms || decide ((↑l.length : Int) > (60 : Int))) = false →
        (↑l.length : Int) ≤ (9223372036854775807 : Int) →
          (∃ (x : Nat),
              x ≤ l.length ∧
                (0 : Int) = (↑x : Int) ∧
                  [] = stopsS ms (List.take x l) ∧ (0 : Nat) = (stopsS ms (List.take x l)).length) ∧
            ∀ (x : Nat),
              x ≤ l.length →
                (decide ((↑x : Int) < (↑l.length : Int)) = true →
                    (0 : Int) ≤ (↑x : Int) ∧
                      (↑x : Int) < (↑l.length : Int) ∧
                        ((↑ms.length : Int) ≤ (9223372036854775807 : Int) →
                          (decide ((↑ms.length : Int) > (0 : Int)) = true →
                              InI64 (l.getD (↑x : Int).toNat (Ty.ti IntKind.u8).d0) ∧
                                ((↑ms.length : Int) ≤ (9223372036854775807 : Int) →
                                  (↑ms.length : Int) ≠ (0 : Int) ∧
                                    (stopsS ms (List.take x l)).length = (stopsS ms (List.take x l)).length ∧
                                      ((stopsS ms (List.take x l)).length + ((0 : Nat) + (1 : Nat))) * (8 : Nat) ≤
                                          (140737488355328 : Nat) ∧
                                        InI64 ((↑x : Int) + (1 : Int)) ∧
                                          ∃ (x' : Nat),
                                            x' ≤ l.length ∧
                                              l.length - x' < l.length - x ∧
                                                (↑x : Int) + (1 : Int) = (↑x' : Int) ∧
                                                  stopsS ms (List.take x l) ++
                                                        [Int.tmod (l.getD (↑x : Int).toNat (Ty.ti IntKind.u8).d0)
                                                            (↑ms.length : Int)] =
                                                      stopsS ms (List.take x' l) ∧
                                                    (↑l.length : Int) = (↑l.length : Int) ∧
                                                      l = l ∧
                                                        (!fewB ms || !viewB ms ||
                                                              decide ((↑l.length : Int) > (60 : Int))) =
                                                            (!fewB ms || !viewB ms ||
                                                              decide ((↑l.length : Int) > (60 : Int))) ∧
                                                          false = false ∧
                                                            nl Int = nl Int ∧
                                                              p = p ∧
                                                                ms = ms ∧
                                                                  l = l ∧
                                                                    (stopsS ms (List.take x l)).length +
                                                                          ((0 : Nat) + (1 : Nat)) =
                                                                        (stopsS ms (List.take x' l)).length ∧
                                                                      (0 : Nat) = (0 : Nat) ∧ p = p ∧ ms = ms)) ∧
                            (decide ((↑ms.length : Int) > (0 : Int)) = false →
                              InI64 ((↑x : Int) + (1 : Int)) ∧
                                ∃ (x' : Nat),
                                  x' ≤ l.length ∧
                                    l.length - x' < l.length - x ∧
                                      (↑x : Int) + (1 : Int) = (↑x' : Int) ∧
                                        stopsS ms (List.take x l) = stopsS ms (List.take x' l) ∧
                                          (↑l.length : Int) = (↑l.length : Int) ∧
                                            l = l ∧
                                              (!fewB ms || !viewB ms || decide ((↑l.length : Int) > (60 : Int))) =
                                                  (!fewB ms || !viewB ms || decide ((↑l.length : Int) > (60 : Int))) ∧
                                                false = false ∧
                                                  nl Int = nl Int ∧
                                                    p = p ∧
                                                      ms = ms ∧
                                                        l = l ∧
                                                          (stopsS ms (List.take x l)).length =
                                                              (stopsS ms (List.take x' l)).length ∧
                                                            (0 : Nat) = (0 : Nat) ∧ p = p ∧ ms = ms))) ∧
                  (decide ((↑x : Int) < (↑l.length : Int)) = false →
                    stopsS ms (List.take x l) = (useS ms l).fst ∧ true = (useS ms l).snd))
def P_FMatches (p : Int) (ms : List Ms) (st : List Int) (l : List Bk) : Prop :=
  ((!fewB ms) = false → (↑l.length : Int) ≤ (9223372036854775807 : Int)) →
    ((!fewB ms || decide ((↑l.length : Int) > (60 : Int))) = false → (↑st.length : Int) ≤ (9223372036854775807 : Int)) →
      (decide ((↑st.length : Int) > (60 : Int)) = true ∧ (!fewB ms || decide ((↑l.length : Int) > (60 : Int))) = false →
          (↑st.length : Int) ≤ (9223372036854775807 : Int)) →
        ((!fewB ms || decide ((↑l.length : Int) > (60 : Int)) ||
                decide ((↑st.length : Int) > (60 : Int)) && decide ((↑st.length : Int) ≤ (4000 : Int))) =
              true →
            true = true) ∧
          ((!fewB ms || decide ((↑l.length : Int) > (60 : Int)) ||
                decide ((↑st.length : Int) > (60 : Int)) && decide ((↑st.length : Int) ≤ (4000 : Int))) =
              false →
            (true && sameL (foldS ms st).fst (foldS ms st).fst && (foldS ms st).snd == (foldS ms st).snd &&
                      sameIL (unfoldS l).fst (unfoldS l).fst &&
                    (unfoldS l).snd == (unfoldS l).snd &&
                  sameIL (widthsS ms l).fst (widthsS ms l).fst &&
                (widthsS ms l).snd == (widthsS ms l).snd) =
              true)
end Go.Proofs.Ytdkggjgmlccjcaa
