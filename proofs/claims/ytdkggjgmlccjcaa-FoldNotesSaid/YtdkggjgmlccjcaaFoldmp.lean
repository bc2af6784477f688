/- What is to be shown of each function, in plain terms. Written by a program (wip/tools/gen.py). -/
import Derived.Test.YtdkggjgmlccjcaaFoldmc
namespace Go.Proofs.Ytdkggjgmlccjcaa
open Go.Sy Go.RatLaw
set_option linter.unusedVariables false

def P_FAll (p : Int) (ms : List Ms) (l : List Int) : Prop :=
  bytesB l ∧
    ((!(useS ms l).snd) = true → true = true) ∧
      ((!(useS ms l).snd) = false →
        (((foldS ms (useS ms l).fst).snd != (0 : Int) || (unfoldS (foldS ms (useS ms l).fst).fst).snd != (0 : Int)) =
              false →
            (↑(unfoldS (foldS ms (useS ms l).fst).fst).fst.length : Int) ≤ (9223372036854775807 : Int)) →
          (((foldS ms (useS ms l).fst).snd != (0 : Int) || (unfoldS (foldS ms (useS ms l).fst).fst).snd != (0 : Int)) =
                false →
              (↑ms.length : Int) ≤ (9223372036854775807 : Int)) →
            (((foldS ms (useS ms l).fst).snd != (0 : Int) ||
                      (unfoldS (foldS ms (useS ms l).fst).fst).snd != (0 : Int) ||
                    (↑(unfoldS (foldS ms (useS ms l).fst).fst).fst.length : Int) != (↑ms.length : Int)) =
                  true →
                false = true) ∧
              (((foldS ms (useS ms l).fst).snd != (0 : Int) ||
                      (unfoldS (foldS ms (useS ms l).fst).fst).snd != (0 : Int) ||
                    (↑(unfoldS (foldS ms (useS ms l).fst).fst).fst.length : Int) != (↑ms.length : Int)) =
                  false →
                (↑(unfoldS (foldS ms (useS ms l).fst).fst).fst.length : Int) ≤ (9223372036854775807 : Int) →
                  (∃ (x : Nat),
                      x ≤ (unfoldS (foldS ms (useS ms l).fst).fst).fst.length ∧ (0 : Int) = (↑x : Int) ∧ true = true) ∧
                    ∀ (x : Nat),
                      x ≤ (unfoldS (foldS ms (useS ms l).fst).fst).fst.length →
                        (decide ((↑x : Int) < (↑(unfoldS (foldS ms (useS ms l).fst).fst).fst.length : Int)) = true →
                            (0 : Int) ≤ (↑x : Int) ∧
                              (↑x : Int) < (↑(unfoldS (foldS ms (useS ms l).fst).fst).fst.length : Int) ∧
                                InI64 ((↑x : Int) + (1 : Int)) ∧
                                  ∃ (x' : Nat),
                                    x' ≤ (unfoldS (foldS ms (useS ms l).fst).fst).fst.length ∧
                                      (unfoldS (foldS ms (useS ms l).fst).fst).fst.length - x' <
                                          (unfoldS (foldS ms (useS ms l).fst).fst).fst.length - x ∧
                                        (↑x : Int) + (1 : Int) = (↑x' : Int) ∧
                                          (true &&
                                                (unfoldS (foldS ms (useS ms l).fst).fst).fst.getD (↑x : Int).toNat
                                                    (Ty.ti IntKind.i64).d0 ==
                                                  (↑x : Int)) =
                                              true ∧
                                            (↑(unfoldS (foldS ms (useS ms l).fst).fst).fst.length : Int) =
                                                (↑(unfoldS (foldS ms (useS ms l).fst).fst).fst.length : Int) ∧
                                              (unfoldS (foldS ms (useS ms l).fst).fst).fst =
                                                  (unfoldS (foldS ms (useS ms l).fst).fst).fst ∧
                                                ((foldS ms (useS ms l).fst).snd != (0 : Int) ||
                                                        (unfoldS (foldS ms (useS ms l).fst).fst).snd != (0 : Int) ||
                                                      (↑(unfoldS (foldS ms (useS ms l).fst).fst).fst.length : Int) !=
                                                        (↑ms.length : Int)) =
                                                    ((foldS ms (useS ms l).fst).snd != (0 : Int) ||
                                                        (unfoldS (foldS ms (useS ms l).fst).fst).snd != (0 : Int) ||
                                                      (↑(unfoldS (foldS ms (useS ms l).fst).fst).fst.length : Int) !=
                                                        (↑ms.length : Int)) ∧
                                                  (unfoldS (foldS ms (useS ms l).fst).fst).snd =
                                                      (unfoldS (foldS ms (useS ms l).fst).fst).snd ∧
                                                    (unfoldS (foldS ms (useS ms l).fst).fst).fst =
                                                        (unfoldS (foldS ms (useS ms l).fst).fst).fst ∧
                                                      (foldS ms (useS ms l).fst).snd = (foldS ms (useS ms l).fst).snd ∧
                                                        (foldS ms (useS ms l).fst).fst =
                                                            (foldS ms (useS ms l).fst).fst ∧
                                                          (!(useS ms l).snd) = !(useS ms l).snd ∧
                                                            (useS ms l).snd = (useS ms l).snd ∧
                                                              (useS ms l).fst = (useS ms l).fst ∧
                                                                false = false ∧
                                                                  p = p ∧ ms = ms ∧ l = l ∧ p = p ∧ ms = ms) ∧
                          (decide ((↑x : Int) < (↑(unfoldS (foldS ms (useS ms l).fst).fst).fst.length : Int)) = false →
                            (↑(foldS ms (useS ms l).fst).fst.length : Int) ≤ (9223372036854775807 : Int) →
                              (∃ (x : Nat),
                                  x ≤ (foldS ms (useS ms l).fst).fst.length ∧ (0 : Int) = (↑x : Int) ∧ true = true) ∧
                                ∀ (x_1 : Nat),
                                  x_1 ≤ (foldS ms (useS ms l).fst).fst.length →
                                    (decide ((↑x_1 : Int) < (↑(foldS ms (useS ms l).fst).fst.length : Int)) = true →
                                        (0 : Int) ≤ (↑x_1 : Int) ∧
                                          (↑x_1 : Int) < (↑(foldS ms (useS ms l).fst).fst.length : Int) ∧
                                            ((decide
                                                    (((foldS ms (useS ms l).fst).fst.getD (↑x_1 : Int).toNat
                                                          KT.d0).fst <
                                                      (0 : Int)) =
                                                  false →
                                                (↑ms.length : Int) ≤ (9223372036854775807 : Int)) →
                                              ((decide
                                                        (((foldS ms (useS ms l).fst).fst.getD (↑x_1 : Int).toNat
                                                              KT.d0).fst <
                                                          (0 : Int)) ||
                                                      decide
                                                        (((foldS ms (useS ms l).fst).fst.getD (↑x_1 : Int).toNat
                                                              KT.d0).fst ≥
                                                          (↑ms.length : Int))) =
                                                    false →
                                                  InI64
                                                    (((foldS ms (useS ms l).fst).fst.getD (↑x_1 : Int).toNat
                                                          KT.d0).fst +
                                                      ((foldS ms (useS ms l).fst).fst.getD (↑x_1 : Int).toNat
                                                          KT.d0).snd)) ∧
                                                (((decide
                                                          (((foldS ms (useS ms l).fst).fst.getD (↑x_1 : Int).toNat
                                                                KT.d0).fst <
                                                            (0 : Int)) ||
                                                        decide
                                                          (((foldS ms (useS ms l).fst).fst.getD (↑x_1 : Int).toNat
                                                                KT.d0).fst ≥
                                                            (↑ms.length : Int))) =
                                                      false →
                                                    (↑ms.length : Int) ≤ (9223372036854775807 : Int)) →
                                                  ((decide
                                                              (((foldS ms (useS ms l).fst).fst.getD (↑x_1 : Int).toNat
                                                                    KT.d0).fst <
                                                                (0 : Int)) ||
                                                            decide
                                                              (((foldS ms (useS ms l).fst).fst.getD (↑x_1 : Int).toNat
                                                                    KT.d0).fst ≥
                                                                (↑ms.length : Int)) ||
                                                          decide
                                                            (((foldS ms (useS ms l).fst).fst.getD (↑x_1 : Int).toNat
                                                                    KT.d0).fst +
                                                                ((foldS ms (useS ms l).fst).fst.getD (↑x_1 : Int).toNat
                                                                    KT.d0).snd >
                                                              (↑ms.length : Int))) =
                                                        true →
                                                      false = true) ∧
                                                    ((decide
                                                              (((foldS ms (useS ms l).fst).fst.getD (↑x_1 : Int).toNat
                                                                    KT.d0).fst <
                                                                (0 : Int)) ||
                                                            decide
                                                              (((foldS ms (useS ms l).fst).fst.getD (↑x_1 : Int).toNat
                                                                    KT.d0).fst ≥
                                                                (↑ms.length : Int)) ||
                                                          decide
                                                            (((foldS ms (useS ms l).fst).fst.getD (↑x_1 : Int).toNat
                                                                    KT.d0).fst +
                                                                ((foldS ms (useS ms l).fst).fst.getD (↑x_1 : Int).toNat
                                                                    KT.d0).snd >
                                                              (↑ms.length : Int))) =
                                                        false →
                                                      (0 : Int) ≤
                                                          ((foldS ms (useS ms l).fst).fst.getD (↑x_1 : Int).toNat
                                                              KT.d0).fst ∧
                                                        ((foldS ms (useS ms l).fst).fst.getD (↑x_1 : Int).toNat
                                                                KT.d0).fst <
                                                            (↑ms.length : Int) ∧
                                                          ((↑(List.length
                                                                    (ms.getD
                                                                            (Int.toNat
                                                                              ((foldS ms (useS ms l).fst).fst.getD
                                                                                  (↑x_1 : Int).toNat KT.d0).fst)
                                                                            MT.d0).snd.snd.snd) :
                                                                Int) ≤
                                                              (9223372036854775807 : Int) →
                                                            (((((foldS ms (useS ms l).fst).fst.getD (↑x_1 : Int).toNat
                                                                          KT.d0).snd ==
                                                                      (0 : Int)) !=
                                                                    decide
                                                                      ((↑(List.length
                                                                              (ms.getD
                                                                                      (Int.toNat
                                                                                        ((foldS ms
                                                                                                  (useS ms
                                                                                                      l).fst).fst.getD
                                                                                            (↑x_1 : Int).toNat
                                                                                            KT.d0).fst)
                                                                                      MT.d0).snd.snd.snd) :
                                                                          Int) >
                                                                        (0 : Int))) =
                                                                  true →
                                                                false = true) ∧
                                                              (((((foldS ms (useS ms l).fst).fst.getD (↑x_1 : Int).toNat
                                                                          KT.d0).snd ==
                                                                      (0 : Int)) !=
                                                                    decide
                                                                      ((↑(List.length
                                                                              (ms.getD
                                                                                      (Int.toNat
                                                                                        ((foldS ms
                                                                                                  (useS ms
                                                                                                      l).fst).fst.getD
                                                                                            (↑x_1 : Int).toNat
                                                                                            KT.d0).fst)
                                                                                      MT.d0).snd.snd.snd) :
                                                                          Int) >
                                                                        (0 : Int))) =
                                                                  false →
                                                                (∃ (x : Nat),
                                                                    x < (70 : Nat) ∧
                                                                      (1 : Int) = (1 : Int) + (↑x : Int) ∧
                                                                        true = true) ∧
                                                                  ∀ (x_2 : Nat),
                                                                    x_2 < (70 : Nat) →
                                                                      (decide
                                                                              ((1 : Int) + (↑x_2 : Int) <
                                                                                ((foldS ms (useS ms l).fst).fst.getD
                                                                                    (↑x_1 : Int).toNat KT.d0).snd) =
                                                                            true →
                                                                          (true = true →
                                                                              InI64
                                                                                (((foldS ms (useS ms l).fst).fst.getD
                                                                                      (↑x_1 : Int).toNat KT.d0).fst +
                                                                                  ((1 : Int) + (↑x_2 : Int)))) ∧
                                                                            (true = true →
                                                                                (0 : Int) ≤
                                                                                    ((foldS ms (useS ms l).fst).fst.getD
                                                                                          (↑x_1 : Int).toNat
                                                                                          KT.d0).fst +
                                                                                      ((1 : Int) + (↑x_2 : Int)) ∧
                                                                                  ((foldS ms (useS ms l).fst).fst.getD
                                                                                          (↑x_1 : Int).toNat
                                                                                          KT.d0).fst +
                                                                                      ((1 : Int) + (↑x_2 : Int)) <
                                                                                    (↑ms.length : Int)) ∧
                                                                              InI64
                                                                                  ((1 : Int) + (↑x_2 : Int) +
                                                                                    (1 : Int)) ∧
                                                                                ∃ (x' : Nat),
                                                                                  x' < (70 : Nat) ∧
                                                                                    (70 : Nat) - x' < (70 : Nat) - x_2 ∧
                                                                                      (1 : Int) + (↑x_2 : Int) +
                                                                                            (1 : Int) =
                                                                                          (1 : Int) + (↑x' : Int) ∧
                                                                                        (true &&
                                                                                              joinsB
                                                                                                ((ms.getD
                                                                                                      (Int.toNat
                                                                                                        ((foldS ms
                                                                                                                  (useS
                                                                                                                      ms
                                                                                                                      l).fst).fst.getD
                                                                                                            (↑x_1 :
                                                                                                                Int).toNat
                                                                                                            KT.d0).fst)
                                                                                                      MT.d0).fst,
                                                                                                  (ms.getD
                                                                                                        (Int.toNat
                                                                                                          ((foldS ms
                                                                                                                    (useS
                                                                                                                        ms
                                                                                                                        l).fst).fst.getD
                                                                                                              (↑x_1 :
                                                                                                                  Int).toNat
                                                                                                              KT.d0).fst)
                                                                                                        MT.d0).snd.fst,
                                                                                                  ((ms.getD
                                                                                                              (Int.toNat
                                                                                                                ((foldS
                                                                                                                          ms
                                                                                                                          (useS
                                                                                                                              ms
                                                                                                                              l).fst).fst.getD
                                                                                                                    (↑x_1 :
                                                                                                                        Int).toNat
                                                                                                                    KT.d0).fst)
                                                                                                              MT.d0).snd.snd.fst.fst,
                                                                                                    (ms.getD
                                                                                                              (Int.toNat
                                                                                                                ((foldS
                                                                                                                          ms
                                                                                                                          (useS
                                                                                                                              ms
                                                                                                                              l).fst).fst.getD
                                                                                                                    (↑x_1 :
                                                                                                                        Int).toNat
                                                                                                                    KT.d0).fst)
                                                                                                              MT.d0).snd.snd.fst.snd),
                                                                                                  (ms.getD
                                                                                                          (Int.toNat
                                                                                                            ((foldS ms
                                                                                                                      (useS
                                                                                                                          ms
                                                                                                                          l).fst).fst.getD
                                                                                                                (↑x_1 :
                                                                                                                    Int).toNat
                                                                                                                KT.d0).fst)
                                                                                                          MT.d0).snd.snd.snd)
                                                                                                ((ms.getD
                                                                                                      (((foldS ms
                                                                                                                    (useS
                                                                                                                        ms
                                                                                                                        l).fst).fst.getD
                                                                                                              (↑x_1 :
                                                                                                                  Int).toNat
                                                                                                              KT.d0).fst +
                                                                                                          ((1 : Int) +
                                                                                                            (↑x_2 :
                                                                                                              Int))).toNat
                                                                                                      MT.d0).fst,
                                                                                                  (ms.getD
                                                                                                        (((foldS ms
                                                                                                                      (useS
                                                                                                                          ms
                                                                                                                          l).fst).fst.getD
                                                                                                                (↑x_1 :
                                                                                                                    Int).toNat
                                                                                                                KT.d0).fst +
                                                                                                            ((1 : Int) +
                                                                                                              (↑x_2 :
                                                                                                                Int))).toNat
                                                                                                        MT.d0).snd.fst,
                                                                                                  ((ms.getD
                                                                                                              (((foldS
                                                                                                                            ms
                                                                                                                            (useS
                                                                                                                                ms
                                                                                                                                l).fst).fst.getD
                                                                                                                      (↑x_1 :
                                                                                                                          Int).toNat
                                                                                                                      KT.d0).fst +
                                                                                                                  ((1 :
                                                                                                                      Int) +
                                                                                                                    (↑x_2 :
                                                                                                                      Int))).toNat
                                                                                                              MT.d0).snd.snd.fst.fst,
                                                                                                    (ms.getD
                                                                                                              (((foldS
                                                                                                                            ms
                                                                                                                            (useS
                                                                                                                                ms
                                                                                                                                l).fst).fst.getD
                                                                                                                      (↑x_1 :
                                                                                                                          Int).toNat
                                                                                                                      KT.d0).fst +
                                                                                                                  ((1 :
                                                                                                                      Int) +
                                                                                                                    (↑x_2 :
                                                                                                                      Int))).toNat
                                                                                                              MT.d0).snd.snd.fst.snd),
                                                                                                  (ms.getD
                                                                                                          (((foldS ms
                                                                                                                        (useS
                                                                                                                            ms
                                                                                                                            l).fst).fst.getD
                                                                                                                  (↑x_1 :
                                                                                                                      Int).toNat
                                                                                                                  KT.d0).fst +
                                                                                                              ((1 :
                                                                                                                  Int) +
                                                                                                                (↑x_2 :
                                                                                                                  Int))).toNat
                                                                                                          MT.d0).snd.snd.snd)) =
                                                                                            true ∧
                                                                                          ((((foldS ms
                                                                                                            (useS ms
                                                                                                                l).fst).fst.getD
                                                                                                      (↑x_1 : Int).toNat
                                                                                                      KT.d0).snd ==
                                                                                                  (0 : Int)) !=
                                                                                                decide
                                                                                                  ((↑(List.length
                                                                                                          (ms.getD
                                                                                                                  (Int.toNat
                                                                                                                    ((foldS
                                                                                                                              ms
                                                                                                                              (useS
                                                                                                                                  ms
                                                                                                                                  l).fst).fst.getD
                                                                                                                        (↑x_1 :
                                                                                                                            Int).toNat
                                                                                                                        KT.d0).fst)
                                                                                                                  MT.d0).snd.snd.snd) :
                                                                                                      Int) >
                                                                                                    (0 : Int))) =
                                                                                              ((((foldS ms
                                                                                                            (useS ms
                                                                                                                l).fst).fst.getD
                                                                                                      (↑x_1 : Int).toNat
                                                                                                      KT.d0).snd ==
                                                                                                  (0 : Int)) !=
                                                                                                decide
                                                                                                  ((↑(List.length
                                                                                                          (ms.getD
                                                                                                                  (Int.toNat
                                                                                                                    ((foldS
                                                                                                                              ms
                                                                                                                              (useS
                                                                                                                                  ms
                                                                                                                                  l).fst).fst.getD
                                                                                                                        (↑x_1 :
                                                                                                                            Int).toNat
                                                                                                                        KT.d0).fst)
                                                                                                                  MT.d0).snd.snd.snd) :
                                                                                                      Int) >
                                                                                                    (0 : Int))) ∧
                                                                                            (decide
                                                                                                      (((foldS ms
                                                                                                                  (useS
                                                                                                                      ms
                                                                                                                      l).fst).fst.getD
                                                                                                            (↑x_1 :
                                                                                                                Int).toNat
                                                                                                            KT.d0).fst <
                                                                                                        (0 : Int)) ||
                                                                                                    decide
                                                                                                      (((foldS ms
                                                                                                                  (useS
                                                                                                                      ms
                                                                                                                      l).fst).fst.getD
                                                                                                            (↑x_1 :
                                                                                                                Int).toNat
                                                                                                            KT.d0).fst ≥
                                                                                                        (↑ms.length :
                                                                                                          Int)) ||
                                                                                                  decide
                                                                                                    (((foldS ms
                                                                                                                  (useS
                                                                                                                      ms
                                                                                                                      l).fst).fst.getD
                                                                                                            (↑x_1 :
                                                                                                                Int).toNat
                                                                                                            KT.d0).fst +
                                                                                                        ((foldS ms
                                                                                                                  (useS
                                                                                                                      ms
                                                                                                                      l).fst).fst.getD
                                                                                                            (↑x_1 :
                                                                                                                Int).toNat
                                                                                                            KT.d0).snd >
                                                                                                      (↑ms.length :
                                                                                                        Int))) =
                                                                                                (decide
                                                                                                      (((foldS ms
                                                                                                                  (useS
                                                                                                                      ms
                                                                                                                      l).fst).fst.getD
                                                                                                            (↑x_1 :
                                                                                                                Int).toNat
                                                                                                            KT.d0).fst <
                                                                                                        (0 : Int)) ||
                                                                                                    decide
                                                                                                      (((foldS ms
                                                                                                                  (useS
                                                                                                                      ms
                                                                                                                      l).fst).fst.getD
                                                                                                            (↑x_1 :
                                                                                                                Int).toNat
                                                                                                            KT.d0).fst ≥
                                                                                                        (↑ms.length :
                                                                                                          Int)) ||
                                                                                                  decide
                                                                                                    (((foldS ms
                                                                                                                  (useS
                                                                                                                      ms
                                                                                                                      l).fst).fst.getD
                                                                                                            (↑x_1 :
                                                                                                                Int).toNat
                                                                                                            KT.d0).fst +
                                                                                                        ((foldS ms
                                                                                                                  (useS
                                                                                                                      ms
                                                                                                                      l).fst).fst.getD
                                                                                                            (↑x_1 :
                                                                                                                Int).toNat
                                                                                                            KT.d0).snd >
                                                                                                      (↑ms.length :
                                                                                                        Int))) ∧
                                                                                              decide
                                                                                                    ((↑x_1 : Int) <
                                                                                                      (↑(foldS ms
                                                                                                                (useS ms
                                                                                                                    l).fst).fst.length :
                                                                                                        Int)) =
                                                                                                  decide
                                                                                                    ((↑x_1 : Int) <
                                                                                                      (↑(foldS ms
                                                                                                                (useS ms
                                                                                                                    l).fst).fst.length :
                                                                                                        Int)) ∧
                                                                                                (↑x_1 : Int) =
                                                                                                    (↑x_1 : Int) ∧
                                                                                                  (↑(foldS ms
                                                                                                                (useS ms
                                                                                                                    l).fst).fst.length :
                                                                                                        Int) =
                                                                                                      (↑(foldS ms
                                                                                                                (useS ms
                                                                                                                    l).fst).fst.length :
                                                                                                        Int) ∧
                                                                                                    (foldS ms
                                                                                                            (useS ms
                                                                                                                l).fst).fst =
                                                                                                        (foldS ms
                                                                                                            (useS ms
                                                                                                                l).fst).fst ∧
                                                                                                      decide
                                                                                                            ((↑x :
                                                                                                                Int) <
                                                                                                              (↑(unfoldS
                                                                                                                        (foldS
                                                                                                                            ms
                                                                                                                            (useS
                                                                                                                                ms
                                                                                                                                l).fst).fst).fst.length :
                                                                                                                Int)) =
                                                                                                          decide
                                                                                                            ((↑x :
                                                                                                                Int) <
                                                                                                              (↑(unfoldS
                                                                                                                        (foldS
                                                                                                                            ms
                                                                                                                            (useS
                                                                                                                                ms
                                                                                                                                l).fst).fst).fst.length :
                                                                                                                Int)) ∧
                                                                                                        (↑x : Int) =
                                                                                                            (↑x : Int) ∧
                                                                                                          (↑(unfoldS
                                                                                                                        (foldS
                                                                                                                            ms
                                                                                                                            (useS
                                                                                                                                ms
                                                                                                                                l).fst).fst).fst.length :
                                                                                                                Int) =
                                                                                                              (↑(unfoldS
                                                                                                                        (foldS
                                                                                                                            ms
                                                                                                                            (useS
                                                                                                                                ms
                                                                                                                                l).fst).fst).fst.length :
                                                                                                                Int) ∧
                                                                                                            (unfoldS
                                                                                                                    (foldS
                                                                                                                        ms
                                                                                                                        (useS
                                                                                                                            ms
                                                                                                                            l).fst).fst).fst =
                                                                                                                (unfoldS
                                                                                                                    (foldS
                                                                                                                        ms
                                                                                                                        (useS
                                                                                                                            ms
                                                                                                                            l).fst).fst).fst ∧
                                                                                                              ((foldS ms
                                                                                                                            (useS
                                                                                                                                ms
                                                                                                                                l).fst).snd !=
                                                                                                                        (0 :
                                                                                                                          Int) ||
                                                                                                                      (unfoldS
                                                                                                                            (foldS
                                                                                                                                ms
                                                                                                                                (useS
                                                                                                                                    ms
                                                                                                                                    l).fst).fst).snd !=
                                                                                                                        (0 :
                                                                                                                          Int) ||
                                                                                                                    (↑(unfoldS
                                                                                                                                (foldS
                                                                                                                                    ms
                                                                                                                                    (useS
                                                                                                                                        ms
                                                                                                                                        l).fst).fst).fst.length :
                                                                                                                        Int) !=
                                                                                                                      (↑ms.length :
                                                                                                                        Int)) =
                                                                                                                  ((foldS
                                                                                                                            ms
                                                                                                                            (useS
                                                                                                                                ms
                                                                                                                                l).fst).snd !=
                                                                                                                        (0 :
                                                                                                                          Int) ||
                                                                                                                      (unfoldS
                                                                                                                            (foldS
                                                                                                                                ms
                                                                                                                                (useS
                                                                                                                                    ms
                                                                                                                                    l).fst).fst).snd !=
                                                                                                                        (0 :
                                                                                                                          Int) ||
                                                                                                                    (↑(unfoldS
                                                                                                                                (foldS
                                                                                                                                    ms
                                                                                                                                    (useS
                                                                                                                                        ms
                                                                                                                                        l).fst).fst).fst.length :
                                                                                                                        Int) !=
                                                                                                                      (↑ms.length :
                                                                                                                        Int)) ∧
                                                                                                                (unfoldS
                                                                                                                        (foldS
                                                                                                                            ms
                                                                                                                            (useS
                                                                                                                                ms
                                                                                                                                l).fst).fst).snd =
                                                                                                                    (unfoldS
                                                                                                                        (foldS
                                                                                                                            ms
                                                                                                                            (useS
                                                                                                                                ms
                                                                                                                                l).fst).fst).snd ∧
                                                                                                                  (unfoldS
                                                                                                                          (foldS
                                                                                                                              ms
                                                                                                                              (useS
                                                                                                                                  ms
                                                                                                                                  l).fst).fst).fst =
                                                                                                                      (unfoldS
                                                                                                                          (foldS
                                                                                                                              ms
                                                                                                                              (useS
                                                                                                                                  ms
                                                                                                                                  l).fst).fst).fst ∧
                                                                                                                    (foldS
                                                                                                                            ms
                                                                                                                            (useS
                                                                                                                                ms
                                                                                                                                l).fst).snd =
                                                                                                                        (foldS
                                                                                                                            ms
                                                                                                                            (useS
                                                                                                                                ms
                                                                                                                                l).fst).snd ∧
                                                                                                                      (foldS
                                                                                                                              ms
                                                                                                                              (useS
                                                                                                                                  ms
                                                                                                                                  l).fst).fst =
                                                                                                                          (foldS
                                                                                                                              ms
                                                                                                                              (useS
                                                                                                                                  ms
                                                                                                                                  l).fst).fst ∧
                                                                                                                        (!(useS
                                                                                                                                  ms
                                                                                                                                  l).snd) =
                                                                                                                            !(useS
                                                                                                                                  ms
                                                                                                                                  l).snd ∧
                                                                                                                          (useS
                                                                                                                                  ms
                                                                                                                                  l).snd =
                                                                                                                              (useS
                                                                                                                                  ms
                                                                                                                                  l).snd ∧
                                                                                                                            (useS
                                                                                                                                    ms
                                                                                                                                    l).fst =
                                                                                                                                (useS
                                                                                                                                    ms
                                                                                                                                    l).fst ∧
                                                                                                                              p =
                                                                                                                                  p ∧
                                                                                                                                ms =
                                                                                                                                    ms ∧
                                                                                                                                  l =
                                                                                                                                      l ∧
                                                                                                                                    (ms.getD
                                                                                                                                            (Int.toNat
                                                                                                                                              ((foldS
                                                                                                                                                        ms
                                                                                                                                                        (useS
                                                                                                                                                            ms
                                                                                                                                                            l).fst).fst.getD
                                                                                                                                                  (↑x_1 :
                                                                                                                                                      Int).toNat
                                                                                                                                                  KT.d0).fst)
                                                                                                                                            MT.d0).fst =
                                                                                                                                        (ms.getD
                                                                                                                                            (Int.toNat
                                                                                                                                              ((foldS
                                                                                                                                                        ms
                                                                                                                                                        (useS
                                                                                                                                                            ms
                                                                                                                                                            l).fst).fst.getD
                                                                                                                                                  (↑x_1 :
                                                                                                                                                      Int).toNat
                                                                                                                                                  KT.d0).fst)
                                                                                                                                            MT.d0).fst ∧
                                                                                                                                      (ms.getD
                                                                                                                                                (Int.toNat
                                                                                                                                                  ((foldS
                                                                                                                                                            ms
                                                                                                                                                            (useS
                                                                                                                                                                ms
                                                                                                                                                                l).fst).fst.getD
                                                                                                                                                      (↑x_1 :
                                                                                                                                                          Int).toNat
                                                                                                                                                      KT.d0).fst)
                                                                                                                                                MT.d0).snd.fst =
                                                                                                                                          (ms.getD
                                                                                                                                                (Int.toNat
                                                                                                                                                  ((foldS
                                                                                                                                                            ms
                                                                                                                                                            (useS
                                                                                                                                                                ms
                                                                                                                                                                l).fst).fst.getD
                                                                                                                                                      (↑x_1 :
                                                                                                                                                          Int).toNat
                                                                                                                                                      KT.d0).fst)
                                                                                                                                                MT.d0).snd.fst ∧
                                                                                                                                        (ms.getD
                                                                                                                                                      (Int.toNat
                                                                                                                                                        ((foldS
                                                                                                                                                                  ms
                                                                                                                                                                  (useS
                                                                                                                                                                      ms
                                                                                                                                                                      l).fst).fst.getD
                                                                                                                                                            (↑x_1 :
                                                                                                                                                                Int).toNat
                                                                                                                                                            KT.d0).fst)
                                                                                                                                                      MT.d0).snd.snd.fst.fst =
                                                                                                                                            (ms.getD
                                                                                                                                                      (Int.toNat
                                                                                                                                                        ((foldS
                                                                                                                                                                  ms
                                                                                                                                                                  (useS
                                                                                                                                                                      ms
                                                                                                                                                                      l).fst).fst.getD
                                                                                                                                                            (↑x_1 :
                                                                                                                                                                Int).toNat
                                                                                                                                                            KT.d0).fst)
                                                                                                                                                      MT.d0).snd.snd.fst.fst ∧
                                                                                                                                          (ms.getD
                                                                                                                                                        (Int.toNat
                                                                                                                                                          ((foldS
                                                                                                                                                                    ms
                                                                                                                                                                    (useS
                                                                                                                                                                        ms
                                                                                                                                                                        l).fst).fst.getD
                                                                                                                                                              (↑x_1 :
                                                                                                                                                                  Int).toNat
                                                                                                                                                              KT.d0).fst)
                                                                                                                                                        MT.d0).snd.snd.fst.snd =
                                                                                                                                              (ms.getD
                                                                                                                                                        (Int.toNat
                                                                                                                                                          ((foldS
                                                                                                                                                                    ms
                                                                                                                                                                    (useS
                                                                                                                                                                        ms
                                                                                                                                                                        l).fst).fst.getD
                                                                                                                                                              (↑x_1 :
                                                                                                                                                                  Int).toNat
                                                                                                                                                              KT.d0).fst)
                                                                                                                                                        MT.d0).snd.snd.fst.snd ∧
                                                                                                                                            (ms.getD
                                                                                                                                                        (Int.toNat
                                                                                                                                                          ((foldS
                                                                                                                                                                    ms
                                                                                                                                                                    (useS
                                                                                                                                                                        ms
                                                                                                                                                                        l).fst).fst.getD
                                                                                                                                                              (↑x_1 :
                                                                                                                                                                  Int).toNat
                                                                                                                                                              KT.d0).fst)
                                                                                                                                                        MT.d0).snd.snd.snd =
                                                                                                                                                (ms.getD
                                                                                                                                                        (Int.toNat
                                                                                                                                                          ((foldS
                                                                                                                                                                    ms
                                                                                                                                                                    (useS
                                                                                                                                                                        ms
                                                                                                                                                                        l).fst).fst.getD
                                                                                                                                                              (↑x_1 :
                                                                                                                                                                  Int).toNat
                                                                                                                                                              KT.d0).fst)
                                                                                                                                                        MT.d0).snd.snd.snd ∧
                                                                                                                                              ((foldS
                                                                                                                                                            ms
                                                                                                                                                            (useS
                                                                                                                                                                ms
                                                                                                                                                                l).fst).fst.getD
                                                                                                                                                      (↑x_1 :
                                                                                                                                                          Int).toNat
                                                                                                                                                      KT.d0).fst =
                                                                                                                                                  ((foldS
                                                                                                                                                            ms
                                                                                                                                                            (useS
                                                                                                                                                                ms
                                                                                                                                                                l).fst).fst.getD
                                                                                                                                                      (↑x_1 :
                                                                                                                                                          Int).toNat
                                                                                                                                                      KT.d0).fst ∧
                                                                                                                                                ((foldS
                                                                                                                                                              ms
                                                                                                                                                              (useS
                                                                                                                                                                  ms
                                                                                                                                                                  l).fst).fst.getD
                                                                                                                                                        (↑x_1 :
                                                                                                                                                            Int).toNat
                                                                                                                                                        KT.d0).snd =
                                                                                                                                                    ((foldS
                                                                                                                                                              ms
                                                                                                                                                              (useS
                                                                                                                                                                  ms
                                                                                                                                                                  l).fst).fst.getD
                                                                                                                                                        (↑x_1 :
                                                                                                                                                            Int).toNat
                                                                                                                                                        KT.d0).snd ∧
                                                                                                                                                  p =
                                                                                                                                                      p ∧
                                                                                                                                                    ms =
                                                                                                                                                      ms) ∧
                                                                        (decide
                                                                              ((1 : Int) + (↑x_2 : Int) <
                                                                                ((foldS ms (useS ms l).fst).fst.getD
                                                                                    (↑x_1 : Int).toNat KT.d0).snd) =
                                                                            false →
                                                                          InI64 ((↑x_1 : Int) + (1 : Int)) ∧
                                                                            ∃ (x' : Nat),
                                                                              x' ≤
                                                                                  (foldS ms
                                                                                        (useS ms l).fst).fst.length ∧
                                                                                (foldS ms (useS ms l).fst).fst.length -
                                                                                      x' <
                                                                                    (foldS ms
                                                                                            (useS ms
                                                                                                l).fst).fst.length -
                                                                                      x_1 ∧
                                                                                  (↑x_1 : Int) + (1 : Int) =
                                                                                      (↑x' : Int) ∧
                                                                                    true = true ∧
                                                                                      (↑(foldS ms
                                                                                                    (useS ms
                                                                                                        l).fst).fst.length :
                                                                                            Int) =
                                                                                          (↑(foldS ms
                                                                                                    (useS ms
                                                                                                        l).fst).fst.length :
                                                                                            Int) ∧
                                                                                        (foldS ms (useS ms l).fst).fst =
                                                                                            (foldS ms
                                                                                                (useS ms l).fst).fst ∧
                                                                                          decide
                                                                                                ((↑x : Int) <
                                                                                                  (↑(unfoldS
                                                                                                            (foldS ms
                                                                                                                (useS ms
                                                                                                                    l).fst).fst).fst.length :
                                                                                                    Int)) =
                                                                                              decide
                                                                                                ((↑x : Int) <
                                                                                                  (↑(unfoldS
                                                                                                            (foldS ms
                                                                                                                (useS ms
                                                                                                                    l).fst).fst).fst.length :
                                                                                                    Int)) ∧
                                                                                            (↑x : Int) = (↑x : Int) ∧
                                                                                              (↑(unfoldS
                                                                                                            (foldS ms
                                                                                                                (useS ms
                                                                                                                    l).fst).fst).fst.length :
                                                                                                    Int) =
                                                                                                  (↑(unfoldS
                                                                                                            (foldS ms
                                                                                                                (useS ms
                                                                                                                    l).fst).fst).fst.length :
                                                                                                    Int) ∧
                                                                                                (unfoldS
                                                                                                        (foldS ms
                                                                                                            (useS ms
                                                                                                                l).fst).fst).fst =
                                                                                                    (unfoldS
                                                                                                        (foldS ms
                                                                                                            (useS ms
                                                                                                                l).fst).fst).fst ∧
                                                                                                  ((foldS ms
                                                                                                                (useS ms
                                                                                                                    l).fst).snd !=
                                                                                                            (0 : Int) ||
                                                                                                          (unfoldS
                                                                                                                (foldS
                                                                                                                    ms
                                                                                                                    (useS
                                                                                                                        ms
                                                                                                                        l).fst).fst).snd !=
                                                                                                            (0 : Int) ||
                                                                                                        (↑(unfoldS
                                                                                                                    (foldS
                                                                                                                        ms
                                                                                                                        (useS
                                                                                                                            ms
                                                                                                                            l).fst).fst).fst.length :
                                                                                                            Int) !=
                                                                                                          (↑ms.length :
                                                                                                            Int)) =
                                                                                                      ((foldS ms
                                                                                                                (useS ms
                                                                                                                    l).fst).snd !=
                                                                                                            (0 : Int) ||
                                                                                                          (unfoldS
                                                                                                                (foldS
                                                                                                                    ms
                                                                                                                    (useS
                                                                                                                        ms
                                                                                                                        l).fst).fst).snd !=
                                                                                                            (0 : Int) ||
                                                                                                        (↑(unfoldS
                                                                                                                    (foldS
                                                                                                                        ms
                                                                                                                        (useS
                                                                                                                            ms
                                                                                                                            l).fst).fst).fst.length :
                                                                                                            Int) !=
                                                                                                          (↑ms.length :
                                                                                                            Int)) ∧
                                                                                                    (unfoldS
                                                                                                            (foldS ms
                                                                                                                (useS ms
                                                                                                                    l).fst).fst).snd =
                                                                                                        (unfoldS
                                                                                                            (foldS ms
                                                                                                                (useS ms
                                                                                                                    l).fst).fst).snd ∧
                                                                                                      (unfoldS
                                                                                                              (foldS ms
                                                                                                                  (useS
                                                                                                                      ms
                                                                                                                      l).fst).fst).fst =
                                                                                                          (unfoldS
                                                                                                              (foldS ms
                                                                                                                  (useS
                                                                                                                      ms
                                                                                                                      l).fst).fst).fst ∧
                                                                                                        (foldS ms
                                                                                                                (useS ms
                                                                                                                    l).fst).snd =
                                                                                                            (foldS ms
                                                                                                                (useS ms
                                                                                                                    l).fst).snd ∧
                                                                                                          (foldS ms
                                                                                                                  (useS
                                                                                                                      ms
                                                                                                                      l).fst).fst =
                                                                                                              (foldS ms
                                                                                                                  (useS
                                                                                                                      ms
                                                                                                                      l).fst).fst ∧
                                                                                                            (!(useS ms
                                                                                                                      l).snd) =
                                                                                                                !(useS
                                                                                                                      ms
                                                                                                                      l).snd ∧
                                                                                                              (useS ms
                                                                                                                      l).snd =
                                                                                                                  (useS
                                                                                                                      ms
                                                                                                                      l).snd ∧
                                                                                                                (useS ms
                                                                                                                        l).fst =
                                                                                                                    (useS
                                                                                                                        ms
                                                                                                                        l).fst ∧
                                                                                                                  p =
                                                                                                                      p ∧
                                                                                                                    ms =
                                                                                                                        ms ∧
                                                                                                                      l =
                                                                                                                          l ∧
                                                                                                                        p =
                                                                                                                            p ∧
                                                                                                                          ms =
                                                                                                                            ms))))))) ∧
                                      (decide ((↑x_1 : Int) < (↑(foldS ms (useS ms l).fst).fst.length : Int)) = false →
                                        true = true))))
def P_FWhole (p : Int) (ms : List Ms) (l : List Int) : Prop :=
  bytesB l ∧
    ((!(useS ms l).snd) = true → true = true) ∧
      ((!(useS ms l).snd) = false →
        (((foldS ms (useS ms l).fst).snd != (0 : Int)) = true → false = true) ∧
          (((foldS ms (useS ms l).fst).snd != (0 : Int)) = false →
            (↑(foldS ms (useS ms l).fst).fst.length : Int) ≤ (9223372036854775807 : Int) →
              (∃ (x : Nat), x ≤ (foldS ms (useS ms l).fst).fst.length ∧ (0 : Int) = (↑x : Int) ∧ true = true) ∧
                ∀ (x : Nat),
                  x ≤ (foldS ms (useS ms l).fst).fst.length →
                    (decide ((↑x : Int) < (↑(foldS ms (useS ms l).fst).fst.length : Int)) = true →
                        (0 : Int) ≤ (↑x : Int) ∧
                          (↑x : Int) < (↑(foldS ms (useS ms l).fst).fst.length : Int) ∧
                            ((↑(useS ms l).fst.length : Int) ≤ (9223372036854775807 : Int) →
                              (∃ (x : Nat), x ≤ (useS ms l).fst.length ∧ (0 : Int) = (↑x : Int) ∧ true = true) ∧
                                ∀ (x_1 : Nat),
                                  x_1 ≤ (useS ms l).fst.length →
                                    (decide ((↑x_1 : Int) < (↑(useS ms l).fst.length : Int)) = true →
                                        (0 : Int) ≤ (↑x_1 : Int) ∧
                                          (↑x_1 : Int) < (↑(useS ms l).fst.length : Int) ∧
                                            (decide
                                                      ((useS ms l).fst.getD (↑x_1 : Int).toNat (Ty.ti IntKind.i64).d0 ≤
                                                        ((foldS ms (useS ms l).fst).fst.getD (↑x : Int).toNat
                                                            KT.d0).fst) =
                                                    false ∧
                                                  true = true →
                                                InI64
                                                  (((foldS ms (useS ms l).fst).fst.getD (↑x : Int).toNat KT.d0).fst +
                                                    ((foldS ms (useS ms l).fst).fst.getD (↑x : Int).toNat KT.d0).snd)) ∧
                                              InI64 ((↑x_1 : Int) + (1 : Int)) ∧
                                                ∃ (x' : Nat),
                                                  x' ≤ (useS ms l).fst.length ∧
                                                    (useS ms l).fst.length - x' < (useS ms l).fst.length - x_1 ∧
                                                      (↑x_1 : Int) + (1 : Int) = (↑x' : Int) ∧
                                                        (true &&
                                                              (decide
                                                                  ((useS ms l).fst.getD (↑x_1 : Int).toNat
                                                                      (Ty.ti IntKind.i64).d0 ≤
                                                                    ((foldS ms (useS ms l).fst).fst.getD
                                                                        (↑x : Int).toNat KT.d0).fst) ||
                                                                decide
                                                                  ((useS ms l).fst.getD (↑x_1 : Int).toNat
                                                                      (Ty.ti IntKind.i64).d0 ≥
                                                                    ((foldS ms (useS ms l).fst).fst.getD
                                                                          (↑x : Int).toNat KT.d0).fst +
                                                                      ((foldS ms (useS ms l).fst).fst.getD
                                                                          (↑x : Int).toNat KT.d0).snd))) =
                                                            true ∧
                                                          (↑(useS ms l).fst.length : Int) =
                                                              (↑(useS ms l).fst.length : Int) ∧
                                                            (useS ms l).fst = (useS ms l).fst ∧
                                                              (↑x : Int) = (↑x : Int) ∧
                                                                decide
                                                                      ((↑x : Int) <
                                                                        (↑(foldS ms (useS ms l).fst).fst.length :
                                                                          Int)) =
                                                                    decide
                                                                      ((↑x : Int) <
                                                                        (↑(foldS ms (useS ms l).fst).fst.length :
                                                                          Int)) ∧
                                                                  (↑x : Int) = (↑x : Int) ∧
                                                                    (↑(foldS ms (useS ms l).fst).fst.length : Int) =
                                                                        (↑(foldS ms (useS ms l).fst).fst.length : Int) ∧
                                                                      (foldS ms (useS ms l).fst).fst =
                                                                          (foldS ms (useS ms l).fst).fst ∧
                                                                        ((foldS ms (useS ms l).fst).snd != (0 : Int)) =
                                                                            ((foldS ms (useS ms l).fst).snd !=
                                                                              (0 : Int)) ∧
                                                                          (foldS ms (useS ms l).fst).snd =
                                                                              (foldS ms (useS ms l).fst).snd ∧
                                                                            (foldS ms (useS ms l).fst).fst =
                                                                                (foldS ms (useS ms l).fst).fst ∧
                                                                              (!(useS ms l).snd) = !(useS ms l).snd ∧
                                                                                (useS ms l).snd = (useS ms l).snd ∧
                                                                                  (useS ms l).fst = (useS ms l).fst ∧
                                                                                    p = p ∧
                                                                                      ms = ms ∧
                                                                                        l = l ∧
                                                                                          ((foldS ms
                                                                                                        (useS ms
                                                                                                            l).fst).fst.getD
                                                                                                  (↑x : Int).toNat
                                                                                                  KT.d0).fst =
                                                                                              ((foldS ms
                                                                                                        (useS ms
                                                                                                            l).fst).fst.getD
                                                                                                  (↑x : Int).toNat
                                                                                                  KT.d0).fst ∧
                                                                                            ((foldS ms
                                                                                                          (useS ms
                                                                                                              l).fst).fst.getD
                                                                                                    (↑x : Int).toNat
                                                                                                    KT.d0).snd =
                                                                                                ((foldS ms
                                                                                                          (useS ms
                                                                                                              l).fst).fst.getD
                                                                                                    (↑x : Int).toNat
                                                                                                    KT.d0).snd ∧
                                                                                              p = p ∧ ms = ms) ∧
                                      (decide ((↑x_1 : Int) < (↑(useS ms l).fst.length : Int)) = false →
                                        (((↑x : Int) == (0 : Int) ||
                                                ((foldS ms (useS ms l).fst).fst.getD (↑x : Int).toNat KT.d0).snd ==
                                                  (0 : Int)) =
                                              false →
                                            InI64 ((↑x : Int) - (1 : Int))) ∧
                                          (((↑x : Int) == (0 : Int) ||
                                                  ((foldS ms (useS ms l).fst).fst.getD (↑x : Int).toNat KT.d0).snd ==
                                                    (0 : Int)) =
                                                false →
                                              (0 : Int) ≤ (↑x : Int) - (1 : Int) ∧
                                                (↑x : Int) - (1 : Int) <
                                                  (↑(foldS ms (useS ms l).fst).fst.length : Int)) ∧
                                            ((((↑x : Int) == (0 : Int) ||
                                                        ((foldS ms (useS ms l).fst).fst.getD (↑x : Int).toNat
                                                              KT.d0).snd ==
                                                          (0 : Int) ||
                                                      ((foldS ms (useS ms l).fst).fst.getD
                                                            ((↑x : Int) - (1 : Int)).toNat KT.d0).snd ==
                                                        (0 : Int) ||
                                                    decide
                                                      (((foldS ms (useS ms l).fst).fst.getD (↑x : Int).toNat
                                                            KT.d0).fst <
                                                        (0 : Int))) =
                                                  false →
                                                (↑ms.length : Int) ≤ (9223372036854775807 : Int)) →
                                              (((↑x : Int) == (0 : Int) ||
                                                            ((foldS ms (useS ms l).fst).fst.getD (↑x : Int).toNat
                                                                  KT.d0).snd ==
                                                              (0 : Int) ||
                                                          ((foldS ms (useS ms l).fst).fst.getD
                                                                ((↑x : Int) - (1 : Int)).toNat KT.d0).snd ==
                                                            (0 : Int) ||
                                                        decide
                                                          (((foldS ms (useS ms l).fst).fst.getD (↑x : Int).toNat
                                                                KT.d0).fst <
                                                            (0 : Int)) ||
                                                      decide
                                                        (((foldS ms (useS ms l).fst).fst.getD (↑x : Int).toNat
                                                              KT.d0).fst ≥
                                                          (↑ms.length : Int))) =
                                                    true →
                                                  InI64 ((↑x : Int) + (1 : Int)) ∧
                                                    ∃ (x' : Nat),
                                                      x' ≤ (foldS ms (useS ms l).fst).fst.length ∧
                                                        (foldS ms (useS ms l).fst).fst.length - x' <
                                                            (foldS ms (useS ms l).fst).fst.length - x ∧
                                                          (↑x : Int) + (1 : Int) = (↑x' : Int) ∧
                                                            true = true ∧
                                                              (↑(foldS ms (useS ms l).fst).fst.length : Int) =
                                                                  (↑(foldS ms (useS ms l).fst).fst.length : Int) ∧
                                                                (foldS ms (useS ms l).fst).fst =
                                                                    (foldS ms (useS ms l).fst).fst ∧
                                                                  ((foldS ms (useS ms l).fst).snd != (0 : Int)) =
                                                                      ((foldS ms (useS ms l).fst).snd != (0 : Int)) ∧
                                                                    (foldS ms (useS ms l).fst).snd =
                                                                        (foldS ms (useS ms l).fst).snd ∧
                                                                      (foldS ms (useS ms l).fst).fst =
                                                                          (foldS ms (useS ms l).fst).fst ∧
                                                                        (!(useS ms l).snd) = !(useS ms l).snd ∧
                                                                          (useS ms l).snd = (useS ms l).snd ∧
                                                                            (useS ms l).fst = (useS ms l).fst ∧
                                                                              p = p ∧
                                                                                ms = ms ∧ l = l ∧ p = p ∧ ms = ms) ∧
                                                (((↑x : Int) == (0 : Int) ||
                                                            ((foldS ms (useS ms l).fst).fst.getD (↑x : Int).toNat
                                                                  KT.d0).snd ==
                                                              (0 : Int) ||
                                                          ((foldS ms (useS ms l).fst).fst.getD
                                                                ((↑x : Int) - (1 : Int)).toNat KT.d0).snd ==
                                                            (0 : Int) ||
                                                        decide
                                                          (((foldS ms (useS ms l).fst).fst.getD (↑x : Int).toNat
                                                                KT.d0).fst <
                                                            (0 : Int)) ||
                                                      decide
                                                        (((foldS ms (useS ms l).fst).fst.getD (↑x : Int).toNat
                                                              KT.d0).fst ≥
                                                          (↑ms.length : Int))) =
                                                    false →
                                                  InI64 ((↑x : Int) - (1 : Int)) ∧
                                                    (0 : Int) ≤ (↑x : Int) - (1 : Int) ∧
                                                      (↑x : Int) - (1 : Int) <
                                                          (↑(foldS ms (useS ms l).fst).fst.length : Int) ∧
                                                        ((decide
                                                                (((foldS ms (useS ms l).fst).fst.getD
                                                                      ((↑x : Int) - (1 : Int)).toNat KT.d0).fst <
                                                                  (0 : Int)) =
                                                              false →
                                                            (↑ms.length : Int) ≤ (9223372036854775807 : Int)) →
                                                          ((decide
                                                                    (((foldS ms (useS ms l).fst).fst.getD
                                                                          ((↑x : Int) - (1 : Int)).toNat KT.d0).fst <
                                                                      (0 : Int)) ||
                                                                  decide
                                                                    (((foldS ms (useS ms l).fst).fst.getD
                                                                          ((↑x : Int) - (1 : Int)).toNat KT.d0).fst ≥
                                                                      (↑ms.length : Int))) =
                                                                true →
                                                              false = true) ∧
                                                            ((decide
                                                                    (((foldS ms (useS ms l).fst).fst.getD
                                                                          ((↑x : Int) - (1 : Int)).toNat KT.d0).fst <
                                                                      (0 : Int)) ||
                                                                  decide
                                                                    (((foldS ms (useS ms l).fst).fst.getD
                                                                          ((↑x : Int) - (1 : Int)).toNat KT.d0).fst ≥
                                                                      (↑ms.length : Int))) =
                                                                false →
                                                              (inL (useS ms l).fst
                                                                        ((foldS ms (useS ms l).fst).fst.getD
                                                                            (↑x : Int).toNat KT.d0).fst =
                                                                      false ∧
                                                                    true = true →
                                                                  (0 : Int) ≤
                                                                      ((foldS ms (useS ms l).fst).fst.getD
                                                                          ((↑x : Int) - (1 : Int)).toNat KT.d0).fst ∧
                                                                    ((foldS ms (useS ms l).fst).fst.getD
                                                                          ((↑x : Int) - (1 : Int)).toNat KT.d0).fst <
                                                                      (↑ms.length : Int)) ∧
                                                                (inL (useS ms l).fst
                                                                          ((foldS ms (useS ms l).fst).fst.getD
                                                                              (↑x : Int).toNat KT.d0).fst =
                                                                        false ∧
                                                                      true = true →
                                                                    (0 : Int) ≤
                                                                        ((foldS ms (useS ms l).fst).fst.getD
                                                                            (↑x : Int).toNat KT.d0).fst ∧
                                                                      ((foldS ms (useS ms l).fst).fst.getD
                                                                            (↑x : Int).toNat KT.d0).fst <
                                                                        (↑ms.length : Int)) ∧
                                                                  InI64 ((↑x : Int) + (1 : Int)) ∧
                                                                    ∃ (x' : Nat),
                                                                      x' ≤ (foldS ms (useS ms l).fst).fst.length ∧
                                                                        (foldS ms (useS ms l).fst).fst.length - x' <
                                                                            (foldS ms (useS ms l).fst).fst.length - x ∧
                                                                          (↑x : Int) + (1 : Int) = (↑x' : Int) ∧
                                                                            (true &&
                                                                                  (inL (useS ms l).fst
                                                                                      ((foldS ms
                                                                                                (useS ms
                                                                                                    l).fst).fst.getD
                                                                                          (↑x : Int).toNat KT.d0).fst ||
                                                                                    !joinsB
                                                                                        ((ms.getD
                                                                                              (Int.toNat
                                                                                                ((foldS ms
                                                                                                          (useS ms
                                                                                                              l).fst).fst.getD
                                                                                                    ((↑x : Int) -
                                                                                                        (1 : Int)).toNat
                                                                                                    KT.d0).fst)
                                                                                              MT.d0).fst,
                                                                                          (ms.getD
                                                                                                (Int.toNat
                                                                                                  ((foldS ms
                                                                                                            (useS ms
                                                                                                                l).fst).fst.getD
                                                                                                      ((↑x : Int) -
                                                                                                          (1 :
                                                                                                            Int)).toNat
                                                                                                      KT.d0).fst)
                                                                                                MT.d0).snd.fst,
                                                                                          ((ms.getD
                                                                                                      (Int.toNat
                                                                                                        ((foldS ms
                                                                                                                  (useS
                                                                                                                      ms
                                                                                                                      l).fst).fst.getD
                                                                                                            ((↑x :
                                                                                                                  Int) -
                                                                                                                (1 :
                                                                                                                  Int)).toNat
                                                                                                            KT.d0).fst)
                                                                                                      MT.d0).snd.snd.fst.fst,
                                                                                            (ms.getD
                                                                                                      (Int.toNat
                                                                                                        ((foldS ms
                                                                                                                  (useS
                                                                                                                      ms
                                                                                                                      l).fst).fst.getD
                                                                                                            ((↑x :
                                                                                                                  Int) -
                                                                                                                (1 :
                                                                                                                  Int)).toNat
                                                                                                            KT.d0).fst)
                                                                                                      MT.d0).snd.snd.fst.snd),
                                                                                          (ms.getD
                                                                                                  (Int.toNat
                                                                                                    ((foldS ms
                                                                                                              (useS ms
                                                                                                                  l).fst).fst.getD
                                                                                                        ((↑x : Int) -
                                                                                                            (1 :
                                                                                                              Int)).toNat
                                                                                                        KT.d0).fst)
                                                                                                  MT.d0).snd.snd.snd)
                                                                                        ((ms.getD
                                                                                              (Int.toNat
                                                                                                ((foldS ms
                                                                                                          (useS ms
                                                                                                              l).fst).fst.getD
                                                                                                    (↑x : Int).toNat
                                                                                                    KT.d0).fst)
                                                                                              MT.d0).fst,
                                                                                          (ms.getD
                                                                                                (Int.toNat
                                                                                                  ((foldS ms
                                                                                                            (useS ms
                                                                                                                l).fst).fst.getD
                                                                                                      (↑x : Int).toNat
                                                                                                      KT.d0).fst)
                                                                                                MT.d0).snd.fst,
                                                                                          ((ms.getD
                                                                                                      (Int.toNat
                                                                                                        ((foldS ms
                                                                                                                  (useS
                                                                                                                      ms
                                                                                                                      l).fst).fst.getD
                                                                                                            (↑x :
                                                                                                                Int).toNat
                                                                                                            KT.d0).fst)
                                                                                                      MT.d0).snd.snd.fst.fst,
                                                                                            (ms.getD
                                                                                                      (Int.toNat
                                                                                                        ((foldS ms
                                                                                                                  (useS
                                                                                                                      ms
                                                                                                                      l).fst).fst.getD
                                                                                                            (↑x :
                                                                                                                Int).toNat
                                                                                                            KT.d0).fst)
                                                                                                      MT.d0).snd.snd.fst.snd),
                                                                                          (ms.getD
                                                                                                  (Int.toNat
                                                                                                    ((foldS ms
                                                                                                              (useS ms
                                                                                                                  l).fst).fst.getD
                                                                                                        (↑x : Int).toNat
                                                                                                        KT.d0).fst)
                                                                                                  MT.d0).snd.snd.snd))) =
                                                                                true ∧
                                                                              (↑(foldS ms (useS ms l).fst).fst.length :
                                                                                    Int) =
                                                                                  (↑(foldS ms
                                                                                            (useS ms
                                                                                                l).fst).fst.length :
                                                                                    Int) ∧
                                                                                (foldS ms (useS ms l).fst).fst =
                                                                                    (foldS ms (useS ms l).fst).fst ∧
                                                                                  ((foldS ms (useS ms l).fst).snd !=
                                                                                        (0 : Int)) =
                                                                                      ((foldS ms (useS ms l).fst).snd !=
                                                                                        (0 : Int)) ∧
                                                                                    (foldS ms (useS ms l).fst).snd =
                                                                                        (foldS ms (useS ms l).fst).snd ∧
                                                                                      (foldS ms (useS ms l).fst).fst =
                                                                                          (foldS ms
                                                                                              (useS ms l).fst).fst ∧
                                                                                        (!(useS ms l).snd) =
                                                                                            !(useS ms l).snd ∧
                                                                                          (useS ms l).snd =
                                                                                              (useS ms l).snd ∧
                                                                                            (useS ms l).fst =
                                                                                                (useS ms l).fst ∧
                                                                                              p = p ∧
                                                                                                ms = ms ∧
                                                                                                  l = l ∧
                                                                                                    p = p ∧
                                                                                                      ms = ms))))))) ∧
                      (decide ((↑x : Int) < (↑(foldS ms (useS ms l).fst).fst.length : Int)) = false → true = true)))
end Go.Proofs.Ytdkggjgmlccjcaa
