/- What is to be shown of each function, in plain terms. Written by a program (wip/tools/gen.py). -/
import Derived.Test.YtdkggjgmlccjcaaFoldnc
namespace Go.Proofs.Ytdkggjgmlccjcaa
open Go.Sy Go.RatLaw
set_option linter.unusedVariables false

def P_FStops (p : Int) (ms : List Ms) (l : List Int) (u : Int) : Prop :=
  bytesB l ∧
    (((!(useS ms l).snd) = false → (↑(useS ms l).fst.length : Int) ≤ (9223372036854775807 : Int)) →
      ((!(useS ms l).snd || decide ((↑(useS ms l).fst.length : Int) > (29 : Int))) = false →
          (↑ms.length : Int) ≤ (9223372036854775807 : Int)) →
        ((!(useS ms l).snd || decide ((↑(useS ms l).fst.length : Int) > (29 : Int)) ||
                (↑ms.length : Int) == (0 : Int)) =
              true →
            true = true) ∧
          ((!(useS ms l).snd || decide ((↑(useS ms l).fst.length : Int) > (29 : Int)) ||
                (↑ms.length : Int) == (0 : Int)) =
              false →
            InI64 u ∧
              ((↑ms.length : Int) ≤ (9223372036854775807 : Int) →
                (↑ms.length : Int) ≠ (0 : Int) ∧
                  (0 : Nat) + (1 : Nat) = (0 : Nat) + (1 : Nat) ∧
                    ((0 : Nat) + (1 : Nat) + (useS ms l).fst.length) * (8 : Nat) ≤ (140737488355328 : Nat) ∧
                      ((↑(useS ms l).fst.length : Int) ≤ (9223372036854775807 : Int) →
                        (∃ (x : Nat),
                            x ≤ (useS ms l).fst.length ∧
                              (0 : Int) = (↑x : Int) ∧
                                [] = backS (useS ms l).fst x ∧ (0 : Nat) = (backS (useS ms l).fst x).length) ∧
                          ∀ (x : Nat),
                            x ≤ (useS ms l).fst.length →
                              (decide ((↑x : Int) < (↑(useS ms l).fst.length : Int)) = true →
                                  (↑(useS ms l).fst.length : Int) ≤ (9223372036854775807 : Int) →
                                    InI64 ((↑(useS ms l).fst.length : Int) - (1 : Int)) ∧
                                      InI64 ((↑(useS ms l).fst.length : Int) - (1 : Int) - (↑x : Int)) ∧
                                        (0 : Int) ≤ (↑(useS ms l).fst.length : Int) - (1 : Int) - (↑x : Int) ∧
                                          (↑(useS ms l).fst.length : Int) - (1 : Int) - (↑x : Int) <
                                              (↑(useS ms l).fst.length : Int) ∧
                                            (backS (useS ms l).fst x).length = (backS (useS ms l).fst x).length ∧
                                              ((backS (useS ms l).fst x).length + ((0 : Nat) + (1 : Nat))) * (8 : Nat) ≤
                                                  (140737488355328 : Nat) ∧
                                                InI64 ((↑x : Int) + (1 : Int)) ∧
                                                  ∃ (x' : Nat),
                                                    x' ≤ (useS ms l).fst.length ∧
                                                      (useS ms l).fst.length - x' < (useS ms l).fst.length - x ∧
                                                        (↑x : Int) + (1 : Int) = (↑x' : Int) ∧
                                                          backS (useS ms l).fst x ++
                                                                [(useS ms l).fst.getD
                                                                    ((↑(useS ms l).fst.length : Int) - (1 : Int) -
                                                                        (↑x : Int)).toNat
                                                                    (Ty.ti IntKind.i64).d0] =
                                                              backS (useS ms l).fst x' ∧
                                                            (↑(useS ms l).fst.length : Int) =
                                                                (↑(useS ms l).fst.length : Int) ∧
                                                              (foldS ms
                                                                      ([u.tmod (↑ms.length : Int)] ++
                                                                        (useS ms l).fst)).snd =
                                                                  (foldS ms
                                                                      ([u.tmod (↑ms.length : Int)] ++
                                                                        (useS ms l).fst)).snd ∧
                                                                (foldS ms
                                                                        ([u.tmod (↑ms.length : Int)] ++
                                                                          (useS ms l).fst)).fst =
                                                                    (foldS ms
                                                                        ([u.tmod (↑ms.length : Int)] ++
                                                                          (useS ms l).fst)).fst ∧
                                                                  (foldS ms (useS ms l).fst).snd =
                                                                      (foldS ms (useS ms l).fst).snd ∧
                                                                    (foldS ms (useS ms l).fst).fst =
                                                                        (foldS ms (useS ms l).fst).fst ∧
                                                                      u.tmod (↑ms.length : Int) =
                                                                          u.tmod (↑ms.length : Int) ∧
                                                                        (!(useS ms l).snd ||
                                                                                decide
                                                                                  ((↑(useS ms l).fst.length : Int) >
                                                                                    (29 : Int)) ||
                                                                              (↑ms.length : Int) == (0 : Int)) =
                                                                            (!(useS ms l).snd ||
                                                                                decide
                                                                                  ((↑(useS ms l).fst.length : Int) >
                                                                                    (29 : Int)) ||
                                                                              (↑ms.length : Int) == (0 : Int)) ∧
                                                                          (useS ms l).snd = (useS ms l).snd ∧
                                                                            (useS ms l).fst = (useS ms l).fst ∧
                                                                              true = true ∧
                                                                                false = false ∧
                                                                                  p = p ∧
                                                                                    ms = ms ∧
                                                                                      l = l ∧
                                                                                        u = u ∧
                                                                                          (backS (useS ms l).fst
                                                                                                    x).length +
                                                                                                ((0 : Nat) +
                                                                                                  (1 : Nat)) =
                                                                                              (backS (useS ms l).fst
                                                                                                  x').length ∧
                                                                                            (0 : Nat) + (1 : Nat) +
                                                                                                  (useS ms
                                                                                                        l).fst.length =
                                                                                                (0 : Nat) + (1 : Nat) +
                                                                                                  (useS ms
                                                                                                        l).fst.length ∧
                                                                                              p = p ∧ ms = ms) ∧
                                (decide ((↑x : Int) < (↑(useS ms l).fst.length : Int)) = false →
                                  (backS (useS ms l).fst x).length = (backS (useS ms l).fst x).length ∧
                                    ((backS (useS ms l).fst x).length + (useS ms l).fst.length) * (8 : Nat) ≤
                                        (140737488355328 : Nat) ∧
                                      (((foldS ms (useS ms l).fst).snd != (0 : Int) ||
                                                  (foldS ms ([u.tmod (↑ms.length : Int)] ++ (useS ms l).fst)).snd !=
                                                    (0 : Int) ||
                                                (foldS ms (backS (useS ms l).fst x ++ (useS ms l).fst)).snd !=
                                                  (0 : Int) ||
                                              !sameL (foldS ms (useS ms l).fst).fst
                                                  (foldS ms (backS (useS ms l).fst x ++ (useS ms l).fst)).fst) =
                                            true →
                                          false = true) ∧
                                        (((foldS ms (useS ms l).fst).snd != (0 : Int) ||
                                                  (foldS ms ([u.tmod (↑ms.length : Int)] ++ (useS ms l).fst)).snd !=
                                                    (0 : Int) ||
                                                (foldS ms (backS (useS ms l).fst x ++ (useS ms l).fst)).snd !=
                                                  (0 : Int) ||
                                              !sameL (foldS ms (useS ms l).fst).fst
                                                  (foldS ms (backS (useS ms l).fst x ++ (useS ms l).fst)).fst) =
                                            false →
                                          (↑(foldS ms (useS ms l).fst).fst.length : Int) ≤ (9223372036854775807 : Int) →
                                            (∃ (x : Nat),
                                                x ≤ (foldS ms (useS ms l).fst).fst.length ∧
                                                  (0 : Int) = (↑x : Int) ∧
                                                    [] =
                                                        splitL (u.tmod (↑ms.length : Int))
                                                          (List.take x (foldS ms (useS ms l).fst).fst) ∧
                                                      (0 : Nat) =
                                                        (splitL (u.tmod (↑ms.length : Int))
                                                            (List.take x (foldS ms (useS ms l).fst).fst)).length) ∧
                                              ∀ (x_1 : Nat),
                                                x_1 ≤ (foldS ms (useS ms l).fst).fst.length →
                                                  (decide
                                                          ((↑x_1 : Int) <
                                                            (↑(foldS ms (useS ms l).fst).fst.length : Int)) =
                                                        true →
                                                      (0 : Int) ≤ (↑x_1 : Int) ∧
                                                        (↑x_1 : Int) < (↑(foldS ms (useS ms l).fst).fst.length : Int) ∧
                                                          (decide
                                                                  (((foldS ms (useS ms l).fst).fst.getD
                                                                        (↑x_1 : Int).toNat KT.d0).fst <
                                                                    u.tmod (↑ms.length : Int)) =
                                                                true →
                                                              InI64
                                                                (((foldS ms (useS ms l).fst).fst.getD (↑x_1 : Int).toNat
                                                                      KT.d0).fst +
                                                                  ((foldS ms (useS ms l).fst).fst.getD
                                                                      (↑x_1 : Int).toNat KT.d0).snd)) ∧
                                                            ((decide
                                                                      (((foldS ms (useS ms l).fst).fst.getD
                                                                            (↑x_1 : Int).toNat KT.d0).fst <
                                                                        u.tmod (↑ms.length : Int)) &&
                                                                    decide
                                                                      (u.tmod (↑ms.length : Int) <
                                                                        ((foldS ms (useS ms l).fst).fst.getD
                                                                              (↑x_1 : Int).toNat KT.d0).fst +
                                                                          ((foldS ms (useS ms l).fst).fst.getD
                                                                              (↑x_1 : Int).toNat KT.d0).snd)) =
                                                                  true →
                                                                InI64
                                                                    (u.tmod (↑ms.length : Int) -
                                                                      ((foldS ms (useS ms l).fst).fst.getD
                                                                          (↑x_1 : Int).toNat KT.d0).fst) ∧
                                                                  InI64
                                                                      (((foldS ms (useS ms l).fst).fst.getD
                                                                            (↑x_1 : Int).toNat KT.d0).fst +
                                                                        ((foldS ms (useS ms l).fst).fst.getD
                                                                            (↑x_1 : Int).toNat KT.d0).snd) ∧
                                                                    InI64
                                                                        (((foldS ms (useS ms l).fst).fst.getD
                                                                                (↑x_1 : Int).toNat KT.d0).fst +
                                                                            ((foldS ms (useS ms l).fst).fst.getD
                                                                                (↑x_1 : Int).toNat KT.d0).snd -
                                                                          u.tmod (↑ms.length : Int)) ∧
                                                                      (splitL (u.tmod (↑ms.length : Int))
                                                                              (List.take x_1
                                                                                (foldS ms
                                                                                    (useS ms l).fst).fst)).length =
                                                                          (splitL (u.tmod (↑ms.length : Int))
                                                                              (List.take x_1
                                                                                (foldS ms
                                                                                    (useS ms l).fst).fst)).length ∧
                                                                        ((splitL (u.tmod (↑ms.length : Int))
                                                                                    (List.take x_1
                                                                                      (foldS ms
                                                                                          (useS ms
                                                                                              l).fst).fst)).length +
                                                                                ((0 : Nat) + (1 : Nat) + (1 : Nat))) *
                                                                              (16 : Nat) ≤
                                                                            (140737488355328 : Nat) ∧
                                                                          InI64 ((↑x_1 : Int) + (1 : Int)) ∧
                                                                            ∃ (x' : Nat),
                                                                              x' ≤
                                                                                  (foldS ms
                                                                                        (useS ms l).fst).fst.length ∧
                                                                                (foldS ms (useS ms l).fst).fst.length -
                                                                                      x' <
                                                                                    (foldS ms
                                                                                            (useS ms
                                                                                                l).fst).fst.length -
                                                                                      x_1 ∧
                                                                                  (↑x_1 : Int) + (1 : Int) =
                                                                                      (↑x' : Int) ∧
                                                                                    splitL (u.tmod (↑ms.length : Int))
                                                                                            (List.take x_1
                                                                                              (foldS ms
                                                                                                  (useS ms
                                                                                                      l).fst).fst) ++
                                                                                          [(((foldS ms
                                                                                                        (useS ms
                                                                                                            l).fst).fst.getD
                                                                                                  (↑x_1 : Int).toNat
                                                                                                  KT.d0).fst,
                                                                                              u.tmod
                                                                                                  (↑ms.length : Int) -
                                                                                                ((foldS ms
                                                                                                          (useS ms
                                                                                                              l).fst).fst.getD
                                                                                                    (↑x_1 : Int).toNat
                                                                                                    KT.d0).fst),
                                                                                            (u.tmod (↑ms.length : Int),
                                                                                              ((foldS ms
                                                                                                            (useS ms
                                                                                                                l).fst).fst.getD
                                                                                                      (↑x_1 : Int).toNat
                                                                                                      KT.d0).fst +
                                                                                                  ((foldS ms
                                                                                                            (useS ms
                                                                                                                l).fst).fst.getD
                                                                                                      (↑x_1 : Int).toNat
                                                                                                      KT.d0).snd -
                                                                                                u.tmod
                                                                                                  (↑ms.length : Int))] =
                                                                                        splitL
                                                                                          (u.tmod (↑ms.length : Int))
                                                                                          (List.take x'
                                                                                            (foldS ms
                                                                                                (useS ms l).fst).fst) ∧
                                                                                      (↑(foldS ms
                                                                                                    (useS ms
                                                                                                        l).fst).fst.length :
                                                                                            Int) =
                                                                                          (↑(foldS ms
                                                                                                    (useS ms
                                                                                                        l).fst).fst.length :
                                                                                            Int) ∧
                                                                                        (foldS ms (useS ms l).fst).fst =
                                                                                            (foldS ms
                                                                                                (useS ms l).fst).fst ∧
                                                                                          ((foldS ms
                                                                                                          (useS ms
                                                                                                              l).fst).snd !=
                                                                                                      (0 : Int) ||
                                                                                                    (foldS ms
                                                                                                          ([u.tmod
                                                                                                                (↑ms.length :
                                                                                                                  Int)] ++
                                                                                                            (useS ms
                                                                                                                l).fst)).snd !=
                                                                                                      (0 : Int) ||
                                                                                                  (foldS ms
                                                                                                        (backS
                                                                                                            (useS ms
                                                                                                                l).fst
                                                                                                            x ++
                                                                                                          (useS ms
                                                                                                              l).fst)).snd !=
                                                                                                    (0 : Int) ||
                                                                                                !sameL
                                                                                                    (foldS ms
                                                                                                        (useS ms
                                                                                                            l).fst).fst
                                                                                                    (foldS ms
                                                                                                        (backS
                                                                                                            (useS ms
                                                                                                                l).fst
                                                                                                            x ++
                                                                                                          (useS ms
                                                                                                              l).fst)).fst) =
                                                                                              ((foldS ms
                                                                                                          (useS ms
                                                                                                              l).fst).snd !=
                                                                                                      (0 : Int) ||
                                                                                                    (foldS ms
                                                                                                          ([u.tmod
                                                                                                                (↑ms.length :
                                                                                                                  Int)] ++
                                                                                                            (useS ms
                                                                                                                l).fst)).snd !=
                                                                                                      (0 : Int) ||
                                                                                                  (foldS ms
                                                                                                        (backS
                                                                                                            (useS ms
                                                                                                                l).fst
                                                                                                            x ++
                                                                                                          (useS ms
                                                                                                              l).fst)).snd !=
                                                                                                    (0 : Int) ||
                                                                                                !sameL
                                                                                                    (foldS ms
                                                                                                        (useS ms
                                                                                                            l).fst).fst
                                                                                                    (foldS ms
                                                                                                        (backS
                                                                                                            (useS ms
                                                                                                                l).fst
                                                                                                            x ++
                                                                                                          (useS ms
                                                                                                              l).fst)).fst) ∧
                                                                                            (foldS ms
                                                                                                    (backS
                                                                                                        (useS ms l).fst
                                                                                                        x ++
                                                                                                      (useS ms
                                                                                                          l).fst)).snd =
                                                                                                (foldS ms
                                                                                                    (backS
                                                                                                        (useS ms l).fst
                                                                                                        x ++
                                                                                                      (useS ms
                                                                                                          l).fst)).snd ∧
                                                                                              (foldS ms
                                                                                                      (backS
                                                                                                          (useS ms
                                                                                                              l).fst
                                                                                                          x ++
                                                                                                        (useS ms
                                                                                                            l).fst)).fst =
                                                                                                  (foldS ms
                                                                                                      (backS
                                                                                                          (useS ms
                                                                                                              l).fst
                                                                                                          x ++
                                                                                                        (useS ms
                                                                                                            l).fst)).fst ∧
                                                                                                decide
                                                                                                      ((↑x : Int) <
                                                                                                        (↑(useS ms
                                                                                                                  l).fst.length :
                                                                                                          Int)) =
                                                                                                    decide
                                                                                                      ((↑x : Int) <
                                                                                                        (↑(useS ms
                                                                                                                  l).fst.length :
                                                                                                          Int)) ∧
                                                                                                  (↑x : Int) =
                                                                                                      (↑x : Int) ∧
                                                                                                    backS
                                                                                                          (useS ms
                                                                                                              l).fst
                                                                                                          x =
                                                                                                        backS
                                                                                                          (useS ms
                                                                                                              l).fst
                                                                                                          x ∧
                                                                                                      (↑(useS ms
                                                                                                                    l).fst.length :
                                                                                                            Int) =
                                                                                                          (↑(useS ms
                                                                                                                    l).fst.length :
                                                                                                            Int) ∧
                                                                                                        (foldS ms
                                                                                                                ([u.tmod
                                                                                                                      (↑ms.length :
                                                                                                                        Int)] ++
                                                                                                                  (useS
                                                                                                                      ms
                                                                                                                      l).fst)).snd =
                                                                                                            (foldS ms
                                                                                                                ([u.tmod
                                                                                                                      (↑ms.length :
                                                                                                                        Int)] ++
                                                                                                                  (useS
                                                                                                                      ms
                                                                                                                      l).fst)).snd ∧
                                                                                                          (foldS ms
                                                                                                                  ([u.tmod
                                                                                                                        (↑ms.length :
                                                                                                                          Int)] ++
                                                                                                                    (useS
                                                                                                                        ms
                                                                                                                        l).fst)).fst =
                                                                                                              (foldS ms
                                                                                                                  ([u.tmod
                                                                                                                        (↑ms.length :
                                                                                                                          Int)] ++
                                                                                                                    (useS
                                                                                                                        ms
                                                                                                                        l).fst)).fst ∧
                                                                                                            (foldS ms
                                                                                                                    (useS
                                                                                                                        ms
                                                                                                                        l).fst).snd =
                                                                                                                (foldS
                                                                                                                    ms
                                                                                                                    (useS
                                                                                                                        ms
                                                                                                                        l).fst).snd ∧
                                                                                                              (foldS ms
                                                                                                                      (useS
                                                                                                                          ms
                                                                                                                          l).fst).fst =
                                                                                                                  (foldS
                                                                                                                      ms
                                                                                                                      (useS
                                                                                                                          ms
                                                                                                                          l).fst).fst ∧
                                                                                                                u.tmod
                                                                                                                      (↑ms.length :
                                                                                                                        Int) =
                                                                                                                    u.tmod
                                                                                                                      (↑ms.length :
                                                                                                                        Int) ∧
                                                                                                                  (!(useS
                                                                                                                                ms
                                                                                                                                l).snd ||
                                                                                                                          decide
                                                                                                                            ((↑(useS
                                                                                                                                        ms
                                                                                                                                        l).fst.length :
                                                                                                                                Int) >
                                                                                                                              (29 :
                                                                                                                                Int)) ||
                                                                                                                        (↑ms.length :
                                                                                                                            Int) ==
                                                                                                                          (0 :
                                                                                                                            Int)) =
                                                                                                                      (!(useS
                                                                                                                                ms
                                                                                                                                l).snd ||
                                                                                                                          decide
                                                                                                                            ((↑(useS
                                                                                                                                        ms
                                                                                                                                        l).fst.length :
                                                                                                                                Int) >
                                                                                                                              (29 :
                                                                                                                                Int)) ||
                                                                                                                        (↑ms.length :
                                                                                                                            Int) ==
                                                                                                                          (0 :
                                                                                                                            Int)) ∧
                                                                                                                    (useS
                                                                                                                            ms
                                                                                                                            l).snd =
                                                                                                                        (useS
                                                                                                                            ms
                                                                                                                            l).snd ∧
                                                                                                                      (useS
                                                                                                                              ms
                                                                                                                              l).fst =
                                                                                                                          (useS
                                                                                                                              ms
                                                                                                                              l).fst ∧
                                                                                                                        true =
                                                                                                                            true ∧
                                                                                                                          false =
                                                                                                                              false ∧
                                                                                                                            p =
                                                                                                                                p ∧
                                                                                                                              ms =
                                                                                                                                  ms ∧
                                                                                                                                l =
                                                                                                                                    l ∧
                                                                                                                                  u =
                                                                                                                                      u ∧
                                                                                                                                    (splitL
                                                                                                                                              (u.tmod
                                                                                                                                                (↑ms.length :
                                                                                                                                                  Int))
                                                                                                                                              (List.take
                                                                                                                                                x_1
                                                                                                                                                (foldS
                                                                                                                                                    ms
                                                                                                                                                    (useS
                                                                                                                                                        ms
                                                                                                                                                        l).fst).fst)).length +
                                                                                                                                          ((0 :
                                                                                                                                                Nat) +
                                                                                                                                              (1 :
                                                                                                                                                Nat) +
                                                                                                                                            (1 :
                                                                                                                                              Nat)) =
                                                                                                                                        (splitL
                                                                                                                                            (u.tmod
                                                                                                                                              (↑ms.length :
                                                                                                                                                Int))
                                                                                                                                            (List.take
                                                                                                                                              x'
                                                                                                                                              (foldS
                                                                                                                                                  ms
                                                                                                                                                  (useS
                                                                                                                                                      ms
                                                                                                                                                      l).fst).fst)).length ∧
                                                                                                                                      (backS
                                                                                                                                                (useS
                                                                                                                                                    ms
                                                                                                                                                    l).fst
                                                                                                                                                x).length +
                                                                                                                                            (useS
                                                                                                                                                  ms
                                                                                                                                                  l).fst.length =
                                                                                                                                          (backS
                                                                                                                                                (useS
                                                                                                                                                    ms
                                                                                                                                                    l).fst
                                                                                                                                                x).length +
                                                                                                                                            (useS
                                                                                                                                                  ms
                                                                                                                                                  l).fst.length ∧
                                                                                                                                        (0 :
                                                                                                                                                  Nat) +
                                                                                                                                                (1 :
                                                                                                                                                  Nat) +
                                                                                                                                              (useS
                                                                                                                                                    ms
                                                                                                                                                    l).fst.length =
                                                                                                                                            (0 :
                                                                                                                                                  Nat) +
                                                                                                                                                (1 :
                                                                                                                                                  Nat) +
                                                                                                                                              (useS
                                                                                                                                                    ms
                                                                                                                                                    l).fst.length ∧
                                                                                                                                          p =
                                                                                                                                              p ∧
                                                                                                                                            ms =
                                                                                                                                              ms) ∧
                                                              ((decide
                                                                      (((foldS ms (useS ms l).fst).fst.getD
                                                                            (↑x_1 : Int).toNat KT.d0).fst <
                                                                        u.tmod (↑ms.length : Int)) &&
                                                                    decide
                                                                      (u.tmod (↑ms.length : Int) <
                                                                        ((foldS ms (useS ms l).fst).fst.getD
                                                                              (↑x_1 : Int).toNat KT.d0).fst +
                                                                          ((foldS ms (useS ms l).fst).fst.getD
                                                                              (↑x_1 : Int).toNat KT.d0).snd)) =
                                                                  false →
                                                                (splitL (u.tmod (↑ms.length : Int))
                                                                        (List.take x_1
                                                                          (foldS ms (useS ms l).fst).fst)).length =
                                                                    (splitL (u.tmod (↑ms.length : Int))
                                                                        (List.take x_1
                                                                          (foldS ms (useS ms l).fst).fst)).length ∧
                                                                  ((splitL (u.tmod (↑ms.length : Int))
                                                                              (List.take x_1
                                                                                (foldS ms
                                                                                    (useS ms l).fst).fst)).length +
                                                                          ((0 : Nat) + (1 : Nat))) *
                                                                        (16 : Nat) ≤
                                                                      (140737488355328 : Nat) ∧
                                                                    InI64 ((↑x_1 : Int) + (1 : Int)) ∧
                                                                      ∃ (x' : Nat),
                                                                        x' ≤ (foldS ms (useS ms l).fst).fst.length ∧
                                                                          (foldS ms (useS ms l).fst).fst.length - x' <
                                                                              (foldS ms (useS ms l).fst).fst.length -
                                                                                x_1 ∧
                                                                            (↑x_1 : Int) + (1 : Int) = (↑x' : Int) ∧
                                                                              splitL (u.tmod (↑ms.length : Int))
                                                                                      (List.take x_1
                                                                                        (foldS ms
                                                                                            (useS ms l).fst).fst) ++
                                                                                    [(((foldS ms
                                                                                                  (useS ms
                                                                                                      l).fst).fst.getD
                                                                                            (↑x_1 : Int).toNat
                                                                                            KT.d0).fst,
                                                                                        ((foldS ms
                                                                                                  (useS ms
                                                                                                      l).fst).fst.getD
                                                                                            (↑x_1 : Int).toNat
                                                                                            KT.d0).snd)] =
                                                                                  splitL (u.tmod (↑ms.length : Int))
                                                                                    (List.take x'
                                                                                      (foldS ms (useS ms l).fst).fst) ∧
                                                                                (↑(foldS ms
                                                                                              (useS ms
                                                                                                  l).fst).fst.length :
                                                                                      Int) =
                                                                                    (↑(foldS ms
                                                                                              (useS ms
                                                                                                  l).fst).fst.length :
                                                                                      Int) ∧
                                                                                  (foldS ms (useS ms l).fst).fst =
                                                                                      (foldS ms (useS ms l).fst).fst ∧
                                                                                    ((foldS ms (useS ms l).fst).snd !=
                                                                                                (0 : Int) ||
                                                                                              (foldS ms
                                                                                                    ([u.tmod
                                                                                                          (↑ms.length :
                                                                                                            Int)] ++
                                                                                                      (useS ms
                                                                                                          l).fst)).snd !=
                                                                                                (0 : Int) ||
                                                                                            (foldS ms
                                                                                                  (backS (useS ms l).fst
                                                                                                      x ++
                                                                                                    (useS ms
                                                                                                        l).fst)).snd !=
                                                                                              (0 : Int) ||
                                                                                          !sameL
                                                                                              (foldS ms
                                                                                                  (useS ms l).fst).fst
                                                                                              (foldS ms
                                                                                                  (backS (useS ms l).fst
                                                                                                      x ++
                                                                                                    (useS ms
                                                                                                        l).fst)).fst) =
                                                                                        ((foldS ms
                                                                                                    (useS ms
                                                                                                        l).fst).snd !=
                                                                                                (0 : Int) ||
                                                                                              (foldS ms
                                                                                                    ([u.tmod
                                                                                                          (↑ms.length :
                                                                                                            Int)] ++
                                                                                                      (useS ms
                                                                                                          l).fst)).snd !=
                                                                                                (0 : Int) ||
                                                                                            (foldS ms
                                                                                                  (backS (useS ms l).fst
                                                                                                      x ++
                                                                                                    (useS ms
                                                                                                        l).fst)).snd !=
                                                                                              (0 : Int) ||
                                                                                          !sameL
                                                                                              (foldS ms
                                                                                                  (useS ms l).fst).fst
                                                                                              (foldS ms
                                                                                                  (backS (useS ms l).fst
                                                                                                      x ++
                                                                                                    (useS ms
                                                                                                        l).fst)).fst) ∧
                                                                                      (foldS ms
                                                                                              (backS (useS ms l).fst
                                                                                                  x ++
                                                                                                (useS ms l).fst)).snd =
                                                                                          (foldS ms
                                                                                              (backS (useS ms l).fst
                                                                                                  x ++
                                                                                                (useS ms l).fst)).snd ∧
                                                                                        (foldS ms
                                                                                                (backS (useS ms l).fst
                                                                                                    x ++
                                                                                                  (useS ms
                                                                                                      l).fst)).fst =
                                                                                            (foldS ms
                                                                                                (backS (useS ms l).fst
                                                                                                    x ++
                                                                                                  (useS ms
                                                                                                      l).fst)).fst ∧
                                                                                          decide
                                                                                                ((↑x : Int) <
                                                                                                  (↑(useS ms
                                                                                                            l).fst.length :
                                                                                                    Int)) =
                                                                                              decide
                                                                                                ((↑x : Int) <
                                                                                                  (↑(useS ms
                                                                                                            l).fst.length :
                                                                                                    Int)) ∧
                                                                                            (↑x : Int) = (↑x : Int) ∧
                                                                                              backS (useS ms l).fst x =
                                                                                                  backS (useS ms l).fst
                                                                                                    x ∧
                                                                                                (↑(useS ms
                                                                                                              l).fst.length :
                                                                                                      Int) =
                                                                                                    (↑(useS ms
                                                                                                              l).fst.length :
                                                                                                      Int) ∧
                                                                                                  (foldS ms
                                                                                                          ([u.tmod
                                                                                                                (↑ms.length :
                                                                                                                  Int)] ++
                                                                                                            (useS ms
                                                                                                                l).fst)).snd =
                                                                                                      (foldS ms
                                                                                                          ([u.tmod
                                                                                                                (↑ms.length :
                                                                                                                  Int)] ++
                                                                                                            (useS ms
                                                                                                                l).fst)).snd ∧
                                                                                                    (foldS ms
                                                                                                            ([u.tmod
                                                                                                                  (↑ms.length :
                                                                                                                    Int)] ++
                                                                                                              (useS ms
                                                                                                                  l).fst)).fst =
                                                                                                        (foldS ms
                                                                                                            ([u.tmod
                                                                                                                  (↑ms.length :
                                                                                                                    Int)] ++
                                                                                                              (useS ms
                                                                                                                  l).fst)).fst ∧
                                                                                                      (foldS ms
                                                                                                              (useS ms
                                                                                                                  l).fst).snd =
                                                                                                          (foldS ms
                                                                                                              (useS ms
                                                                                                                  l).fst).snd ∧
                                                                                                        (foldS ms
                                                                                                                (useS ms
                                                                                                                    l).fst).fst =
                                                                                                            (foldS ms
                                                                                                                (useS ms
                                                                                                                    l).fst).fst ∧
                                                                                                          u.tmod
                                                                                                                (↑ms.length :
                                                                                                                  Int) =
                                                                                                              u.tmod
                                                                                                                (↑ms.length :
                                                                                                                  Int) ∧
                                                                                                            (!(useS ms
                                                                                                                          l).snd ||
                                                                                                                    decide
                                                                                                                      ((↑(useS
                                                                                                                                  ms
                                                                                                                                  l).fst.length :
                                                                                                                          Int) >
                                                                                                                        (29 :
                                                                                                                          Int)) ||
                                                                                                                  (↑ms.length :
                                                                                                                      Int) ==
                                                                                                                    (0 :
                                                                                                                      Int)) =
                                                                                                                (!(useS
                                                                                                                          ms
                                                                                                                          l).snd ||
                                                                                                                    decide
                                                                                                                      ((↑(useS
                                                                                                                                  ms
                                                                                                                                  l).fst.length :
                                                                                                                          Int) >
                                                                                                                        (29 :
                                                                                                                          Int)) ||
                                                                                                                  (↑ms.length :
                                                                                                                      Int) ==
                                                                                                                    (0 :
                                                                                                                      Int)) ∧
                                                                                                              (useS ms
                                                                                                                      l).snd =
                                                                                                                  (useS
                                                                                                                      ms
                                                                                                                      l).snd ∧
                                                                                                                (useS ms
                                                                                                                        l).fst =
                                                                                                                    (useS
                                                                                                                        ms
                                                                                                                        l).fst ∧
                                                                                                                  true =
                                                                                                                      true ∧
                                                                                                                    false =
                                                                                                                        false ∧
                                                                                                                      p =
                                                                                                                          p ∧
                                                                                                                        ms =
                                                                                                                            ms ∧
                                                                                                                          l =
                                                                                                                              l ∧
                                                                                                                            u =
                                                                                                                                u ∧
                                                                                                                              (splitL
                                                                                                                                        (u.tmod
                                                                                                                                          (↑ms.length :
                                                                                                                                            Int))
                                                                                                                                        (List.take
                                                                                                                                          x_1
                                                                                                                                          (foldS
                                                                                                                                              ms
                                                                                                                                              (useS
                                                                                                                                                  ms
                                                                                                                                                  l).fst).fst)).length +
                                                                                                                                    ((0 :
                                                                                                                                        Nat) +
                                                                                                                                      (1 :
                                                                                                                                        Nat)) =
                                                                                                                                  (splitL
                                                                                                                                      (u.tmod
                                                                                                                                        (↑ms.length :
                                                                                                                                          Int))
                                                                                                                                      (List.take
                                                                                                                                        x'
                                                                                                                                        (foldS
                                                                                                                                            ms
                                                                                                                                            (useS
                                                                                                                                                ms
                                                                                                                                                l).fst).fst)).length ∧
                                                                                                                                (backS
                                                                                                                                          (useS
                                                                                                                                              ms
                                                                                                                                              l).fst
                                                                                                                                          x).length +
                                                                                                                                      (useS
                                                                                                                                            ms
                                                                                                                                            l).fst.length =
                                                                                                                                    (backS
                                                                                                                                          (useS
                                                                                                                                              ms
                                                                                                                                              l).fst
                                                                                                                                          x).length +
                                                                                                                                      (useS
                                                                                                                                            ms
                                                                                                                                            l).fst.length ∧
                                                                                                                                  (0 :
                                                                                                                                            Nat) +
                                                                                                                                          (1 :
                                                                                                                                            Nat) +
                                                                                                                                        (useS
                                                                                                                                              ms
                                                                                                                                              l).fst.length =
                                                                                                                                      (0 :
                                                                                                                                            Nat) +
                                                                                                                                          (1 :
                                                                                                                                            Nat) +
                                                                                                                                        (useS
                                                                                                                                              ms
                                                                                                                                              l).fst.length ∧
                                                                                                                                    p =
                                                                                                                                        p ∧
                                                                                                                                      ms =
                                                                                                                                        ms)) ∧
                                                    (decide
                                                          ((↑x_1 : Int) <
                                                            (↑(foldS ms (useS ms l).fst).fst.length : Int)) =
                                                        false →
                                                      (true &&
                                                          sameL
                                                            (foldS ms
                                                                ([u.tmod (↑ms.length : Int)] ++ (useS ms l).fst)).fst
                                                            (splitL (u.tmod (↑ms.length : Int))
                                                              (List.take x_1 (foldS ms (useS ms l).fst).fst))) =
                                                        true)))))))
end Go.Proofs.Ytdkggjgmlccjcaa
