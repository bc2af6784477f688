/- What is to be shown of each function, in plain terms. Written by a program (wip/tools/gen.py). -/
import Derived.Test.YtdkggjgmlccjcaaFoldpc
namespace Go.Proofs.Ytdkggjgmlccjcaa
open Go.Sy Go.RatLaw
set_option linter.unusedVariables false

def P_FWidths (p : Int) (ms : List Ms) (l : List Int) : Prop :=
  bytesB l ∧
    ((!(useS ms l).snd) = true → true = true) ∧
      ((!(useS ms l).snd) = false →
        (((foldS ms (useS ms l).fst).snd != (0 : Int) || (widthsS ms (foldS ms (useS ms l).fst).fst).snd != (0 : Int)) =
              false →
            (↑(widthsS ms (foldS ms (useS ms l).fst).fst).fst.length : Int) ≤ (9223372036854775807 : Int)) →
          (((foldS ms (useS ms l).fst).snd != (0 : Int) ||
                  (widthsS ms (foldS ms (useS ms l).fst).fst).snd != (0 : Int)) =
                false →
              (↑(foldS ms (useS ms l).fst).fst.length : Int) ≤ (9223372036854775807 : Int)) →
            (((foldS ms (useS ms l).fst).snd != (0 : Int) ||
                      (widthsS ms (foldS ms (useS ms l).fst).fst).snd != (0 : Int) ||
                    (↑(widthsS ms (foldS ms (useS ms l).fst).fst).fst.length : Int) !=
                      (↑(foldS ms (useS ms l).fst).fst.length : Int)) =
                  true →
                false = true) ∧
              (((foldS ms (useS ms l).fst).snd != (0 : Int) ||
                      (widthsS ms (foldS ms (useS ms l).fst).fst).snd != (0 : Int) ||
                    (↑(widthsS ms (foldS ms (useS ms l).fst).fst).fst.length : Int) !=
                      (↑(foldS ms (useS ms l).fst).fst.length : Int)) =
                  false →
                (↑(foldS ms (useS ms l).fst).fst.length : Int) ≤ (9223372036854775807 : Int) →
                  (∃ (x : Nat), x ≤ (foldS ms (useS ms l).fst).fst.length ∧ (0 : Int) = (↑x : Int) ∧ true = true) ∧
                    ∀ (x : Nat),
                      x ≤ (foldS ms (useS ms l).fst).fst.length →
                        (decide ((↑x : Int) < (↑(foldS ms (useS ms l).fst).fst.length : Int)) = true →
                            (0 : Int) ≤ (↑x : Int) ∧
                              (↑x : Int) < (↑(foldS ms (useS ms l).fst).fst.length : Int) ∧
                                ((((foldS ms (useS ms l).fst).fst.getD (↑x : Int).toNat KT.d0).snd == (1 : Int)) =
                                      true →
                                    (true = true →
                                        (0 : Int) ≤ (↑x : Int) ∧
                                          (↑x : Int) <
                                            (↑(widthsS ms (foldS ms (useS ms l).fst).fst).fst.length : Int)) ∧
                                      InI64 ((↑x : Int) + (1 : Int)) ∧
                                        ∃ (x' : Nat),
                                          x' ≤ (foldS ms (useS ms l).fst).fst.length ∧
                                            (foldS ms (useS ms l).fst).fst.length - x' <
                                                (foldS ms (useS ms l).fst).fst.length - x ∧
                                              (↑x : Int) + (1 : Int) = (↑x' : Int) ∧
                                                (true &&
                                                      (widthsS ms (foldS ms (useS ms l).fst).fst).fst.getD
                                                          (↑x : Int).toNat (Ty.ti IntKind.i64).d0 ==
                                                        (20 : Int)) =
                                                    true ∧
                                                  (↑(foldS ms (useS ms l).fst).fst.length : Int) =
                                                      (↑(foldS ms (useS ms l).fst).fst.length : Int) ∧
                                                    (foldS ms (useS ms l).fst).fst = (foldS ms (useS ms l).fst).fst ∧
                                                      ((foldS ms (useS ms l).fst).snd != (0 : Int) ||
                                                              (widthsS ms (foldS ms (useS ms l).fst).fst).snd !=
                                                                (0 : Int) ||
                                                            (↑(widthsS ms (foldS ms (useS ms l).fst).fst).fst.length :
                                                                Int) !=
                                                              (↑(foldS ms (useS ms l).fst).fst.length : Int)) =
                                                          ((foldS ms (useS ms l).fst).snd != (0 : Int) ||
                                                              (widthsS ms (foldS ms (useS ms l).fst).fst).snd !=
                                                                (0 : Int) ||
                                                            (↑(widthsS ms (foldS ms (useS ms l).fst).fst).fst.length :
                                                                Int) !=
                                                              (↑(foldS ms (useS ms l).fst).fst.length : Int)) ∧
                                                        (widthsS ms (foldS ms (useS ms l).fst).fst).snd =
                                                            (widthsS ms (foldS ms (useS ms l).fst).fst).snd ∧
                                                          (widthsS ms (foldS ms (useS ms l).fst).fst).fst =
                                                              (widthsS ms (foldS ms (useS ms l).fst).fst).fst ∧
                                                            (foldS ms (useS ms l).fst).snd =
                                                                (foldS ms (useS ms l).fst).snd ∧
                                                              (foldS ms (useS ms l).fst).fst =
                                                                  (foldS ms (useS ms l).fst).fst ∧
                                                                (!(useS ms l).snd) = !(useS ms l).snd ∧
                                                                  (useS ms l).snd = (useS ms l).snd ∧
                                                                    (useS ms l).fst = (useS ms l).fst ∧
                                                                      p = p ∧ ms = ms ∧ l = l ∧ p = p ∧ ms = ms) ∧
                                  ((((foldS ms (useS ms l).fst).fst.getD (↑x : Int).toNat KT.d0).snd == (1 : Int)) =
                                      false →
                                    (decide
                                            (((foldS ms (useS ms l).fst).fst.getD (↑x : Int).toNat KT.d0).snd >
                                              (1 : Int)) =
                                          true →
                                        (true = true →
                                            (0 : Int) ≤ (↑x : Int) ∧
                                              (↑x : Int) <
                                                (↑(widthsS ms (foldS ms (useS ms l).fst).fst).fst.length : Int)) ∧
                                          InI64 ((↑x : Int) + (1 : Int)) ∧
                                            ∃ (x' : Nat),
                                              x' ≤ (foldS ms (useS ms l).fst).fst.length ∧
                                                (foldS ms (useS ms l).fst).fst.length - x' <
                                                    (foldS ms (useS ms l).fst).fst.length - x ∧
                                                  (↑x : Int) + (1 : Int) = (↑x' : Int) ∧
                                                    (true &&
                                                          (widthsS ms (foldS ms (useS ms l).fst).fst).fst.getD
                                                              (↑x : Int).toNat (Ty.ti IntKind.i64).d0 ==
                                                            (30 : Int)) =
                                                        true ∧
                                                      (↑(foldS ms (useS ms l).fst).fst.length : Int) =
                                                          (↑(foldS ms (useS ms l).fst).fst.length : Int) ∧
                                                        (foldS ms (useS ms l).fst).fst =
                                                            (foldS ms (useS ms l).fst).fst ∧
                                                          ((foldS ms (useS ms l).fst).snd != (0 : Int) ||
                                                                  (widthsS ms (foldS ms (useS ms l).fst).fst).snd !=
                                                                    (0 : Int) ||
                                                                (↑(widthsS ms
                                                                            (foldS ms (useS ms l).fst).fst).fst.length :
                                                                    Int) !=
                                                                  (↑(foldS ms (useS ms l).fst).fst.length : Int)) =
                                                              ((foldS ms (useS ms l).fst).snd != (0 : Int) ||
                                                                  (widthsS ms (foldS ms (useS ms l).fst).fst).snd !=
                                                                    (0 : Int) ||
                                                                (↑(widthsS ms
                                                                            (foldS ms (useS ms l).fst).fst).fst.length :
                                                                    Int) !=
                                                                  (↑(foldS ms (useS ms l).fst).fst.length : Int)) ∧
                                                            (widthsS ms (foldS ms (useS ms l).fst).fst).snd =
                                                                (widthsS ms (foldS ms (useS ms l).fst).fst).snd ∧
                                                              (widthsS ms (foldS ms (useS ms l).fst).fst).fst =
                                                                  (widthsS ms (foldS ms (useS ms l).fst).fst).fst ∧
                                                                (foldS ms (useS ms l).fst).snd =
                                                                    (foldS ms (useS ms l).fst).snd ∧
                                                                  (foldS ms (useS ms l).fst).fst =
                                                                      (foldS ms (useS ms l).fst).fst ∧
                                                                    (!(useS ms l).snd) = !(useS ms l).snd ∧
                                                                      (useS ms l).snd = (useS ms l).snd ∧
                                                                        (useS ms l).fst = (useS ms l).fst ∧
                                                                          p = p ∧ ms = ms ∧ l = l ∧ p = p ∧ ms = ms) ∧
                                      (decide
                                            (((foldS ms (useS ms l).fst).fst.getD (↑x : Int).toNat KT.d0).snd >
                                              (1 : Int)) =
                                          false →
                                        (decide
                                                (((foldS ms (useS ms l).fst).fst.getD (↑x : Int).toNat KT.d0).fst <
                                                  (0 : Int)) =
                                              false →
                                            (↑ms.length : Int) ≤ (9223372036854775807 : Int)) →
                                          ((decide
                                                    (((foldS ms (useS ms l).fst).fst.getD (↑x : Int).toNat KT.d0).fst <
                                                      (0 : Int)) ||
                                                  decide
                                                    (((foldS ms (useS ms l).fst).fst.getD (↑x : Int).toNat KT.d0).fst ≥
                                                      (↑ms.length : Int))) =
                                                true →
                                              false = true) ∧
                                            ((decide
                                                    (((foldS ms (useS ms l).fst).fst.getD (↑x : Int).toNat KT.d0).fst <
                                                      (0 : Int)) ||
                                                  decide
                                                    (((foldS ms (useS ms l).fst).fst.getD (↑x : Int).toNat KT.d0).fst ≥
                                                      (↑ms.length : Int))) =
                                                false →
                                              (true = true →
                                                  (0 : Int) ≤ (↑x : Int) ∧
                                                    (↑x : Int) <
                                                      (↑(widthsS ms (foldS ms (useS ms l).fst).fst).fst.length : Int)) ∧
                                                ((true &&
                                                        decide
                                                          ((widthsS ms (foldS ms (useS ms l).fst).fst).fst.getD
                                                              (↑x : Int).toNat (Ty.ti IntKind.i64).d0 ≥
                                                            (30 : Int))) =
                                                      true →
                                                    (0 : Int) ≤ (↑x : Int) ∧
                                                      (↑x : Int) <
                                                        (↑(widthsS ms (foldS ms (useS ms l).fst).fst).fst.length :
                                                          Int)) ∧
                                                  ((true &&
                                                            decide
                                                              ((widthsS ms (foldS ms (useS ms l).fst).fst).fst.getD
                                                                  (↑x : Int).toNat (Ty.ti IntKind.i64).d0 ≥
                                                                (30 : Int)) &&
                                                          decide
                                                            ((widthsS ms (foldS ms (useS ms l).fst).fst).fst.getD
                                                                (↑x : Int).toNat (Ty.ti IntKind.i64).d0 ≤
                                                              (1000 : Int))) =
                                                        true →
                                                      (0 : Int) ≤ (↑x : Int) ∧
                                                        (↑x : Int) <
                                                          (↑(widthsS ms (foldS ms (useS ms l).fst).fst).fst.length :
                                                            Int)) ∧
                                                    ((true &&
                                                              decide
                                                                ((widthsS ms (foldS ms (useS ms l).fst).fst).fst.getD
                                                                    (↑x : Int).toNat (Ty.ti IntKind.i64).d0 ≥
                                                                  (30 : Int)) &&
                                                            decide
                                                              ((widthsS ms (foldS ms (useS ms l).fst).fst).fst.getD
                                                                  (↑x : Int).toNat (Ty.ti IntKind.i64).d0 ≤
                                                                (1000 : Int))) =
                                                          true →
                                                        (0 : Int) ≤
                                                            ((foldS ms (useS ms l).fst).fst.getD (↑x : Int).toNat
                                                                KT.d0).fst ∧
                                                          ((foldS ms (useS ms l).fst).fst.getD (↑x : Int).toNat
                                                                KT.d0).fst <
                                                            (↑ms.length : Int)) ∧
                                                      ((true &&
                                                                decide
                                                                  ((widthsS ms (foldS ms (useS ms l).fst).fst).fst.getD
                                                                      (↑x : Int).toNat (Ty.ti IntKind.i64).d0 ≥
                                                                    (30 : Int)) &&
                                                              decide
                                                                ((widthsS ms (foldS ms (useS ms l).fst).fst).fst.getD
                                                                    (↑x : Int).toNat (Ty.ti IntKind.i64).d0 ≤
                                                                  (1000 : Int))) =
                                                            true →
                                                          InI64
                                                            ((10 : Int) *
                                                              (↑(dist
                                                                      (startsW
                                                                        (ms.getD
                                                                                (Int.toNat
                                                                                  ((foldS ms (useS ms l).fst).fst.getD
                                                                                      (↑x : Int).toNat KT.d0).fst)
                                                                                MT.d0).snd.snd.snd)).length :
                                                                Int))) ∧
                                                        ((true &&
                                                                  decide
                                                                    ((widthsS ms
                                                                              (foldS ms (useS ms l).fst).fst).fst.getD
                                                                        (↑x : Int).toNat (Ty.ti IntKind.i64).d0 ≥
                                                                      (30 : Int)) &&
                                                                decide
                                                                  ((widthsS ms (foldS ms (useS ms l).fst).fst).fst.getD
                                                                      (↑x : Int).toNat (Ty.ti IntKind.i64).d0 ≤
                                                                    (1000 : Int))) =
                                                              true →
                                                            InI64
                                                              ((20 : Int) +
                                                                (10 : Int) *
                                                                  (↑(dist
                                                                          (startsW
                                                                            (ms.getD
                                                                                    (Int.toNat
                                                                                      ((foldS ms
                                                                                                (useS ms
                                                                                                    l).fst).fst.getD
                                                                                          (↑x : Int).toNat KT.d0).fst)
                                                                                    MT.d0).snd.snd.snd)).length :
                                                                    Int))) ∧
                                                          InI64 ((↑x : Int) + (1 : Int)) ∧
                                                            ∃ (x' : Nat),
                                                              x' ≤ (foldS ms (useS ms l).fst).fst.length ∧
                                                                (foldS ms (useS ms l).fst).fst.length - x' <
                                                                    (foldS ms (useS ms l).fst).fst.length - x ∧
                                                                  (↑x : Int) + (1 : Int) = (↑x' : Int) ∧
                                                                    (true &&
                                                                              decide
                                                                                ((widthsS ms
                                                                                          (foldS ms
                                                                                              (useS ms
                                                                                                  l).fst).fst).fst.getD
                                                                                    (↑x : Int).toNat
                                                                                    (Ty.ti IntKind.i64).d0 ≥
                                                                                  (30 : Int)) &&
                                                                            decide
                                                                              ((widthsS ms
                                                                                        (foldS ms
                                                                                            (useS ms
                                                                                                l).fst).fst).fst.getD
                                                                                  (↑x : Int).toNat
                                                                                  (Ty.ti IntKind.i64).d0 ≤
                                                                                (1000 : Int)) &&
                                                                          (widthsS ms
                                                                                    (foldS ms
                                                                                        (useS ms l).fst).fst).fst.getD
                                                                              (↑x : Int).toNat (Ty.ti IntKind.i64).d0 ==
                                                                            (20 : Int) +
                                                                              (10 : Int) *
                                                                                (↑(dist
                                                                                        (startsW
                                                                                          (ms.getD
                                                                                                  (Int.toNat
                                                                                                    ((foldS ms
                                                                                                              (useS ms
                                                                                                                  l).fst).fst.getD
                                                                                                        (↑x : Int).toNat
                                                                                                        KT.d0).fst)
                                                                                                  MT.d0).snd.snd.snd)).length :
                                                                                  Int)) =
                                                                        true ∧
                                                                      (↑(foldS ms (useS ms l).fst).fst.length : Int) =
                                                                          (↑(foldS ms (useS ms l).fst).fst.length :
                                                                            Int) ∧
                                                                        (foldS ms (useS ms l).fst).fst =
                                                                            (foldS ms (useS ms l).fst).fst ∧
                                                                          ((foldS ms (useS ms l).fst).snd !=
                                                                                    (0 : Int) ||
                                                                                  (widthsS ms
                                                                                        (foldS ms
                                                                                            (useS ms l).fst).fst).snd !=
                                                                                    (0 : Int) ||
                                                                                (↑(widthsS ms
                                                                                            (foldS ms
                                                                                                (useS ms
                                                                                                    l).fst).fst).fst.length :
                                                                                    Int) !=
                                                                                  (↑(foldS ms
                                                                                            (useS ms
                                                                                                l).fst).fst.length :
                                                                                    Int)) =
                                                                              ((foldS ms (useS ms l).fst).snd !=
                                                                                    (0 : Int) ||
                                                                                  (widthsS ms
                                                                                        (foldS ms
                                                                                            (useS ms l).fst).fst).snd !=
                                                                                    (0 : Int) ||
                                                                                (↑(widthsS ms
                                                                                            (foldS ms
                                                                                                (useS ms
                                                                                                    l).fst).fst).fst.length :
                                                                                    Int) !=
                                                                                  (↑(foldS ms
                                                                                            (useS ms
                                                                                                l).fst).fst.length :
                                                                                    Int)) ∧
                                                                            (widthsS ms
                                                                                    (foldS ms
                                                                                        (useS ms l).fst).fst).snd =
                                                                                (widthsS ms
                                                                                    (foldS ms
                                                                                        (useS ms l).fst).fst).snd ∧
                                                                              (widthsS ms
                                                                                      (foldS ms
                                                                                          (useS ms l).fst).fst).fst =
                                                                                  (widthsS ms
                                                                                      (foldS ms
                                                                                          (useS ms l).fst).fst).fst ∧
                                                                                (foldS ms (useS ms l).fst).snd =
                                                                                    (foldS ms (useS ms l).fst).snd ∧
                                                                                  (foldS ms (useS ms l).fst).fst =
                                                                                      (foldS ms (useS ms l).fst).fst ∧
                                                                                    (!(useS ms l).snd) =
                                                                                        !(useS ms l).snd ∧
                                                                                      (useS ms l).snd =
                                                                                          (useS ms l).snd ∧
                                                                                        (useS ms l).fst =
                                                                                            (useS ms l).fst ∧
                                                                                          p = p ∧
                                                                                            ms = ms ∧
                                                                                              l = l ∧
                                                                                                p = p ∧ ms = ms)))) ∧
                          (decide ((↑x : Int) < (↑(foldS ms (useS ms l).fst).fst.length : Int)) = false → true = true)))
end Go.Proofs.Ytdkggjgmlccjcaa
