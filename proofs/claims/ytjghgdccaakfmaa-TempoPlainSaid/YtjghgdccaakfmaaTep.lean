/- What is to be shown of each function, in plain terms. Written by a program (wip/tools/gen.py). -/
import Derived.Test.YtjghgdccaakfmaaTec
namespace Go.Proofs.Ytjghgdccaakfmaa
open Go.Sy Go.RatLaw
set_option linter.unusedVariables false

def P_TPlain (bars : List Bar) (l : List T3) (v w : Int) : Prop :=
  ((!usableT bars l) = true → true = true) ∧ ((!usableT bars l) = false → (↑bars.length : Int) ≤ (9223372036854775807 : Int) → InI64 v ∧ InI64 ((↑bars.length : Int) + (1 : Int)) ∧ (↑bars.length : Int) + (1 : Int) ≠ (0 : Int) ∧ InI64 w ∧
  InI64 ((↑bars.length : Int) + (1 : Int)) ∧ InI64 ((↑bars.length : Int) + (1 : Int) - v.tmod ((↑bars.length : Int) + (1 : Int))) ∧ (↑bars.length : Int) + (1 : Int) - v.tmod ((↑bars.length : Int) + (1 : Int)) ≠ (0 : Int) ∧ InI64 (v.tmod
  ((↑bars.length : Int) + (1 : Int)) + w.tmod ((↑bars.length : Int) + (1 : Int) - v.tmod ((↑bars.length : Int) + (1 : Int)))) ∧ (true && (playS bars l ((↑bars.length : Int), [], [], ((0 : Int), (0 : Int), (0 : Int)), []) (v.tmod
  ((↑bars.length : Int) + (1 : Int))) (v.tmod ((↑bars.length : Int) + (1 : Int)) + w.tmod ((↑bars.length : Int) + (1 : Int) - v.tmod ((↑bars.length : Int) + (1 : Int))))).snd.snd == (secS bars l (v.tmod ((↑bars.length : Int) + (1 : Int)))
  (0 : Int) (1 : Int) (v.tmod ((↑bars.length : Int) + (1 : Int)) + w.tmod ((↑bars.length : Int) + (1 : Int) - v.tmod ((↑bars.length : Int) + (1 : Int)))) (0 : Int) (1 : Int)).snd.snd && ((playS bars l ((↑bars.length : Int), [], [], ((0 :
  Int), (0 : Int), (0 : Int)), []) (v.tmod ((↑bars.length : Int) + (1 : Int))) (v.tmod ((↑bars.length : Int) + (1 : Int)) + w.tmod ((↑bars.length : Int) + (1 : Int) - v.tmod ((↑bars.length : Int) + (1 : Int))))).fst == (secS bars l (v.tmod
  ((↑bars.length : Int) + (1 : Int))) (0 : Int) (1 : Int) (v.tmod ((↑bars.length : Int) + (1 : Int)) + w.tmod ((↑bars.length : Int) + (1 : Int) - v.tmod ((↑bars.length : Int) + (1 : Int)))) (0 : Int) (1 : Int)).fst && (playS bars l
  ((↑bars.length : Int), [], [], ((0 : Int), (0 : Int), (0 : Int)), []) (v.tmod ((↑bars.length : Int) + (1 : Int))) (v.tmod ((↑bars.length : Int) + (1 : Int)) + w.tmod ((↑bars.length : Int) + (1 : Int) - v.tmod ((↑bars.length : Int) + (1 :
  Int))))).snd.fst == (secS bars l (v.tmod ((↑bars.length : Int) + (1 : Int))) (0 : Int) (1 : Int) (v.tmod ((↑bars.length : Int) + (1 : Int)) + w.tmod ((↑bars.length : Int) + (1 : Int) - v.tmod ((↑bars.length : Int) + (1 : Int)))) (0 : Int)
  (1 : Int)).snd.fst) && ((playS bars l ((↑bars.length : Int), [], [], ((0 : Int), (0 : Int), (0 : Int)), []) (v.tmod ((↑bars.length : Int) + (1 : Int))) (v.tmod ((↑bars.length : Int) + (1 : Int)) + w.tmod ((↑bars.length : Int) + (1 : Int)
  - v.tmod ((↑bars.length : Int) + (1 : Int))))).snd.snd == (0 : Int) || (playS bars l ((↑bars.length : Int), [], [], ((0 : Int), (0 : Int), (0 : Int)), []) (v.tmod ((↑bars.length : Int) + (1 : Int))) (v.tmod ((↑bars.length : Int) + (1 :
  Int)) + w.tmod ((↑bars.length : Int) + (1 : Int) - v.tmod ((↑bars.length : Int) + (1 : Int))))).snd.snd == (3 : Int))) = true)
end Go.Proofs.Ytjghgdccaakfmaa
