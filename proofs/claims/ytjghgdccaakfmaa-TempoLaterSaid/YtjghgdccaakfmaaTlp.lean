/- What is to be shown of each function, in plain terms. Written by a program (wip/tools/gen.py). -/
import Derived.Test.YtjghgdccaakfmaaTlc
namespace Go.Proofs.Ytjghgdccaakfmaa
open Go.Sy Go.RatLaw
set_option linter.unusedVariables false

def P_thead  : Prop :=
  (((secS [((3 : Int), ((4 : Int), (1 : Int)), (0 : Int)), ((1 : Int), ((4 : Int), (1 : Int)), (0 : Int)), ((2 : Int), ((4 : Int), (1 : Int)), (0 : Int))] [((0 : Int), (1 : Int), (1 : Int)), ((2 : Int), (1 : Int), (2 : Int))] (0 : Int) (0 :
  Int) (1 : Int) (3 : Int) (0 : Int) (1 : Int)).snd.snd == (0 : Int) && (secS [((3 : Int), ((4 : Int), (1 : Int)), (0 : Int)), ((1 : Int), ((4 : Int), (1 : Int)), (0 : Int)), ((2 : Int), ((4 : Int), (1 : Int)), (0 : Int))] [((0 : Int), (1 :
  Int), (1 : Int)), ((2 : Int), (1 : Int), (2 : Int))] (1 : Int) (3 : Int) (1 : Int) (2 : Int) (1 : Int) (1 : Int)).snd.snd == (0 : Int) && (playS [((3 : Int), ((4 : Int), (1 : Int)), (0 : Int)), ((1 : Int), ((4 : Int), (1 : Int)), (0 :
  Int)), ((2 : Int), ((4 : Int), (1 : Int)), (0 : Int))] [((0 : Int), (1 : Int), (1 : Int)), ((2 : Int), (1 : Int), (2 : Int))] ((3 : Int), [((2 : Int), (3 : Int), (2 : Int))], [], ((0 : Int), (0 : Int), (0 : Int)), []) (0 : Int) (4 :
  Int)).snd.snd == (0 : Int) && (tmAtS [((3 : Int), ((4 : Int), (1 : Int)), (0 : Int)), ((1 : Int), ((4 : Int), (1 : Int)), (0 : Int)), ((2 : Int), ((4 : Int), (1 : Int)), (0 : Int))] [((0 : Int), (1 : Int), (1 : Int)), ((2 : Int), (1 :
  Int), (2 : Int))] (1 : Int)).snd.snd == (0 : Int) && (secS [((3 : Int), ((4 : Int), (1 : Int)), (0 : Int)), ((1 : Int), ((4 : Int), (1 : Int)), (0 : Int)), ((2 : Int), ((4 : Int), (1 : Int)), (0 : Int))] [((0 : Int), (1 : Int), (1 :
  Int)), ((2 : Int), (1 : Int), (2 : Int))] (3 : Int) (0 : Int) (1 : Int) (0 : Int) (0 : Int) (1 : Int)).snd.snd == (1 : Int) && ((secS [((3 : Int), ((4 : Int), (1 : Int)), (0 : Int)), ((1 : Int), ((4 : Int), (1 : Int)), (0 : Int)), ((2 :
  Int), ((4 : Int), (1 : Int)), (0 : Int))] [((0 : Int), (1 : Int), (1 : Int)), ((2 : Int), (1 : Int), (2 : Int))] (0 : Int) (0 : Int) (1 : Int) (3 : Int) (0 : Int) (1 : Int)).fst == (10 : Int) && (secS [((3 : Int), ((4 : Int), (1 : Int)),
  (0 : Int)), ((1 : Int), ((4 : Int), (1 : Int)), (0 : Int)), ((2 : Int), ((4 : Int), (1 : Int)), (0 : Int))] [((0 : Int), (1 : Int), (1 : Int)), ((2 : Int), (1 : Int), (2 : Int))] (0 : Int) (0 : Int) (1 : Int) (3 : Int) (0 : Int) (1 :
  Int)).snd.fst == (1 : Int)) && ((secS [((3 : Int), ((4 : Int), (1 : Int)), (0 : Int)), ((1 : Int), ((4 : Int), (1 : Int)), (0 : Int)), ((2 : Int), ((4 : Int), (1 : Int)), (0 : Int))] [((0 : Int), (1 : Int), (1 : Int)), ((2 : Int), (1 :
  Int), (2 : Int))] (1 : Int) (3 : Int) (1 : Int) (2 : Int) (1 : Int) (1 : Int)).fst == (3 : Int) && (secS [((3 : Int), ((4 : Int), (1 : Int)), (0 : Int)), ((1 : Int), ((4 : Int), (1 : Int)), (0 : Int)), ((2 : Int), ((4 : Int), (1 : Int)),
  (0 : Int))] [((0 : Int), (1 : Int), (1 : Int)), ((2 : Int), (1 : Int), (2 : Int))] (1 : Int) (3 : Int) (1 : Int) (2 : Int) (1 : Int) (1 : Int)).snd.fst == (2 : Int)) && ((playS [((3 : Int), ((4 : Int), (1 : Int)), (0 : Int)), ((1 : Int),
  ((4 : Int), (1 : Int)), (0 : Int)), ((2 : Int), ((4 : Int), (1 : Int)), (0 : Int))] [((0 : Int), (1 : Int), (1 : Int)), ((2 : Int), (1 : Int), (2 : Int))] ((3 : Int), [((2 : Int), (3 : Int), (2 : Int))], [], ((0 : Int), (0 : Int), (0 :
  Int)), []) (0 : Int) (4 : Int)).fst == (12 : Int) && (playS [((3 : Int), ((4 : Int), (1 : Int)), (0 : Int)), ((1 : Int), ((4 : Int), (1 : Int)), (0 : Int)), ((2 : Int), ((4 : Int), (1 : Int)), (0 : Int))] [((0 : Int), (1 : Int), (1 :
  Int)), ((2 : Int), (1 : Int), (2 : Int))] ((3 : Int), [((2 : Int), (3 : Int), (2 : Int))], [], ((0 : Int), (0 : Int), (0 : Int)), []) (0 : Int) (4 : Int)).snd.fst == (1 : Int)) && ((tmAtS [((3 : Int), ((4 : Int), (1 : Int)), (0 : Int)),
  ((1 : Int), ((4 : Int), (1 : Int)), (0 : Int)), ((2 : Int), ((4 : Int), (1 : Int)), (0 : Int))] [((0 : Int), (1 : Int), (1 : Int)), ((2 : Int), (1 : Int), (2 : Int))] (1 : Int)).fst == (1 : Int) && (tmAtS [((3 : Int), ((4 : Int), (1 :
  Int)), (0 : Int)), ((1 : Int), ((4 : Int), (1 : Int)), (0 : Int)), ((2 : Int), ((4 : Int), (1 : Int)), (0 : Int))] [((0 : Int), (1 : Int), (1 : Int)), ((2 : Int), (1 : Int), (2 : Int))] (1 : Int)).snd.fst == (1 : Int)) && okTm [((3 :
  Int), ((4 : Int), (1 : Int)), (0 : Int)), ((1 : Int), ((4 : Int), (1 : Int)), (0 : Int)), ((2 : Int), ((4 : Int), (1 : Int)), (0 : Int))] [((0 : Int), (1 : Int), (1 : Int)), ((2 : Int), (1 : Int), (2 : Int))]) = true → (0 : Int) ≤ (1 :
  Int) ∧ (1 : Int) ≤ (↑((0 : Nat) + (1 : Nat) + (1 : Nat)) : Int) ∧ (↑((0 : Nat) + (1 : Nat) + (1 : Nat)) : Int) ≤ (↑((0 : Nat) + (1 : Nat) + (1 : Nat)) : Int)) ∧ ((secS [((3 : Int), ((4 : Int), (1 : Int)), (0 : Int)), ((1 : Int), ((4 :
  Int), (1 : Int)), (0 : Int)), ((2 : Int), ((4 : Int), (1 : Int)), (0 : Int))] [((0 : Int), (1 : Int), (1 : Int)), ((2 : Int), (1 : Int), (2 : Int))] (0 : Int) (0 : Int) (1 : Int) (3 : Int) (0 : Int) (1 : Int)).snd.snd == (0 : Int) &&
  (secS [((3 : Int), ((4 : Int), (1 : Int)), (0 : Int)), ((1 : Int), ((4 : Int), (1 : Int)), (0 : Int)), ((2 : Int), ((4 : Int), (1 : Int)), (0 : Int))] [((0 : Int), (1 : Int), (1 : Int)), ((2 : Int), (1 : Int), (2 : Int))] (1 : Int) (3 :
  Int) (1 : Int) (2 : Int) (1 : Int) (1 : Int)).snd.snd == (0 : Int) && (playS [((3 : Int), ((4 : Int), (1 : Int)), (0 : Int)), ((1 : Int), ((4 : Int), (1 : Int)), (0 : Int)), ((2 : Int), ((4 : Int), (1 : Int)), (0 : Int))] [((0 : Int), (1
  : Int), (1 : Int)), ((2 : Int), (1 : Int), (2 : Int))] ((3 : Int), [((2 : Int), (3 : Int), (2 : Int))], [], ((0 : Int), (0 : Int), (0 : Int)), []) (0 : Int) (4 : Int)).snd.snd == (0 : Int) && (tmAtS [((3 : Int), ((4 : Int), (1 : Int)), (0
  : Int)), ((1 : Int), ((4 : Int), (1 : Int)), (0 : Int)), ((2 : Int), ((4 : Int), (1 : Int)), (0 : Int))] [((0 : Int), (1 : Int), (1 : Int)), ((2 : Int), (1 : Int), (2 : Int))] (1 : Int)).snd.snd == (0 : Int) && (secS [((3 : Int), ((4 :
  Int), (1 : Int)), (0 : Int)), ((1 : Int), ((4 : Int), (1 : Int)), (0 : Int)), ((2 : Int), ((4 : Int), (1 : Int)), (0 : Int))] [((0 : Int), (1 : Int), (1 : Int)), ((2 : Int), (1 : Int), (2 : Int))] (3 : Int) (0 : Int) (1 : Int) (0 : Int)
  (0 : Int) (1 : Int)).snd.snd == (1 : Int) && ((secS [((3 : Int), ((4 : Int), (1 : Int)), (0 : Int)), ((1 : Int), ((4 : Int), (1 : Int)), (0 : Int)), ((2 : Int), ((4 : Int), (1 : Int)), (0 : Int))] [((0 : Int), (1 : Int), (1 : Int)), ((2 :
  Int), (1 : Int), (2 : Int))] (0 : Int) (0 : Int) (1 : Int) (3 : Int) (0 : Int) (1 : Int)).fst == (10 : Int) && (secS [((3 : Int), ((4 : Int), (1 : Int)), (0 : Int)), ((1 : Int), ((4 : Int), (1 : Int)), (0 : Int)), ((2 : Int), ((4 : Int),
  (1 : Int)), (0 : Int))] [((0 : Int), (1 : Int), (1 : Int)), ((2 : Int), (1 : Int), (2 : Int))] (0 : Int) (0 : Int) (1 : Int) (3 : Int) (0 : Int) (1 : Int)).snd.fst == (1 : Int)) && ((secS [((3 : Int), ((4 : Int), (1 : Int)), (0 : Int)),
  ((1 : Int), ((4 : Int), (1 : Int)), (0 : Int)), ((2 : Int), ((4 : Int), (1 : Int)), (0 : Int))] [((0 : Int), (1 : Int), (1 : Int)), ((2 : Int), (1 : Int), (2 : Int))] (1 : Int) (3 : Int) (1 : Int) (2 : Int) (1 : Int) (1 : Int)).fst == (3
  : Int) && (secS [((3 : Int), ((4 : Int), (1 : Int)), (0 : Int)), ((1 : Int), ((4 : Int), (1 : Int)), (0 : Int)), ((2 : Int), ((4 : Int), (1 : Int)), (0 : Int))] [((0 : Int), (1 : Int), (1 : Int)), ((2 : Int), (1 : Int), (2 : Int))] (1 :
  Int) (3 : Int) (1 : Int) (2 : Int) (1 : Int) (1 : Int)).snd.fst == (2 : Int)) && ((playS [((3 : Int), ((4 : Int), (1 : Int)), (0 : Int)), ((1 : Int), ((4 : Int), (1 : Int)), (0 : Int)), ((2 : Int), ((4 : Int), (1 : Int)), (0 : Int))] [((0
  : Int), (1 : Int), (1 : Int)), ((2 : Int), (1 : Int), (2 : Int))] ((3 : Int), [((2 : Int), (3 : Int), (2 : Int))], [], ((0 : Int), (0 : Int), (0 : Int)), []) (0 : Int) (4 : Int)).fst == (12 : Int) && (playS [((3 : Int), ((4 : Int), (1 :
  Int)), (0 : Int)), ((1 : Int), ((4 : Int), (1 : Int)), (0 : Int)), ((2 : Int), ((4 : Int), (1 : Int)), (0 : Int))] [((0 : Int), (1 : Int), (1 : Int)), ((2 : Int), (1 : Int), (2 : Int))] ((3 : Int), [((2 : Int), (3 : Int), (2 : Int))], [],
  ((0 : Int), (0 : Int), (0 : Int)), []) (0 : Int) (4 : Int)).snd.fst == (1 : Int)) && ((tmAtS [((3 : Int), ((4 : Int), (1 : Int)), (0 : Int)), ((1 : Int), ((4 : Int), (1 : Int)), (0 : Int)), ((2 : Int), ((4 : Int), (1 : Int)), (0 : Int))]
  [((0 : Int), (1 : Int), (1 : Int)), ((2 : Int), (1 : Int), (2 : Int))] (1 : Int)).fst == (1 : Int) && (tmAtS [((3 : Int), ((4 : Int), (1 : Int)), (0 : Int)), ((1 : Int), ((4 : Int), (1 : Int)), (0 : Int)), ((2 : Int), ((4 : Int), (1 :
  Int)), (0 : Int))] [((0 : Int), (1 : Int), (1 : Int)), ((2 : Int), (1 : Int), (2 : Int))] (1 : Int)).snd.fst == (1 : Int)) && okTm [((3 : Int), ((4 : Int), (1 : Int)), (0 : Int)), ((1 : Int), ((4 : Int), (1 : Int)), (0 : Int)), ((2 :
  Int), ((4 : Int), (1 : Int)), (0 : Int))] [((0 : Int), (1 : Int), (1 : Int)), ((2 : Int), (1 : Int), (2 : Int))] && !okTm [((3 : Int), ((4 : Int), (1 : Int)), (0 : Int)), ((1 : Int), ((4 : Int), (1 : Int)), (0 : Int)), ((2 : Int), ((4 :
  Int), (1 : Int)), (0 : Int))] (List.drop (Int.toNat (1 : Int)) (List.take (↑((0 : Nat) + (1 : Nat) + (1 : Nat)) : Int).toNat [((0 : Int), (1 : Int), (1 : Int)), ((2 : Int), (1 : Int), (2 : Int))]))) = true
def P_tusable (bars : List Bar) (l : List T3) : Prop :=
  (↑bars.length : Int) ≤ (9223372036854775807 : Int) → (decide ((↑bars.length : Int) ≤ (40 : Int)) = true → (↑l.length : Int) ≤ (9223372036854775807 : Int)) → (decide ((↑bars.length : Int) ≤ (40 : Int)) && decide ((↑l.length : Int) ≤ (60 :
  Int)) && okTm bars l) = usableT bars l
end Go.Proofs.Ytjghgdccaakfmaa
