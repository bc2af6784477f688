/- What is to be shown of each function, in plain terms. Written by a program (wip/tools/gen.py). -/
import Derived.Test.YtjghgdccaakfmaaTac
namespace Go.Proofs.Ytjghgdccaakfmaa
open Go.Sy Go.RatLaw
set_option linter.unusedVariables false

def P_TMatches (bars : List Bar) (l : List T3) (g pb pn pd qb qn qd : Int) (b : Int) (r e : List T3) (j t n : Int) (c : List T3) (x y : Int) : Prop :=
  ((!fewT bars l (b, r, e, (j, t, n), c)) = true → true = true) ∧ ((!fewT bars l (b, r, e, (j, t, n), c)) = false → (true && okTm bars l == okTm bars l && ((tmAtS bars l g).fst == (tmAtS bars l g).fst && (tmAtS bars l g).snd.fst == (tmAtS
  bars l g).snd.fst) && (tmAtS bars l g).snd.snd == (tmAtS bars l g).snd.snd && ((secS bars l pb pn pd qb qn qd).fst == (secS bars l pb pn pd qb qn qd).fst && (secS bars l pb pn pd qb qn qd).snd.fst == (secS bars l pb pn pd qb qn
  qd).snd.fst) && (secS bars l pb pn pd qb qn qd).snd.snd == (secS bars l pb pn pd qb qn qd).snd.snd && ((playS bars l (b, r, e, (j, t, n), c) x y).fst == (playS bars l (b, r, e, (j, t, n), c) x y).fst && (playS bars l (b, r, e, (j, t, n),
  c) x y).snd.fst == (playS bars l (b, r, e, (j, t, n), c) x y).snd.fst) && (playS bars l (b, r, e, (j, t, n), c) x y).snd.snd == (playS bars l (b, r, e, (j, t, n), c) x y).snd.snd) = true)
end Go.Proofs.Ytjghgdccaakfmaa
