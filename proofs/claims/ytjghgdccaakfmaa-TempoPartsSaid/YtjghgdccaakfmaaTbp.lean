/- What is to be shown of each function, in plain terms. Written by a program (wip/tools/gen.py). -/
import Derived.Test.YtjghgdccaakfmaaTbc
namespace Go.Proofs.Ytjghgdccaakfmaa
open Go.Sy Go.RatLaw
set_option linter.unusedVariables false

def P_TParts (bars : List Bar) (l : List T3) (pb pn pd qb qn qd rb rn rd : Int) : Prop :=
  ((!usableT bars l || !posS bars pb pn pd || !posS bars qb qn qd || !posS bars rb rn rd) = true → true = true) ∧ ((!usableT bars l || !posS bars pb pn pd || !posS bars qb qn qd || !posS bars rb rn rd) = false → (((secS bars l pb pn pd pb
  pn pd).snd.snd != (0 : Int) || !((secS bars l pb pn pd pb pn pd).fst == (0 : Int) && (secS bars l pb pn pd pb pn pd).snd.fst == (1 : Int)) || (secS bars l pb pn pd qb qn qd).snd.snd != (0 : Int) && (secS bars l pb pn pd qb qn qd).snd.snd
  != (1 : Int) && (secS bars l pb pn pd qb qn qd).snd.snd != (3 : Int)) = true → false = true) ∧ (((secS bars l pb pn pd pb pn pd).snd.snd != (0 : Int) || !((secS bars l pb pn pd pb pn pd).fst == (0 : Int) && (secS bars l pb pn pd pb pn
  pd).snd.fst == (1 : Int)) || (secS bars l pb pn pd qb qn qd).snd.snd != (0 : Int) && (secS bars l pb pn pd qb qn qd).snd.snd != (1 : Int) && (secS bars l pb pn pd qb qn qd).snd.snd != (3 : Int)) = false → (((secS bars l pb pn pd qb qn
  qd).snd.snd != (0 : Int) || (secS bars l qb qn qd rb rn rd).snd.snd != (0 : Int) || (secS bars l pb pn pd rb rn rd).snd.snd != (0 : Int)) = true → (true && ((secS bars l pb pn pd qb qn qd).snd.snd != (0 : Int) || (secS bars l qb qn qd rb
  rn rd).snd.snd != (0 : Int) || (secS bars l pb pn pd rb rn rd).snd.snd == (3 : Int))) = true) ∧ (((secS bars l pb pn pd qb qn qd).snd.snd != (0 : Int) || (secS bars l qb qn qd rb rn rd).snd.snd != (0 : Int) || (secS bars l pb pn pd rb rn
  rd).snd.snd != (0 : Int)) = false → (((addR (secS bars l pb pn pd qb qn qd).fst (secS bars l pb pn pd qb qn qd).snd.fst (secS bars l qb qn qd rb rn rd).fst (secS bars l qb qn qd rb rn rd).snd.fst).snd.snd != (0 : Int) || !((addR (secS
  bars l pb pn pd qb qn qd).fst (secS bars l pb pn pd qb qn qd).snd.fst (secS bars l qb qn qd rb rn rd).fst (secS bars l qb qn qd rb rn rd).snd.fst).fst == (secS bars l pb pn pd rb rn rd).fst && (addR (secS bars l pb pn pd qb qn qd).fst
  (secS bars l pb pn pd qb qn qd).snd.fst (secS bars l qb qn qd rb rn rd).fst (secS bars l qb qn qd rb rn rd).snd.fst).snd.fst == (secS bars l pb pn pd rb rn rd).snd.fst) || ((secS bars l pb pn pd qb qn qd).fst == (0 : Int)) != (pb == qb &&
  (pn == qn && pd == qd)) || decide ((secS bars l pb pn pd qb qn qd).fst < (0 : Int))) = true → false = true) ∧ (((addR (secS bars l pb pn pd qb qn qd).fst (secS bars l pb pn pd qb qn qd).snd.fst (secS bars l qb qn qd rb rn rd).fst (secS
  bars l qb qn qd rb rn rd).snd.fst).snd.snd != (0 : Int) || !((addR (secS bars l pb pn pd qb qn qd).fst (secS bars l pb pn pd qb qn qd).snd.fst (secS bars l qb qn qd rb rn rd).fst (secS bars l qb qn qd rb rn rd).snd.fst).fst == (secS bars
  l pb pn pd rb rn rd).fst && (addR (secS bars l pb pn pd qb qn qd).fst (secS bars l pb pn pd qb qn qd).snd.fst (secS bars l qb qn qd rb rn rd).fst (secS bars l qb qn qd rb rn rd).snd.fst).snd.fst == (secS bars l pb pn pd rb rn rd).snd.fst)
  || ((secS bars l pb pn pd qb qn qd).fst == (0 : Int)) != (pb == qb && (pn == qn && pd == qd)) || decide ((secS bars l pb pn pd qb qn qd).fst < (0 : Int))) = false → (true && ((secS bars l qb qn qd pb pn pd).snd.snd == (1 : Int)) == !(pb
  == qb && (pn == qn && pd == qd))) = true))))
end Go.Proofs.Ytjghgdccaakfmaa
