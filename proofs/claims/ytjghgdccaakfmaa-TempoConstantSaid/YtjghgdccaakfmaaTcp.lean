/- What is to be shown of each function, in plain terms. Written by a program (wip/tools/gen.py). -/
import Derived.Test.YtjghgdccaakfmaaTcc
namespace Go.Proofs.Ytjghgdccaakfmaa
open Go.Sy Go.RatLaw
set_option linter.unusedVariables false

def P_TConstant (bars : List Bar) (g a d pb pn pd qb qn qd : Int) : Prop :=
  ((!usableT bars [(g, a, d)]) = true → true = true) ∧ ((!usableT bars [(g, a, d)]) = false → (((secS bars [(g, a, d)] pb pn pd qb qn qd).snd.snd != (0 : Int)) = true → true = true) ∧ (((secS bars [(g, a, d)] pb pn pd qb qn qd).snd.snd !=
  (0 : Int)) = false → (true && (timeS bars pb pn pd).snd.snd == (0 : Int) && (timeS bars qb qn qd).snd.snd == (0 : Int) && (subR (timeS bars qb qn qd).fst (timeS bars qb qn qd).snd.fst (timeS bars pb pn pd).fst (timeS bars pb pn
  pd).snd.fst).snd.snd == (0 : Int) && (mulR (subR (timeS bars qb qn qd).fst (timeS bars qb qn qd).snd.fst (timeS bars pb pn pd).fst (timeS bars pb pn pd).snd.fst).fst (subR (timeS bars qb qn qd).fst (timeS bars qb qn qd).snd.fst (timeS
  bars pb pn pd).fst (timeS bars pb pn pd).snd.fst).snd.fst a d).snd.snd == (0 : Int) && ((mulR (subR (timeS bars qb qn qd).fst (timeS bars qb qn qd).snd.fst (timeS bars pb pn pd).fst (timeS bars pb pn pd).snd.fst).fst (subR (timeS bars qb
  qn qd).fst (timeS bars qb qn qd).snd.fst (timeS bars pb pn pd).fst (timeS bars pb pn pd).snd.fst).snd.fst a d).fst == (secS bars [(g, a, d)] pb pn pd qb qn qd).fst && (mulR (subR (timeS bars qb qn qd).fst (timeS bars qb qn qd).snd.fst
  (timeS bars pb pn pd).fst (timeS bars pb pn pd).snd.fst).fst (subR (timeS bars qb qn qd).fst (timeS bars qb qn qd).snd.fst (timeS bars pb pn pd).fst (timeS bars pb pn pd).snd.fst).snd.fst a d).snd.fst == (secS bars [(g, a, d)] pb pn pd qb
  qn qd).snd.fst)) = true))
end Go.Proofs.Ytjghgdccaakfmaa
