/- The plain proofs. Written by a program (wip/tools/gen.py). -/
import Derived.Test.YtjghgdccaakfmaaTap
namespace Go.Proofs.Ytjghgdccaakfmaa
open Go.Sy Go.RatLaw
set_option linter.unusedVariables false
set_option linter.unusedSimpArgs false
theorem p_TMatches (bars : List Bar) (l : List T3) (g pb pn pd qb qn qd : Int) (b : Int) (r e : List T3) (j t n : Int) (c : List T3) (x y : Int) : P_TMatches bars l g pb pn pd qb qn qd b r e j t n c x y :=
  ⟨fun _ => rfl, fun _ => by simp⟩

end Go.Proofs.Ytjghgdccaakfmaa
