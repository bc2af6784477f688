/- What is to be shown of each function, in plain terms. Written by a program (wip/tools/gen.py). -/
import Derived.Test.YtdkggjgmlccjcaaMeterc
namespace Go.Proofs.Ytdkggjgmlccjcaa
open Go.Sy Go.RatLaw
set_option linter.unusedVariables false

def P_Ticks (n d : Int) : Prop :=
  (decide (d < (1 : Int)) = false → d ≠ (0 : Int)) ∧ ((decide (d < (1 : Int)) || Int.tmod (1680 : Int) d != (0 : Int) || decide (n < (0 : Int)) || decide (n > (1000000000 : Int))) = false → (0 : Int) ≤ n ∧ (0 : Int) ≤ d) ∧ ((decide (d < (1
  : Int)) || Int.tmod (1680 : Int) d != (0 : Int) || decide (n < (0 : Int)) || decide (n > (1000000000 : Int)) || (↑(n.gcd d) : Int) != (1 : Int)) = true → (-1 : Int) = tks n d) ∧ ((decide (d < (1 : Int)) || Int.tmod (1680 : Int) d != (0 :
  Int) || decide (n < (0 : Int)) || decide (n > (1000000000 : Int)) || (↑(n.gcd d) : Int) != (1 : Int)) = false → d ≠ (0 : Int) ∧ InI64 (Int.tdiv (1680 : Int) d) ∧ InI64 (n * Int.tdiv (1680 : Int) d) ∧ n * Int.tdiv (1680 : Int) d = tks n d)
end Go.Proofs.Ytdkggjgmlccjcaa
