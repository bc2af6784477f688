/- Contracts. Written by a program (wip/tools/gen.py). -/
import Derived.Test.YtcklbglladijlaaDecidek
namespace Go.Proofs.Ytcklbglladijlaa
open Go.Sy Go.RatLaw
set_option linter.unusedVariables false


def barsN (n : Nat) : List Br := (List.range n).map fun i : Nat => ((i : Int) + 1, ((4, 1), 0))
def c_work : PCon
 | [.one (.d (.lit (.int .i64 v))), .one (.d (.lit (.int .i64 n)))] => some ([0 ≤ n, n ≤ 1000], .t (W v (barsN n.toNat) [] [] n [] [] 0 0 0 [] []))
 | _ => none
def c_dhead : PCon
 | [] => some ([], .t (B true))
 | _ => none
end Go.Proofs.Ytcklbglladijlaa
