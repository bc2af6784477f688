/- Contracts. Written by a program (wip/tools/gen.py). -/
import Derived.Test.YtcklbglladijlaaDecidek
namespace Go.Proofs.Ytcklbglladijlaa
open Go.Sy Go.RatLaw
set_option linter.unusedVariables false


def barsN (n : Nat) : List Br := (List.range n).map fun i : Nat => ((i : Int) + 1, ((4, 1), 0))
def usableB (ws : List Wk) (ds : List De) : Bool := fewD ws ds && validD ws ds
def c_work : PCon
 | [.one (.d (.lit (.int .i64 v))), .one (.d (.lit (.int .i64 n)))] => some ([0 ≤ n, n ≤ 1000], .t (W v (barsN n.toNat) [] [] n [] [] 0 0 0 [] []))
 | _ => none
def c_usable : PCon
 | [.one (u_ws), .one (.d (.sl DTT ds))] => match asRow WTT u_ws with
  | some ws => some ([], .t (B (usableB ws ds)))
  | none => none
 | _ => none
def c_dhead : PCon
 | [] => some ([], .t (B true))
 | _ => none
end Go.Proofs.Ytcklbglladijlaa
