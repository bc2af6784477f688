/- Contracts. Written by a program (wip/tools/gen.py). -/
import Derived.Test.YtcklbglladijlaaDecidelk
namespace Go.Proofs.Ytcklbglladijlaa
open Go.Sy Go.RatLaw
set_option linter.unusedVariables false

def c_QRooms : PCon
 | [.one (u_ws), .one (.d (.sl DTT ds)), .one (.d (.lit (.int .u8 u))), .one (.d (.lit (.int .i64 tm)))] => match asRow WTT u_ws with
  | some ws => some ([0 ≤ u, u ≤ 255], .t (B true))
  | none => none
 | _ => none
end Go.Proofs.Ytcklbglladijlaa
