/- Contracts. Written by a program (wip/tools/gen.py). -/
import Derived.Test.YtcklbglladijlaaDecidelk
namespace Go.Proofs.Ytcklbglladijlaa
open Go.Sy Go.RatLaw
set_option linter.unusedVariables false

def c_QBack : PCon
 | [.one (u_ws), .one (.d (.sl DTT ds)), .agg [.d (.lit (.int .i64 x1)), .d (.lit (.int .i64 x2)), .d (.lit (.int .i64 x3)), .d (.lit (.int .i64 x4)), .d (.lit (.int .i64 x5)), .d (.lit (.int .i64 x6))]] => match asRow WTT u_ws with
  | some ws => some ([], .t (B true))
  | none => none
 | _ => none
end Go.Proofs.Ytcklbglladijlaa
