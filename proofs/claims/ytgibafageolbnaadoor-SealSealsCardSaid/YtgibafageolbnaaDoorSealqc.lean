/- Contracts. Written by a program (wip/tools/gen.py). -/
import Derived.Test.YtgibafageolbnaaDoorSeallk
namespace Go.Proofs.YtgibafageolbnaaDoor
open Go.Sy Go.RatLaw
set_option linter.unusedVariables false

def c_SSeals : PCon
  | [.agg [.d (.lit (.int .i64 id)), .d (.lit (.int .i64 kind)), .d (.lit (.int .i64 y)), .d (.lit (.int .i64 p)), .d (.lit (.int .i64 d)), .d (.lit (.int .i64 s)), .d (.lit (.int .i64 ver)), .d (.lit (.int .i64 note)), .d (.lit (.int .i64 val)), .d (.lit (.string q))], .one (.d (.lit (.int .i64 x))), .one (.d (.lit (.int .u8 w))), .one (.d (.lit (.int .u8 z)))] => some ([InI64 note, InI64 val, InI64 x, 0 ≤ w ∧ w ≤ 255, 0 ≤ z ∧ z ≤ 255], .t (B true))
  | _ => none
end Go.Proofs.YtgibafageolbnaaDoor
