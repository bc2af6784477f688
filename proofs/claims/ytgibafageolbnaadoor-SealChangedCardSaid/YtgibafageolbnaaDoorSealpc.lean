/- Contracts. Written by a program (wip/tools/gen.py). -/
import Derived.Test.YtgibafageolbnaaDoorSeallk
namespace Go.Proofs.YtgibafageolbnaaDoor
open Go.Sy Go.RatLaw
set_option linter.unusedVariables false

def c_SChanged : PCon
  | [.agg [.d (.lit (.int .i64 s)), .d (.sl (.tp (.ti .i64) (.tp (.ti .i64) (.tp (.ti .i64) (.tp (.ti .i64) (.tp (.ti .i64) (.ti .u64)))))) l), .d (.lit (.int .u64 h))], .one (.d (.lit (.int .u8 w))), .one (.d (.lit (.int .u8 y)))] => some ([InI64 s, inE l, 0 ≤ w ∧ w ≤ 255, 0 ≤ y ∧ y ≤ 255], .t (B true))
  | _ => none
end Go.Proofs.YtgibafageolbnaaDoor
