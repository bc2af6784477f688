/- Contracts. Written by a program (wip/tools/gen.py). -/
import Derived.Test.YtfbbkknfcmofcaaDoorFrontlk
namespace Go.Proofs.YtfbbkknfcmofcaaDoor
open Go.Sy Go.RatLaw
set_option linter.unusedVariables false

def c_FBegins : PCon
  | [.agg [.d (.lit (.int .i64 s)), .d (.sl (.tp (.ti .i64) (.tp (.ti .i64) (.tp (.ti .i64) (.tp (.ti .i64) (.tp (.ti .i64) (.ti .u64)))))) l), .d (.lit (.int .u64 h))], .one (.d (.lit (.int .u8 w))), .one (.d (.lit (.int .i64 n)))] => some ([InI64 s, inE l, 0 ≤ w ∧ w ≤ 255], .t (B true))
  | _ => none
end Go.Proofs.YtfbbkknfcmofcaaDoor
