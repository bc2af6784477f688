/- Contracts. Written by a program (wip/tools/gen.py). -/
import Derived.Test.YtfbbkknfcmofcaaDoorFrontlk
namespace Go.Proofs.YtfbbkknfcmofcaaDoor
open Go.Sy Go.RatLaw
set_option linter.unusedVariables false

def c_FSheets : PCon
  | [.agg [.d (.lit (.int .i64 s)), .d (.sl (.tp (.ti .i64) (.tp (.ti .i64) (.tp (.ti .i64) (.tp (.ti .i64) (.tp (.ti .i64) (.ti .u64)))))) l), .d (.lit (.int .u64 h))], .one (.d (.lit (.int .i64 n))), .one (.d (.lit (.int .i64 z)))] => some ([InI64 s, inE l], .t (B true))
  | _ => none
end Go.Proofs.YtfbbkknfcmofcaaDoor
