/- Contracts. Written by a program (wip/tools/gen.py). -/
import Derived.Test.YtfbbkknfcmofcaaDoorFrontlk
namespace Go.Proofs.YtfbbkknfcmofcaaDoor
open Go.Sy Go.RatLaw
set_option linter.unusedVariables false

def c_FLater : PCon
  | [.agg [.d (.lit (.int .i64 s)), .d (.sl (.tp (.ti .i64) (.tp (.ti .i64) (.tp (.ti .i64) (.tp (.ti .i64) (.tp (.ti .i64) (.ti .u64)))))) l), .d (.lit (.int .u64 h))], .agg [.d (.lit (.int .i64 t)), .d (.lit (.int .i64 k)), .d (.lit (.int .i64 a)), .d (.lit (.int .i64 b)), .d (.lit (.int .i64 c)), .d (.lit (.int .u64 g))], .one (.d (.lit (.int .i64 n)))] => some ([InI64 s, inE l, InI64 t, 0 ≤ g ∧ g < 18446744073709551616], .t (B true))
  | _ => none
end Go.Proofs.YtfbbkknfcmofcaaDoor
