/- Contracts. Written by a program (wip/tools/gen.py). -/
import Derived.Test.YtgibafageolbnaaDoorSeallk
namespace Go.Proofs.YtgibafageolbnaaDoor
open Go.Sy Go.RatLaw
set_option linter.unusedVariables false

def c_SBegins : PCon
  | [.agg [.d (.lit (.int .i64 s1)), .d (.sl (.tp (.ti .i64) (.tp (.ti .i64) (.tp (.ti .i64) (.tp (.ti .i64) (.tp (.ti .i64) (.ti .u64)))))) l1), .d (.lit (.int .u64 h1))], .agg [.d (.lit (.int .i64 s2)), .d (.sl (.tp (.ti .i64) (.tp (.ti .i64) (.tp (.ti .i64) (.tp (.ti .i64) (.tp (.ti .i64) (.ti .u64)))))) l2), .d (.lit (.int .u64 h2))], .agg [.d (.lit (.int .i64 s3)), .d (.sl (.tp (.ti .i64) (.tp (.ti .i64) (.tp (.ti .i64) (.tp (.ti .i64) (.tp (.ti .i64) (.ti .u64)))))) l3), .d (.lit (.int .u64 h3))], .one (.d (.lit (.int .u8 n)))] => some ([InI64 s1, inE l1, InI64 s2, inE l2, InI64 s3, inE l3, 0 ≤ n ∧ n ≤ 255], .t (B true))
  | _ => none
end Go.Proofs.YtgibafageolbnaaDoor
