/- Contracts. Written by a program (wip/tools/gen.py). -/
import Derived.Test.YtgibafageolbnaaDoorSeallk
namespace Go.Proofs.YtgibafageolbnaaDoor
open Go.Sy Go.RatLaw
set_option linter.unusedVariables false

def c_SMatches : PCon
  | [.agg [.d (.lit (.int .i64 id)), .d (.lit (.int .i64 kind)), .d (.lit (.int .i64 y)), .d (.lit (.int .i64 p)), .d (.lit (.int .i64 d)), .d (.lit (.int .i64 s)), .d (.lit (.int .i64 ver)), .d (.lit (.int .i64 note)), .d (.lit (.int .i64 val)), .d (.lit (.string q))], .one (.d (.lit (.int .i64 x))), .agg [.d (.lit (.int .i64 s1)), .d (.sl (.tp (.ti .i64) (.tp (.ti .i64) (.tp (.ti .i64) (.tp (.ti .i64) (.tp (.ti .i64) (.ti .u64)))))) l1), .d (.lit (.int .u64 h1))], .agg [.d (.lit (.int .i64 s2)), .d (.sl (.tp (.ti .i64) (.tp (.ti .i64) (.tp (.ti .i64) (.tp (.ti .i64) (.tp (.ti .i64) (.ti .u64)))))) l2), .d (.lit (.int .u64 h2))], .agg [.d (.lit (.int .i64 t)), .d (.lit (.int .i64 k)), .d (.lit (.int .i64 a)), .d (.lit (.int .i64 b)), .d (.lit (.int .i64 c)), .d (.lit (.int .u64 g))]] => some ([InI64 s1, inE l1, InI64 s2, inE l2, InI64 t, 0 ≤ g ∧ g < 18446744073709551616], .t (B true))
  | _ => none
end Go.Proofs.YtgibafageolbnaaDoor
