/- Contracts. Written by a program (wip/tools/gen.py). -/
import Derived.Test.YtgibafageolbnaaDoorSeallk
namespace Go.Proofs.YtgibafageolbnaaDoor
open Go.Sy Go.RatLaw
set_option linter.unusedVariables false

def c_SForks : PCon
  | [.agg [.d (.lit (.int .i64 s)), .d (.sl (.tp (.ti .i64) (.tp (.ti .i64) (.tp (.ti .i64) (.tp (.ti .i64) (.tp (.ti .i64) (.ti .u64)))))) l), .d (.lit (.int .u64 h))], .agg [.d (.lit (.int .i64 t)), .d (.lit (.int .i64 k)), .d (.lit (.int .i64 a)), .d (.lit (.int .i64 b)), .d (.lit (.int .i64 c)), .d (.lit (.int .u64 g))], .one (.d (.lit (.int .u8 w))), .one (.d (.lit (.int .u8 y)))] => some ([InI64 s, inE l, InI64 t ∧ InI64 k ∧ InI64 a ∧ InI64 b ∧ InI64 c, 0 ≤ g ∧ g < 18446744073709551616, 0 ≤ w ∧ w ≤ 255, 0 ≤ y ∧ y ≤ 255], .t (B true))
  | _ => none
end Go.Proofs.YtgibafageolbnaaDoor
