/- Contracts. Written by a program (wip/tools/gen.py). -/
import Derived.Test.YtpdgmlkagfeglaaGe
import Derived.Test.YtpdgmlkagfeglaaFormlk
namespace Go.Proofs.Ytpdgmlkagfeglaa
open Go.Sy Go.RatLaw
set_option linter.unusedVariables false

def c_openR : PCon
  | [.agg [.d (.lit (.int .i64 b)), .d (.sl (.tp (.ti .i64) (.tp (.ti .i64) (.ti .i64))) r), .d (.sl (.tp (.ti .i64) (.tp (.ti .i64) (.ti .i64))) e), .d (.lit (.int .i64 j)), .d (.lit (.int .i64 t)), .d (.lit (.int .i64 n)), .d (.sl (.tp (.ti .i64) (.tp (.ti .i64) (.ti .i64))) c)], .agg [.d (.lit (.int .i64 x)), .d (.lit (.int .i64 y)), .d (.lit (.int .i64 z))]] => some ([], resF (openS (b, (r, (e, ((j, (t, n)), c)))) (x, (y, z))))
  | _ => none
def c_Matches : PCon
  | [.agg [.d (.lit (.int .i64 b)), .d (.sl (.tp (.ti .i64) (.tp (.ti .i64) (.ti .i64))) r), .d (.sl (.tp (.ti .i64) (.tp (.ti .i64) (.ti .i64))) e), .d (.lit (.int .i64 j)), .d (.lit (.int .i64 t)), .d (.lit (.int .i64 n)), .d (.sl (.tp (.ti .i64) (.tp (.ti .i64) (.ti .i64))) c)], .agg [.d (.lit (.int .i64 o)), .d (.lit (.int .i64 p))], .agg [.d (.lit (.int .i64 x)), .d (.lit (.int .i64 y)), .d (.lit (.int .i64 z))], .one (.d (.lit (.int .i64 u))), .one (.d (.lit (.int .i64 v)))] => some ([], .t (B true))
  | _ => none
def c_Cuts : PCon
  | [.agg [.d (.lit (.int .i64 b)), .d (.sl (.tp (.ti .i64) (.tp (.ti .i64) (.ti .i64))) r), .d (.sl (.tp (.ti .i64) (.tp (.ti .i64) (.ti .i64))) e), .d (.lit (.int .i64 j)), .d (.lit (.int .i64 t)), .d (.lit (.int .i64 n)), .d (.sl (.tp (.ti .i64) (.tp (.ti .i64) (.ti .i64))) c)], .agg [.d (.lit (.int .i64 x)), .d (.lit (.int .i64 y)), .d (.lit (.int .i64 z))], .agg [.d (.lit (.int .i64 u)), .d (.lit (.int .i64 v)), .d (.lit (.int .i64 w))]] => some ([], .t (B true))
  | _ => none
end Go.Proofs.Ytpdgmlkagfeglaa
