/- Contracts. Written by a program (wip/tools/gen.py). -/
import Derived.Test.YtiplcokpckkopaaDoorPaperlk
namespace Go.Proofs.YtiplcokpckkopaaDoor
open Go.Sy Go.RatLaw
set_option linter.unusedVariables false

def c_PMis : PCon
  | [.agg [.d (.lit (.int .i64 p)), .d (.sl (.tp (.ti .i64) (.tp (.ti .i64) (.tp (.tp (.ti .i64) (.ti .i64)) (.tl (.tp (.ti .i64) (.tp (.ti .i64) (.tp (.ti .i64) (.tp (.tp (.ti .i64) (.ti .i64)) (.tp (.tp (.ti .i64) (.ti .i64)) (.tp (.ti .i64) (.tp (.ti .i64) (.ti .i64)))))))))))) ms)], .one (.d (.sl (.tp (.ti .i64) (.ti .i64)) l)), .one (.d (.sl (.tp (.ti .i64) (.ti .i64)) pages)), .one (.d (.lit (.int .u8 wh))), .one (.d (.lit (.int .u8 ho))), .one (.d (.lit (.int .u64 g)))] => some ([InI64 p, wfM ms, 0 ≤ wh, wh ≤ 255, 0 ≤ ho, ho ≤ 255, 0 ≤ g, g ≤ 18446744073709551615], .t (B true))
  | _ => none
end Go.Proofs.YtiplcokpckkopaaDoor
