/- Contracts. Written by a program (wip/tools/gen.py). -/
import Derived.Test.YtiplcokpckkopaaDoorPaperlk
namespace Go.Proofs.YtiplcokpckkopaaDoor
open Go.Sy Go.RatLaw
set_option linter.unusedVariables false

def c_PPrints : PCon
  | [.agg [.d (.lit (.int .i64 p)), .d (.sl (.tp (.ti .i64) (.tp (.ti .i64) (.tp (.tp (.ti .i64) (.ti .i64)) (.tl (.tp (.ti .i64) (.tp (.ti .i64) (.tp (.ti .i64) (.tp (.tp (.ti .i64) (.ti .i64)) (.tp (.tp (.ti .i64) (.ti .i64)) (.tp (.ti .i64) (.tp (.ti .i64) (.ti .i64)))))))))))) ms)], .one (.d (.sl (.tp (.ti .i64) (.ti .i64)) l)), .one (.d (.sl (.tp (.ti .i64) (.ti .i64)) pages)), .one (.d (.lit (.int .u16 ed))), .one (.d (.lit (.int .u16 ve))), .one (.d (.lit (.int .u16 id))), .one (.d (.lit (.int .u16 ot)))] => some ([InI64 p, wfM ms, 0 ≤ ed, ed ≤ 65535, 0 ≤ ve, ve ≤ 65535, 0 ≤ id, id ≤ 65535, 0 ≤ ot, ot ≤ 65535], .t (B true))
  | _ => none
end Go.Proofs.YtiplcokpckkopaaDoor
