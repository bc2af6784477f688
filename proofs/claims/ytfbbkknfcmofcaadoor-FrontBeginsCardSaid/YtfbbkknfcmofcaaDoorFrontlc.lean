/- Contracts. Written by a program (wip/tools/gen.py). -/
import Derived.Test.YtfbbkknfcmofcaaDoorFrontk
namespace Go.Proofs.YtfbbkknfcmofcaaDoor
open Go.Sy Go.RatLaw
set_option linter.unusedVariables false


def hE : List En := [(3, (1, (1, (2, (0, 0))))), (4, (2, (9, (0, (0, 0))))), (4, (2, (7, (0, (0, 0))))), (6, (3, (2, (0, (0, 0))))), (8, (1, (2, (2, (0, 0)))))]
abbrev LGC (s : Int) (l : List En) (h : Int) : HO := .cells [li .i64 s, .d (.sl (.tp (.ti .i64) (.tp (.ti .i64) (.tp (.ti .i64) (.tp (.ti .i64) (.tp (.ti .i64) (.ti .u64)))))) l), .d (.lit (.int .u64 h))]
def c_fhas : PCon
  | [.one (.d (.sl (.ti .i64) l)), .one (.d (.lit (.int .i64 n)))] => some ([], .t (B (hasI l n)))
  | _ => none
def c_fhead : PCon
  | [] => some ([], .t (B true))
  | _ => none
end Go.Proofs.YtfbbkknfcmofcaaDoor
