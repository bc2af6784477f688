/- Contracts. Written by a program (wip/tools/gen.py). -/
import Derived.Test.YtjghgdccaakfmaaTlk
namespace Go.Proofs.Ytjghgdccaakfmaa
open Go.Sy Go.RatLaw
set_option linter.unusedVariables false

def c_TLater : PCon
  | [.one (.d (.sl (.tp (.ti .i64) (.tp (.tp (.ti .i64) (.ti .i64)) (.ti .i64))) bars)), .one (.d (.sl (.tp (.ti .i64) (.tp (.ti .i64) (.ti .i64))) l)), .one (.d (.lit (.int .u8 w))), .agg [.d (.lit (.int .i64 a)), .d (.lit (.int .i64 d))], .agg [.d (.lit (.int .i64 pb)), .d (.lit (.int .i64 pn)), .d (.lit (.int .i64 pd))]] => some ([0 ≤ w, w ≤ 255], .t (B true))
  | _ => none
end Go.Proofs.Ytjghgdccaakfmaa
