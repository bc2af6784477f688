/- Contracts. Written by a program (wip/tools/gen.py). -/
import Derived.Test.YtjghgdccaakfmaaTlk
namespace Go.Proofs.Ytjghgdccaakfmaa
open Go.Sy Go.RatLaw
set_option linter.unusedVariables false

def c_TPlain : PCon
  | [.one (.d (.sl (.tp (.ti .i64) (.tp (.tp (.ti .i64) (.ti .i64)) (.ti .i64))) bars)), .one (.d (.sl (.tp (.ti .i64) (.tp (.ti .i64) (.ti .i64))) l)), .one (.d (.lit (.int .u8 v))), .one (.d (.lit (.int .u8 w)))] => some ([0 ≤ v, v ≤ 255, 0 ≤ w, w ≤ 255], .t (B true))
  | _ => none
end Go.Proofs.Ytjghgdccaakfmaa
