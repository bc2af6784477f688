/- Contracts. Written by a program (wip/tools/gen.py). -/
import Derived.Test.YtjghgdccaakfmaaTlk
namespace Go.Proofs.Ytjghgdccaakfmaa
open Go.Sy Go.RatLaw
set_option linter.unusedVariables false

def c_TPlayed : PCon
  | [.one (.d (.sl (.tp (.ti .i64) (.tp (.tp (.ti .i64) (.ti .i64)) (.ti .i64))) bars)), .one (.d (.sl (.tp (.ti .i64) (.tp (.ti .i64) (.ti .i64))) l)), .agg [.d (.lit (.int .i64 b)), .d (.sl (.tp (.ti .i64) (.tp (.ti .i64) (.ti .i64))) r), .d (.sl (.tp (.ti .i64) (.tp (.ti .i64) (.ti .i64))) e), .d (.lit (.int .i64 j)), .d (.lit (.int .i64 t)), .d (.lit (.int .i64 n)), .d (.sl (.tp (.ti .i64) (.tp (.ti .i64) (.ti .i64))) c)], .one (.d (.lit (.int .u16 w)))] => some ([0 ≤ w, w ≤ 65535], .t (B true))
  | _ => none
end Go.Proofs.Ytjghgdccaakfmaa
