/- Contracts. Written by a program (wip/tools/gen.py). -/
import Derived.Test.YtjghgdccaakfmaaTlk
namespace Go.Proofs.Ytjghgdccaakfmaa
open Go.Sy Go.RatLaw
set_option linter.unusedVariables false

def c_TConstant : PCon
  | [.one (.d (.sl (.tp (.ti .i64) (.tp (.tp (.ti .i64) (.ti .i64)) (.ti .i64))) bars)), .agg [.d (.lit (.int .i64 g)), .d (.lit (.int .i64 a)), .d (.lit (.int .i64 d))], .agg [.d (.lit (.int .i64 pb)), .d (.lit (.int .i64 pn)), .d (.lit (.int .i64 pd))], .agg [.d (.lit (.int .i64 qb)), .d (.lit (.int .i64 qn)), .d (.lit (.int .i64 qd))]] => some ([], .t (B true))
  | _ => none
end Go.Proofs.Ytjghgdccaakfmaa
