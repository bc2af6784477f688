/- Contracts. Written by a program (wip/tools/gen.py). -/
import Derived.Test.YtjghgdccaakfmaaTlk
namespace Go.Proofs.Ytjghgdccaakfmaa
open Go.Sy Go.RatLaw
set_option linter.unusedVariables false

def c_TParts : PCon
  | [.one (.d (.sl (.tp (.ti .i64) (.tp (.tp (.ti .i64) (.ti .i64)) (.ti .i64))) bars)), .one (.d (.sl (.tp (.ti .i64) (.tp (.ti .i64) (.ti .i64))) l)), .agg [.d (.lit (.int .i64 pb)), .d (.lit (.int .i64 pn)), .d (.lit (.int .i64 pd))], .agg [.d (.lit (.int .i64 qb)), .d (.lit (.int .i64 qn)), .d (.lit (.int .i64 qd))], .agg [.d (.lit (.int .i64 rb)), .d (.lit (.int .i64 rn)), .d (.lit (.int .i64 rd))]] => some ([], .t (B true))
  | _ => none
end Go.Proofs.Ytjghgdccaakfmaa
