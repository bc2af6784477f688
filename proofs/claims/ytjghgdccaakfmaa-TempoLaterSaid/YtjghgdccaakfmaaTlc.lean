/- Contracts. Written by a program (wip/tools/gen.py). -/
import Derived.Test.YtjghgdccaakfmaaTempok
namespace Go.Proofs.Ytjghgdccaakfmaa
open Go.Sy Go.RatLaw
set_option linter.unusedVariables false


abbrev U16 (n : Int) : TV := .one (.d (.lit (.int .u16 n)))
abbrev U8 (n : Int) : TV := .one (.d (.lit (.int .u8 n)))
def usableT (bars : List Bar) (l : List T3) : Bool := decide (bars.length ≤ 40) && decide (l.length ≤ 60) && okTm bars l
def c_thead : PCon
  | [] => some ([], .t (B true))
  | _ => none
def c_tusable : PCon
  | [.one (.d (.sl (.tp (.ti .i64) (.tp (.tp (.ti .i64) (.ti .i64)) (.ti .i64))) bars)), .one (.d (.sl (.tp (.ti .i64) (.tp (.ti .i64) (.ti .i64))) l))] => some ([], .t (B (usableT bars l)))
  | _ => none
end Go.Proofs.Ytjghgdccaakfmaa
