/- Contracts. Written by a program (wip/tools/gen.py). -/
import Derived.Test.YthnboahemgmfnaaMeterk
namespace Go.Proofs.Ythnboahemgmfnaa
open Go.Sy Go.RatLaw
set_option linter.unusedVariables false


abbrev U8 (n : Int) : TV := .one (.d (.lit (.int .u8 n)))

def c_example : Con
  | [], hp, fr => match hp fr with
    | none => some ([], .t (.one (.own fr (.sl BT exBars))), [(fr, .gr 45 4 3)])
    | some _ => none
  | _, _, _ => none
def c_head : PCon
  | [] => some ([], .t (B true))
  | _ => none
def c_usable : PCon
  | [.one (.d (.sl (.tp (.ti .i64) (.tp (.tp (.ti .i64) (.ti .i64)) (.ti .i64))) l))] => some ([], .t (B (decide (l.length ≤ 60) && okBars l)))
  | _ => none
def c_Matches : PCon
  | [.one (.d (.sl (.tp (.ti .i64) (.tp (.tp (.ti .i64) (.ti .i64)) (.ti .i64))) l)), .agg [.d (.lit (.int .i64 b)), .d (.lit (.int .i64 n)), .d (.lit (.int .i64 d))], .agg [.d (.lit (.int .i64 p)), .d (.lit (.int .i64 q))], .agg [.d (.lit (.int .i64 x)), .d (.lit (.int .i64 y))]] => some ([InI64 x], .t (B true))
  | _ => none
def c_Back : PCon
  | [.one (.d (.sl (.tp (.ti .i64) (.tp (.tp (.ti .i64) (.ti .i64)) (.ti .i64))) l)), .agg [.d (.lit (.int .i64 b)), .d (.lit (.int .i64 n)), .d (.lit (.int .i64 d))], .agg [.d (.lit (.int .i64 p)), .d (.lit (.int .i64 q))]] => some ([], .t (B true))
  | _ => none
def c_Order : PCon
  | [.one (.d (.sl (.tp (.ti .i64) (.tp (.tp (.ti .i64) (.ti .i64)) (.ti .i64))) l)), .agg [.d (.lit (.int .i64 b)), .d (.lit (.int .i64 n)), .d (.lit (.int .i64 d))], .agg [.d (.lit (.int .i64 c)), .d (.lit (.int .i64 p)), .d (.lit (.int .i64 q))]] => some ([], .t (B true))
  | _ => none
def c_Bars : PCon
  | [.one (.d (.sl (.tp (.ti .i64) (.tp (.tp (.ti .i64) (.ti .i64)) (.ti .i64))) l))] => some ([], .t (B true))
  | _ => none
def c_Parts : PCon
  | [.one (.d (.sl (.tp (.ti .i64) (.tp (.tp (.ti .i64) (.ti .i64)) (.ti .i64))) l)), .one (.d (.lit (.int .u8 u))), .agg [.d (.lit (.int .i64 b)), .d (.lit (.int .i64 n)), .d (.lit (.int .i64 d))]] => some ([0 ≤ u, u ≤ 255], .t (B true))
  | _ => none
def c_Shifts : PCon
  | [.one (.d (.sl (.tp (.ti .i64) (.tp (.tp (.ti .i64) (.ti .i64)) (.ti .i64))) l)), .agg [.d (.lit (.int .i64 b)), .d (.lit (.int .i64 n)), .d (.lit (.int .i64 d))], .agg [.d (.lit (.int .i64 p)), .d (.lit (.int .i64 q))], .agg [.d (.lit (.int .i64 x)), .d (.lit (.int .i64 y))]] => some ([InI64 p, InI64 x], .t (B true))
  | _ => none
end Go.Proofs.Ythnboahemgmfnaa
