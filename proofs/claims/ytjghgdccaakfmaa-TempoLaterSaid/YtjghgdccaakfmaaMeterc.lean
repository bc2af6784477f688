/- Contracts. Written by a program (wip/tools/gen.py). -/
import Derived.Test.YtjghgdccaakfmaaMp
import Derived.Test.YtjghgdccaakfmaaRa
namespace Go.Proofs.Ytjghgdccaakfmaa
open Go.Sy Go.RatLaw
set_option linter.unusedVariables false


abbrev BT : Ty := .tp (.ti .i64) (.tp (.tp (.ti .i64) (.ti .i64)) (.ti .i64))
abbrev BL (l : List Bar) : TV := .one (.d (.sl BT l))
abbrev Po (b n d : Int) : TV := .agg [li .i64 b, li .i64 n, li .i64 d]
def goB (b : Int) : Lp (Int × (Int × Int) × Unit) := { go := notAt b }
abbrev sgB : List Ty := [.ti .i64, .tp (.ti .i64) (.ti .i64)]
def c_none : PCon
  | [] => some ([], .t (Q 0 1))
  | _ => none
def c_isDuration : PCon
  | [.agg [.d (.lit (.int .i64 n)), .d (.lit (.int .i64 d))]] => some ([], .t (B (dur n d)))
  | _ => none
def c_less : PCon
  | [.agg [.d (.lit (.int .i64 a)), .d (.lit (.int .i64 b))], .agg [.d (.lit (.int .i64 c)), .d (.lit (.int .i64 d))]] => some ([], .t (B (decide ((compareR a b c d).1 < 0))))
  | _ => none
def c_mValid : PCon
  | [.one (.d (.sl (.tp (.ti .i64) (.tp (.tp (.ti .i64) (.ti .i64)) (.ti .i64))) l))] => some ([], .t (B (okBars l)))
  | _ => none
def c_begins1 : Con
  | [.one (.yl m), .one (.ptr p 0)], hp, _ => match hp m, hp p with
    | some (.ob [.ti .i64, .tp (.ti .i64) (.ti .i64)] [] go), some (.cells [.d (.sl (.tp (.ti .i64) (.tp (.tp (.ti .i64) (.ti .i64)) (.ti .i64))) l)]) =>
      some ([∀ k, go.ok ((items 0 (0, 1) l).take k)], .tup [], [(m, .ob sgB (fed go [] (items 0 (0, 1) l)) go)])
    | _, _ => none
  | _, _, _ => none
def c_begins : Con
  | [.one (.d (.sl (.tp (.ti .i64) (.tp (.tp (.ti .i64) (.ti .i64)) (.ti .i64))) l))], hp, fr => match hp fr with
    | none => some ([], .t (.one (.clo 92 [] [(fr, 0)])), [(fr, .cells [.d (.sl BT l)])])
    | some _ => none
  | _, _, _ => none
def c_beginning : PCon
  | [.one (.d (.sl (.tp (.ti .i64) (.tp (.tp (.ti .i64) (.ti .i64)) (.ti .i64))) l)), .one (.d (.lit (.int .i64 b)))] => some ([], .t (Q (begAt l b).1 (begAt l b).2))
  | _ => none
def c_isPosition : PCon
  | [.one (.d (.sl (.tp (.ti .i64) (.tp (.tp (.ti .i64) (.ti .i64)) (.ti .i64))) l)), .agg [.d (.lit (.int .i64 b)), .d (.lit (.int .i64 n)), .d (.lit (.int .i64 d))]] => some ([okBars l = true], .t (B (posS l b n d)))
  | _ => none
def c_mTime : PCon
  | [.one (.d (.sl (.tp (.ti .i64) (.tp (.tp (.ti .i64) (.ti .i64)) (.ti .i64))) l)), .agg [.d (.lit (.int .i64 b)), .d (.lit (.int .i64 n)), .d (.lit (.int .i64 d))]] => some ([], res (timeS l b n d))
  | _ => none
def c_Ticks : PCon
  | [.agg [.d (.lit (.int .i64 n)), .d (.lit (.int .i64 d))]] => some ([], .t (I (tks n d)))
  | _ => none
def c_rValid : PCon
  | [.one (.d (.sl (.tp (.ti .i64) (.tp (.tp (.ti .i64) (.ti .i64)) (.ti .i64))) l))] => some ([], .t (B (okBars l)))
  | _ => none
def c_Position : PCon
  | [.one (.d (.sl (.tp (.ti .i64) (.tp (.tp (.ti .i64) (.ti .i64)) (.ti .i64))) l)), .agg [.d (.lit (.int .i64 b)), .d (.lit (.int .i64 n)), .d (.lit (.int .i64 d))]] => some ([], .t (B (posS l b n d)))
  | _ => none
end Go.Proofs.Ytjghgdccaakfmaa
