/- Contracts. Written by a program (wip/tools/gen.py). -/
import Derived.Test.YtdkggjgmlccjcaaMp
import Derived.Test.YtdkggjgmlccjcaaRa
namespace Go.Proofs.Ytdkggjgmlccjcaa
open Go.Sy Go.RatLaw
set_option linter.unusedVariables false


abbrev BT : Ty := .tp (.ti .i64) (.tp (.tp (.ti .i64) (.ti .i64)) (.ti .i64))
abbrev BL (l : List Bar) : TV := .one (.d (.sl BT l))
abbrev Po (b n d : Int) : TV := .agg [li .i64 b, li .i64 n, li .i64 d]
abbrev resP (m : Pos) : AV := .tup [Po m.1 m.2.1 m.2.2.1, I m.2.2.2]
def goB (b : Int) : Lp (Int × (Int × Int) × Unit) := { go := notAt b }
def goL (l : List Bar) (n d : Int) : Lp (Int × (Int × Int) × Unit) := { go := fun hist => goAt l n d hist, ok := fun hist => ∃ k, hist = (items 0 (0, 1) l).take k }
abbrev sgB : List Ty := [.ti .i64, .tp (.ti .i64) (.ti .i64)]
def c_Ticks : PCon
  | [.agg [.d (.lit (.int .i64 n)), .d (.lit (.int .i64 d))]] => some ([], .t (I (tks n d)))
  | _ => none
end Go.Proofs.Ytdkggjgmlccjcaa
