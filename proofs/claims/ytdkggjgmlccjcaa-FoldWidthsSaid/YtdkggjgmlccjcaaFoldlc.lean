/- Contracts. Written by a program (wip/tools/gen.py). -/
import Derived.Test.YtdkggjgmlccjcaaFoldk
namespace Go.Proofs.Ytdkggjgmlccjcaa
open Go.Sy Go.RatLaw
set_option linter.unusedVariables false


abbrev LU (l : List Int) : TV := .one (.d (.sl (.ti .u8) l))
abbrev U8 (n : Int) : TV := .one (.d (.lit (.int .u8 n)))
abbrev WV (a b c d e f g h i j : Int) : TV := .agg [li .i64 a, li .i64 b, li .i64 c, li .i64 d, li .i64 e, li .i64 f, li .i64 g, li .i64 h, li .i64 i, li .i64 j]
def bytesB (l : List Int) : Prop := ∀ u ∈ l, 0 ≤ u ∧ u ≤ 255
def exPre (x : Nat) : List Ms := (List.range x).map fun i : Nat => (((i : Int) + 1, (0, ((4, 1), []))) : Ms)
def exMs : List Ms := [(1, (0, ((4, 1), []))), (2, (0, ((4, 1), []))), (3, (0, ((4, 1), [(1, (0, (0, ((0, 0), ((0, 0), (0, (0, 0))))))), (2, (0, (0, ((1, 2), ((0, 0), (0, (0, 0))))))), (3, (0, (0, ((0, 0), ((0, 0), (0, (0, 0)))))))]))), (4, (0, ((4, 1), []))), (5, (0, ((4, 1), []))), (6, (2, ((4, 1), [])))]
def stopsS (ms : List Ms) (l : List Int) : List Int := if 0 < ms.length then l.map fun u => Int.tmod u ms.length else []
def useS (ms : List Ms) (l : List Int) : List Int × Bool := if fewB ms && (viewB ms && decide (l.length ≤ 60)) then (stopsS ms l, true) else ([], false)
def c_example : PCon
  | [] => some ([], .t (V 0 exMs))
  | _ => none
def c_head : PCon
  | [] => some ([], .t (B true))
  | _ => none
def c_usable : PCon
  | [.agg [.d (.lit (.int .i64 p)), .d (.sl (.tp (.ti .i64) (.tp (.ti .i64) (.tp (.tp (.ti .i64) (.ti .i64)) (.tl (.tp (.ti .i64) (.tp (.ti .i64) (.tp (.ti .i64) (.tp (.tp (.ti .i64) (.ti .i64)) (.tp (.tp (.ti .i64) (.ti .i64)) (.tp (.ti .i64) (.tp (.ti .i64) (.ti .i64)))))))))))) ms)], .one (.d (.sl (.ti .u8) l))] => some ([bytesB l], .tup [LI (useS ms l).1, B (useS ms l).2])
  | _ => none
def c_FMatches : PCon
  | [.agg [.d (.lit (.int .i64 p)), .d (.sl (.tp (.ti .i64) (.tp (.ti .i64) (.tp (.tp (.ti .i64) (.ti .i64)) (.tl (.tp (.ti .i64) (.tp (.ti .i64) (.tp (.ti .i64) (.tp (.tp (.ti .i64) (.ti .i64)) (.tp (.tp (.ti .i64) (.ti .i64)) (.tp (.ti .i64) (.tp (.ti .i64) (.ti .i64)))))))))))) ms)], .one (.d (.sl (.ti .i64) st)), .one (.d (.sl (.tp (.ti .i64) (.ti .i64)) l))] => some ([], .t (B true))
  | _ => none
end Go.Proofs.Ytdkggjgmlccjcaa
