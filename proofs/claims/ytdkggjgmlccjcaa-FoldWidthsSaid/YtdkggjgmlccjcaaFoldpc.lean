/- Contracts. Written by a program (wip/tools/gen.py). -/
import Derived.Test.YtdkggjgmlccjcaaFoldmk
namespace Go.Proofs.Ytdkggjgmlccjcaa
open Go.Sy Go.RatLaw
set_option linter.unusedVariables false

def c_FWidths : PCon
  | [.agg [.d (.lit (.int .i64 p)), .d (.sl (.tp (.ti .i64) (.tp (.ti .i64) (.tp (.tp (.ti .i64) (.ti .i64)) (.tl (.tp (.ti .i64) (.tp (.ti .i64) (.tp (.ti .i64) (.tp (.tp (.ti .i64) (.ti .i64)) (.tp (.tp (.ti .i64) (.ti .i64)) (.tp (.ti .i64) (.tp (.ti .i64) (.ti .i64)))))))))))) ms)], .one (.d (.sl (.ti .u8) l))] => some ([bytesB l, ∀ m ∈ ms, (notesM m).length ≤ 140737488355328], .t (B true))
  | _ => none
end Go.Proofs.Ytdkggjgmlccjcaa
