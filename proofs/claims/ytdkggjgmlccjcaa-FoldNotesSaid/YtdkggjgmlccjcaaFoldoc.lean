/- Contracts. Written by a program (wip/tools/gen.py). -/
import Derived.Test.YtdkggjgmlccjcaaFoldnk
namespace Go.Proofs.Ytdkggjgmlccjcaa
open Go.Sy Go.RatLaw
set_option linter.unusedVariables false

def c_FNotes : PCon
  | [.agg [.d (.lit (.int .i64 p)), .d (.sl (.tp (.ti .i64) (.tp (.ti .i64) (.tp (.tp (.ti .i64) (.ti .i64)) (.tl (.tp (.ti .i64) (.tp (.ti .i64) (.tp (.ti .i64) (.tp (.tp (.ti .i64) (.ti .i64)) (.tp (.tp (.ti .i64) (.ti .i64)) (.tp (.ti .i64) (.tp (.ti .i64) (.ti .i64)))))))))))) ms)], .one (.d (.sl (.ti .u8) l)), .one (.d (.lit (.int .u8 u))), .agg [.d (.lit (.int .i64 a)), .d (.lit (.int .i64 b)), .d (.lit (.int .i64 c)), .d (.lit (.int .i64 d)), .d (.lit (.int .i64 e)), .d (.lit (.int .i64 f)), .d (.lit (.int .i64 g)), .d (.lit (.int .i64 h)), .d (.lit (.int .i64 i)), .d (.lit (.int .i64 a0))]] => some ([bytesB l, 0 ≤ u, u ≤ 255], .t (B true))
  | _ => none
end Go.Proofs.Ytdkggjgmlccjcaa
