/- Contracts. Written by a program (wip/tools/gen.py). -/
import Derived.Test.YtiejdafjjneaeaaDoorDq
import Derived.Test.YtiejdafjjneaeaaDoorDigestk
namespace Go.Proofs.YtiejdafjjneaeaaDoor
open Go.Sy Go.RatLaw
set_option linter.unusedVariables false


def bytesB (l : List Int) : Prop := ∀ u ∈ l, 0 ≤ u ∧ u ≤ 255
def c_turned : PCon
  | [.one (.d (.sl (.ti .i64) l)), .one (.d (.lit (.int .u16 w))), .one (.d (.lit (.int .u8 b)))] => some ([0 ≤ w, w ≤ 65535, 0 ≤ b, b ≤ 255, l.length * 8 ≤ 140737488355328], .tup [LI (turnS l w b).1, B (turnS l w b).2])
  | _ => none
def c_DMatches : PCon
  | [.one (.d (.sl (.ti .u8) b)), .one (.d (.lit (.int .u64 d))), .one (.d (.sl (.ti .i64) l)), .one (.d (.sl (.tl (.ti .i64)) ll))] => some ([allI l, allLL ll], .t (B true))
  | _ => none
def c_DOne : PCon
  | [.one (.d (.sl (.ti .u8) l)), .one (.d (.lit (.int .u16 w))), .one (.d (.lit (.int .u8 b)))] => some ([bytesB l, 0 ≤ w, w ≤ 65535, 0 ≤ b, b ≤ 255], .t (B true))
  | _ => none
def c_DBehind : PCon
  | [.one (.d (.sl (.ti .u8) a)), .one (.d (.sl (.ti .u8) b)), .one (.d (.sl (.ti .u8) m))] => some ([], .t (B true))
  | _ => none
def c_DTexts : PCon
  | [.one (.d (.lit (.int .u64 d))), .one (.d (.sl (.ti .i64) l)), .one (.d (.lit (.int .u16 w))), .one (.d (.lit (.int .u8 b)))] => some ([allI l, 0 ≤ w, w ≤ 65535, 0 ≤ b, b ≤ 255], .t (B true))
  | _ => none
def c_DChains : PCon
  | [.one (.d (.sl (.tl (.ti .i64)) a)), .one (.d (.sl (.tl (.ti .i64)) b)), .one (.d (.sl (.tl (.ti .i64)) m)), .one (.d (.sl (.ti .i64) l))] => some ([allLL a, allLL b, allLL m, allI l], .t (B true))
  | _ => none
def c_DLast : PCon
  | [.one (.d (.sl (.tl (.ti .i64)) ll)), .one (.d (.sl (.ti .i64) l)), .one (.d (.lit (.int .u16 w))), .one (.d (.lit (.int .u8 b)))] => some ([allLL ll, allI l, l.length * 8 ≤ 140737488355328, 0 ≤ w, w ≤ 65535, 0 ≤ b, b ≤ 255], .t (B true))
  | _ => none
end Go.Proofs.YtiejdafjjneaeaaDoor
