/- Contracts. Written by a program (wip/tools/gen.py). -/
import Derived.Test.YtiplcokpckkopaaDoorPaperk
namespace Go.Proofs.YtiplcokpckkopaaDoor
open Go.Sy Go.RatLaw
set_option linter.unusedVariables false


def exW : Wr := (5, (0, (0, ((0, 1), ((1, 1), (0, (0, 4)))))))
def exV : List Ms := [(1, (0, ((4, 1), [exW]))), (2, (0, ((4, 1), []))), (3, (0, ((4, 1), [])))]
def exB : List Bk := [(0, 0), (1, 2)]
def c_xex : PCon
  | [] => some ([], .tup [V 3 exV, LB exB])
  | _ => none
def c_xhead : PCon
  | [] => some ([], .t (B true))
  | _ => none
def c_xuse : PCon
  | [.agg [.d (.lit (.int .i64 p)), .d (.sl (.tp (.ti .i64) (.tp (.ti .i64) (.tp (.tp (.ti .i64) (.ti .i64)) (.tl (.tp (.ti .i64) (.tp (.ti .i64) (.tp (.ti .i64) (.tp (.tp (.ti .i64) (.ti .i64)) (.tp (.tp (.ti .i64) (.ti .i64)) (.tp (.ti .i64) (.tp (.ti .i64) (.ti .i64)))))))))))) ms)], .one (.d (.sl (.tp (.ti .i64) (.ti .i64)) l)), .one (.d (.sl (.tp (.ti .i64) (.ti .i64)) pages))] => some ([], .t (B (few27 ms l pages && arePB ms l pages)))
  | _ => none
def c_xnum : PCon
  | [.one (.d (.lit (.int .u16 n)))] => some ([0 ≤ n, n ≤ 65535], .t (I (1 + n)))
  | _ => none
def c_PMatches : PCon
  | [.agg [.d (.lit (.int .i64 p)), .d (.sl (.tp (.ti .i64) (.tp (.ti .i64) (.tp (.tp (.ti .i64) (.ti .i64)) (.tl (.tp (.ti .i64) (.tp (.ti .i64) (.tp (.ti .i64) (.tp (.tp (.ti .i64) (.ti .i64)) (.tp (.tp (.ti .i64) (.ti .i64)) (.tp (.ti .i64) (.tp (.ti .i64) (.ti .i64)))))))))))) ms)], .one (.d (.sl (.tp (.ti .i64) (.ti .i64)) l)), .agg [.d (.lit (.int .i64 f)), .d (.lit (.int .i64 u))], .one (.d (.sl (.tp (.ti .i64) (.ti .i64)) pages)), .agg [.d (.lit (.int .i64 a)), .d (.lit (.int .i64 b)), .d (.lit (.int .i64 c)), .d (.lit (.int .i64 d)), .d (.lit (.int .i64 e)), .d (.lit (.int .u64 g))], .one (.d (.lit (.int .i64 ed))), .one (.d (.lit (.int .i64 ve))), .one (.d (.lit (.int .i64 id)))] => some ([InI64 p, wfM ms], .t (B true))
  | _ => none
end Go.Proofs.YtiplcokpckkopaaDoor
