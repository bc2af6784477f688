/- Contracts. Written by a program (wip/tools/gen.py). -/
import Derived.Test.YtpdgmlkagfeglaaFormk
namespace Go.Proofs.Ytpdgmlkagfeglaa
open Go.Sy Go.RatLaw
set_option linter.unusedVariables false


abbrev U16 (n : Int) : TV := .one (.d (.lit (.int .u16 n)))
def c_example : PCon
  | [] => some ([], .t (F' exF))
  | _ => none
def c_lbars : PCon
  | [.one (.d (.sl (.tp (.ti .i64) (.ti .i64)) l))] => some ([l.length ≤ 20000], .t (L1 (l.map fst1)))
  | _ => none
def c_lsame : PCon
  | [.one (.d (.sl (.ti .i64) l)), .one (.d (.sl (.ti .i64) m))] => some ([], .t (B (sameI l m)))
  | _ => none
def c_head : PCon
  | [] => some ([], .t (B true))
  | _ => none
def c_usable : PCon
  | [.agg [.d (.lit (.int .i64 b)), .d (.sl (.tp (.ti .i64) (.tp (.ti .i64) (.ti .i64))) r), .d (.sl (.tp (.ti .i64) (.tp (.ti .i64) (.ti .i64))) e), .d (.lit (.int .i64 j)), .d (.lit (.int .i64 t)), .d (.lit (.int .i64 n)), .d (.sl (.tp (.ti .i64) (.tp (.ti .i64) (.ti .i64))) c)]] => some ([], .t (B (usableF (b, (r, (e, ((j, (t, n)), c)))))))
  | _ => none
def c_kept : PCon
  | [.one (.d (.sl (.tp (.ti .i64) (.ti .i64)) l)), .agg [.d (.lit (.int .i64 x)), .d (.lit (.int .i64 y)), .d (.lit (.int .i64 z))]] => some ([l.length ≤ 20000], .t (L2 (l.filter (keepV (x, (y, z))))))
  | _ => none
def c_skipped : PCon
  | [.agg [.d (.lit (.int .i64 b)), .d (.sl (.tp (.ti .i64) (.tp (.ti .i64) (.ti .i64))) r), .d (.sl (.tp (.ti .i64) (.tp (.ti .i64) (.ti .i64))) e), .d (.lit (.int .i64 j)), .d (.lit (.int .i64 t)), .d (.lit (.int .i64 n)), .d (.sl (.tp (.ti .i64) (.tp (.ti .i64) (.ti .i64))) c)], .one (.d (.lit (.int .i64 x))), .one (.d (.lit (.int .i64 y)))] => some ([InI64 x, InI64 y], .t (B (skippedB e x y)))
  | _ => none
def c_follows : PCon
  | [.agg [.d (.lit (.int .i64 b)), .d (.sl (.tp (.ti .i64) (.tp (.ti .i64) (.ti .i64))) r), .d (.sl (.tp (.ti .i64) (.tp (.ti .i64) (.ti .i64))) e), .d (.lit (.int .i64 j)), .d (.lit (.int .i64 t)), .d (.lit (.int .i64 n)), .d (.sl (.tp (.ti .i64) (.tp (.ti .i64) (.ti .i64))) c)], .one (.d (.lit (.int .i64 x))), .one (.d (.lit (.int .i64 y)))] => some ([0 ≤ x ∧ x ≤ 4000 ∧ 0 ≤ y ∧ y ≤ 4000 ∧ okForm0 (b, (r, (e, ((j, (t, n)), c)))) = true], .t (B (followsB (b, (r, (e, ((j, (t, n)), c)))) x y)))
  | _ => none
def c_Visits : PCon
  | [.agg [.d (.lit (.int .i64 b)), .d (.sl (.tp (.ti .i64) (.tp (.ti .i64) (.ti .i64))) r), .d (.sl (.tp (.ti .i64) (.tp (.ti .i64) (.ti .i64))) e), .d (.lit (.int .i64 j)), .d (.lit (.int .i64 t)), .d (.lit (.int .i64 n)), .d (.sl (.tp (.ti .i64) (.tp (.ti .i64) (.ti .i64))) c)]] => some ([], .t (B true))
  | _ => none
def c_Steps : PCon
  | [.agg [.d (.lit (.int .i64 b)), .d (.sl (.tp (.ti .i64) (.tp (.ti .i64) (.ti .i64))) r), .d (.sl (.tp (.ti .i64) (.tp (.ti .i64) (.ti .i64))) e), .d (.lit (.int .i64 j)), .d (.lit (.int .i64 t)), .d (.lit (.int .i64 n)), .d (.sl (.tp (.ti .i64) (.tp (.ti .i64) (.ti .i64))) c)]] => some ([], .t (B true))
  | _ => none
def c_Finds : PCon
  | [.agg [.d (.lit (.int .i64 b)), .d (.sl (.tp (.ti .i64) (.tp (.ti .i64) (.ti .i64))) r), .d (.sl (.tp (.ti .i64) (.tp (.ti .i64) (.ti .i64))) e), .d (.lit (.int .i64 j)), .d (.lit (.int .i64 t)), .d (.lit (.int .i64 n)), .d (.sl (.tp (.ti .i64) (.tp (.ti .i64) (.ti .i64))) c)], .one (.d (.lit (.int .u16 w))), .agg [.d (.lit (.int .i64 x)), .d (.lit (.int .i64 y))]] => some ([0 ≤ w, w ≤ 65535], .t (B true))
  | _ => none
def c_Times : PCon
  | [.agg [.d (.lit (.int .i64 b)), .d (.sl (.tp (.ti .i64) (.tp (.ti .i64) (.ti .i64))) r), .d (.sl (.tp (.ti .i64) (.tp (.ti .i64) (.ti .i64))) e), .d (.lit (.int .i64 j)), .d (.lit (.int .i64 t)), .d (.lit (.int .i64 n)), .d (.sl (.tp (.ti .i64) (.tp (.ti .i64) (.ti .i64))) c)], .one (.d (.lit (.int .i64 x))), .one (.d (.lit (.int .i64 y)))] => some ([], .t (B true))
  | _ => none
end Go.Proofs.Ytpdgmlkagfeglaa
