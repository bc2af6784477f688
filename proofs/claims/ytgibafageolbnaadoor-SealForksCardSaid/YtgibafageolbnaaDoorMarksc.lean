/- Contracts. Written by a program (wip/tools/gen.py). -/
import Derived.Test.YtgibafageolbnaaDoorSp
import Derived.Test.YtgibafageolbnaaDoorDigestk
namespace Go.Proofs.YtgibafageolbnaaDoor
open Go.Sy Go.RatLaw
set_option linter.unusedVariables false


abbrev Rd (a b c : Int) : TV := .agg [li .i64 a, li .i64 b, li .i64 c]
abbrev R32 (a : Int) : TV := .one (.d (.lit (.int .i32 a)))
abbrev L32 (l : List Int) : TV := .one (.d (.sl (.ti .i32) l))
abbrev SQ (q : ByteArray) : TV := .one (.d (.lit (.string q)))
abbrev M (id kind y p d s ver note val : Int) (q : ByteArray) : TV := .agg [li .i64 id, li .i64 kind, li .i64 y, li .i64 p, li .i64 d, li .i64 s, li .i64 ver, li .i64 note, li .i64 val, .d (.lit (.string q))]
def c_within : PCon
  | [.one (.d (.lit (.int .i64 n))), .one (.d (.lit (.int .i64 a))), .one (.d (.lit (.int .i64 b)))] => some ([], .t (B (rngB n a b)))
  | _ => none
def c_isID : PCon
  | [.one (.d (.lit (.int .i64 n)))] => some ([], .t (B (idB n)))
  | _ => none
def c_isReader : PCon
  | [.agg [.d (.lit (.int .i64 p)), .d (.lit (.int .i64 d)), .d (.lit (.int .i64 s))]] => some ([], .t (B (readerB p d s)))
  | _ => none
def c_lay2 : PCon
  | [.agg [.d (.lit (.int .i64 p)), .d (.lit (.int .i64 d)), .d (.lit (.int .i64 s))]] => some ([], .t (B (byB 2 p d s)))
  | _ => none
def c_lay4 : PCon
  | [.agg [.d (.lit (.int .i64 p)), .d (.lit (.int .i64 d)), .d (.lit (.int .i64 s))]] => some ([], .t (B (byB 3 p d s)))
  | _ => none
def c_lay6 : PCon
  | [.agg [.d (.lit (.int .i64 p)), .d (.lit (.int .i64 d)), .d (.lit (.int .i64 s))]] => some ([], .t (B (byB 4 p d s)))
  | _ => none
def c_odd : PCon
  | [.one (.d (.lit (.int .i32 c)))] => some ([], .t (B (oddC c)))
  | _ => none
def c_ixRu : PCon
  | [.one (.d (.sl (.ti .i32) l)), .one (.clo 47 [] [])] => some ([], .t (I (gidx oddC l)))
  | _ => none
def c_cfRu : PCon
  | [.one (.d (.sl (.ti .i32) l)), .one (.clo 47 [] [])] => some ([], .t (B (l.any oddC)))
  | _ => none
def c_layers : Con
  | [], hp, fr => match hp fr with
    | none => match Go.Sy.distinct [fr] with
      | true => some ([], .t (.one (.mp fr)), [(fr, .fm [(1, .agg [.clo 58 [] [], .clo 59 [] []]), (2, .agg [.clo 60 [] [], .clo 61 [] []]), (3, .agg [.clo 62 [] [], .clo 63 [] []]), (4, .agg [.clo 64 [] [], .clo 65 [] []])])])
      | false => none
    | some _ => none
  | _, _, _ => none
def cf_layers : FCon := fun args fr => c_layers args (fun _ => none) fr
def c_mkValid : PCon
  | [.agg [.d (.lit (.int .i64 id)), .d (.lit (.int .i64 kind)), .d (.lit (.int .i64 y)), .d (.lit (.int .i64 p)), .d (.lit (.int .i64 d)), .d (.lit (.int .i64 s)), .d (.lit (.int .i64 ver)), .d (.lit (.int .i64 note)), .d (.lit (.int .i64 val)), .d (.lit (.string q))]] => some ([], .t (B (markB id kind y p d s ver note val q)))
  | _ => none
end Go.Proofs.YtgibafageolbnaaDoor
