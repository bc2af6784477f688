/- Contracts. Written by a program (wip/tools/gen.py). -/
import Derived.Test.YtiplcokpckkopaaDoorDp
import Derived.Test.YtiplcokpckkopaaDoorFoldk
namespace Go.Proofs.YtiplcokpckkopaaDoor
open Go.Sy Go.RatLaw
set_option linter.unusedVariables false


abbrev LU (l : List Int) : TV := .one (.d (.sl (.ti .u8) l))
abbrev LL (l : List (List Int)) : TV := .one (.d (.sl (.tl (.ti .i64)) l))
abbrev U64 (n : Int) : TV := .one (.d (.lit (.int .u64 n)))
abbrev U16 (n : Int) : TV := .one (.d (.lit (.int .u16 n)))
abbrev U8 (n : Int) : TV := .one (.d (.lit (.int .u8 n)))
abbrev STR (q : ByteArray) : TV := .one (.d (.lit (.string q)))
abbrev CD (d : Int) : HO := .cells [.d (.lit (.int .u64 d))]
def c_run1 : Con
 | [.one (.d (.sl (.ti .u8) l)), .one (.ptr p 0)], hp, _ => match hp p with
  | some (.cells [.d (.lit (.int .u64 d))]) => some ([], .tup [], [(p, .cells [.d (.lit (.int .u64 (dig d l)))])])
  | _ => none
 | _, _, _ => none
def c_run2 : Con
 | [.one (.ptr p 0)], hp, _ => match hp p with
  | some (.cells [.d (.lit (.int .u64 d))]) => some ([], .t (U64 d), [])
  | _ => none
 | _, _, _ => none
def c_run : Con
 | [], hp, fr => match hp fr with
  | none => some ([], .tup [.one (.clo 67 [] [(fr, 0)]), .one (.clo 68 [] [(fr, 0)])], [(fr, .cells [.d (.lit (.int .u64 14695981039346656037))])])
  | _ => none
 | _, _, _ => none
def c_next : PCon
 | [.one (.d (.lit (.int .u64 d))), .one (.d (.sl (.ti .i64) l))] => some ([allI l], .t (U64 (nextS d l)))
 | _ => none
def c_chain : PCon
 | [.one (.d (.sl (.tl (.ti .i64)) l))] => some ([okL l], .t (U64 (chainS l)))
 | _ => none
def c_rSum : PCon
 | [.one (.d (.sl (.ti .u8) l))] => some ([], .t (U64 (sumS l)))
 | _ => none
def c_rDec : PCon
 | [.one (.d (.lit (.int .i64 n)))] => some ([InI64 n], .t (STR (itoaS n)))
 | _ => none
def c_rText : PCon
 | [.one (.d (.lit (.int .u64 d))), .one (.d (.sl (.ti .i64) l))] => some ([allI l, l.length ≤ 1000001], .t (LU (textS d l)))
 | _ => none
def c_rNext : PCon
 | [.one (.d (.lit (.int .u64 d))), .one (.d (.sl (.ti .i64) l))] => some ([allI l, l.length ≤ 1000001], .t (U64 (nextS d l)))
 | _ => none
def c_rChain : PCon
 | [.one (.d (.sl (.tl (.ti .i64)) l))] => some ([okL l], .t (U64 (chainS l)))
 | _ => none
end Go.Proofs.YtiplcokpckkopaaDoor
