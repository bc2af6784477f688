/- Contracts. Written by a program (wip/tools/gen.py). -/
import Derived.Test.YtfbbkknfcmofcaaDoorMarksk
namespace Go.Proofs.YtfbbkknfcmofcaaDoor
open Go.Sy Go.RatLaw
set_option linter.unusedVariables false


abbrev E6T : Ty := .tp (.ti .i64) (.tp (.ti .i64) (.tp (.ti .i64) (.tp (.ti .i64) (.tp (.ti .i64) (.ti .u64)))))
abbrev E (t k a b c g : Int) : TV := .agg [li .i64 t, li .i64 k, li .i64 a, li .i64 b, li .i64 c, .d (.lit (.int .u64 g))]
abbrev EL (l : List En) : TV := .one (.d (.sl E6T l))
abbrev resL (m : (Int × (List En × Int)) × Int) : AV := .tup [.agg [li .i64 m.1.1, .d (.sl (.tp (.ti .i64) (.tp (.ti .i64) (.tp (.ti .i64) (.tp (.ti .i64) (.tp (.ti .i64) (.ti .u64)))))) m.1.2.1), .d (.lit (.int .u64 m.1.2.2))], I m.2]
abbrev LG (s : Int) (l : List En) (c : Int) : TV := .agg [li .i64 s, .d (.sl E6T l), .d (.lit (.int .u64 c))]
def c_rin : PCon
  | [.one (.d (.lit (.int .i64 n))), .one (.d (.lit (.int .i64 a))), .one (.d (.lit (.int .i64 b)))] => some ([], .t (B (rngB n a b)))
  | _ => none
def c_rID : PCon
  | [.one (.d (.lit (.int .i64 n)))] => some ([], .t (B (idB n)))
  | _ => none
def c_rin37 : PCon
  | [.one (.d (.lit (.int .i64 n))), .one (.d (.lit (.int .i64 a))), .one (.d (.lit (.int .i64 b)))] => some ([], .t (B (rngB n a b)))
  | _ => none
def c_rEntry : PCon
  | [.agg [.d (.lit (.int .i64 t)), .d (.lit (.int .i64 k)), .d (.lit (.int .i64 a)), .d (.lit (.int .i64 b)), .d (.lit (.int .i64 c)), .d (.lit (.int .u64 g))]] => some ([], .t (B (entryB t k a b c g)))
  | _ => none
def c_kinds : Con
  | [], hp, fr => match hp fr with
    | none => match Go.Sy.distinct [fr] with
      | true => some ([], .t (.one (.mp fr)), [(fr, .mp (.ti .i64) (.tp (.tp (.tp (.ti .i64) (.ti .i64)) (.tp (.tp (.ti .i64) (.ti .i64)) (.tp (.ti .i64) (.ti .i64)))) .tb) kMap)])
      | false => none
    | some _ => none
  | _, _, _ => none
def cf_kinds : FCon := fun args fr => c_kinds args (fun _ => none) fr
def c_formed : PCon
  | [.agg [.d (.lit (.int .i64 t)), .d (.lit (.int .i64 k)), .d (.lit (.int .i64 a)), .d (.lit (.int .i64 b)), .d (.lit (.int .i64 c)), .d (.lit (.int .u64 g))]] => some ([], .t (B (entryB t k a b c g)))
  | _ => none
def c_bChain : PCon
  | [.agg [.d (.lit (.int .i64 s)), .d (.sl (.tp (.ti .i64) (.tp (.ti .i64) (.tp (.ti .i64) (.tp (.ti .i64) (.tp (.ti .i64) (.ti .u64)))))) l), .d (.lit (.int .u64 h))]] => some ([InI64 s, inE l, l.length ≤ 1000000], .t (U64 (chainE s l)))
  | _ => none
def c_right : PCon
  | [.agg [.d (.lit (.int .i64 s)), .d (.sl (.tp (.ti .i64) (.tp (.ti .i64) (.tp (.ti .i64) (.tp (.ti .i64) (.tp (.ti .i64) (.ti .u64)))))) l), .d (.lit (.int .u64 h))]] => some ([InI64 s, inE l], .t (B (logB s l h)))
  | _ => none
def c_sValid : PCon
  | [.agg [.d (.lit (.int .i64 s)), .d (.sl (.tp (.ti .i64) (.tp (.ti .i64) (.tp (.ti .i64) (.tp (.ti .i64) (.tp (.ti .i64) (.ti .u64)))))) l), .d (.lit (.int .u64 h))]] => some ([InI64 s, inE l], .t (B (logB s l h)))
  | _ => none
def c_rInts : PCon
  | [.agg [.d (.lit (.int .i64 t)), .d (.lit (.int .i64 k)), .d (.lit (.int .i64 a)), .d (.lit (.int .i64 b)), .d (.lit (.int .i64 c)), .d (.lit (.int .u64 g))]] => some ([0 ≤ g ∧ g < 18446744073709551616], .t (LI [t, k, a, b, c, hiD g, loD g]))
  | _ => none
def c_rChainE : PCon
  | [.one (.d (.lit (.int .i64 s))), .one (.d (.sl (.tp (.ti .i64) (.tp (.ti .i64) (.tp (.ti .i64) (.tp (.ti .i64) (.tp (.ti .i64) (.ti .u64)))))) l))] => some ([InI64 s, inE l, l.length ≤ 1000000], .t (U64 (chainE s l)))
  | _ => none
def c_rValidL : PCon
  | [.agg [.d (.lit (.int .i64 s)), .d (.sl (.tp (.ti .i64) (.tp (.ti .i64) (.tp (.ti .i64) (.tp (.ti .i64) (.tp (.ti .i64) (.ti .u64)))))) l), .d (.lit (.int .u64 h))]] => some ([InI64 s, inE l], .t (B (logB s l h)))
  | _ => none
def c_eqE : PCon
  | [.one (.d (.sl (.tp (.ti .i64) (.tp (.ti .i64) (.tp (.ti .i64) (.tp (.ti .i64) (.tp (.ti .i64) (.ti .u64)))))) l)), .one (.d (.sl (.tp (.ti .i64) (.tp (.ti .i64) (.tp (.ti .i64) (.tp (.ti .i64) (.tp (.ti .i64) (.ti .u64)))))) m))] => some ([], .t (B (sameE l m)))
  | _ => none
def c_clN1 : Con
  | [.one (.nn true (.sl (.tp (.ti .i64) (.tp (.ti .i64) (.tp (.ti .i64) (.tp (.ti .i64) (.tp (.ti .i64) (.ti .u64)))))) []))], hp, fr => match hp fr with
    | none => match Go.Sy.distinct [fr] with
      | true => some ([], .t (.one (.vr fr 0)), [(fr, .vec (.tp (.ti .i64) (.tp (.ti .i64) (.tp (.ti .i64) (.tp (.ti .i64) (.tp (.ti .i64) (.ti .u64)))))) 40 [])])
      | false => none
    | some _ => none
  | _, _, _ => none
def c_clN2 : Con
  | [.one (.nn false (.sl (.tp (.ti .i64) (.tp (.ti .i64) (.tp (.ti .i64) (.tp (.ti .i64) (.tp (.ti .i64) (.ti .u64)))))) l))], hp, fr => match hp fr with
    | none => match Go.Sy.distinct [fr] with
      | true => some ([l.length ≤ 5000], .t (.one (.vr fr l.length)), [(fr, .vec (.tp (.ti .i64) (.tp (.ti .i64) (.tp (.ti .i64) (.tp (.ti .i64) (.tp (.ti .i64) (.ti .u64)))))) 40 l)])
      | false => none
    | some _ => none
  | _, _, _ => none
def c_clN : Con := (orC c_clN1 c_clN2)
def c_sAppend : PCon
  | [.agg [.d (.lit (.int .i64 s)), .d (.sl (.tp (.ti .i64) (.tp (.ti .i64) (.tp (.ti .i64) (.tp (.ti .i64) (.tp (.ti .i64) (.ti .u64)))))) l), .d (.lit (.int .u64 h))], .agg [.d (.lit (.int .i64 t)), .d (.lit (.int .i64 k)), .d (.lit (.int .i64 a)), .d (.lit (.int .i64 b)), .d (.lit (.int .i64 c)), .d (.lit (.int .u64 g))]] => some ([InI64 s, inE l, InI64 t, 0 ≤ g ∧ g < 18446744073709551616], resL (appS s l h (t, (k, (a, (b, (c, g)))))))
  | _ => none
def c_sBegins : PCon
  | [.agg [.d (.lit (.int .i64 s)), .d (.sl (.tp (.ti .i64) (.tp (.ti .i64) (.tp (.ti .i64) (.tp (.ti .i64) (.tp (.ti .i64) (.ti .u64)))))) l), .d (.lit (.int .u64 h))], .agg [.d (.lit (.int .i64 s')), .d (.sl (.tp (.ti .i64) (.tp (.ti .i64) (.tp (.ti .i64) (.tp (.ti .i64) (.tp (.ti .i64) (.ti .u64)))))) l'), .d (.lit (.int .u64 h'))]] => some ([InI64 s, inE l, InI64 s', inE l'], .tup [B (begS s l h s' l' h').1, I (begS s l h s' l' h').2])
  | _ => none
def c_rFewE : PCon
  | [.agg [.d (.lit (.int .i64 s)), .d (.sl (.tp (.ti .i64) (.tp (.ti .i64) (.tp (.ti .i64) (.tp (.ti .i64) (.tp (.ti .i64) (.ti .u64)))))) l), .d (.lit (.int .u64 h))]] => some ([], .t (B (decide (l.length ≤ 60))))
  | _ => none
end Go.Proofs.YtfbbkknfcmofcaaDoor
