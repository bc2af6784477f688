/- Contracts. Written by a program (wip/tools/gen.py). -/
import Derived.Test.YtfbbkknfcmofcaaDoorVi
import Derived.Test.YtfbbkknfcmofcaaDoorSealk
namespace Go.Proofs.YtfbbkknfcmofcaaDoor
open Go.Sy Go.RatLaw
set_option linter.unusedVariables false


abbrev FR (v e k : Int) (l : List Int) : TV := .agg [li .i64 v, li .i64 e, li .i64 k, .d (.sl (.ti .i64) l)]
abbrev FRT (f : Fr) : TV := .agg [li .i64 f.1, li .i64 f.2.1, li .i64 f.2.2.1, .d (.sl (.ti .i64) f.2.2.2)]
abbrev FC (f : Fr) : HO := .cells [li .i64 f.1, li .i64 f.2.1, li .i64 f.2.2.1, .d (.sl (.ti .i64) f.2.2.2)]
def c_cmpNan : PCon
  | [.one (.d (.lit (.int .i64 a)))] => some ([], .t (B false))
  | _ => none
def c_cmpLess : PCon
  | [.one (.d (.lit (.int .i64 a))), .one (.d (.lit (.int .i64 b)))] => some ([], .t (B (decide (a < b))))
  | _ => none
def c_slNan : PCon
  | [.one (.d (.lit (.int .i64 a)))] => some ([], .t (B false))
  | _ => none
def c_bsI : PCon
  | [.one (.d (.sl (.ti .i64) l)), .one (.d (.lit (.int .i64 n)))] => some ([rise l, l.length ≤ 1000000], .tup [I (below l n), B (hasI l n)])
  | _ => none
def c_eqI : PCon
  | [.one (.d (.sl (.ti .i64) l)), .one (.d (.sl (.ti .i64) m))] => some ([], .t (B (eqIs l m)))
  | _ => none
def c_clI1 : Con
  | [.one (.nn true (.sl (.ti .i64) []))], hp, fr => match hp fr with
    | none => match Go.Sy.distinct [fr] with
      | true => some ([], .t (.one (.vr fr 0)), [(fr, .vec (.ti .i64) 3 [])])
      | false => none
    | some _ => none
  | _, _, _ => none
def c_clI2 : Con
  | [.one (.nn false (.sl (.ti .i64) l))], hp, fr => match hp fr with
    | none => match Go.Sy.distinct [fr] with
      | true => some ([l.length ≤ 5000], .t (.one (.vr fr l.length)), [(fr, .vec (.ti .i64) 3 l)])
      | false => none
    | some _ => none
  | _, _, _ => none
def c_clI : Con := (orC c_clI1 c_clI2)
def c_stShow : Con
  | [.one (.ptr s 0), .agg [.d (.lit (.int .i64 t)), .d (.lit (.int .i64 kd)), .d (.lit (.int .i64 a)), .d (.lit (.int .i64 b)), .d (.lit (.int .i64 c)), .d (.lit (.int .u64 g))]], hp, fr => match hp s with
    | some (.cells [.d (.lit (.int .i64 v)), .d (.lit (.int .i64 e)), .d (.lit (.int .i64 k)), .d (.sl (.ti .i64) sh)]) => match Go.Sy.distinct [s] with
      | true => some ([], .tup [], [(s, .cells [.d (.lit (.int .i64 a)), .d (.lit (.int .i64 b)), .d (.lit (.int .i64 k)), .d (.sl (.ti .i64) [])])])
      | false => none
    | _ => none
  | _, _, _ => none
def c_stKnow : Con
  | [.one (.ptr s 0), .agg [.d (.lit (.int .i64 t)), .d (.lit (.int .i64 kd)), .d (.lit (.int .i64 a)), .d (.lit (.int .i64 b)), .d (.lit (.int .i64 c)), .d (.lit (.int .u64 g))]], hp, fr => match hp s with
    | some (.cells [.d (.lit (.int .i64 v)), .d (.lit (.int .i64 e)), .d (.lit (.int .i64 k)), .d (.sl (.ti .i64) sh)]) => match Go.Sy.distinct [s] with
      | true => some ([], .tup [], [(s, .cells [.d (.lit (.int .i64 v)), .d (.lit (.int .i64 e)), .d (.lit (.int .i64 a)), .d (.sl (.ti .i64) sh)])])
      | false => none
    | _ => none
  | _, _, _ => none
def c_stLay : Con
  | [.one (.ptr s 0), .agg [.d (.lit (.int .i64 t)), .d (.lit (.int .i64 kd)), .d (.lit (.int .i64 a)), .d (.lit (.int .i64 b)), .d (.lit (.int .i64 c)), .d (.lit (.int .u64 g))]], hp, fr => match hp s with
    | some (.cells [.d (.lit (.int .i64 v)), .d (.lit (.int .i64 e)), .d (.lit (.int .i64 k)), .d (.sl (.ti .i64) sh)]) => match Go.Sy.distinct [s] with
      | true => some ([rise sh, sh.length ≤ 5000], .tup [], [(s, .cells [.d (.lit (.int .i64 v)), .d (.lit (.int .i64 e)), .d (.lit (.int .i64 k)), .d (.sl (.ti .i64) (putS sh a))])])
      | false => none
    | _ => none
  | _, _, _ => none
def c_deeds : Con
  | [.one (.ptr s 0)], hp, fr => match hp s with
    | some (.cells [.d (.lit (.int .i64 v)), .d (.lit (.int .i64 e)), .d (.lit (.int .i64 k)), .d (.sl .tu [])]) => match hp fr with
      | none => match Go.Sy.distinct [s, fr] with
        | true => some ([], .t (.one (.mp fr)), [(fr, .fm [(1, .one (.clo 46 [(s, 0)] [])), (2, .one (.clo 47 [(s, 0)] [])), (3, .one (.clo 48 [(s, 0)] []))])])
        | false => none
      | some _ => none
    | _ => none
  | _, _, _ => none
def c_at2 : PCon
  | [.one (.d (.lit (.int .i64 t)))] => some ([], .tup [])
  | _ => none
def c_at1 : Con
  | [.agg [.d (.lit (.int .i64 t)), .d (.lit (.int .i64 kd)), .d (.lit (.int .i64 a)), .d (.lit (.int .i64 b)), .d (.lit (.int .i64 c)), .d (.lit (.int .u64 g))], .one (.ptr p 0)], hp, fr => match hp p with
    | some (.cells [.d (.lit (.int .i64 n))]) => match Go.Sy.distinct [p] with
      | true => some ([], .t (B (decide (t > n))), [])
      | false => none
    | _ => none
  | _, _, _ => none
def c_ixN : Con
  | [.one (.d (.sl (.tp (.ti .i64) (.tp (.ti .i64) (.tp (.ti .i64) (.tp (.ti .i64) (.tp (.ti .i64) (.ti .u64)))))) l)), .one (.clo 23 [] [(p, 0)])], hp, fr => match hp p with
    | some (.cells [.d (.lit (.int .i64 n))]) => match Go.Sy.distinct [p] with
      | true => some ([], .t (I (gidx (laterB n) l)), [])
      | false => none
    | _ => none
  | _, _, _ => none
def c_fsame : PCon
  | [.agg [.d (.lit (.int .i64 v)), .d (.lit (.int .i64 e)), .d (.lit (.int .i64 k)), .d (.sl (.ti .i64) sh)], .agg [.d (.lit (.int .i64 v')), .d (.lit (.int .i64 e')), .d (.lit (.int .i64 k')), .d (.sl (.ti .i64) sh')]] => some ([], .t (B (sameF (v, (e, (k, sh))) (v', (e', (k', sh'))))))
  | _ => none
def c_chg1 : Con
  | [.one (.d (.lit (.int .i64 t))), .one (.ptr last 0), .one (.ptr sc 0), .one (.ptr out 0)], hp, fr => match hp last with
    | some (.cells [.d (.lit (.int .i64 pv)), .d (.lit (.int .i64 pe)), .d (.lit (.int .i64 pk)), .d (.sl (.ti .i64) ps)]) => match hp sc with
      | some (.cells [.ptr s 0]) => match hp s with
        | some (.cells [.d (.lit (.int .i64 v)), .d (.lit (.int .i64 e)), .d (.lit (.int .i64 k)), .d (.sl (.ti .i64) sh)]) => match hp out with
          | some (.cells [.own nm (.sl (.ti .i64) o)]) => match hp nm with
            | some (.gr 3 1 n) => match Go.Sy.distinct [last, sc, s, out, nm] with
              | true => some ([n = o.length, (n + 1) * 8 ≤ 140737488355328], .tup [], [(last, .cells [.d (.lit (.int .i64 v)), .d (.lit (.int .i64 e)), .d (.lit (.int .i64 k)), .d (.sl (.ti .i64) sh)]), (out, .cells [.own nm (.sl (.ti .i64) (stepC (o, (pv, (pe, (pk, ps)))) t (v, (e, (k, sh)))).1)]), (nm, .gr 3 1 (stepC (o, (pv, (pe, (pk, ps)))) t (v, (e, (k, sh)))).1.length)])
              | false => none
            | _ => none
          | _ => none
        | _ => none
      | _ => none
    | _ => none
  | _, _, _ => none
def c_playA : Con
  | [.one (.ptr s 0), .one (.d (.sl (.tp (.ti .i64) (.tp (.ti .i64) (.tp (.ti .i64) (.tp (.ti .i64) (.tp (.ti .i64) (.ti .u64)))))) l)), .one (.clo 25 [] [])], hp, fr => match hp s with
    | some (.cells [.d (.lit (.int .i64 v)), .d (.lit (.int .i64 e)), .d (.lit (.int .i64 k)), .d (.sl .tu [])]) => match Go.Sy.distinct [s] with
      | true => some ([l.length ≤ 5000], .tup [], [(s, .cells [.d (.lit (.int .i64 (laidG (v, (e, (k, []))) l).1)), .d (.lit (.int .i64 (laidG (v, (e, (k, []))) l).2.1)), .d (.lit (.int .i64 (laidG (v, (e, (k, []))) l).2.2.1)), .d (.sl (.ti .i64) (laidG (v, (e, (k, []))) l).2.2.2)])])
      | false => none
    | _ => none
  | _, _, _ => none
def c_playC : Con
  | [.one (.ptr s0 0), .one (.d (.sl (.tp (.ti .i64) (.tp (.ti .i64) (.tp (.ti .i64) (.tp (.ti .i64) (.tp (.ti .i64) (.ti .u64)))))) l)), .one (.clo 27 [] [(last, 0), (sc, 0), (out, 0)])], hp, fr => match hp last with
    | some (.cells [.d (.lit (.int .i64 pv)), .d (.lit (.int .i64 pe)), .d (.lit (.int .i64 pk)), .d (.sl .tu [])]) => match hp sc with
      | some (.cells [.ptr s 0]) => match hp s with
        | some (.cells [.d (.lit (.int .i64 v)), .d (.lit (.int .i64 e)), .d (.lit (.int .i64 k)), .d (.sl .tu [])]) => match hp out with
          | some (.cells [.own nm (.sl (.ti .i64) o)]) => match hp nm with
            | some (.gr 3 1 n) => match Nat.beq s0 s with
              | true => match Go.Sy.distinct [last, sc, s, out, nm] with
                | true => some ([l.length ≤ 5000, n = o.length, o.length ≤ 5000], .tup [], [(last, .cells [.d (.lit (.int .i64 (pst l (v, (e, (k, []))) (o, (pv, (pe, (pk, [])))) l.length).2.1)), .d (.lit (.int .i64 (pst l (v, (e, (k, []))) (o, (pv, (pe, (pk, [])))) l.length).2.2.1)), .d (.lit (.int .i64 (pst l (v, (e, (k, []))) (o, (pv, (pe, (pk, [])))) l.length).2.2.2.1)), .d (.sl (.ti .i64) (pst l (v, (e, (k, []))) (o, (pv, (pe, (pk, [])))) l.length).2.2.2.2)]), (s, .cells [.d (.lit (.int .i64 (laidG (v, (e, (k, []))) l).1)), .d (.lit (.int .i64 (laidG (v, (e, (k, []))) l).2.1)), .d (.lit (.int .i64 (laidG (v, (e, (k, []))) l).2.2.1)), .d (.sl (.ti .i64) (laidG (v, (e, (k, []))) l).2.2.2)]), (out, .cells [.own nm (.sl (.ti .i64) (pst l (v, (e, (k, []))) (o, (pv, (pe, (pk, [])))) l.length).1)]), (nm, .gr 3 1 (pst l (v, (e, (k, []))) (o, (pv, (pe, (pk, [])))) l.length).1.length)])
                | false => none
              | false => none
            | _ => none
          | _ => none
        | _ => none
      | _ => none
    | _ => none
  | _, _, _ => none
def c_play : Con := (orC c_playA c_playC)
def c_fAt : PCon
  | [.agg [.d (.lit (.int .i64 s)), .d (.sl (.tp (.ti .i64) (.tp (.ti .i64) (.tp (.ti .i64) (.tp (.ti .i64) (.tp (.ti .i64) (.ti .u64)))))) l), .d (.lit (.int .u64 h))], .one (.d (.lit (.int .i64 n)))] => some ([InI64 s, inE l], .tup [FRT (atS s l h n).1, I (atS s l h n).2])
  | _ => none
def c_fChanges : PCon
  | [.agg [.d (.lit (.int .i64 s)), .d (.sl (.tp (.ti .i64) (.tp (.ti .i64) (.tp (.ti .i64) (.tp (.ti .i64) (.tp (.ti .i64) (.ti .u64)))))) l), .d (.lit (.int .u64 h))]] => some ([InI64 s, inE l], .tup [LI (chS s l h).1, I (chS s l h).2])
  | _ => none
def c_rPut : PCon
  | [.one (.d (.sl (.ti .i64) l)), .one (.d (.lit (.int .i64 n)))] => some ([rise l, l.length ≤ 100000], .t (LI (putS l n)))
  | _ => none
def c_rLaid : PCon
  | [.agg [.d (.lit (.int .i64 s)), .d (.sl (.tp (.ti .i64) (.tp (.ti .i64) (.tp (.ti .i64) (.tp (.ti .i64) (.tp (.ti .i64) (.ti .u64)))))) l), .d (.lit (.int .u64 h))], .one (.d (.lit (.int .i64 n)))] => some ([l.length ≤ 5000], .t (FRT (laidAt l n)))
  | _ => none
def c_rAt : PCon
  | [.agg [.d (.lit (.int .i64 s)), .d (.sl (.tp (.ti .i64) (.tp (.ti .i64) (.tp (.ti .i64) (.tp (.ti .i64) (.tp (.ti .i64) (.ti .u64)))))) l), .d (.lit (.int .u64 h))], .one (.d (.lit (.int .i64 n)))] => some ([InI64 s, inE l], .tup [FRT (atS s l h n).1, I (atS s l h n).2])
  | _ => none
def c_rSameI : PCon
  | [.one (.d (.sl (.ti .i64) l)), .one (.d (.sl (.ti .i64) m))] => some ([], .t (B (eqIs l m)))
  | _ => none
def c_rSameF : PCon
  | [.agg [.d (.lit (.int .i64 v)), .d (.lit (.int .i64 e)), .d (.lit (.int .i64 k)), .d (.sl (.ti .i64) sh)], .agg [.d (.lit (.int .i64 v')), .d (.lit (.int .i64 e')), .d (.lit (.int .i64 k')), .d (.sl (.ti .i64) sh')]] => some ([], .t (B (sameF (v, (e, (k, sh))) (v', (e', (k', sh'))))))
  | _ => none
def c_rChanges : PCon
  | [.agg [.d (.lit (.int .i64 s)), .d (.sl (.tp (.ti .i64) (.tp (.ti .i64) (.tp (.ti .i64) (.tp (.ti .i64) (.tp (.ti .i64) (.ti .u64)))))) l), .d (.lit (.int .u64 h))]] => some ([InI64 s, inE l], .tup [LI (chS s l h).1, I (chS s l h).2])
  | _ => none
end Go.Proofs.YtfbbkknfcmofcaaDoor
