/- Contracts. Written by a program (wip/tools/gen.py). -/
import Derived.Test.YtjghgdccaakfmaaGp
import Derived.Test.YtjghgdccaakfmaaLay
import Derived.Test.YtjghgdccaakfmaaMeterk
namespace Go.Proofs.Ytjghgdccaakfmaa
open Go.Sy Go.RatLaw
set_option linter.unusedVariables false


abbrev T3T : Ty := .tp (.ti .i64) (.tp (.ti .i64) (.ti .i64))
abbrev T2T : Ty := .tp (.ti .i64) (.ti .i64)
abbrev T (x y z : Int) : TV := .agg [li .i64 x, li .i64 y, li .i64 z]
abbrev L3 (l : List T3) : TV := .one (.d (.sl T3T l))
abbrev L2 (l : List Vi) : TV := .one (.d (.sl T2T l))
abbrev F (b : Int) (r e : List T3) (j t n : Int) (c : List T3) : TV := .agg [li .i64 b, .d (.sl T3T r), .d (.sl T3T e), li .i64 j, li .i64 t, li .i64 n, .d (.sl T3T c)]
abbrev resV (m : List Vi × Int) : AV := .tup [L2 m.1, I m.2]
abbrev CI (n : Int) : HO := .cells [li .i64 n]
abbrev sgI : List Ty := [.ti .i64]
abbrev sgV : List Ty := [T2T]

def c_wi1 : Con
  | [.agg [.d (.lit (.int .i64 q1)), .d (.lit (.int .i64 q2)), .d (.lit (.int .i64 q3))], .one (.ptr p 0)], hp, fr => match hp p with
    | some (.cells [.d (.lit (.int .i64 x))]) => match Go.Sy.distinct [p] with
      | true => some ([], .t (B (inP x (q1, (q2, q3)))), [])
      | false => none
    | _ => none
  | _, _, _ => none
def c_ae1 : Con
  | [.agg [.d (.lit (.int .i64 q1)), .d (.lit (.int .i64 q2)), .d (.lit (.int .i64 q3))], .one (.ptr p 0)], hp, fr => match hp p with
    | some (.cells [.d (.lit (.int .i64 x)), .d (.lit (.int .i64 y)), .d (.lit (.int .i64 z))]) => match Go.Sy.distinct [p] with
      | true => some ([], .t (B (coverP x y (q1, (q2, q3)))), [])
      | false => none
    | _ => none
  | _, _, _ => none
def c_ba1 : Con
  | [.agg [.d (.lit (.int .i64 q1)), .d (.lit (.int .i64 q2)), .d (.lit (.int .i64 q3))], .one (.ptr p 0)], hp, fr => match hp p with
    | some (.cells [.d (.lit (.int .i64 x))]) => match Go.Sy.distinct [p] with
      | true => some ([], .t (B (startP x (q1, (q2, q3)))), [])
      | false => none
    | _ => none
  | _, _, _ => none
def c_ie1 : Con
  | [.agg [.d (.lit (.int .i64 q1)), .d (.lit (.int .i64 q2)), .d (.lit (.int .i64 q3))], .one (.ptr p 0), .one (.ptr q 0)], hp, fr => match hp p with
    | some (.cells [.d (.lit (.int .i64 x))]) => match hp q with
      | some (.cells [.d (.lit (.int .i64 y))]) => match Go.Sy.distinct [p, q] with
        | true => some ([], .t (B (endHit x y (q1, (q2, q3)))), [])
        | false => none
      | _ => none
    | _ => none
  | _, _, _ => none
def c_un1 : Con
  | [.agg [.d (.lit (.int .i64 q1)), .d (.lit (.int .i64 q2)), .d (.lit (.int .i64 q3))], .one (.ptr p 0)], hp, fr => match hp p with
    | some (.cells [.d (.lit (.int .i64 x)), .d (.lit (.int .i64 y))]) => match Go.Sy.distinct [p] with
      | true => some ([], .t (B (leavesB (x, y) (q1, (q2, q3)))), [])
      | false => none
    | _ => none
  | _, _, _ => none
def c_ixR1 : Con
  | [.one (.d (.sl (.tp (.ti .i64) (.tp (.ti .i64) (.ti .i64))) l)), .one (.clo 105 [] [(p, 0)])], hp, fr => match hp p with
    | some (.cells [.d (.lit (.int .i64 x))]) => match Go.Sy.distinct [p] with
      | true => some ([], .t (I (gidx (inP x) l)), [])
      | false => none
    | _ => none
  | _, _, _ => none
def c_ixR2 : Con
  | [.one (.d (.sl (.tp (.ti .i64) (.tp (.ti .i64) (.ti .i64))) l)), .one (.clo 94 [] [(p, 0)])], hp, fr => match hp p with
    | some (.cells [.d (.lit (.int .i64 x)), .d (.lit (.int .i64 y)), .d (.lit (.int .i64 z))]) => match Go.Sy.distinct [p] with
      | true => some ([], .t (I (gidx (coverP x y) l)), [])
      | false => none
    | _ => none
  | _, _, _ => none
def c_ixR3 : Con
  | [.one (.d (.sl (.tp (.ti .i64) (.tp (.ti .i64) (.ti .i64))) l)), .one (.clo 99 [] [(p, 0)])], hp, fr => match hp p with
    | some (.cells [.d (.lit (.int .i64 x))]) => match Go.Sy.distinct [p] with
      | true => some ([], .t (I (gidx (startP x) l)), [])
      | false => none
    | _ => none
  | _, _, _ => none
def c_ixR : Con := (orC c_ixR1 (orC c_ixR2 c_ixR3))
def c_cfR1 : Con
  | [.one (.d (.sl (.tp (.ti .i64) (.tp (.ti .i64) (.ti .i64))) l)), .one (.clo 105 [] [(p, 0)])], hp, fr => match hp p with
    | some (.cells [.d (.lit (.int .i64 x))]) => match Go.Sy.distinct [p] with
      | true => some ([], .t (B (l.any (inP x))), [])
      | false => none
    | _ => none
  | _, _, _ => none
def c_cfR2 : Con
  | [.one (.d (.sl (.tp (.ti .i64) (.tp (.ti .i64) (.ti .i64))) l)), .one (.clo 94 [] [(p, 0)])], hp, fr => match hp p with
    | some (.cells [.d (.lit (.int .i64 x)), .d (.lit (.int .i64 y)), .d (.lit (.int .i64 z))]) => match Go.Sy.distinct [p] with
      | true => some ([], .t (B (l.any (coverP x y))), [])
      | false => none
    | _ => none
  | _, _, _ => none
def c_cfR : Con := (orC c_cfR1 c_cfR2)
def c_ixE : Con
  | [.one (.d (.sl (.tp (.ti .i64) (.tp (.ti .i64) (.ti .i64))) l)), .one (.clo 107 [] [(p, 0), (q, 0)])], hp, fr => match hp p with
    | some (.cells [.d (.lit (.int .i64 x))]) => match hp q with
      | some (.cells [.d (.lit (.int .i64 y))]) => match Go.Sy.distinct [p, q] with
        | true => some ([], .t (I (gidx (endHit x y) l)), [])
        | false => none
      | _ => none
    | _ => none
  | _, _, _ => none
def c_cfE : Con
  | [.one (.d (.sl (.tp (.ti .i64) (.tp (.ti .i64) (.ti .i64))) l)), .one (.clo 107 [] [(p, 0), (q, 0)])], hp, fr => match hp p with
    | some (.cells [.d (.lit (.int .i64 x))]) => match hp q with
      | some (.cells [.d (.lit (.int .i64 y))]) => match Go.Sy.distinct [p, q] with
        | true => some ([], .t (B (l.any (endHit x y))), [])
        | false => none
      | _ => none
    | _ => none
  | _, _, _ => none
def c_ixC : Con
  | [.one (.d (.sl (.tp (.ti .i64) (.tp (.ti .i64) (.ti .i64))) l)), .one (.clo 55 [] [(p, 0)])], hp, fr => match hp p with
    | some (.cells [.d (.lit (.int .i64 x)), .d (.lit (.int .i64 y))]) => match Go.Sy.distinct [p] with
      | true => some ([], .t (I (gidx (leavesB (x, y)) l)), [])
      | false => none
    | _ => none
  | _, _, _ => none
def c_cfC : Con
  | [.one (.d (.sl (.tp (.ti .i64) (.tp (.ti .i64) (.ti .i64))) l)), .one (.clo 55 [] [(p, 0)])], hp, fr => match hp p with
    | some (.cells [.d (.lit (.int .i64 x)), .d (.lit (.int .i64 y))]) => match Go.Sy.distinct [p] with
      | true => some ([], .t (B (l.any (leavesB (x, y)))), [])
      | false => none
    | _ => none
  | _, _, _ => none
def c_isWithin : PCon
  | [.agg [.d (.lit (.int .i64 b)), .d (.sl (.tp (.ti .i64) (.tp (.ti .i64) (.ti .i64))) r), .d (.sl (.tp (.ti .i64) (.tp (.ti .i64) (.ti .i64))) e), .d (.lit (.int .i64 j)), .d (.lit (.int .i64 t)), .d (.lit (.int .i64 n)), .d (.sl (.tp (.ti .i64) (.tp (.ti .i64) (.ti .i64))) c)], .one (.d (.lit (.int .i64 x)))] => some ([], .t (B (withinB r x)))
  | _ => none
def c_areRepeats : PCon
  | [.agg [.d (.lit (.int .i64 b)), .d (.sl (.tp (.ti .i64) (.tp (.ti .i64) (.ti .i64))) r), .d (.sl (.tp (.ti .i64) (.tp (.ti .i64) (.ti .i64))) e), .d (.lit (.int .i64 j)), .d (.lit (.int .i64 t)), .d (.lit (.int .i64 n)), .d (.sl (.tp (.ti .i64) (.tp (.ti .i64) (.ti .i64))) c)]] => some ([], .t (B (repsB r b)))
  | _ => none
def c_areEndings : PCon
  | [.agg [.d (.lit (.int .i64 b)), .d (.sl (.tp (.ti .i64) (.tp (.ti .i64) (.ti .i64))) r), .d (.sl (.tp (.ti .i64) (.tp (.ti .i64) (.ti .i64))) e), .d (.lit (.int .i64 j)), .d (.lit (.int .i64 t)), .d (.lit (.int .i64 n)), .d (.sl (.tp (.ti .i64) (.tp (.ti .i64) (.ti .i64))) c)]] => some ([], .t (B (endsB r e)))
  | _ => none
def c_isJump : PCon
  | [.agg [.d (.lit (.int .i64 b)), .d (.sl (.tp (.ti .i64) (.tp (.ti .i64) (.ti .i64))) r), .d (.sl (.tp (.ti .i64) (.tp (.ti .i64) (.ti .i64))) e), .d (.lit (.int .i64 j)), .d (.lit (.int .i64 t)), .d (.lit (.int .i64 n)), .d (.sl (.tp (.ti .i64) (.tp (.ti .i64) (.ti .i64))) c)]] => some ([], .t (B (jumpB b r j t n)))
  | _ => none
def c_isCut : PCon
  | [.agg [.d (.lit (.int .i64 b)), .d (.sl (.tp (.ti .i64) (.tp (.ti .i64) (.ti .i64))) r), .d (.sl (.tp (.ti .i64) (.tp (.ti .i64) (.ti .i64))) e), .d (.lit (.int .i64 j)), .d (.lit (.int .i64 t)), .d (.lit (.int .i64 n)), .d (.sl (.tp (.ti .i64) (.tp (.ti .i64) (.ti .i64))) c)], .agg [.d (.lit (.int .i64 x)), .d (.lit (.int .i64 y)), .d (.lit (.int .i64 z))]] => some ([], .t (B (cutB b (x, (y, z)))))
  | _ => none
def c_areCuts : PCon
  | [.agg [.d (.lit (.int .i64 b)), .d (.sl (.tp (.ti .i64) (.tp (.ti .i64) (.ti .i64))) r), .d (.sl (.tp (.ti .i64) (.tp (.ti .i64) (.ti .i64))) e), .d (.lit (.int .i64 j)), .d (.lit (.int .i64 t)), .d (.lit (.int .i64 n)), .d (.sl (.tp (.ti .i64) (.tp (.ti .i64) (.ti .i64))) c)]] => some ([], .t (B (cutsB b c)))
  | _ => none
def c_isEnding : PCon
  | [.agg [.d (.lit (.int .i64 b)), .d (.sl (.tp (.ti .i64) (.tp (.ti .i64) (.ti .i64))) r), .d (.sl (.tp (.ti .i64) (.tp (.ti .i64) (.ti .i64))) e), .d (.lit (.int .i64 j)), .d (.lit (.int .i64 t)), .d (.lit (.int .i64 n)), .d (.sl (.tp (.ti .i64) (.tp (.ti .i64) (.ti .i64))) c)], .one (.d (.lit (.int .i64 x))), .one (.d (.lit (.int .i64 y)))] => some ([], .t (B (e.any (endHit x y))))
  | _ => none
def c_bars1 : Con
  | [.one (.yl z), .one (.ptr f 0), .one (.ptr u 0), .one (.ptr o 0), .one (.ptr a 0)], hp, fr => match hp z with
    | some (.ob [.ti .i64] [] go) => match hp f with
      | some (.cells [.d (.lit (.int .i64 x))]) => match hp u with
        | some (.cells [.d (.lit (.int .i64 y))]) => match hp o with
          | some (.cells [.d (.lit (.int .i64 b)), .d (.sl (.tp (.ti .i64) (.tp (.ti .i64) (.ti .i64))) r), .d (.sl (.tp (.ti .i64) (.tp (.ti .i64) (.ti .i64))) e), .d (.lit (.int .i64 j)), .d (.lit (.int .i64 t)), .d (.lit (.int .i64 n)), .d (.sl (.tp (.ti .i64) (.tp (.ti .i64) (.ti .i64))) c)]) => match hp a with
            | some (.cells [.d (.lit (.bool g))]) => match Go.Sy.distinct [z, f, u, o, a] with
              | true => some ([okParts b r x y, ∀ k, go.ok ((h1 (partS r e x y (!g))).take k)], .tup [], [(z, .ob [.ti .i64] (gfed go [] (h1 (partS r e x y (!g)))) go)])
              | false => none
            | _ => none
          | _ => none
        | _ => none
      | _ => none
    | _ => none
  | _, _, _ => none
def c_bars : Con
  | [.agg [.d (.lit (.int .i64 b)), .d (.sl (.tp (.ti .i64) (.tp (.ti .i64) (.ti .i64))) r), .d (.sl (.tp (.ti .i64) (.tp (.ti .i64) (.ti .i64))) e), .d (.lit (.int .i64 j)), .d (.lit (.int .i64 t)), .d (.lit (.int .i64 n)), .d (.sl (.tp (.ti .i64) (.tp (.ti .i64) (.ti .i64))) c)], .one (.d (.lit (.int .i64 x))), .one (.d (.lit (.int .i64 y))), .one (.d (.lit (.bool g)))], hp, fr => match hp fr with
    | none => match hp (fr + 1) with
      | none => match hp (fr + 2) with
        | none => match hp (fr + 3) with
          | none => match Go.Sy.distinct [fr, (fr + 1), (fr + 2), (fr + 3)] with
            | true => some ([], .t (.one (.clo 97 [] [((fr + 1), 0), ((fr + 2), 0), (fr, 0), ((fr + 3), 0)])), [(fr, .cells [.d (.lit (.int .i64 b)), .d (.sl (.tp (.ti .i64) (.tp (.ti .i64) (.ti .i64))) r), .d (.sl (.tp (.ti .i64) (.tp (.ti .i64) (.ti .i64))) e), .d (.lit (.int .i64 j)), .d (.lit (.int .i64 t)), .d (.lit (.int .i64 n)), .d (.sl (.tp (.ti .i64) (.tp (.ti .i64) (.ti .i64))) c)]), ((fr + 1), .cells [li .i64 x]), ((fr + 2), .cells [li .i64 y]), ((fr + 3), .cells [lb g])])
            | false => none
          | some _ => none
        | some _ => none
      | some _ => none
    | some _ => none
  | _, _, _ => none
def c_vis1 : Con
  | [.one (.d (.lit (.int .i64 x))), .one (.ptr p 0), .one (.ptr q 0)], hp, fr => match hp p with
    | some (.cells [.mp m]) => match hp q with
      | some (.cells [.yl z]) => match hp m with
        | some (.mp (.ti .i64) (.ti .i64) l) => match hp z with
          | some (.ob [(.tp (.ti .i64) (.ti .i64))] hist go) => match Go.Sy.distinct [p, q, m, z] with
            | true => some ([InI64 ((mgetI x l).getD 0 + 1), liveX go hist ((x, (mgetI x l).getD 0 + 1), ())], .t (B (go (snocV hist ((x, (mgetI x l).getD 0 + 1), ())))), [(m, .mp (.ti .i64) (.ti .i64) (bump l x)), (z, .ob [(.tp (.ti .i64) (.ti .i64))] (snocV hist ((x, (mgetI x l).getD 0 + 1), ())) go)])
            | false => none
          | _ => none
        | _ => none
      | _ => none
    | _ => none
  | _, _, _ => none
def c_vis : Con
  | [.one (.yl z), .one (.ptr o 0)], hp, fr => match hp z with
    | some (.ob [(.tp (.ti .i64) (.ti .i64))] [] go) => match hp o with
      | some (.cells [.d (.lit (.int .i64 b)), .d (.sl (.tp (.ti .i64) (.tp (.ti .i64) (.ti .i64))) r), .d (.sl (.tp (.ti .i64) (.tp (.ti .i64) (.ti .i64))) e), .d (.lit (.int .i64 j)), .d (.lit (.int .i64 t)), .d (.lit (.int .i64 n)), .d (.sl (.tp (.ti .i64) (.tp (.ti .i64) (.ti .i64))) c)]) => match Go.Sy.distinct [z, o] with
        | true => some ([okForm (b, (r, (e, ((j, (t, n)), c)))) = true, ∀ k, go.ok ((h1 (visS (wholeF (b, (r, (e, ((j, (t, n)), c))))))).take k)], .tup [], [(z, .ob [(.tp (.ti .i64) (.ti .i64))] (gfed go [] (h1 (visS (wholeF (b, (r, (e, ((j, (t, n)), c)))))))) go)])
        | false => none
      | _ => none
    | _ => none
  | _, _, _ => none
def c_visits : Con
  | [.agg [.d (.lit (.int .i64 b)), .d (.sl (.tp (.ti .i64) (.tp (.ti .i64) (.ti .i64))) r), .d (.sl (.tp (.ti .i64) (.tp (.ti .i64) (.ti .i64))) e), .d (.lit (.int .i64 j)), .d (.lit (.int .i64 t)), .d (.lit (.int .i64 n)), .d (.sl (.tp (.ti .i64) (.tp (.ti .i64) (.ti .i64))) c)]], hp, fr => match hp fr with
    | none => match Go.Sy.distinct [fr] with
      | true => some ([], .t (.one (.clo 79 [] [(fr, 0)])), [(fr, .cells [.d (.lit (.int .i64 b)), .d (.sl (.tp (.ti .i64) (.tp (.ti .i64) (.ti .i64))) r), .d (.sl (.tp (.ti .i64) (.tp (.ti .i64) (.ti .i64))) e), .d (.lit (.int .i64 j)), .d (.lit (.int .i64 t)), .d (.lit (.int .i64 n)), .d (.sl (.tp (.ti .i64) (.tp (.ti .i64) (.ti .i64))) c)])])
      | false => none
    | some _ => none
  | _, _, _ => none
def c_isShort : PCon
  | [.agg [.d (.lit (.int .i64 b)), .d (.sl (.tp (.ti .i64) (.tp (.ti .i64) (.ti .i64))) r), .d (.sl (.tp (.ti .i64) (.tp (.ti .i64) (.ti .i64))) e), .d (.lit (.int .i64 j)), .d (.lit (.int .i64 t)), .d (.lit (.int .i64 n)), .d (.sl (.tp (.ti .i64) (.tp (.ti .i64) (.ti .i64))) c)]] => some ([okForm (b, (r, (e, ((j, (t, n)), c)))) = true], .t (B (shortF (b, (r, (e, ((j, (t, n)), c)))))))
  | _ => none
def c_valid : PCon
  | [.agg [.d (.lit (.int .i64 b)), .d (.sl (.tp (.ti .i64) (.tp (.ti .i64) (.ti .i64))) r), .d (.sl (.tp (.ti .i64) (.tp (.ti .i64) (.ti .i64))) e), .d (.lit (.int .i64 j)), .d (.lit (.int .i64 t)), .d (.lit (.int .i64 n)), .d (.sl (.tp (.ti .i64) (.tp (.ti .i64) (.ti .i64))) c)]] => some ([], .t (B (validF (b, (r, (e, ((j, (t, n)), c)))))))
  | _ => none
def c_unfold : PCon
  | [.agg [.d (.lit (.int .i64 b)), .d (.sl (.tp (.ti .i64) (.tp (.ti .i64) (.ti .i64))) r), .d (.sl (.tp (.ti .i64) (.tp (.ti .i64) (.ti .i64))) e), .d (.lit (.int .i64 j)), .d (.lit (.int .i64 t)), .d (.lit (.int .i64 n)), .d (.sl (.tp (.ti .i64) (.tp (.ti .i64) (.ti .i64))) c)]] => some ([], resV (unfoldS (b, (r, (e, ((j, (t, n)), c))))))
  | _ => none
def c_few : PCon
  | [.agg [.d (.lit (.int .i64 b)), .d (.sl (.tp (.ti .i64) (.tp (.ti .i64) (.ti .i64))) r), .d (.sl (.tp (.ti .i64) (.tp (.ti .i64) (.ti .i64))) e), .d (.lit (.int .i64 j)), .d (.lit (.int .i64 t)), .d (.lit (.int .i64 n)), .d (.sl (.tp (.ti .i64) (.tp (.ti .i64) (.ti .i64))) c)]] => some ([], .t (B (fewF (b, (r, (e, ((j, (t, n)), c)))))))
  | _ => none
end Go.Proofs.Ytjghgdccaakfmaa
