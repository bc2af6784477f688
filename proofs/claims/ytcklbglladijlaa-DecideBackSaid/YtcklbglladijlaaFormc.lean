/- Contracts. Written by a program (wip/tools/gen.py). -/
import Derived.Test.YtcklbglladijlaaGp
import Derived.Test.YtcklbglladijlaaLay
namespace Go.Proofs.Ytcklbglladijlaa
open Go.Sy Go.RatLaw
set_option linter.unusedVariables false


abbrev I (n : Int) : TV := .one (li .i64 n)
abbrev B (b : Bool) : TV := .one (lb b)
abbrev T3T : Ty := .tp (.ti .i64) (.tp (.ti .i64) (.ti .i64))
abbrev T2T : Ty := .tp (.ti .i64) (.ti .i64)
attribute [match_pattern] T3T T2T
abbrev T (x y z : Int) : TV := .agg [li .i64 x, li .i64 y, li .i64 z]
abbrev L1 (l : List Int) : TV := .one (.d (.sl (.ti .i64) l))
abbrev F (b : Int) (r e : List T3) (j t n : Int) (c : List T3) : TV := .agg [li .i64 b, .d (.sl T3T r), .d (.sl T3T e), li .i64 j, li .i64 t, li .i64 n, .d (.sl T3T c)]
abbrev F' (f : Fm) : TV := F f.1 f.2.1 f.2.2.1 f.2.2.2.1.1 f.2.2.2.1.2.1 f.2.2.2.1.2.2 f.2.2.2.2
abbrev resF (m : Fm × Int) : AV := .tup [F' m.1, I m.2]
abbrev CI (n : Int) : HO := .cells [li .i64 n]
abbrev sgI : List Ty := [.ti .i64]
abbrev sgV : List Ty := [T2T]

def c_wi1 : Con
 | [.agg [.d (.lit (.int .i64 q1)), .d (.lit (.int .i64 q2)), .d (.lit (.int .i64 q3))], .one (.ptr p 0)], hp, fr => match hp p with
  | some (.cells [.d (.lit (.int .i64 x))]) => match Go.Sy.distinct [p] with
   | true => some ([], .t (B (inP x (q1, (q2, q3)))), [])
   | false => none
  | _ => none
 | _, _, _ => none
def c_ae1 : Con
 | [.agg [.d (.lit (.int .i64 q1)), .d (.lit (.int .i64 q2)), .d (.lit (.int .i64 q3))], .one (.ptr p 0)], hp, fr => match hp p with
  | some (.cells [.d (.lit (.int .i64 x)), .d (.lit (.int .i64 y)), .d (.lit (.int .i64 z))]) => match Go.Sy.distinct [p] with
   | true => some ([], .t (B (coverP x y (q1, (q2, q3)))), [])
   | false => none
  | _ => none
 | _, _, _ => none
def c_ba1 : Con
 | [.agg [.d (.lit (.int .i64 q1)), .d (.lit (.int .i64 q2)), .d (.lit (.int .i64 q3))], .one (.ptr p 0)], hp, fr => match hp p with
  | some (.cells [.d (.lit (.int .i64 x))]) => match Go.Sy.distinct [p] with
   | true => some ([], .t (B (startP x (q1, (q2, q3)))), [])
   | false => none
  | _ => none
 | _, _, _ => none
def c_ie1 : Con
 | [.agg [.d (.lit (.int .i64 q1)), .d (.lit (.int .i64 q2)), .d (.lit (.int .i64 q3))], .one (.ptr p 0), .one (.ptr q 0)], hp, fr => match hp p with
  | some (.cells [.d (.lit (.int .i64 x))]) => match hp q with
   | some (.cells [.d (.lit (.int .i64 y))]) => match Go.Sy.distinct [p, q] with
    | true => some ([], .t (B (endHit x y (q1, (q2, q3)))), [])
    | false => none
   | _ => none
  | _ => none
 | _, _, _ => none
def c_ixR1 : Con
 | [.one (.d (.sl T3T l)), .one (.clo 85 [] [(p, 0)])], hp, fr => match hp p with
  | some (.cells [.d (.lit (.int .i64 x))]) => match Go.Sy.distinct [p] with
   | true => some ([], .t (I (gidx (inP x) l)), [])
   | false => none
  | _ => none
 | _, _, _ => none
def c_ixR2 : Con
 | [.one (.d (.sl T3T l)), .one (.clo 64 [] [(p, 0)])], hp, fr => match hp p with
  | some (.cells [.d (.lit (.int .i64 x)), .d (.lit (.int .i64 y)), .d (.lit (.int .i64 z))]) => match Go.Sy.distinct [p] with
   | true => some ([], .t (I (gidx (coverP x y) l)), [])
   | false => none
  | _ => none
 | _, _, _ => none
def c_ixR3 : Con
 | [.one (.d (.sl T3T l)), .one (.clo 101 [] [(p, 0)])], hp, fr => match hp p with
  | some (.cells [.d (.lit (.int .i64 x))]) => match Go.Sy.distinct [p] with
   | true => some ([], .t (I (gidx (startP x) l)), [])
   | false => none
  | _ => none
 | _, _, _ => none
def c_ixR : Con := (orC c_ixR1 (orC c_ixR2 c_ixR3))
def c_cfR1 : Con
 | [.one (.d (.sl T3T l)), .one (.clo 85 [] [(p, 0)])], hp, fr => match hp p with
  | some (.cells [.d (.lit (.int .i64 x))]) => match Go.Sy.distinct [p] with
   | true => some ([], .t (B (l.any (inP x))), [])
   | false => none
  | _ => none
 | _, _, _ => none
def c_cfR2 : Con
 | [.one (.d (.sl T3T l)), .one (.clo 64 [] [(p, 0)])], hp, fr => match hp p with
  | some (.cells [.d (.lit (.int .i64 x)), .d (.lit (.int .i64 y)), .d (.lit (.int .i64 z))]) => match Go.Sy.distinct [p] with
   | true => some ([], .t (B (l.any (coverP x y))), [])
   | false => none
  | _ => none
 | _, _, _ => none
def c_cfR : Con := (orC c_cfR1 c_cfR2)
def c_ixE : Con
 | [.one (.d (.sl T3T l)), .one (.clo 106 [] [(p, 0), (q, 0)])], hp, fr => match hp p with
  | some (.cells [.d (.lit (.int .i64 x))]) => match hp q with
   | some (.cells [.d (.lit (.int .i64 y))]) => match Go.Sy.distinct [p, q] with
    | true => some ([], .t (I (gidx (endHit x y) l)), [])
    | false => none
   | _ => none
  | _ => none
 | _, _, _ => none
def c_cfE : Con
 | [.one (.d (.sl T3T l)), .one (.clo 106 [] [(p, 0), (q, 0)])], hp, fr => match hp p with
  | some (.cells [.d (.lit (.int .i64 x))]) => match hp q with
   | some (.cells [.d (.lit (.int .i64 y))]) => match Go.Sy.distinct [p, q] with
    | true => some ([], .t (B (l.any (endHit x y))), [])
    | false => none
   | _ => none
  | _ => none
 | _, _, _ => none
def c_isWithin : PCon
 | [.agg [.d (.lit (.int .i64 b)), .d (.sl T3T r), .d (.sl T3T e), .d (.lit (.int .i64 j)), .d (.lit (.int .i64 t)), .d (.lit (.int .i64 n)), .d (.sl T3T c)], .one (.d (.lit (.int .i64 x)))] => some ([], .t (B (withinB r x)))
 | _ => none
def c_areRepeats : PCon
 | [.agg [.d (.lit (.int .i64 b)), .d (.sl T3T r), .d (.sl T3T e), .d (.lit (.int .i64 j)), .d (.lit (.int .i64 t)), .d (.lit (.int .i64 n)), .d (.sl T3T c)]] => some ([], .t (B (repsB r b)))
 | _ => none
def c_areEndings : PCon
 | [.agg [.d (.lit (.int .i64 b)), .d (.sl T3T r), .d (.sl T3T e), .d (.lit (.int .i64 j)), .d (.lit (.int .i64 t)), .d (.lit (.int .i64 n)), .d (.sl T3T c)]] => some ([], .t (B (endsB r e)))
 | _ => none
def c_isJump : PCon
 | [.agg [.d (.lit (.int .i64 b)), .d (.sl T3T r), .d (.sl T3T e), .d (.lit (.int .i64 j)), .d (.lit (.int .i64 t)), .d (.lit (.int .i64 n)), .d (.sl T3T c)]] => some ([], .t (B (jumpB b r j t n)))
 | _ => none
def c_isCut : PCon
 | [.agg [.d (.lit (.int .i64 b)), .d (.sl T3T r), .d (.sl T3T e), .d (.lit (.int .i64 j)), .d (.lit (.int .i64 t)), .d (.lit (.int .i64 n)), .d (.sl T3T c)], .agg [.d (.lit (.int .i64 x)), .d (.lit (.int .i64 y)), .d (.lit (.int .i64 z))]] => some ([], .t (B (cutB b (x, (y, z)))))
 | _ => none
def c_areCuts : PCon
 | [.agg [.d (.lit (.int .i64 b)), .d (.sl T3T r), .d (.sl T3T e), .d (.lit (.int .i64 j)), .d (.lit (.int .i64 t)), .d (.lit (.int .i64 n)), .d (.sl T3T c)]] => some ([], .t (B (cutsB b c)))
 | _ => none
def c_isEnding : PCon
 | [.agg [.d (.lit (.int .i64 b)), .d (.sl T3T r), .d (.sl T3T e), .d (.lit (.int .i64 j)), .d (.lit (.int .i64 t)), .d (.lit (.int .i64 n)), .d (.sl T3T c)], .one (.d (.lit (.int .i64 x))), .one (.d (.lit (.int .i64 y)))] => some ([], .t (B (e.any (endHit x y))))
 | _ => none
def c_bars1 : Con
 | [.one (.yl z), .one (.ptr f 0), .one (.ptr u 0), .one (.ptr o 0), .one (.ptr a 0)], hp, fr => match hp z with
  | some (.ob [.ti .i64] [] go) => match hp f with
   | some (.cells [.d (.lit (.int .i64 x))]) => match hp u with
    | some (.cells [.d (.lit (.int .i64 y))]) => match hp o with
     | some (.cells [.d (.lit (.int .i64 b)), .d (.sl T3T r), .d (.sl T3T e), .d (.lit (.int .i64 j)), .d (.lit (.int .i64 t)), .d (.lit (.int .i64 n)), .d (.sl T3T c)]) => match hp a with
      | some (.cells [.d (.lit (.bool g))]) => match Go.Sy.distinct [z, f, u, o, a] with
       | true => some ([okParts b r x y, ∀ k, go.ok ((h1 (partS r e x y (!g))).take k)], .tup [], [(z, .ob [.ti .i64] (gfed go [] (h1 (partS r e x y (!g)))) go)])
       | false => none
      | _ => none
     | _ => none
    | _ => none
   | _ => none
  | _ => none
 | _, _, _ => none
def c_bars : Con
 | [.agg [.d (.lit (.int .i64 b)), .d (.sl T3T r), .d (.sl T3T e), .d (.lit (.int .i64 j)), .d (.lit (.int .i64 t)), .d (.lit (.int .i64 n)), .d (.sl T3T c)], .one (.d (.lit (.int .i64 x))), .one (.d (.lit (.int .i64 y))), .one (.d (.lit (.bool g)))], hp, fr => match hp fr with
  | none => match hp (fr + 1) with
   | none => match hp (fr + 2) with
    | none => match hp (fr + 3) with
     | none => match Go.Sy.distinct [fr, (fr + 1), (fr + 2), (fr + 3)] with
      | true => some ([], .t (.one (.clo 100 [] [((fr + 1), 0), ((fr + 2), 0), (fr, 0), ((fr + 3), 0)])), [(fr, .cells [.d (.lit (.int .i64 b)), .d (.sl T3T r), .d (.sl T3T e), .d (.lit (.int .i64 j)), .d (.lit (.int .i64 t)), .d (.lit (.int .i64 n)), .d (.sl T3T c)]), ((fr + 1), .cells [li .i64 x]), ((fr + 2), .cells [li .i64 y]), ((fr + 3), .cells [lb g])])
      | false => none
     | some _ => none
    | some _ => none
   | some _ => none
  | some _ => none
 | _, _, _ => none
def c_vis1 : Con
 | [.one (.d (.lit (.int .i64 x))), .one (.ptr p 0), .one (.ptr q 0)], hp, fr => match hp p with
  | some (.cells [.mp m]) => match hp q with
   | some (.cells [.yl z]) => match hp m with
    | some (.mp (.ti .i64) (.ti .i64) l) => match hp z with
     | some (.ob [T2T] hist go) => match Go.Sy.distinct [p, q, m, z] with
      | true => some ([InI64 ((mgetI x l).getD 0 + 1), liveX go hist ((x, (mgetI x l).getD 0 + 1), ())], .t (B (go (snocV hist ((x, (mgetI x l).getD 0 + 1), ())))), [(m, .mp (.ti .i64) (.ti .i64) (bump l x)), (z, .ob [T2T] (snocV hist ((x, (mgetI x l).getD 0 + 1), ())) go)])
      | false => none
     | _ => none
    | _ => none
   | _ => none
  | _ => none
 | _, _, _ => none
def c_vis : Con
 | [.one (.yl z), .one (.ptr o 0)], hp, fr => match hp z with
  | some (.ob [T2T] [] go) => match hp o with
   | some (.cells [.d (.lit (.int .i64 b)), .d (.sl T3T r), .d (.sl T3T e), .d (.lit (.int .i64 j)), .d (.lit (.int .i64 t)), .d (.lit (.int .i64 n)), .d (.sl T3T c)]) => match Go.Sy.distinct [z, o] with
    | true => some ([okForm (b, (r, (e, ((j, (t, n)), c)))) = true, ∀ k, go.ok ((h1 (visS (wholeF (b, (r, (e, ((j, (t, n)), c))))))).take k)], .tup [], [(z, .ob [T2T] (gfed go [] (h1 (visS (wholeF (b, (r, (e, ((j, (t, n)), c)))))))) go)])
    | false => none
   | _ => none
  | _ => none
 | _, _, _ => none
def c_visits : Con
 | [.agg [.d (.lit (.int .i64 b)), .d (.sl T3T r), .d (.sl T3T e), .d (.lit (.int .i64 j)), .d (.lit (.int .i64 t)), .d (.lit (.int .i64 n)), .d (.sl T3T c)]], hp, fr => match hp fr with
  | none => match Go.Sy.distinct [fr] with
   | true => some ([], .t (.one (.clo 86 [] [(fr, 0)])), [(fr, .cells [.d (.lit (.int .i64 b)), .d (.sl T3T r), .d (.sl T3T e), .d (.lit (.int .i64 j)), .d (.lit (.int .i64 t)), .d (.lit (.int .i64 n)), .d (.sl T3T c)])])
   | false => none
  | some _ => none
 | _, _, _ => none
def c_isShort : PCon
 | [.agg [.d (.lit (.int .i64 b)), .d (.sl T3T r), .d (.sl T3T e), .d (.lit (.int .i64 j)), .d (.lit (.int .i64 t)), .d (.lit (.int .i64 n)), .d (.sl T3T c)]] => some ([okForm (b, (r, (e, ((j, (t, n)), c)))) = true], .t (B (shortF (b, (r, (e, ((j, (t, n)), c)))))))
 | _ => none
def c_valid : PCon
 | [.agg [.d (.lit (.int .i64 b)), .d (.sl T3T r), .d (.sl T3T e), .d (.lit (.int .i64 j)), .d (.lit (.int .i64 t)), .d (.lit (.int .i64 n)), .d (.sl T3T c)]] => some ([], .t (B (validF (b, (r, (e, ((j, (t, n)), c)))))))
 | _ => none
def c_idxCu : PCon
 | [.one (.d (.sl T3T l)), .agg [.d (.lit (.int .i64 x)), .d (.lit (.int .i64 y)), .d (.lit (.int .i64 z))]] => some ([], .t (I (gidx (isC (x, (y, z))) l)))
 | _ => none
def c_contC : PCon
 | [.one (.d (.sl T3T l)), .agg [.d (.lit (.int .i64 x)), .d (.lit (.int .i64 y)), .d (.lit (.int .i64 z))]] => some ([], .t (B (l.any (isC (x, (y, z))))))
 | _ => none
def c_rWithin : PCon
 | [.one (.d (.sl T3T r)), .one (.d (.lit (.int .i64 x)))] => some ([], .t (B (withinB r x)))
 | _ => none
def c_rRepeats : PCon
 | [.one (.d (.sl T3T r)), .one (.d (.lit (.int .i64 b)))] => some ([], .t (B (repsB r b)))
 | _ => none
def c_rInside : PCon
 | [.one (.d (.sl T3T r)), .one (.d (.lit (.int .i64 x))), .one (.d (.lit (.int .i64 y)))] => some ([], .t (B (insideB r x y)))
 | _ => none
def c_rEndings : PCon
 | [.agg [.d (.lit (.int .i64 b)), .d (.sl T3T r), .d (.sl T3T e), .d (.lit (.int .i64 j)), .d (.lit (.int .i64 t)), .d (.lit (.int .i64 n)), .d (.sl T3T c)]] => some ([], .t (B (endsB r e)))
 | _ => none
def c_rJump : PCon
 | [.agg [.d (.lit (.int .i64 b)), .d (.sl T3T r), .d (.sl T3T e), .d (.lit (.int .i64 j)), .d (.lit (.int .i64 t)), .d (.lit (.int .i64 n)), .d (.sl T3T c)]] => some ([], .t (B (jumpB b r j t n)))
 | _ => none
def c_rCut1 : PCon
 | [.agg [.d (.lit (.int .i64 b)), .d (.sl T3T r), .d (.sl T3T e), .d (.lit (.int .i64 j)), .d (.lit (.int .i64 t)), .d (.lit (.int .i64 n)), .d (.sl T3T c)], .agg [.d (.lit (.int .i64 x)), .d (.lit (.int .i64 y)), .d (.lit (.int .i64 z))]] => some ([], .t (B (cutB b (x, (y, z)))))
 | _ => none
def c_rHas : PCon
 | [.one (.d (.sl T3T l)), .agg [.d (.lit (.int .i64 x)), .d (.lit (.int .i64 y)), .d (.lit (.int .i64 z))]] => some ([], .t (I (gidx (isC (x, (y, z))) l)))
 | _ => none
def c_rPlayed : PCon
 | [.agg [.d (.lit (.int .i64 b)), .d (.sl T3T r), .d (.sl T3T e), .d (.lit (.int .i64 j)), .d (.lit (.int .i64 t)), .d (.lit (.int .i64 n)), .d (.sl T3T c)], .one (.d (.lit (.int .i64 x))), .one (.d (.lit (.int .i64 y)))] => some ([], .t (B (playedB e x y)))
 | _ => none
def c_rStarts : PCon
 | [.agg [.d (.lit (.int .i64 b)), .d (.sl T3T r), .d (.sl T3T e), .d (.lit (.int .i64 j)), .d (.lit (.int .i64 t)), .d (.lit (.int .i64 n)), .d (.sl T3T c)], .one (.d (.lit (.int .i64 x)))] => some ([], .t (I (gidx (startP x) r)))
 | _ => none
def c_rPart : Con
 | [.agg [.d (.lit (.int .i64 b)), .d (.sl T3T r), .d (.sl T3T e), .d (.lit (.int .i64 j)), .d (.lit (.int .i64 t)), .d (.lit (.int .i64 n)), .d (.sl T3T c)], .one (.d (.lit (.int .i64 x))), .one (.d (.lit (.int .i64 y))), .one (.d (.lit (.bool g)))], hp, fr => match hp fr with
  | none => match Go.Sy.distinct [fr] with
   | true => some ([okParts b r x y], .t (.one (.own fr (.sl (.ti .i64) (partS r e x y g)))), [(fr, .gr 3 1 (partS r e x y g).length)])
   | false => none
  | some _ => none
 | _, _, _ => none
def c_rWhole : PCon
 | [.agg [.d (.lit (.int .i64 b)), .d (.sl T3T r), .d (.sl T3T e), .d (.lit (.int .i64 j)), .d (.lit (.int .i64 t)), .d (.lit (.int .i64 n)), .d (.sl T3T c)]] => some ([okForm0 (b, (r, (e, ((j, (t, n)), c)))) = true], .t (L1 (wholeF (b, (r, (e, ((j, (t, n)), c)))))))
 | _ => none
def c_rFValid : PCon
 | [.agg [.d (.lit (.int .i64 b)), .d (.sl T3T r), .d (.sl T3T e), .d (.lit (.int .i64 j)), .d (.lit (.int .i64 t)), .d (.lit (.int .i64 n)), .d (.sl T3T c)]] => some ([], .t (B (validF (b, (r, (e, ((j, (t, n)), c)))))))
 | _ => none
def c_same : PCon
 | [.agg [.d (.lit (.int .i64 b)), .d (.sl T3T r), .d (.sl T3T e), .d (.lit (.int .i64 j)), .d (.lit (.int .i64 t)), .d (.lit (.int .i64 n)), .d (.sl T3T c)], .agg [.d (.lit (.int .i64 b')), .d (.sl T3T r'), .d (.sl T3T e'), .d (.lit (.int .i64 j')), .d (.lit (.int .i64 t')), .d (.lit (.int .i64 n')), .d (.sl T3T c')]] => some ([], .t (B (sameF (b, (r, (e, ((j, (t, n)), c)))) (b', (r', (e', ((j', (t', n')), c')))))))
 | _ => none
def c_few : PCon
 | [.agg [.d (.lit (.int .i64 b)), .d (.sl T3T r), .d (.sl T3T e), .d (.lit (.int .i64 j)), .d (.lit (.int .i64 t)), .d (.lit (.int .i64 n)), .d (.sl T3T c)]] => some ([], .t (B (fewF (b, (r, (e, ((j, (t, n)), c)))))))
 | _ => none
def c_rCut : PCon
 | [.agg [.d (.lit (.int .i64 b)), .d (.sl T3T r), .d (.sl T3T e), .d (.lit (.int .i64 j)), .d (.lit (.int .i64 t)), .d (.lit (.int .i64 n)), .d (.sl T3T c)], .agg [.d (.lit (.int .i64 x)), .d (.lit (.int .i64 y)), .d (.lit (.int .i64 z))]] => some ([], resF (cutS (b, (r, (e, ((j, (t, n)), c)))) (x, (y, z))))
 | _ => none
def c_rOpen : PCon
 | [.agg [.d (.lit (.int .i64 b)), .d (.sl T3T r), .d (.sl T3T e), .d (.lit (.int .i64 j)), .d (.lit (.int .i64 t)), .d (.lit (.int .i64 n)), .d (.sl T3T c)], .agg [.d (.lit (.int .i64 x)), .d (.lit (.int .i64 y)), .d (.lit (.int .i64 z))]] => some ([], resF (openS (b, (r, (e, ((j, (t, n)), c)))) (x, (y, z))))
 | _ => none
def c_rTimes : PCon
 | [.agg [.d (.lit (.int .i64 b)), .d (.sl T3T r), .d (.sl T3T e), .d (.lit (.int .i64 j)), .d (.lit (.int .i64 t)), .d (.lit (.int .i64 n)), .d (.sl T3T c)], .one (.d (.lit (.int .i64 x))), .one (.d (.lit (.int .i64 y)))] => some ([], resF (timesS (b, (r, (e, ((j, (t, n)), c)))) x y))
 | _ => none
def c_clR1 : Con
 | [.one (.nn true (.sl T3T []))], hp, fr => match hp fr with
  | none => match Go.Sy.distinct [fr] with
   | true => some ([], .t (.one (.vr fr 0)), [(fr, .vec T3T 62 [])])
   | false => none
  | some _ => none
 | _, _, _ => none
def c_clR2 : Con
 | [.one (.nn false (.sl T3T l))], hp, fr => match hp fr with
  | none => match Go.Sy.distinct [fr] with
   | true => some ([l.length ≤ 100], .t (.one (.vr fr l.length)), [(fr, .vec T3T 62 l)])
   | false => none
  | some _ => none
 | _, _, _ => none
def c_clR : Con := (orC c_clR1 c_clR2)
def c_clE1 : Con
 | [.one (.nn true (.sl T3T []))], hp, fr => match hp fr with
  | none => match Go.Sy.distinct [fr] with
   | true => some ([], .t (.one (.vr fr 0)), [(fr, .vec T3T 99 [])])
   | false => none
  | some _ => none
 | _, _, _ => none
def c_clE2 : Con
 | [.one (.nn false (.sl T3T l))], hp, fr => match hp fr with
  | none => match Go.Sy.distinct [fr] with
   | true => some ([l.length ≤ 100], .t (.one (.vr fr l.length)), [(fr, .vec T3T 99 l)])
   | false => none
  | some _ => none
 | _, _, _ => none
def c_clE : Con := (orC c_clE1 c_clE2)
def c_clC1 : Con
 | [.one (.nn true (.sl T3T []))], hp, fr => match hp fr with
  | none => match Go.Sy.distinct [fr] with
   | true => some ([], .t (.one (.vr fr 0)), [(fr, .vec T3T 67 [])])
   | false => none
  | some _ => none
 | _, _, _ => none
def c_clC2 : Con
 | [.one (.nn false (.sl T3T l))], hp, fr => match hp fr with
  | none => match Go.Sy.distinct [fr] with
   | true => some ([l.length ≤ 100], .t (.one (.vr fr l.length)), [(fr, .vec T3T 67 l)])
   | false => none
  | some _ => none
 | _, _, _ => none
def c_clC : Con := (orC c_clC1 c_clC2)
def c_copied : Con
 | [.agg [.d (.lit (.int .i64 b)), .d (.sl T3T r), .d (.sl T3T e), .d (.lit (.int .i64 j)), .d (.lit (.int .i64 t)), .d (.lit (.int .i64 n)), .d (.sl T3T c)]], hp, fr => match hp fr with
  | none => match hp (fr + 1) with
   | none => match hp (fr + 2) with
    | none => match Go.Sy.distinct [fr, (fr + 1), (fr + 2)] with
     | true => some ([r.length ≤ 100, e.length ≤ 100, c.length ≤ 100], .t (.agg [li .i64 b, .vr fr r.length, .vr (fr + 1) e.length, li .i64 j, li .i64 t, li .i64 n, .vr (fr + 2) c.length]), [(fr, .vec T3T 62 r), ((fr + 1), .vec T3T 99 e), ((fr + 2), .vec T3T 67 c)])
     | false => none
    | some _ => none
   | some _ => none
  | some _ => none
 | _, _, _ => none
def c_cut : PCon
 | [.agg [.d (.lit (.int .i64 b)), .d (.sl T3T r), .d (.sl T3T e), .d (.lit (.int .i64 j)), .d (.lit (.int .i64 t)), .d (.lit (.int .i64 n)), .d (.sl T3T c)], .agg [.d (.lit (.int .i64 x)), .d (.lit (.int .i64 y)), .d (.lit (.int .i64 z))]] => some ([], resF (cutS (b, (r, (e, ((j, (t, n)), c)))) (x, (y, z))))
 | _ => none
def c_times : PCon
 | [.agg [.d (.lit (.int .i64 b)), .d (.sl T3T r), .d (.sl T3T e), .d (.lit (.int .i64 j)), .d (.lit (.int .i64 t)), .d (.lit (.int .i64 n)), .d (.sl T3T c)], .one (.d (.lit (.int .i64 x))), .one (.d (.lit (.int .i64 y)))] => some ([], resF (timesS (b, (r, (e, ((j, (t, n)), c)))) x y))
 | _ => none
end Go.Proofs.Ytcklbglladijlaa
