/- Contracts. Written by a program (wip/tools/gen.py). -/
import Derived.Test.YtcklbglladijlaaEp
import Derived.Test.YtcklbglladijlaaDi
import Derived.Test.YtcklbglladijlaaGe
import Derived.Test.YtcklbglladijlaaFormk
namespace Go.Proofs.Ytcklbglladijlaa
open Go.Sy Go.RatLaw
set_option linter.unusedVariables false


abbrev DTT : Ty := (.tp (.ti .i64) (.tp (.ti .i64) (.tp (.ti .i64) (.tp (.ti .i64) (.tp (.ti .i64) (.ti .i64))))))
abbrev BTT : Ty := (.tp (.ti .i64) (.tp (.tp (.ti .i64) (.ti .i64)) (.ti .i64)))
abbrev PTTT : Ty := (.tp (.ti .i64) (.tp (.ti .i64) (.tp (.ti .i64) (.tp (.ti .i64) (.tp (.ti .i64) (.tp (.tp (.ti .i64) (.ti .i64)) (.tp (.tp (.ti .i64) (.tp (.ti .i64) (.ti .i64))) (.tp (.ti .i64) (.tp (.ti .i64) (.ti .i64))))))))))
abbrev NTTT : Ty := (.tp (.ti .i64) (.tp (.ti .i64) (.tp (.ti .i64) (.tp (.ti .i64) (.tp (.ti .i64) (.tp (.tp (.ti .i64) (.ti .i64)) (.tp (.tp (.ti .i64) (.ti .i64)) (.tp (.ti .i64) (.tp (.ti .i64) (.ti .i64))))))))))
abbrev WTT : Ty := (.tp (.tp (.ti .i64) (.tp (.tl BTT) (.tp (.tl PTTT) (.tl NTTT)))) (.tp (.tp (.ti .i64) (.tp (.tl T3T) (.tp (.tl T3T) (.tp T3T (.tl T3T))))) (.tl T3T)))
attribute [match_pattern] DTT BTT
abbrev D (a b c d e f : Int) : TV := .agg [li .i64 a, li .i64 b, li .i64 c, li .i64 d, li .i64 e, li .i64 f]
abbrev DL (l : List De) : TV := .one (.d (.sl DTT l))
abbrev rcells (r : Rm) : List Go.Sy.LV := [li .i64 r.1, li .i64 r.2.1.1, .d (.sl T3T r.2.1.2.1), .d (.sl T3T r.2.1.2.2.1), li .i64 r.2.1.2.2.2.1.1, li .i64 r.2.1.2.2.2.1.2.1, li .i64 r.2.1.2.2.2.1.2.2, .d (.sl T3T r.2.1.2.2.2.2), .d (.sl (.ti .i64) r.2.2)]
abbrev RT (r : Rm) : TV := .agg (rcells r)
abbrev RC (r : Rm) : HO := .cells (rcells r)
abbrev SCX (r : Rm) (ws : List Wk) : HO := .cells (rcells r ++ [.d (.sl WTT ws)])
abbrev resR (m : Rm × Int) : AV := .tup [RT m.1, I m.2]
abbrev R (v b : Int) (r e : List T3) (j t n : Int) (c : List T3) (o : List Int) : TV := RT (v, ((b, (r, (e, ((j, (t, n)), c)))), o))
abbrev W (v : Int) (br : List Br) (pt : List PT) (nt : List NT) (b : Int) (r e : List T3) (j t n : Int) (c tm : List T3) : TV := .agg [li .i64 v, .d (.sl BTT br), .d (.sl PTTT pt), .d (.sl NTTT nt), li .i64 b, .d (.sl T3T r), .d (.sl T3T e), li .i64 j, li .i64 t, li .i64 n, .d (.sl T3T c), .d (.sl T3T tm)]
abbrev nilP : Go.Sy.LV := .d (.lit (.pointer none))

def c_dValid : PCon := fun args => match args with
 | [.one u_ws, .one (.d (.sl DTT ds))] => match asRow WTT u_ws with
  | some ws => some ([], .t (B (validD ws ds)))
  | none => none
 | _ => none
def c_dPush : PCon := fun args => match args with
 | [.one u_ws, .one (.d (.sl DTT ds)), .agg [.d (.lit (.int .i64 x1)), .d (.lit (.int .i64 x2)), .d (.lit (.int .i64 x3)), .d (.lit (.int .i64 x4)), .d (.lit (.int .i64 x5)), .d (.lit (.int .i64 x6))]] => match asRow WTT u_ws with
  | some ws => some ([], .tup [DL (pushS ws ds (x1, (x2, (x3, (x4, (x5, x6)))))).1, I (pushS ws ds (x1, (x2, (x3, (x4, (x5, x6)))))).2])
  | none => none
 | _ => none
def c_dAt : PCon := fun args => match args with
 | [.one u_ws, .one (.d (.sl DTT ds)), .one (.d (.lit (.int .i64 kn))), .one (.d (.lit (.int .i64 tm)))] => match asRow WTT u_ws with
  | some ws => some ([], resR (atD ws ds kn tm))
  | none => none
 | _ => none
def c_cmpNan : PCon
 | [.one (.d (.lit (.int .i64 a)))] => some ([], .t (B false))
 | _ => none
def c_cmpLess : PCon
 | [.one (.d (.lit (.int .i64 a))), .one (.d (.lit (.int .i64 b)))] => some ([], .t (B (decide (a < b))))
 | _ => none
def c_slNan : PCon
 | [.one (.d (.lit (.int .i64 a)))] => some ([], .t (B false))
 | _ => none
def c_bsI : PCon
 | [.one (.d (.sl (.ti .i64) l)), .one (.d (.lit (.int .i64 n)))] => some ([rise l, l.length ≤ 1000000], .tup [I (below l n), B (hasI l n)])
 | _ => none
def c_clI1 : Con
 | [.one (.nn true (.sl (.ti .i64) []))], hp, fr => match hp fr with
  | none => match Go.Sy.distinct [fr] with
   | true => some ([], .t (.one (.vr fr 0)), [(fr, .vec (.ti .i64) 3 [])])
   | false => none
  | some _ => none
 | _, _, _ => none
def c_clI2 : Con
 | [.one (.nn false (.sl (.ti .i64) l))], hp, fr => match hp fr with
  | none => match Go.Sy.distinct [fr] with
   | true => some ([l.length ≤ 5000], .t (.one (.vr fr l.length)), [(fr, .vec (.ti .i64) 3 l)])
   | false => none
  | some _ => none
 | _, _, _ => none
def c_clI : Con := (orC c_clI1 c_clI2)
def c_clD1 : Con
 | [.one (.nn true (.sl DTT []))], hp, fr => match hp fr with
  | none => match Go.Sy.distinct [fr] with
   | true => some ([], .t (.one (.vr fr 0)), [(fr, .vec DTT 25 [])])
   | false => none
  | some _ => none
 | _, _, _ => none
def c_clD2 : Con
 | [.one (.nn false (.sl DTT l))], hp, fr => match hp fr with
  | none => match Go.Sy.distinct [fr] with
   | true => some ([l.length ≤ 5000], .t (.one (.vr fr l.length)), [(fr, .vec DTT 25 l)])
   | false => none
  | some _ => none
 | _, _, _ => none
def c_clD : Con := (orC c_clD1 c_clD2)
def c_openR : PCon
 | [.agg [.d (.lit (.int .i64 b)), .d (.sl T3T r), .d (.sl T3T e), .d (.lit (.int .i64 j)), .d (.lit (.int .i64 t)), .d (.lit (.int .i64 n)), .d (.sl T3T c)], .agg [.d (.lit (.int .i64 x)), .d (.lit (.int .i64 y)), .d (.lit (.int .i64 z))]] => some ([], resF (openS (b, (r, (e, ((j, (t, n)), c)))) (x, (y, z))))
 | _ => none
def c_areWorks : PCon
 | [.one (u_ws)] => match asRow WTT u_ws with
  | some ws => some ([], .t (B (worksB ws)))
  | none => none
 | _ => none
def c_stTake : Con
 | [.one (.ptr s 0), .agg [.d (.lit (.int .i64 v)), .d (.sl BTT br), u_pt, u_nt, .d (.lit (.int .i64 b)), .d (.sl T3T r), .d (.sl T3T e), .d (.lit (.int .i64 j)), .d (.lit (.int .i64 t)), .d (.lit (.int .i64 n)), .d (.sl T3T c), .d (.sl T3T tm)]], hp, fr => match asRow PTTT u_pt with
  | some pt => match asRow NTTT u_nt with
   | some nt => match hp s with
    | some (.cells [.d y0, .d y1, .d y2, .d y3, .d y4, .d y5, .d y6, .d y7, .d y8, u_ws]) => match asRow WTT u_ws with
     | some ws => match Go.Sy.distinct [s] with
      | true => some ([r.length ≤ 100, e.length ≤ 100, c.length ≤ 100], .tup [], [(s, SCX (takeW ((v, (br, (pt, nt))), ((b, (r, (e, ((j, (t, n)), c)))), tm))) ws)])
      | false => none
     | none => none
    | _ => none
   | none => none
  | none => none
 | _, _, _ => none
def c_newState : Con
 | [.one (u_ws)], hp, fr => match asRow WTT u_ws with
  | some ws => match hp fr with
   | none => match Go.Sy.distinct [fr] with
    | true => some ([worksB ws = true], .t (.one (.ptr fr 0)), [(fr, SCX (firstR ws) ws)])
    | false => none
   | some _ => none
  | none => none
 | _, _, _ => none
def c_ver1 : Con
 | [.agg [.d (.lit (.int .i64 v)), .d (.sl BTT br), u_pt, u_nt, .d (.lit (.int .i64 b)), .d (.sl T3T r), .d (.sl T3T e), .d (.lit (.int .i64 j)), .d (.lit (.int .i64 t)), .d (.lit (.int .i64 n)), .d (.sl T3T c), .d (.sl T3T tm)], .one (.ptr p 0)], hp, fr => match asRow PTTT u_pt with
  | some pt => match asRow NTTT u_nt with
   | some nt => match hp p with
    | some (.cells [.d (.lit (.int .i64 x1)), .d (.lit (.int .i64 x2)), .d (.lit (.int .i64 x3)), .d (.lit (.int .i64 x4)), .d (.lit (.int .i64 x5)), .d (.lit (.int .i64 x6))]) => match Go.Sy.distinct [p] with
     | true => some ([], .t (B (isVer x4 ((v, (br, (pt, nt))), ((b, (r, (e, ((j, (t, n)), c)))), tm)))), [])
     | false => none
    | _ => none
   | none => none
  | none => none
 | _, _, _ => none
def c_ixW : Con
 | [.one (u_ws), .one (.clo 69 [] [(p, 0)])], hp, fr => match asRow WTT u_ws with
  | some ws => match hp p with
   | some (.cells [.d (.lit (.int .i64 x1)), .d (.lit (.int .i64 x2)), .d (.lit (.int .i64 x3)), .d (.lit (.int .i64 x4)), .d (.lit (.int .i64 x5)), .d (.lit (.int .i64 x6))]) => match Go.Sy.distinct [p] with
    | true => some ([], .t (I (gidx (isVer x4) ws)), [])
    | false => none
   | _ => none
  | none => none
 | _, _, _ => none
def c_version : Con
 | [.one (.ptr s 0), .agg [.d (.lit (.int .i64 x1)), .d (.lit (.int .i64 x2)), .d (.lit (.int .i64 x3)), .d (.lit (.int .i64 x4)), .d (.lit (.int .i64 x5)), .d (.lit (.int .i64 x6))]], hp, fr => match hp s with
  | some (.cells [.d (.lit (.int .i64 v)), .d (.lit (.int .i64 b)), .d (.sl T3T r), .d (.sl T3T e), .d (.lit (.int .i64 j)), .d (.lit (.int .i64 t)), .d (.lit (.int .i64 n)), .d (.sl T3T c), .d (.sl (.ti .i64) o), u_ws]) => match asRow WTT u_ws with
   | some ws => match Go.Sy.distinct [s] with
    | true => some ([worksB ws = true], .t (I (versionS ws (v, ((b, (r, (e, ((j, (t, n)), c)))), o)) (x1, (x2, (x3, (x4, (x5, x6)))))).2), [(s, SCX (versionS ws (v, ((b, (r, (e, ((j, (t, n)), c)))), o)) (x1, (x2, (x3, (x4, (x5, x6)))))).1 ws)])
    | false => none
   | none => none
  | _ => none
 | _, _, _ => none
def c_reform : Con
 | [.one (.ptr s 0), .agg [.d (.lit (.int .i64 b')), .d (.sl T3T r'), .d (.sl T3T e'), .d (.lit (.int .i64 j')), .d (.lit (.int .i64 t')), .d (.lit (.int .i64 n')), .d (.sl T3T c')], .one (.d (.lit (.int .i64 q)))], hp, fr => match hp s with
  | some (.cells [.d (.lit (.int .i64 v)), .d (.lit (.int .i64 b)), .d (.sl T3T r), .d (.sl T3T e), .d (.lit (.int .i64 j)), .d (.lit (.int .i64 t)), .d (.lit (.int .i64 n)), .d (.sl T3T c), .d (.sl (.ti .i64) o), u_ws]) => match asRow WTT u_ws with
   | some ws => match Go.Sy.distinct [s] with
    | true => some ([], .t (I q), [(s, SCX (reformS (v, ((b, (r, (e, ((j, (t, n)), c)))), o)) ((b', (r', (e', ((j', (t', n')), c')))), q)).1 ws)])
    | false => none
   | none => none
  | _ => none
 | _, _, _ => none
def c_ossia : Con
 | [.one (.ptr s 0), .agg [.d (.lit (.int .i64 x1)), .d (.lit (.int .i64 x2)), .d (.lit (.int .i64 x3)), .d (.lit (.int .i64 x4)), .d (.lit (.int .i64 x5)), .d (.lit (.int .i64 x6))]], hp, fr => match hp s with
  | some (.cells [.d (.lit (.int .i64 v)), .d (.lit (.int .i64 b)), .d (.sl T3T r), .d (.sl T3T e), .d (.lit (.int .i64 j)), .d (.lit (.int .i64 t)), .d (.lit (.int .i64 n)), .d (.sl T3T c), .d (.sl (.ti .i64) o), u_ws]) => match asRow WTT u_ws with
   | some ws => match Go.Sy.distinct [s] with
    | true => some ([rise o, o.length ≤ 100], .t (I (ossiaS (v, ((b, (r, (e, ((j, (t, n)), c)))), o)) (x1, (x2, (x3, (x4, (x5, x6)))))).2), [(s, SCX (ossiaS (v, ((b, (r, (e, ((j, (t, n)), c)))), o)) (x1, (x2, (x3, (x4, (x5, x6)))))).1 ws)])
    | false => none
   | none => none
  | _ => none
 | _, _, _ => none
def c_do1 : Con
 | [.one (.ptr sc 0), .one (.ptr xc 0)], hp, fr => match hp sc with
  | some (.cells [.ptr s 0]) => match hp xc with
   | some (.cells [.d (.lit (.int .i64 x1)), .d (.lit (.int .i64 x2)), .d (.lit (.int .i64 x3)), .d (.lit (.int .i64 x4)), .d (.lit (.int .i64 x5)), .d (.lit (.int .i64 x6))]) => match hp s with
    | some (.cells [.d (.lit (.int .i64 v)), .d (.lit (.int .i64 b)), .d (.sl T3T r), .d (.sl T3T e), .d (.lit (.int .i64 j)), .d (.lit (.int .i64 t)), .d (.lit (.int .i64 n)), .d (.sl T3T c), .d (.sl (.ti .i64) o), u_ws]) => match asRow WTT u_ws with
     | some ws => match Go.Sy.distinct [sc, xc, s] with
      | true => some ([worksB ws = true], .t (I (versionS ws (v, ((b, (r, (e, ((j, (t, n)), c)))), o)) (x1, (x2, (x3, (x4, (x5, x6)))))).2), [(s, SCX (versionS ws (v, ((b, (r, (e, ((j, (t, n)), c)))), o)) (x1, (x2, (x3, (x4, (x5, x6)))))).1 ws)])
      | false => none
     | none => none
    | _ => none
   | _ => none
  | _ => none
 | _, _, _ => none
def c_do2 : Con
 | [.one (.ptr sc 0), .one (.ptr xc 0)], hp, fr => match hp sc with
  | some (.cells [.ptr s 0]) => match hp xc with
   | some (.cells [.d (.lit (.int .i64 x4)), .d (.lit (.int .i64 x5)), .d (.lit (.int .i64 x6))]) => match hp s with
    | some (.cells [.d (.lit (.int .i64 v)), .d (.lit (.int .i64 b)), .d (.sl T3T r), .d (.sl T3T e), .d (.lit (.int .i64 j)), .d (.lit (.int .i64 t)), .d (.lit (.int .i64 n)), .d (.sl T3T c), .d (.sl (.ti .i64) o), u_ws]) => match asRow WTT u_ws with
     | some ws => match Go.Sy.distinct [sc, xc, s] with
      | true => some ([], .t (I (cutS (b, (r, (e, ((j, (t, n)), c)))) (x4, (x5, x6))).2), [(s, SCX (reformS (v, ((b, (r, (e, ((j, (t, n)), c)))), o)) (cutS (b, (r, (e, ((j, (t, n)), c)))) (x4, (x5, x6)))).1 ws)])
      | false => none
     | none => none
    | _ => none
   | _ => none
  | _ => none
 | _, _, _ => none
def c_do3 : Con
 | [.one (.ptr sc 0), .one (.ptr xc 0)], hp, fr => match hp sc with
  | some (.cells [.ptr s 0]) => match hp xc with
   | some (.cells [.d (.lit (.int .i64 x4)), .d (.lit (.int .i64 x5)), .d (.lit (.int .i64 x6))]) => match hp s with
    | some (.cells [.d (.lit (.int .i64 v)), .d (.lit (.int .i64 b)), .d (.sl T3T r), .d (.sl T3T e), .d (.lit (.int .i64 j)), .d (.lit (.int .i64 t)), .d (.lit (.int .i64 n)), .d (.sl T3T c), .d (.sl (.ti .i64) o), u_ws]) => match asRow WTT u_ws with
     | some ws => match Go.Sy.distinct [sc, xc, s] with
      | true => some ([], .t (I (openS (b, (r, (e, ((j, (t, n)), c)))) (x4, (x5, x6))).2), [(s, SCX (reformS (v, ((b, (r, (e, ((j, (t, n)), c)))), o)) (openS (b, (r, (e, ((j, (t, n)), c)))) (x4, (x5, x6)))).1 ws)])
      | false => none
     | none => none
    | _ => none
   | _ => none
  | _ => none
 | _, _, _ => none
def c_do4 : Con
 | [.one (.ptr xc 0), .one (.ptr sc 0)], hp, fr => match hp xc with
  | some (.cells [.d (.lit (.int .i64 x1)), .d (.lit (.int .i64 x2)), .d (.lit (.int .i64 x3)), .d (.lit (.int .i64 x4)), .d (.lit (.int .i64 x5)), .d (.lit (.int .i64 x6))]) => match hp sc with
   | some (.cells [.ptr s 0]) => match hp s with
    | some (.cells [.d (.lit (.int .i64 v)), .d (.lit (.int .i64 b)), .d (.sl T3T r), .d (.sl T3T e), .d (.lit (.int .i64 j)), .d (.lit (.int .i64 t)), .d (.lit (.int .i64 n)), .d (.sl T3T c), .d (.sl (.ti .i64) o), u_ws]) => match asRow WTT u_ws with
     | some ws => match Go.Sy.distinct [xc, sc, s] with
      | true => some ([], .t (I (timesD (v, ((b, (r, (e, ((j, (t, n)), c)))), o)) (x1, (x2, (x3, (x4, (x5, x6)))))).2), [(s, SCX (timesD (v, ((b, (r, (e, ((j, (t, n)), c)))), o)) (x1, (x2, (x3, (x4, (x5, x6)))))).1 ws)])
      | false => none
     | none => none
    | _ => none
   | _ => none
  | _ => none
 | _, _, _ => none
def c_do5 : Con
 | [.one (.ptr sc 0), .one (.ptr xc 0)], hp, fr => match hp sc with
  | some (.cells [.ptr s 0]) => match hp xc with
   | some (.cells [.d (.lit (.int .i64 x1)), .d (.lit (.int .i64 x2)), .d (.lit (.int .i64 x3)), .d (.lit (.int .i64 x4)), .d (.lit (.int .i64 x5)), .d (.lit (.int .i64 x6))]) => match hp s with
    | some (.cells [.d (.lit (.int .i64 v)), .d (.lit (.int .i64 b)), .d (.sl T3T r), .d (.sl T3T e), .d (.lit (.int .i64 j)), .d (.lit (.int .i64 t)), .d (.lit (.int .i64 n)), .d (.sl T3T c), .d (.sl (.ti .i64) o), u_ws]) => match asRow WTT u_ws with
     | some ws => match Go.Sy.distinct [sc, xc, s] with
      | true => some ([rise o, o.length ≤ 100], .t (I (ossiaS (v, ((b, (r, (e, ((j, (t, n)), c)))), o)) (x1, (x2, (x3, (x4, (x5, x6)))))).2), [(s, SCX (ossiaS (v, ((b, (r, (e, ((j, (t, n)), c)))), o)) (x1, (x2, (x3, (x4, (x5, x6)))))).1 ws)])
      | false => none
     | none => none
    | _ => none
   | _ => none
  | _ => none
 | _, _, _ => none
def c_do : Con
 | [.one (.ptr s 0), .agg [.d (.lit (.int .i64 x1)), .d (.lit (.int .i64 x2)), .d (.lit (.int .i64 x3)), .d (.lit (.int .i64 x4)), .d (.lit (.int .i64 x5)), .d (.lit (.int .i64 x6))]], hp, fr => match hp s with
  | some (.cells [.d (.lit (.int .i64 v)), .d (.lit (.int .i64 b)), .d (.sl T3T r), .d (.sl T3T e), .d (.lit (.int .i64 j)), .d (.lit (.int .i64 t)), .d (.lit (.int .i64 n)), .d (.sl T3T c), .d (.sl (.ti .i64) o), u_ws]) => match asRow WTT u_ws with
   | some ws => match Go.Sy.distinct [s] with
    | true => some ([worksB ws = true, rise o, o.length ≤ 100], .t (I (doS ws (v, ((b, (r, (e, ((j, (t, n)), c)))), o)) (x1, (x2, (x3, (x4, (x5, x6)))))).2), [(s, SCX (doS ws (v, ((b, (r, (e, ((j, (t, n)), c)))), o)) (x1, (x2, (x3, (x4, (x5, x6)))))).1 ws)])
    | false => none
   | none => none
  | _ => none
 | _, _, _ => none
def c_isTime : PCon
 | [.one (.d (.lit (.int .i64 n)))] => some ([], .t (B (isTimeB n)))
 | _ => none
def c_until1 : Con
 | [.one (.yl z), .one (.ptr d 0), .one (.ptr k 0), .one (.ptr t 0)], hp, fr => match hp z with
  | some (.ob [DTT] [] go) => match hp d with
   | some (.cells [.d (.sl DTT ds)]) => match hp k with
    | some (.cells [.d (.lit (.int .i64 kn))]) => match hp t with
     | some (.cells [.d (.lit (.int .i64 tm))]) => match Go.Sy.distinct [z, d, k, t] with
      | true => some ([∀ m, go.ok ((h1 (untilL ds kn tm)).take m)], .tup [], [(z, .ob [DTT] (gfed go [] (h1 (untilL ds kn tm))) go)])
      | false => none
     | _ => none
    | _ => none
   | _ => none
  | _ => none
 | _, _, _ => none
def c_until : Con
 | [.one (.d (.sl DTT ds)), .one (.d (.lit (.int .i64 kn))), .one (.d (.lit (.int .i64 tm)))], hp, fr => match hp fr with
  | none => match hp (fr + 1) with
   | none => match hp (fr + 2) with
    | none => match Go.Sy.distinct [fr, (fr + 1), (fr + 2)] with
     | true => some ([], .t (.one (.clo 82 [] [(fr, 0), ((fr + 1), 0), ((fr + 2), 0)])), [(fr, .cells [.d (.sl DTT ds)]), ((fr + 1), CI kn), ((fr + 2), CI tm)])
     | false => none
    | some _ => none
   | some _ => none
  | some _ => none
 | _, _, _ => none
def c_run : Con
 | [.one (u_ws), .one (.d (.sl DTT ds)), .one (.d (.lit (.int .i64 kn))), .one (.d (.lit (.int .i64 tm)))], hp, fr => match asRow WTT u_ws with
  | some ws => match hp fr with
   | none => match Go.Sy.distinct [fr] with
    | true => some ([worksB ws = true, ds.length ≤ 1000000], .tup [.one (.ptr fr 0), B (runS ws (firstR ws) (untilL ds kn tm)).2], [(fr, SCX (runS ws (firstR ws) (untilL ds kn tm)).1 ws)])
    | false => none
   | some _ => none
  | none => none
 | _, _, _ => none
def c_allA : Con
 | [.one (u_ws), .one (.d (.sl DTT ds))], hp, fr => match asRow WTT u_ws with
  | some ws => match Go.Sy.distinct [] with
   | true => some ([ordB ws ds = false], .tup [.one nilP, B false], [])
   | false => none
  | none => none
 | _, _, _ => none
def c_allB : Con
 | [.one (u_ws), .one (.d (.sl DTT ds))], hp, fr => match asRow WTT u_ws with
  | some ws => match hp fr with
   | none => match Go.Sy.distinct [fr] with
    | true => some ([ordB ws ds = true], .tup [.one (.ptr fr 0), B (runS ws (firstR ws) ds).2], [(fr, SCX (runS ws (firstR ws) ds).1 ws)])
    | false => none
   | some _ => none
  | none => none
 | _, _, _ => none
def c_valA : Con
 | [.one (u_ws), .one (.d (.sl DTT ds))], hp, fr => match asRow WTT u_ws with
  | some ws => match Go.Sy.distinct [] with
   | true => some ([ordB ws ds = false], .t (B (validD ws ds)), [])
   | false => none
  | none => none
 | _, _, _ => none
def c_valB : Con
 | [.one (u_ws), .one (.d (.sl DTT ds))], hp, fr => match asRow WTT u_ws with
  | some ws => match Go.Sy.distinct [] with
   | true => some ([ordB ws ds = true], .t (B (validD ws ds)), [])
   | false => none
  | none => none
 | _, _, _ => none
def c_pushA : Con
 | [.one (u_ws), .one (.d (.sl DTT ds)), .agg [.d (.lit (.int .i64 x1)), .d (.lit (.int .i64 x2)), .d (.lit (.int .i64 x3)), .d (.lit (.int .i64 x4)), .d (.lit (.int .i64 x5)), .d (.lit (.int .i64 x6))]], hp, fr => match asRow WTT u_ws with
  | some ws => match Go.Sy.distinct [] with
   | true => some ([ordB ws ds = false], .tup [DL (pushS ws ds (x1, (x2, (x3, (x4, (x5, x6)))))).1, I (pushS ws ds (x1, (x2, (x3, (x4, (x5, x6)))))).2], [])
   | false => none
  | none => none
 | _, _, _ => none
def c_pushB : Con
 | [.one (u_ws), .one (.d (.sl DTT ds)), .agg [.d (.lit (.int .i64 x1)), .d (.lit (.int .i64 x2)), .d (.lit (.int .i64 x3)), .d (.lit (.int .i64 x4)), .d (.lit (.int .i64 x5)), .d (.lit (.int .i64 x6))]], hp, fr => match asRow WTT u_ws with
  | some ws => match Go.Sy.distinct [] with
   | true => some ([ordB ws ds = true], .tup [DL (pushS ws ds (x1, (x2, (x3, (x4, (x5, x6)))))).1, I (pushS ws ds (x1, (x2, (x3, (x4, (x5, x6)))))).2], [])
   | false => none
  | none => none
 | _, _, _ => none
def c_atA : Con
 | [.one (u_ws), .one (.d (.sl DTT ds)), .one (.d (.lit (.int .i64 kn))), .one (.d (.lit (.int .i64 tm)))], hp, fr => match asRow WTT u_ws with
  | some ws => match Go.Sy.distinct [] with
   | true => some ([ordB ws ds = false], resR (atD ws ds kn tm), [])
   | false => none
  | none => none
 | _, _, _ => none
def c_atB : Con
 | [.one (u_ws), .one (.d (.sl DTT ds)), .one (.d (.lit (.int .i64 kn))), .one (.d (.lit (.int .i64 tm)))], hp, fr => match asRow WTT u_ws with
  | some ws => match Go.Sy.distinct [] with
   | true => some ([ordB ws ds = true], resR (atD ws ds kn tm), [])
   | false => none
  | none => none
 | _, _, _ => none
def c_rFind : PCon
 | [.one (u_ws), .one (.d (.lit (.int .i64 x)))] => match asRow WTT u_ws with
  | some ws => some ([], .t (I (gidx (isVer x) ws)))
  | none => none
 | _ => none
def c_rFirst : PCon
 | [.one (u_ws)] => match asRow WTT u_ws with
  | some ws => some ([0 < ws.length], .t (RT (firstR ws)))
  | none => none
 | _ => none
def c_rWorks : PCon
 | [.one (u_ws)] => match asRow WTT u_ws with
  | some ws => some ([], .t (B (worksB ws)))
  | none => none
 | _ => none
def c_rOssia : PCon
 | [.agg [.d (.lit (.int .i64 v)), .d (.lit (.int .i64 b)), .d (.sl T3T r), .d (.sl T3T e), .d (.lit (.int .i64 j)), .d (.lit (.int .i64 t)), .d (.lit (.int .i64 n)), .d (.sl T3T c), .d (.sl (.ti .i64) o)], .agg [.d (.lit (.int .i64 x1)), .d (.lit (.int .i64 x2)), .d (.lit (.int .i64 x3)), .d (.lit (.int .i64 x4)), .d (.lit (.int .i64 x5)), .d (.lit (.int .i64 x6))]] => some ([rise o, o.length ≤ 100], resR (ossiaS (v, ((b, (r, (e, ((j, (t, n)), c)))), o)) (x1, (x2, (x3, (x4, (x5, x6)))))))
 | _ => none
def c_rDo : PCon
 | [.one (u_ws), .agg [.d (.lit (.int .i64 v)), .d (.lit (.int .i64 b)), .d (.sl T3T r), .d (.sl T3T e), .d (.lit (.int .i64 j)), .d (.lit (.int .i64 t)), .d (.lit (.int .i64 n)), .d (.sl T3T c), .d (.sl (.ti .i64) o)], .agg [.d (.lit (.int .i64 x1)), .d (.lit (.int .i64 x2)), .d (.lit (.int .i64 x3)), .d (.lit (.int .i64 x4)), .d (.lit (.int .i64 x5)), .d (.lit (.int .i64 x6))]] => match asRow WTT u_ws with
  | some ws => some ([rise o, o.length ≤ 100], resR (doS ws (v, ((b, (r, (e, ((j, (t, n)), c)))), o)) (x1, (x2, (x3, (x4, (x5, x6)))))))
  | none => none
 | _ => none
def c_rTime : PCon
 | [.one (.d (.lit (.int .i64 n)))] => some ([], .t (B (isTimeB n)))
 | _ => none
def c_rAfter : PCon
 | [.one (u_ws), .one (.d (.sl DTT ds))] => match asRow WTT u_ws with
  | some ws => some ([worksB ws = true], .tup [RT (runS ws (firstR ws) ds).1, I (runE ws (firstR ws) ds)])
  | none => none
 | _ => none
def c_rValidD : PCon
 | [.one (u_ws), .one (.d (.sl DTT ds))] => match asRow WTT u_ws with
  | some ws => some ([], .t (B (validD ws ds)))
  | none => none
 | _ => none
def c_rSameI : PCon
 | [.one (.d (.sl (.ti .i64) l)), .one (.d (.sl (.ti .i64) m))] => some ([], .t (B (eqIs l m)))
 | _ => none
def c_rSameR : PCon
 | [.agg [.d (.lit (.int .i64 v)), .d (.lit (.int .i64 b)), .d (.sl T3T r), .d (.sl T3T e), .d (.lit (.int .i64 j)), .d (.lit (.int .i64 t)), .d (.lit (.int .i64 n)), .d (.sl T3T c), .d (.sl (.ti .i64) o)], .agg [.d (.lit (.int .i64 v')), .d (.lit (.int .i64 b')), .d (.sl T3T r'), .d (.sl T3T e'), .d (.lit (.int .i64 j')), .d (.lit (.int .i64 t')), .d (.lit (.int .i64 n')), .d (.sl T3T c'), .d (.sl (.ti .i64) o')]] => some ([], .t (B (sameR (v, ((b, (r, (e, ((j, (t, n)), c)))), o)) (v', ((b', (r', (e', ((j', (t', n')), c')))), o')))))
 | _ => none
def c_rSameD : PCon
 | [.one (.d (.sl DTT l)), .one (.d (.sl DTT m))] => some ([], .t (B (sameD l m)))
 | _ => none
def c_rFew : PCon
 | [.one (u_ws), .one (.d (.sl DTT ds))] => match asRow WTT u_ws with
  | some ws => some ([], .t (B (fewD ws ds)))
  | none => none
 | _ => none
end Go.Proofs.Ytcklbglladijlaa
