/- Contracts. Written by a program (wip/tools/gen.py). -/
import Derived.Test.YtjghgdccaakfmaaTp
import Derived.Test.YtjghgdccaakfmaaMeterk
import Derived.Test.YtjghgdccaakfmaaFormk
namespace Go.Proofs.Ytjghgdccaakfmaa
open Go.Sy Go.RatLaw
set_option linter.unusedVariables false

def c_isTempo : PCon
  | [.agg [.d (.lit (.int .i64 n)), .d (.lit (.int .i64 d))]] => some ([], .t (B (isTm n d)))
  | _ => none
def c_scale : PCon
  | [.agg [.d (.lit (.int .i64 n)), .d (.lit (.int .i64 d))]] => some ([], .t (I (sclT n d)))
  | _ => none
def c_tValid : PCon
  | [.one (.d (.sl (.tp (.ti .i64) (.tp (.tp (.ti .i64) (.ti .i64)) (.ti .i64))) bars)), .one (.d (.sl (.tp (.ti .i64) (.tp (.ti .i64) (.ti .i64))) l))] => some ([], .t (B (okTm bars l)))
  | _ => none
def c_rTValid : PCon
  | [.one (.d (.sl (.tp (.ti .i64) (.tp (.tp (.ti .i64) (.ti .i64)) (.ti .i64))) bars)), .one (.d (.sl (.tp (.ti .i64) (.tp (.ti .i64) (.ti .i64))) l))] => some ([], .t (B (okTm bars l)))
  | _ => none
def c_later1 : Con
  | [.one (.d (.lit (.int .i64 x))), .one (.ptr p 0), .one (.ptr q 0)], hp, fr => match hp p with
    | some (.cells [.d (.sl (.tp (.ti .i64) (.tp (.ti .i64) (.ti .i64))) l)]) => match hp q with
      | some (.cells [.d (.lit (.int .i64 b))]) => match Go.Sy.distinct [p, q] with
        | true => some ([0 ≤ x, x < l.length], .t (B (decide ((List.getD (α := T3) l x.toNat t30).1 > b))), [])
        | false => none
      | _ => none
    | _ => none
  | _, _, _ => none
def c_search : Con
  | [.one (.d (.lit (.int .i64 m))), .one (.clo 60 [] [(p, 0), (q, 0)])], hp, fr => match hp p with
    | some (.cells [.d (.sl (.tp (.ti .i64) (.tp (.ti .i64) (.ti .i64))) l)]) => match hp q with
      | some (.cells [.d (.lit (.int .i64 b))]) => match Go.Sy.distinct [p, q] with
        | true => some ([m = l.length, l.length ≤ 1000, riseT l], .t (I (tmN l b)), [])
        | false => none
      | _ => none
    | _ => none
  | _, _, _ => none
def c_tAt : PCon
  | [.one (.d (.sl (.tp (.ti .i64) (.tp (.ti .i64) (.ti .i64))) l)), .one (.d (.lit (.int .i64 b)))] => some ([l.length ≤ 1000, riseT l, 0 < tmN l b], .t (Q (tmAt l b).1 (tmAt l b).2))
  | _ => none
def c_tadd : Con
  | [.one (.ptr c 0), .one (.d (.lit (.int .i64 t))), .agg [.d (.lit (.int .i64 a)), .d (.lit (.int .i64 d))]], hp, fr => match hp c with
    | some (.cells [.d (.lit (.int .i64 n)), .d (.sl (.tp (.ti .i64) (.tp (.ti .i64) (.ti .i64))) l)]) => match Go.Sy.distinct [c] with
      | true => some ([isTm a d = true, -1000000000000 ≤ n ∧ n ≤ 1000000000000, -100000 ≤ t ∧ t ≤ 100000], .tup [], [(c, .cells [.d (.lit (.int .i64 (n + t * sclT a d))), .d (.sl (.tp (.ti .i64) (.tp (.ti .i64) (.ti .i64))) l)])])
      | false => none
    | _ => none
  | _, _, _ => none
def c_tTake : Con
  | [.one (.ptr c 0), .one (.d (.lit (.int .i64 b))), .agg [.d (.lit (.int .i64 x)), .d (.lit (.int .i64 y))], .one (.d (.lit (.int .i64 s)))], hp, fr => match hp c with
    | some (.cells [.d (.lit (.int .i64 n)), .d (.sl (.tp (.ti .i64) (.tp (.ti .i64) (.ti .i64))) l)]) => match Go.Sy.distinct [c] with
      | true => some ([l.length ≤ 1000, riseT l, 0 < tmN l b, isTm (tmAt l b).1 (tmAt l b).2 = true, dur x y = true, tk x y ≤ 40320, s = 1 ∨ s = -1, -1000000000000 ≤ n ∧ n ≤ 1000000000000], .tup [], [(c, .cells [.d (.lit (.int .i64 (n + takeT l b (s * tk x y)))), .d (.sl (.tp (.ti .i64) (.tp (.ti .i64) (.ti .i64))) l)])])
      | false => none
    | _ => none
  | _, _, _ => none
def c_seconds : Con
  | [.one (.ptr c 0)], hp, fr => match hp c with
    | some (.cells [.d (.lit (.int .i64 n)), .d (.sl (.tp (.ti .i64) (.tp (.ti .i64) (.ti .i64))) l)]) => match Go.Sy.distinct [c] with
      | true => some ([], res (make n 100800), [])
      | false => none
    | _ => none
  | _, _, _ => none
def c_tIsPos : PCon
  | [.one (.d (.sl (.tp (.ti .i64) (.tp (.tp (.ti .i64) (.ti .i64)) (.ti .i64))) bars)), .agg [.d (.lit (.int .i64 b)), .d (.lit (.int .i64 n)), .d (.lit (.int .i64 d))]] => some ([okBars bars = true], .t (B (posS bars b n d)))
  | _ => none
def c_tLater : PCon
  | [.agg [.d (.lit (.int .i64 b)), .d (.lit (.int .i64 n)), .d (.lit (.int .i64 d))], .agg [.d (.lit (.int .i64 b')), .d (.lit (.int .i64 n')), .d (.lit (.int .i64 d'))]] => some ([], .t (B (if b = b' then decide ((compareR n d n' d').1 > 0) else decide (b > b'))))
  | _ => none
def c_tAt0 : PCon
  | [.one (.d (.sl (.tp (.ti .i64) (.tp (.tp (.ti .i64) (.ti .i64)) (.ti .i64))) bars)), .one (.d (.sl (.tp (.ti .i64) (.tp (.ti .i64) (.ti .i64))) l)), .one (.d (.lit (.int .i64 b)))] => some ([], res (tmAtS bars l b))
  | _ => none
def c_tSeconds : PCon
  | [.one (.d (.sl (.tp (.ti .i64) (.tp (.tp (.ti .i64) (.ti .i64)) (.ti .i64))) bars)), .one (.d (.sl (.tp (.ti .i64) (.tp (.ti .i64) (.ti .i64))) l)), .agg [.d (.lit (.int .i64 b)), .d (.lit (.int .i64 n)), .d (.lit (.int .i64 d))], .agg [.d (.lit (.int .i64 b')), .d (.lit (.int .i64 n')), .d (.lit (.int .i64 d'))]] => some ([], res (secS bars l b n d b' n' d'))
  | _ => none
def c_tPlayed : PCon
  | [.one (.d (.sl (.tp (.ti .i64) (.tp (.tp (.ti .i64) (.ti .i64)) (.ti .i64))) bars)), .one (.d (.sl (.tp (.ti .i64) (.tp (.ti .i64) (.ti .i64))) l)), .agg [.d (.lit (.int .i64 b)), .d (.sl (.tp (.ti .i64) (.tp (.ti .i64) (.ti .i64))) r), .d (.sl (.tp (.ti .i64) (.tp (.ti .i64) (.ti .i64))) e), .d (.lit (.int .i64 j)), .d (.lit (.int .i64 t)), .d (.lit (.int .i64 n)), .d (.sl (.tp (.ti .i64) (.tp (.ti .i64) (.ti .i64))) c)], .one (.d (.lit (.int .i64 x))), .one (.d (.lit (.int .i64 y)))] => some ([], res (playS bars l (b, (r, (e, ((j, (t, n)), c)))) x y))
  | _ => none
end Go.Proofs.Ytjghgdccaakfmaa
