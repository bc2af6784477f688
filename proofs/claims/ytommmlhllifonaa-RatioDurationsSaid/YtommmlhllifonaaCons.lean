/- What each function of the ratio package, and of its reference, returns: contracts over abstract values. -/
import Derived.Test.YtommmlhllifonaaSyS
import Derived.Test.YtommmlhllifonaaRp
namespace Go.Proofs.Ytommmlhllifonaa
open Go.Sy Go.RatLaw

abbrev I (n : Int) : TV := .one (.d (.lit (.int .i64 n)))
abbrev B (b : Bool) : TV := .one (.d (.lit (.bool b)))
abbrev Q (n d : Int) : TV := .agg [li .i64 n, li .i64 d]
abbrev big (n : Int) : Prop := -1000000000000000000 ≤ n ∧ n ≤ 1000000000000000000

def cAbs : PCon
  | [.one (.d (.lit (.int .i64 n)))] => some ([big n], .t (I n.natAbs))
  | _ => none
def cFar : PCon
  | [.one (.d (.lit (.int .i64 k)))] => some ([], .t (B (decide (k < -1000000000000000) || decide (k > 1000000000000000))))
  | _ => none
def cRatOf : PCon
  | [.one (.d (.lit (.int .i64 n))), .one (.d (.lit (.int .i64 d)))] => some ([], .t (Q n d))
  | _ => none
def cGcd : PCon
  | [.one (.d (.lit (.int .i64 a))), .one (.d (.lit (.int .i64 b)))] => some ([0 ≤ a, 0 ≤ b], .t (I (Int.gcd a b)))
  | _ => none
def cRed : PCon
  | [.agg [.d (.lit (.int .i64 n)), .d (.lit (.int .i64 d))]] => some ([d ≠ 0, big n, big d], .t (Q (redN n d) (redD n d)))
  | _ => none
/-- the recursive closure: it is handed its own variable -/
def cCommon (k : Int) : Con
  | [.one (.d (.lit (.int .i64 a))), .one (.d (.lit (.int .i64 b))), .one (.ptr p 0)], hp, _ => match hp p with
    | some (.cells [.clo 46 [] [(q, 0)]]) => if q = p then some ([0 ≤ a, 0 ≤ b, b ≤ k], .t (I (Int.gcd a b)), []) else none
    | _ => none
  | _, _, _ => none
abbrev res (m : Int × Int × Int) : AV := .tup [Q m.1 m.2.1, I m.2.2]
def cMk : PCon
  | [.agg [.d (.lit (.int .i64 n)), .d (.lit (.int .i64 d))]] => some ([d ≠ 0, big n, big d], res (mk n d))
  | _ => none
def cVld : PCon
  | [.agg [.d (.lit (.int .i64 n)), .d (.lit (.int .i64 d))]] => some ([], .t (B (vld n d)))
  | _ => none
def cMake : PCon
  | [.one (.d (.lit (.int .i64 n))), .one (.d (.lit (.int .i64 d)))] => some ([], res (make n d))
  | _ => none
/-- a function of two ratios -/
def cBin (f : Int → Int → Int → Int → Int × Int × Int) : PCon
  | [.agg [.d (.lit (.int .i64 a)), .d (.lit (.int .i64 b))], .agg [.d (.lit (.int .i64 c)), .d (.lit (.int .i64 d))]] => some ([], res (f a b c d))
  | _ => none
/-- a fraction made of two ratios in blocks p, q -/
def cFrac (f : Int → Int → Int → Int → Int × Int) : Con
  | [.one (.ptr p 0), .one (.ptr q 0)], hp, _ => match hp p, hp q with
    | some (.cells [.d (.lit (.int .i64 a)), .d (.lit (.int .i64 b))]), some (.cells [.d (.lit (.int .i64 c)), .d (.lit (.int .i64 d))]) =>
      if p = q then none else some ([vld a b = true, vld c d = true], .t (Q (f a b c d).1 (f a b c d).2), [])
    | _, _ => none
  | _, _, _ => none
/-- two ratios, and a closure (function k) over blocks that hold them -/
def cJoin (k : Nat) (f : Int → Int → Int → Int → Int × Int) : Con
  | [.agg [.d (.lit (.int .i64 a)), .d (.lit (.int .i64 b))], .agg [.d (.lit (.int .i64 c)), .d (.lit (.int .i64 d))], .one (.clo k' [] [(p, 0), (q, 0)])], hp, _ => match hp p, hp q with
    | some (.cells [.d (.lit (.int .i64 a')), .d (.lit (.int .i64 b'))]), some (.cells [.d (.lit (.int .i64 c')), .d (.lit (.int .i64 d'))]) =>
      if p = q then none else if k' = k then some ([a' = a, b' = b, c' = c, d' = d, vld a b = true → vld c d = true → (f a b c d).2 ≠ 0 ∧ big (f a b c d).1 ∧ big (f a b c d).2], res (if vld a b && vld c d then mk (f a b c d).1 (f a b c d).2 else (0, 0, 1)), []) else none
    | _, _ => none
  | _, _, _ => none
def fAdd (a b c d : Int) : Int × Int := (a * d + c * b, b * d)
def fSub (a b c d : Int) : Int × Int := (a * d - c * b, b * d)
def fMul (a b c d : Int) : Int × Int := (a * c, b * d)
def fDiv (a b c d : Int) : Int × Int := (a * d, b * c)
def cCmp : PCon
  | [.agg [.d (.lit (.int .i64 a)), .d (.lit (.int .i64 b))], .agg [.d (.lit (.int .i64 c)), .d (.lit (.int .i64 d))]] => some ([], .tup [I (compareR a b c d).1, I (compareR a b c d).2])
  | _ => none
def cFloor : PCon
  | [.agg [.d (.lit (.int .i64 a)), .d (.lit (.int .i64 b))]] => some ([], .tup [I (floorR a b).1, I (floorR a b).2])
  | _ => none
abbrev Qt : Ty := .tp (.ti .i64) (.ti .i64)
/-- a list of ratios -/
abbrev QL (l : List (Int × Int)) : TV := .one (.d (.sl Qt l))
def cSum : PCon
  | [.one (.d (.sl (.tp (.ti .i64) (.ti .i64)) l))] => some ([], res (sumR l))
  | _ => none
/-- a list, a first value, a function (number k) of two ratios -/
def cCarried (k : Nat) (f : Int → Int → Int → Int → Int × Int × Int) : PCon
  | [.one (.d (.sl (.tp (.ti .i64) (.ti .i64)) l)), .agg [.d (.lit (.int .i64 a)), .d (.lit (.int .i64 b))], .one (.clo k' [] [])] =>
    if k' = k then some ([], res (carr f (a, b) l)) else none
  | _ => none
end Go.Proofs.Ytommmlhllifonaa
