/- Contracts. Written by a program (wip/tools/gen.py). -/
import Derived.Test.YtgibafageolbnaaDoorSealk
namespace Go.Proofs.YtgibafageolbnaaDoor
open Go.Sy Go.RatLaw
set_option linter.unusedVariables false


/-- the last digit is another one (the sum may wrap around) -/
def turnN (n b : Int) : Int := IntKind.i64.wrap (n - n.tmod 10 + (n.tmod 10 + 1 + b % 9).tmod 10)
def backE (h l g : Int) : Int := if h < 4294967296 ∧ l < 4294967296 then h * 4294967296 + l else g
def chgE (e : En) (w y : Int) : En :=
  if w % 7 = 0 then (turnN e.1 y, e.2) else if w % 7 = 1 then (e.1, (turnN e.2.1 y, e.2.2)) else if w % 7 = 2 then (e.1, (e.2.1, (turnN e.2.2.1 y, e.2.2.2)))
  else if w % 7 = 3 then (e.1, (e.2.1, (e.2.2.1, (turnN e.2.2.2.1 y, e.2.2.2.2)))) else if w % 7 = 4 then (e.1, (e.2.1, (e.2.2.1, (e.2.2.2.1, (turnN e.2.2.2.2.1 y, e.2.2.2.2.2)))))
  else if w % 7 = 5 then (e.1, (e.2.1, (e.2.2.1, (e.2.2.2.1, (e.2.2.2.2.1, backE (turnN (hiD e.2.2.2.2.2) y) (loD e.2.2.2.2.2) e.2.2.2.2.2)))))
  else (e.1, (e.2.1, (e.2.2.1, (e.2.2.2.1, (e.2.2.2.2.1, backE (hiD e.2.2.2.2.2) (turnN (loD e.2.2.2.2.2) y) e.2.2.2.2.2)))))
abbrev eTV (e : En) : TV := E e.1 e.2.1 e.2.2.1 e.2.2.2.1 e.2.2.2.2.1 e.2.2.2.2.2
def c_shead : PCon
  | [] => some ([], .t (B true))
  | _ => none
def c_sturned : PCon
  | [.one (.d (.lit (.int .i64 n))), .one (.d (.lit (.int .u8 b)))] => some ([InI64 n, 0 ≤ b, b ≤ 255], .t (I (turnN n b)))
  | _ => none
def c_schanged : PCon
  | [.agg [.d (.lit (.int .i64 t)), .d (.lit (.int .i64 k)), .d (.lit (.int .i64 a)), .d (.lit (.int .i64 b)), .d (.lit (.int .i64 c)), .d (.lit (.int .u64 g))], .one (.d (.lit (.int .u8 w))), .one (.d (.lit (.int .u8 y)))] => some ([InI64 t ∧ InI64 k ∧ InI64 a ∧ InI64 b ∧ InI64 c, 0 ≤ g ∧ g < 18446744073709551616, 0 ≤ w ∧ w ≤ 255, 0 ≤ y, y ≤ 255], .t (eTV (chgE (t, (k, (a, (b, (c, g))))) w y)))
  | _ => none
end Go.Proofs.YtgibafageolbnaaDoor
