/- What is to be shown of each function, in plain terms. Written by a program (wip/tools/gen.py). -/
import Derived.Test.YtgibafageolbnaaDoorSealrc
namespace Go.Proofs.YtgibafageolbnaaDoor
open Go.Sy Go.RatLaw
set_option linter.unusedVariables false

def P_SForks (s : Int) (l : List En) (h t k a b c g w y : Int) : Prop :=
  (↑l.length : Int) ≤ (9223372036854775807 : Int) → (decide ((↑l.length : Int) > (59 : Int)) = false → InI64 s ∧ inE l) ∧ ((decide ((↑l.length : Int) > (59 : Int)) || !logB s l h) = true → true = true) ∧ ((decide ((↑l.length : Int) > (59 :
  Int)) || !logB s l h) = false → (InI64 t ∧ InI64 k ∧ InI64 a ∧ InI64 b ∧ InI64 c) ∧ ((0 : Int) ≤ g ∧ g < (18446744073709551616 : Int)) ∧ ((0 : Int) ≤ w ∧ w ≤ (255 : Int)) ∧ (0 : Int) ≤ y ∧ y ≤ (255 : Int) ∧ InI64 s ∧ inE l ∧ InI64 t ∧ ((0
  : Int) ≤ g ∧ g < (18446744073709551616 : Int)) ∧ InI64 s ∧ inE l ∧ InI64 (chgE (t, k, a, b, c, g) w y).fst ∧ ((0 : Int) ≤ (chgE (t, k, a, b, c, g) w y).snd.snd.snd.snd.snd ∧ (chgE (t, k, a, b, c, g) w y).snd.snd.snd.snd.snd <
  (18446744073709551616 : Int)) ∧ (((appS s l h (t, k, a, b, c, g)).snd != (0 : Int) || (appS s l h ((chgE (t, k, a, b, c, g) w y).fst, (chgE (t, k, a, b, c, g) w y).snd.fst, (chgE (t, k, a, b, c, g) w y).snd.snd.fst, (chgE (t, k, a, b, c,
  g) w y).snd.snd.snd.fst, (chgE (t, k, a, b, c, g) w y).snd.snd.snd.snd.fst, (chgE (t, k, a, b, c, g) w y).snd.snd.snd.snd.snd)).snd != (0 : Int) || t == (chgE (t, k, a, b, c, g) w y).fst && (k == (chgE (t, k, a, b, c, g) w y).snd.fst &&
  (a == (chgE (t, k, a, b, c, g) w y).snd.snd.fst && (b == (chgE (t, k, a, b, c, g) w y).snd.snd.snd.fst && (c == (chgE (t, k, a, b, c, g) w y).snd.snd.snd.snd.fst && g == (chgE (t, k, a, b, c, g) w y).snd.snd.snd.snd.snd))))) = true → true
  = true) ∧ (((appS s l h (t, k, a, b, c, g)).snd != (0 : Int) || (appS s l h ((chgE (t, k, a, b, c, g) w y).fst, (chgE (t, k, a, b, c, g) w y).snd.fst, (chgE (t, k, a, b, c, g) w y).snd.snd.fst, (chgE (t, k, a, b, c, g) w
  y).snd.snd.snd.fst, (chgE (t, k, a, b, c, g) w y).snd.snd.snd.snd.fst, (chgE (t, k, a, b, c, g) w y).snd.snd.snd.snd.snd)).snd != (0 : Int) || t == (chgE (t, k, a, b, c, g) w y).fst && (k == (chgE (t, k, a, b, c, g) w y).snd.fst && (a ==
  (chgE (t, k, a, b, c, g) w y).snd.snd.fst && (b == (chgE (t, k, a, b, c, g) w y).snd.snd.snd.fst && (c == (chgE (t, k, a, b, c, g) w y).snd.snd.snd.snd.fst && g == (chgE (t, k, a, b, c, g) w y).snd.snd.snd.snd.snd))))) = false → InI64
  (appS s l h (t, k, a, b, c, g)).fst.fst ∧ inE (appS s l h (t, k, a, b, c, g)).fst.snd.fst ∧ InI64 (appS s l h ((chgE (t, k, a, b, c, g) w y).fst, (chgE (t, k, a, b, c, g) w y).snd.fst, (chgE (t, k, a, b, c, g) w y).snd.snd.fst, (chgE (t,
  k, a, b, c, g) w y).snd.snd.snd.fst, (chgE (t, k, a, b, c, g) w y).snd.snd.snd.snd.fst, (chgE (t, k, a, b, c, g) w y).snd.snd.snd.snd.snd)).fst.fst ∧ inE (appS s l h ((chgE (t, k, a, b, c, g) w y).fst, (chgE (t, k, a, b, c, g) w
  y).snd.fst, (chgE (t, k, a, b, c, g) w y).snd.snd.fst, (chgE (t, k, a, b, c, g) w y).snd.snd.snd.fst, (chgE (t, k, a, b, c, g) w y).snd.snd.snd.snd.fst, (chgE (t, k, a, b, c, g) w y).snd.snd.snd.snd.snd)).fst.snd.fst ∧ InI64 (appS s l h
  ((chgE (t, k, a, b, c, g) w y).fst, (chgE (t, k, a, b, c, g) w y).snd.fst, (chgE (t, k, a, b, c, g) w y).snd.snd.fst, (chgE (t, k, a, b, c, g) w y).snd.snd.snd.fst, (chgE (t, k, a, b, c, g) w y).snd.snd.snd.snd.fst, (chgE (t, k, a, b, c,
  g) w y).snd.snd.snd.snd.snd)).fst.fst ∧ inE (appS s l h ((chgE (t, k, a, b, c, g) w y).fst, (chgE (t, k, a, b, c, g) w y).snd.fst, (chgE (t, k, a, b, c, g) w y).snd.snd.fst, (chgE (t, k, a, b, c, g) w y).snd.snd.snd.fst, (chgE (t, k, a,
  b, c, g) w y).snd.snd.snd.snd.fst, (chgE (t, k, a, b, c, g) w y).snd.snd.snd.snd.snd)).fst.snd.fst ∧ InI64 (appS s l h (t, k, a, b, c, g)).fst.fst ∧ inE (appS s l h (t, k, a, b, c, g)).fst.snd.fst ∧ (true && (begS (appS s l h (t, k, a, b,
  c, g)).fst.fst (appS s l h (t, k, a, b, c, g)).fst.snd.fst (appS s l h (t, k, a, b, c, g)).fst.snd.snd (appS s l h ((chgE (t, k, a, b, c, g) w y).fst, (chgE (t, k, a, b, c, g) w y).snd.fst, (chgE (t, k, a, b, c, g) w y).snd.snd.fst, (chgE
  (t, k, a, b, c, g) w y).snd.snd.snd.fst, (chgE (t, k, a, b, c, g) w y).snd.snd.snd.snd.fst, (chgE (t, k, a, b, c, g) w y).snd.snd.snd.snd.snd)).fst.fst (appS s l h ((chgE (t, k, a, b, c, g) w y).fst, (chgE (t, k, a, b, c, g) w y).snd.fst,
  (chgE (t, k, a, b, c, g) w y).snd.snd.fst, (chgE (t, k, a, b, c, g) w y).snd.snd.snd.fst, (chgE (t, k, a, b, c, g) w y).snd.snd.snd.snd.fst, (chgE (t, k, a, b, c, g) w y).snd.snd.snd.snd.snd)).fst.snd.fst (appS s l h ((chgE (t, k, a, b,
  c, g) w y).fst, (chgE (t, k, a, b, c, g) w y).snd.fst, (chgE (t, k, a, b, c, g) w y).snd.snd.fst, (chgE (t, k, a, b, c, g) w y).snd.snd.snd.fst, (chgE (t, k, a, b, c, g) w y).snd.snd.snd.snd.fst, (chgE (t, k, a, b, c, g) w
  y).snd.snd.snd.snd.snd)).fst.snd.snd).snd == (0 : Int) && (begS (appS s l h ((chgE (t, k, a, b, c, g) w y).fst, (chgE (t, k, a, b, c, g) w y).snd.fst, (chgE (t, k, a, b, c, g) w y).snd.snd.fst, (chgE (t, k, a, b, c, g) w
  y).snd.snd.snd.fst, (chgE (t, k, a, b, c, g) w y).snd.snd.snd.snd.fst, (chgE (t, k, a, b, c, g) w y).snd.snd.snd.snd.snd)).fst.fst (appS s l h ((chgE (t, k, a, b, c, g) w y).fst, (chgE (t, k, a, b, c, g) w y).snd.fst, (chgE (t, k, a, b,
  c, g) w y).snd.snd.fst, (chgE (t, k, a, b, c, g) w y).snd.snd.snd.fst, (chgE (t, k, a, b, c, g) w y).snd.snd.snd.snd.fst, (chgE (t, k, a, b, c, g) w y).snd.snd.snd.snd.snd)).fst.snd.fst (appS s l h ((chgE (t, k, a, b, c, g) w y).fst,
  (chgE (t, k, a, b, c, g) w y).snd.fst, (chgE (t, k, a, b, c, g) w y).snd.snd.fst, (chgE (t, k, a, b, c, g) w y).snd.snd.snd.fst, (chgE (t, k, a, b, c, g) w y).snd.snd.snd.snd.fst, (chgE (t, k, a, b, c, g) w
  y).snd.snd.snd.snd.snd)).fst.snd.snd (appS s l h (t, k, a, b, c, g)).fst.fst (appS s l h (t, k, a, b, c, g)).fst.snd.fst (appS s l h (t, k, a, b, c, g)).fst.snd.snd).snd == (0 : Int) && !(begS (appS s l h (t, k, a, b, c, g)).fst.fst (appS
  s l h (t, k, a, b, c, g)).fst.snd.fst (appS s l h (t, k, a, b, c, g)).fst.snd.snd (appS s l h ((chgE (t, k, a, b, c, g) w y).fst, (chgE (t, k, a, b, c, g) w y).snd.fst, (chgE (t, k, a, b, c, g) w y).snd.snd.fst, (chgE (t, k, a, b, c, g) w
  y).snd.snd.snd.fst, (chgE (t, k, a, b, c, g) w y).snd.snd.snd.snd.fst, (chgE (t, k, a, b, c, g) w y).snd.snd.snd.snd.snd)).fst.fst (appS s l h ((chgE (t, k, a, b, c, g) w y).fst, (chgE (t, k, a, b, c, g) w y).snd.fst, (chgE (t, k, a, b,
  c, g) w y).snd.snd.fst, (chgE (t, k, a, b, c, g) w y).snd.snd.snd.fst, (chgE (t, k, a, b, c, g) w y).snd.snd.snd.snd.fst, (chgE (t, k, a, b, c, g) w y).snd.snd.snd.snd.snd)).fst.snd.fst (appS s l h ((chgE (t, k, a, b, c, g) w y).fst,
  (chgE (t, k, a, b, c, g) w y).snd.fst, (chgE (t, k, a, b, c, g) w y).snd.snd.fst, (chgE (t, k, a, b, c, g) w y).snd.snd.snd.fst, (chgE (t, k, a, b, c, g) w y).snd.snd.snd.snd.fst, (chgE (t, k, a, b, c, g) w
  y).snd.snd.snd.snd.snd)).fst.snd.snd).fst && !(begS (appS s l h ((chgE (t, k, a, b, c, g) w y).fst, (chgE (t, k, a, b, c, g) w y).snd.fst, (chgE (t, k, a, b, c, g) w y).snd.snd.fst, (chgE (t, k, a, b, c, g) w y).snd.snd.snd.fst, (chgE (t,
  k, a, b, c, g) w y).snd.snd.snd.snd.fst, (chgE (t, k, a, b, c, g) w y).snd.snd.snd.snd.snd)).fst.fst (appS s l h ((chgE (t, k, a, b, c, g) w y).fst, (chgE (t, k, a, b, c, g) w y).snd.fst, (chgE (t, k, a, b, c, g) w y).snd.snd.fst, (chgE
  (t, k, a, b, c, g) w y).snd.snd.snd.fst, (chgE (t, k, a, b, c, g) w y).snd.snd.snd.snd.fst, (chgE (t, k, a, b, c, g) w y).snd.snd.snd.snd.snd)).fst.snd.fst (appS s l h ((chgE (t, k, a, b, c, g) w y).fst, (chgE (t, k, a, b, c, g) w
  y).snd.fst, (chgE (t, k, a, b, c, g) w y).snd.snd.fst, (chgE (t, k, a, b, c, g) w y).snd.snd.snd.fst, (chgE (t, k, a, b, c, g) w y).snd.snd.snd.snd.fst, (chgE (t, k, a, b, c, g) w y).snd.snd.snd.snd.snd)).fst.snd.snd (appS s l h (t, k, a,
  b, c, g)).fst.fst (appS s l h (t, k, a, b, c, g)).fst.snd.fst (appS s l h (t, k, a, b, c, g)).fst.snd.snd).fst && (appS s l h (t, k, a, b, c, g)).fst.snd.snd != (appS s l h ((chgE (t, k, a, b, c, g) w y).fst, (chgE (t, k, a, b, c, g) w
  y).snd.fst, (chgE (t, k, a, b, c, g) w y).snd.snd.fst, (chgE (t, k, a, b, c, g) w y).snd.snd.snd.fst, (chgE (t, k, a, b, c, g) w y).snd.snd.snd.snd.fst, (chgE (t, k, a, b, c, g) w y).snd.snd.snd.snd.snd)).fst.snd.snd) = true))
end Go.Proofs.YtgibafageolbnaaDoor
