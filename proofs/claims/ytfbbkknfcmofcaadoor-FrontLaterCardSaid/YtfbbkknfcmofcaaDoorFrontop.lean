/- What is to be shown of each function, in plain terms. Written by a program (wip/tools/gen.py). -/
import Derived.Test.YtfbbkknfcmofcaaDoorFrontoc
namespace Go.Proofs.YtfbbkknfcmofcaaDoor
open Go.Sy Go.RatLaw
set_option linter.unusedVariables false

def P_FLater (s : Int) (l : List En) (h t k a b c g n : Int) : Prop :=
  ((!decide (l.length ≤ (60 : Nat)) || decide (n < (0 : Int)) || decide (n > (1000000000 : Int))) = true → true = true) ∧ ((!decide (l.length ≤ (60 : Nat)) || decide (n < (0 : Int)) || decide (n > (1000000000 : Int))) = false → InI64 s ∧
  inE l ∧ InI64 t ∧ ((0 : Int) ≤ g ∧ g < (18446744073709551616 : Int)) ∧ (((appS s l h (t, k, a, b, c, g)).snd != (0 : Int)) = true → true = true) ∧ (((appS s l h (t, k, a, b, c, g)).snd != (0 : Int)) = false → InI64 s ∧ inE l ∧ InI64 (appS
  s l h (t, k, a, b, c, g)).fst.fst ∧ inE (appS s l h (t, k, a, b, c, g)).fst.snd.fst ∧ (true && (atS s l h n).snd == (0 : Int) && (atS (appS s l h (t, k, a, b, c, g)).fst.fst (appS s l h (t, k, a, b, c, g)).fst.snd.fst (appS s l h (t, k,
  a, b, c, g)).fst.snd.snd n).snd == (0 : Int) && (decide (n ≥ t) && !(k == (4 : Int) || k == (5 : Int)) || sameF ((atS s l h n).fst.fst, (atS s l h n).fst.snd.fst, (atS s l h n).fst.snd.snd.fst, (atS s l h n).fst.snd.snd.snd) ((atS (appS s
  l h (t, k, a, b, c, g)).fst.fst (appS s l h (t, k, a, b, c, g)).fst.snd.fst (appS s l h (t, k, a, b, c, g)).fst.snd.snd n).fst.fst, (atS (appS s l h (t, k, a, b, c, g)).fst.fst (appS s l h (t, k, a, b, c, g)).fst.snd.fst (appS s l h (t,
  k, a, b, c, g)).fst.snd.snd n).fst.snd.fst, (atS (appS s l h (t, k, a, b, c, g)).fst.fst (appS s l h (t, k, a, b, c, g)).fst.snd.fst (appS s l h (t, k, a, b, c, g)).fst.snd.snd n).fst.snd.snd.fst, (atS (appS s l h (t, k, a, b, c,
  g)).fst.fst (appS s l h (t, k, a, b, c, g)).fst.snd.fst (appS s l h (t, k, a, b, c, g)).fst.snd.snd n).fst.snd.snd.snd))) = true))
end Go.Proofs.YtfbbkknfcmofcaaDoor
