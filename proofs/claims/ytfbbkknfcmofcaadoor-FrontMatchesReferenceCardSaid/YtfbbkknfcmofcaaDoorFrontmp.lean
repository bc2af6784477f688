/- What is to be shown of each function, in plain terms. Written by a program (wip/tools/gen.py). -/
import Derived.Test.YtfbbkknfcmofcaaDoorFrontmc
namespace Go.Proofs.YtfbbkknfcmofcaaDoor
open Go.Sy Go.RatLaw
set_option linter.unusedVariables false

def P_FtMatches (s : Int) (l : List En) (h n : Int) : Prop :=
  ((!decide (l.length ≤ (60 : Nat))) = true → true = true) ∧ ((!decide (l.length ≤ (60 : Nat))) = false → InI64 s ∧ inE l ∧ InI64 s ∧ inE l ∧ InI64 s ∧ inE l ∧ InI64 s ∧ inE l ∧ (true && sameF ((atS s l h n).fst.fst, (atS s l h
  n).fst.snd.fst, (atS s l h n).fst.snd.snd.fst, (atS s l h n).fst.snd.snd.snd) ((atS s l h n).fst.fst, (atS s l h n).fst.snd.fst, (atS s l h n).fst.snd.snd.fst, (atS s l h n).fst.snd.snd.snd) && (atS s l h n).snd == (atS s l h n).snd &&
  eqIs (chS s l h).fst (chS s l h).fst && (chS s l h).snd == (chS s l h).snd) = true)
end Go.Proofs.YtfbbkknfcmofcaaDoor
