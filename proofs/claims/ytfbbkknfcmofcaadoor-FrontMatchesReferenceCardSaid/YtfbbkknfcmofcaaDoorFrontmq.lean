/- The plain proofs. Written by a program (wip/tools/gen.py). -/
import Derived.Test.YtfbbkknfcmofcaaDoorFrontmp
import Derived.Test.YtfbbkknfcmofcaaDoorVs
namespace Go.Proofs.YtfbbkknfcmofcaaDoor
open Go.Sy Go.RatLaw
set_option linter.unusedVariables false
set_option linter.unusedSimpArgs false
theorem p_FtMatches (s : Int) (l : List En) (h n : Int) (hs : InI64 s) (hi : inE l) : P_FtMatches s l h n := by
  refine ⟨fun _ => rfl, fun _ => ⟨hs, hi, hs, hi, hs, hi, hs, hi, ?_⟩⟩
  have e1 : sameF ((atS s l h n).fst.fst, (atS s l h n).fst.snd.fst, (atS s l h n).fst.snd.snd.fst, (atS s l h n).fst.snd.snd.snd) ((atS s l h n).fst.fst, (atS s l h n).fst.snd.fst, (atS s l h n).fst.snd.snd.fst, (atS s l h n).fst.snd.snd.snd) = true := same_refl _
  have e2 : eqIs (chS s l h).1 (chS s l h).1 = true := decide_eq_true rfl
  rw [e1, e2, beq_self_eq_true, beq_self_eq_true]; rfl

end Go.Proofs.YtfbbkknfcmofcaaDoor
