/- The functions meet their contracts. Written by a program (wip/tools/gen.py). -/
import Derived.Test.YtfbbkknfcmofcaaDoorFrontmq
import Derived.Test.YtfbbkknfcmofcaaDoorDigestk
import Derived.Test.YtfbbkknfcmofcaaDoorMarksk
import Derived.Test.YtfbbkknfcmofcaaDoorSealk
import Derived.Test.YtfbbkknfcmofcaaDoorFrontk
import Derived.Test.YtfbbkknfcmofcaaDoorFrontlk
namespace Go.Proofs.YtfbbkknfcmofcaaDoor
open Go.Sy Go.RatLaw
set_option linter.unusedVariables false
set_option maxHeartbeats 4000000
set_option linter.unusedSimpArgs false

abbrev T_FtMatches : Tab := [(9, .pu c_fhead), (10, .pu c_rFewE), (11, .pu c_fAt), (12, .pu c_rAt), (13, .pu c_rSameF), (14, .pu c_fChanges), (15, .pu c_rChanges), (16, .pu c_rSameI)]
theorem T_FtMatches_ok : TOk Tryd.prog T_FtMatches := ⟨ok_fhead, ok_rFewE, ok_fAt, ok_rAt, ok_rSameF, ok_fChanges, ok_rChanges, ok_rSameI, trivial⟩
theorem v_FtMatches (s : Int) (l : List En) (h n : Int) : (vcPu L T_FtMatches Tryd.f3 [0, 1, 2, 4, 5, 6, 7, 8, 9, 10, 11, 15] (fun _ _ => none) [LG s l h, I n] (.t (B true))).holds = P_FtMatches s l h n := by kernel_rfl
theorem w_FtMatches (s : Int) (l : List En) (h n : Int) (h_0 : InI64 s) (h_1 : inE l) : (vcPu L T_FtMatches Tryd.f3 [0, 1, 2, 4, 5, 6, 7, 8, 9, 10, 11, 15] (fun _ _ => none) [LG s l h, I n] (.t (B true))).holds ∧ True := by
  rw [v_FtMatches]
  exact ⟨p_FtMatches s l h n h_0 h_1, trivial⟩
theorem ok_FtMatches : FnOk Tryd.prog 3 (CE.pu c_FtMatches).con := fnPuR T_FtMatches c_FtMatches L_ok T_FtMatches_ok mixed Tryd.func3 (by kernel_rfl) (by kernel_rfl) fun args cs r h hcs => by
  unfold c_FtMatches at h
  split at h
  · rename_i s l h n
    injection h with h; injection h with h1 h2; subst h1 h2
    exact ⟨[0, 1, 2, 4, 5, 6, 7, 8, 9, 10, 11, 15], (fun _ _ => none), (fun _ _ => none), rfl, rfl, rfl, (by apply And.left (b := True); exact w_FtMatches s l h n (hcs _ (.head _)) (hcs _ (.tail _ (.head _))))⟩
  · cases h
end Go.Proofs.YtfbbkknfcmofcaaDoor
