/- The functions meet their contracts. Written by a program (wip/tools/gen.py). -/
import Derived.Test.YtfbbkknfcmofcaaDoorFrontoq
import Derived.Test.YtfbbkknfcmofcaaDoorDigestk
import Derived.Test.YtfbbkknfcmofcaaDoorMarksk
import Derived.Test.YtfbbkknfcmofcaaDoorSealk
import Derived.Test.YtfbbkknfcmofcaaDoorFrontk
import Derived.Test.YtfbbkknfcmofcaaDoorFrontlk
namespace Go.Proofs.YtfbbkknfcmofcaaDoor
open Go.Sy Go.RatLaw
set_option linter.unusedVariables false
set_option maxHeartbeats 4000000
set_option linter.unusedSimpArgs false

abbrev T_FLater : Tab := [(9, .pu c_fhead), (10, .pu c_rFewE), (11, .pu c_fAt), (13, .pu c_rSameF), (18, .pu c_sAppend)]
theorem T_FLater_ok : TOk Tryd.prog T_FLater := ⟨ok_fhead, ok_rFewE, ok_fAt, ok_rSameF, ok_sAppend, trivial⟩
theorem v_FLater (s : Int) (l : List En) (h t k a b c g n : Int) : (vcPu L T_FLater Tryd.f5 [0, 1, 2, 3, 4, 6, 7, 8, 9, 10, 11, 12, 13, 14, 26, 35] (fun _ _ => none) [LG s l h, E t k a b c g, I n] (.t (B true))).holds = P_FLater s l h t k a b c g n := by kernel_rfl
theorem w_FLater (s : Int) (l : List En) (h t k a b c g n : Int) (h_0 : InI64 s) (h_1 : inE l) (h_2 : InI64 t) (h_3 : 0 ≤ g ∧ g < 18446744073709551616) : (vcPu L T_FLater Tryd.f5 [0, 1, 2, 3, 4, 6, 7, 8, 9, 10, 11, 12, 13, 14, 26, 35] (fun _ _ => none) [LG s l h, E t k a b c g, I n] (.t (B true))).holds ∧ True := by
  rw [v_FLater]
  exact ⟨p_FLater s l h t k a b c g n h_0 h_1 h_2 h_3, trivial⟩
theorem ok_FLater : FnOk Tryd.prog 5 (CE.pu c_FLater).con := fnPuR T_FLater c_FLater L_ok T_FLater_ok mixed Tryd.func5 (by kernel_rfl) (by kernel_rfl) fun args cs r h hcs => by
  unfold c_FLater at h
  split at h
  · rename_i s l h t k a b c g n
    injection h with h; injection h with h1 h2; subst h1 h2
    exact ⟨[0, 1, 2, 3, 4, 6, 7, 8, 9, 10, 11, 12, 13, 14, 26, 35], (fun _ _ => none), (fun _ _ => none), rfl, rfl, rfl, (by apply And.left (b := True); exact w_FLater s l h t k a b c g n (hcs _ (.head _)) (hcs _ (.tail _ (.head _))) (hcs _ (.tail _ (.tail _ (.head _)))) (hcs _ (.tail _ (.tail _ (.tail _ (.head _))))))⟩
  · cases h
end Go.Proofs.YtfbbkknfcmofcaaDoor
