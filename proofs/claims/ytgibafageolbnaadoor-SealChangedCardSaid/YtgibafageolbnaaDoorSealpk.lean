/- The functions meet their contracts. Written by a program (wip/tools/gen.py). -/
import Derived.Test.YtgibafageolbnaaDoorSealpq
import Derived.Test.YtgibafageolbnaaDoorDigestk
import Derived.Test.YtgibafageolbnaaDoorMarksk
import Derived.Test.YtgibafageolbnaaDoorSealk
import Derived.Test.YtgibafageolbnaaDoorSeallk
namespace Go.Proofs.YtgibafageolbnaaDoor
open Go.Sy Go.RatLaw
set_option linter.unusedVariables false
set_option maxHeartbeats 4000000
set_option linter.unusedSimpArgs false

abbrev T_SChanged : Tab := [(9, .pu c_shead), (10, .pu c_rFewE), (13, .pu c_sValid), (14, .pu c_rValidL), (25, .pu c_schanged)]
theorem T_SChanged_ok : TOk Tryd.prog T_SChanged := ⟨ok_shead, ok_rFewE, ok_sValid, ok_rValidL, ok_schanged, trivial⟩
theorem v_SChanged (s : Int) (l : List En) (h w y : Int) : (vcPu (LV [] [31] false) T_SChanged Tryd.f6 [0, 1, 2, 3, 6, 7, 8, 9, 25, 32, 46] (fun _ _ => none) [LG s l h, U8 w, U8 y] (.t (B true)) (fun i _ => if i = 8 then some { sg := [], go := { go := fun _ => true }, sp := some (9, 1, []) } else none)).holds = P_SChanged s l h w y := by kernel_rfl
theorem w_SChanged (s : Int) (l : List En) (h w y : Int) (h_0 : InI64 s) (h_1 : inE l) (h_2 : 0 ≤ w ∧ w ≤ 255) (h_3 : 0 ≤ y ∧ y ≤ 255) : (vcPu (LV [] [31] false) T_SChanged Tryd.f6 [0, 1, 2, 3, 6, 7, 8, 9, 25, 32, 46] (fun _ _ => none) [LG s l h, U8 w, U8 y] (.t (B true)) (fun i _ => if i = 8 then some { sg := [], go := { go := fun _ => true }, sp := some (9, 1, []) } else none)).holds ∧ True := by
  rw [v_SChanged]
  exact ⟨p_SChanged s l h w y h_0 h_1 h_2 h_3, trivial⟩
theorem ok_SChanged : FnOk Tryd.prog 6 (CE.pu c_SChanged).con := fnPuR T_SChanged c_SChanged (LV_ok [] [31] false) T_SChanged_ok mixed Tryd.func6 (by kernel_rfl) (by kernel_rfl) fun args cs r h hcs => by
  unfold c_SChanged at h
  split at h
  · rename_i s l h w y
    injection h with h; injection h with h1 h2; subst h1 h2
    exact ⟨[0, 1, 2, 3, 6, 7, 8, 9, 25, 32, 46], (fun _ _ => none), (fun i _ => if i = 8 then some { sg := [], go := { go := fun _ => true }, sp := some (9, 1, []) } else none), rfl, rfl, rfl, (by apply And.left (b := True); exact w_SChanged s l h w y (hcs _ (.head _)) (hcs _ (.tail _ (.head _))) (hcs _ (.tail _ (.tail _ (.head _)))) (hcs _ (.tail _ (.tail _ (.tail _ (.head _))))))⟩
  · cases h
end Go.Proofs.YtgibafageolbnaaDoor
