/- The functions meet their contracts. Written by a program (wip/tools/gen.py). -/
import Derived.Test.YtjghgdccaakfmaaTdq
import Derived.Test.YtjghgdccaakfmaaMeterk
import Derived.Test.YtjghgdccaakfmaaFormk
import Derived.Test.YtjghgdccaakfmaaTempok
import Derived.Test.YtjghgdccaakfmaaTlk
namespace Go.Proofs.Ytjghgdccaakfmaa
open Go.Sy Go.RatLaw
set_option linter.unusedVariables false
set_option maxHeartbeats 4000000
set_option linter.unusedSimpArgs false

abbrev T_TPlayed : Tab := [(9, .pu c_thead), (15, .pu c_tSeconds), (17, .pu c_tPlayed), (19, .pu c_tusable), (21, .pu cRatOf), (27, .pu c_few), (28, .pu c_unfold), (29, .pu cSum)]
theorem T_TPlayed_ok : TOk Try.prog T_TPlayed := ⟨ok_thead, ok_tSeconds, ok_tPlayed, ok_tusable, ok21, ok_few, ok_unfold, ok29, trivial⟩
theorem v_TPlayed (bars : List Bar) (l : List T3) (b : Int) (r e : List T3) (j t n : Int) (c : List T3) (w : Int) : (vcPu L T_TPlayed Try.f8 [0, 1, 2, 3, 6, 8, 9, 10, 11, 12, 13, 14, 15, 16, 17, 18, 19, 20, 21, 22, 23, 24, 25, 26, 27, 44, 57, 114, 139, 149] (fun _ _ => none) [BL bars, L3 l, F b r e j t n c, U16 w] (.t (B true))).holds = P_TPlayed bars l b r e j t n c w := by kernel_rfl
theorem w_TPlayed (bars : List Bar) (l : List T3) (b : Int) (r e : List T3) (j t n : Int) (c : List T3) (w : Int) (h_0 : 0 ≤ w) (h_1 : w ≤ 65535) : (vcPu L T_TPlayed Try.f8 [0, 1, 2, 3, 6, 8, 9, 10, 11, 12, 13, 14, 15, 16, 17, 18, 19, 20, 21, 22, 23, 24, 25, 26, 27, 44, 57, 114, 139, 149] (fun _ _ => none) [BL bars, L3 l, F b r e j t n c, U16 w] (.t (B true))).holds ∧ True := by
  rw [v_TPlayed]
  exact ⟨p_TPlayed bars l b r e j t n c w h_0 h_1, trivial⟩
theorem ok_TPlayed : FnOk Try.prog 8 (CE.pu c_TPlayed).con := fnPuR T_TPlayed c_TPlayed L_ok T_TPlayed_ok mixed Try.func8 (by kernel_rfl) (by kernel_rfl) fun args cs r h hcs => by
  unfold c_TPlayed at h
  split at h
  · rename_i bars l b r e j t n c w
    injection h with h; injection h with h1 h2; subst h1 h2
    exact ⟨[0, 1, 2, 3, 6, 8, 9, 10, 11, 12, 13, 14, 15, 16, 17, 18, 19, 20, 21, 22, 23, 24, 25, 26, 27, 44, 57, 114, 139, 149], (fun _ _ => none), (fun _ _ => none), rfl, rfl, rfl, (by apply And.left (b := True); exact w_TPlayed bars l b r e j t n c w (hcs _ (.head _)) (hcs _ (.tail _ (.head _))))⟩
  · cases h
end Go.Proofs.Ytjghgdccaakfmaa
