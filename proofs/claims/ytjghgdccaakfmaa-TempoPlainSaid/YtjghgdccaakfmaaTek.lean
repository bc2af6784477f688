/- The functions meet their contracts. Written by a program (wip/tools/gen.py). -/
import Derived.Test.YtjghgdccaakfmaaTeq
import Derived.Test.YtjghgdccaakfmaaMeterk
import Derived.Test.YtjghgdccaakfmaaFormk
import Derived.Test.YtjghgdccaakfmaaTempok
import Derived.Test.YtjghgdccaakfmaaTlk
namespace Go.Proofs.Ytjghgdccaakfmaa
open Go.Sy Go.RatLaw
set_option linter.unusedVariables false
set_option maxHeartbeats 4000000
set_option linter.unusedSimpArgs false

abbrev T_TPlain : Tab := [(9, .pu c_thead), (15, .pu c_tSeconds), (17, .pu c_tPlayed), (19, .pu c_tusable), (21, .pu cRatOf)]
theorem T_TPlain_ok : TOk Try.prog T_TPlain := ⟨ok_thead, ok_tSeconds, ok_tPlayed, ok_tusable, ok21, trivial⟩
theorem v_TPlain (bars : List Bar) (l : List T3) (v w : Int) : (vcPu L T_TPlain Try.f5 [0, 1, 2, 3, 8, 9, 10, 11, 12, 13, 14, 15, 16, 21] (fun _ _ => none) [BL bars, L3 l, U8 v, U8 w] (.t (B true))).holds = P_TPlain bars l v w := by kernel_rfl
theorem w_TPlain (bars : List Bar) (l : List T3) (v w : Int) (h_0 : 0 ≤ v) (h_1 : v ≤ 255) (h_2 : 0 ≤ w) (h_3 : w ≤ 255) : (vcPu L T_TPlain Try.f5 [0, 1, 2, 3, 8, 9, 10, 11, 12, 13, 14, 15, 16, 21] (fun _ _ => none) [BL bars, L3 l, U8 v, U8 w] (.t (B true))).holds ∧ True := by
  rw [v_TPlain]
  exact ⟨p_TPlain bars l v w h_0 h_1 h_2 h_3, trivial⟩
theorem ok_TPlain : FnOk Try.prog 5 (CE.pu c_TPlain).con := fnPuR T_TPlain c_TPlain L_ok T_TPlain_ok mixed Try.func5 (by kernel_rfl) (by kernel_rfl) fun args cs r h hcs => by
  unfold c_TPlain at h
  split at h
  · rename_i bars l v w
    injection h with h; injection h with h1 h2; subst h1 h2
    exact ⟨[0, 1, 2, 3, 8, 9, 10, 11, 12, 13, 14, 15, 16, 21], (fun _ _ => none), (fun _ _ => none), rfl, rfl, rfl, (by apply And.left (b := True); exact w_TPlain bars l v w (hcs _ (.head _)) (hcs _ (.tail _ (.head _))) (hcs _ (.tail _ (.tail _ (.head _)))) (hcs _ (.tail _ (.tail _ (.tail _ (.head _))))))⟩
  · cases h
end Go.Proofs.Ytjghgdccaakfmaa
