/- The functions meet their contracts. Written by a program (wip/tools/gen.py). -/
import Derived.Test.YtjghgdccaakfmaaTcq
import Derived.Test.YtjghgdccaakfmaaMeterk
import Derived.Test.YtjghgdccaakfmaaFormk
import Derived.Test.YtjghgdccaakfmaaTempok
import Derived.Test.YtjghgdccaakfmaaTlk
namespace Go.Proofs.Ytjghgdccaakfmaa
open Go.Sy Go.RatLaw
set_option linter.unusedVariables false
set_option maxHeartbeats 4000000
set_option linter.unusedSimpArgs false

abbrev T_TConstant : Tab := [(9, .pu c_thead), (15, .pu c_tSeconds), (19, .pu c_tusable), (24, .pu c_mTime), (25, .pu (cBin subR)), (26, .pu (cBin mulR))]
theorem T_TConstant_ok : TOk Try.prog T_TConstant := ⟨ok_thead, ok_tSeconds, ok_tusable, ok_mTime, ok25, ok26, trivial⟩
theorem v_TConstant (bars : List Bar) (g a d pb pn pd qb qn qd : Int) : (vcPu L T_TConstant Try.f7 [0, 1, 2, 3, 5, 6, 7, 8, 9, 10, 11, 12, 13, 14, 15, 16, 17, 18, 19, 20, 27, 38] (fun _ _ => none) [BL bars, T g a d, Po pb pn pd, Po qb qn qd] (.t (B true))).holds = P_TConstant bars g a d pb pn pd qb qn qd := by kernel_rfl
theorem w_TConstant (bars : List Bar) (g a d pb pn pd qb qn qd : Int)  : (vcPu L T_TConstant Try.f7 [0, 1, 2, 3, 5, 6, 7, 8, 9, 10, 11, 12, 13, 14, 15, 16, 17, 18, 19, 20, 27, 38] (fun _ _ => none) [BL bars, T g a d, Po pb pn pd, Po qb qn qd] (.t (B true))).holds ∧ True := by
  rw [v_TConstant]
  exact ⟨p_TConstant bars g a d pb pn pd qb qn qd , trivial⟩
theorem ok_TConstant : FnOk Try.prog 7 (CE.pu c_TConstant).con := fnPuR T_TConstant c_TConstant L_ok T_TConstant_ok mixed Try.func7 (by kernel_rfl) (by kernel_rfl) fun args cs r h hcs => by
  unfold c_TConstant at h
  split at h
  · rename_i bars g a d pb pn pd qb qn qd
    injection h with h; injection h with h1 h2; subst h1 h2
    exact ⟨[0, 1, 2, 3, 5, 6, 7, 8, 9, 10, 11, 12, 13, 14, 15, 16, 17, 18, 19, 20, 27, 38], (fun _ _ => none), (fun _ _ => none), rfl, rfl, rfl, (by apply And.left (b := True); exact w_TConstant bars g a d pb pn pd qb qn qd)⟩
  · cases h
end Go.Proofs.Ytjghgdccaakfmaa
