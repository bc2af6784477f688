/- The functions meet their contracts. Written by a program (wip/tools/gen.py). -/
import Derived.Test.YtjghgdccaakfmaaTlq
import Derived.Test.YtjghgdccaakfmaaMeterk
import Derived.Test.YtjghgdccaakfmaaFormk
import Derived.Test.YtjghgdccaakfmaaTempok
namespace Go.Proofs.Ytjghgdccaakfmaa
open Go.Sy Go.RatLaw
set_option linter.unusedVariables false
set_option maxHeartbeats 4000000
set_option linter.unusedSimpArgs false

abbrev T_thead : Tab := [(11, .pu c_tAt0), (13, .pu c_tValid), (15, .pu c_tSeconds), (17, .pu c_tPlayed), (21, .pu cRatOf)]
theorem T_thead_ok : TOk Try.prog T_thead := ⟨ok_tAt0, ok_tValid, ok_tSeconds, ok_tPlayed, ok21, trivial⟩
theorem v_thead  : (vcPu L T_thead Try.f9 [0, 1, 2, 3, 4, 5, 6, 7, 8, 9, 10, 11, 13, 14] (fun _ _ => none) [] (.t (B true))).holds = P_thead  := by kernel_rfl
theorem w_thead   : (vcPu L T_thead Try.f9 [0, 1, 2, 3, 4, 5, 6, 7, 8, 9, 10, 11, 13, 14] (fun _ _ => none) [] (.t (B true))).holds ∧ True := by
  rw [v_thead]
  exact ⟨p_thead  , trivial⟩
theorem ok_thead : FnOk Try.prog 9 (CE.pu c_thead).con := fnPuR T_thead c_thead L_ok T_thead_ok mixed Try.func9 (by kernel_rfl) (by kernel_rfl) fun args cs r h hcs => by
  unfold c_thead at h
  split at h
  · skip
    injection h with h; injection h with h1 h2; subst h1 h2
    exact ⟨[0, 1, 2, 3, 4, 5, 6, 7, 8, 9, 10, 11, 13, 14], (fun _ _ => none), (fun _ _ => none), rfl, rfl, rfl, (by apply And.left (b := True); exact w_thead )⟩
  · cases h
abbrev T_tusable : Tab := [(14, .pu c_rTValid)]
theorem T_tusable_ok : TOk Try.prog T_tusable := ⟨ok_rTValid, trivial⟩
theorem v_tusable (bars : List Bar) (l : List T3) : (vcPu L T_tusable Try.f19 [0, 1, 4] (fun _ _ => none) [BL bars, L3 l] (.t (B (usableT bars l)))).holds = P_tusable bars l := by kernel_rfl
theorem w_tusable (bars : List Bar) (l : List T3)  : (vcPu L T_tusable Try.f19 [0, 1, 4] (fun _ _ => none) [BL bars, L3 l] (.t (B (usableT bars l)))).holds ∧ True := by
  rw [v_tusable]
  exact ⟨p_tusable bars l , trivial⟩
theorem ok_tusable : FnOk Try.prog 19 (CE.pu c_tusable).con := fnPuR T_tusable c_tusable L_ok T_tusable_ok mixed Try.func19 (by kernel_rfl) (by kernel_rfl) fun args cs r h hcs => by
  unfold c_tusable at h
  split at h
  · rename_i bars l
    injection h with h; injection h with h1 h2; subst h1 h2
    exact ⟨[0, 1, 4], (fun _ _ => none), (fun _ _ => none), rfl, rfl, rfl, (by apply And.left (b := True); exact w_tusable bars l)⟩
  · cases h
end Go.Proofs.Ytjghgdccaakfmaa
