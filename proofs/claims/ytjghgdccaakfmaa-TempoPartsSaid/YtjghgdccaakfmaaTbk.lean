/- The functions meet their contracts. Written by a program (wip/tools/gen.py). -/
import Derived.Test.YtjghgdccaakfmaaTbq
import Derived.Test.YtjghgdccaakfmaaMeterk
import Derived.Test.YtjghgdccaakfmaaFormk
import Derived.Test.YtjghgdccaakfmaaTempok
import Derived.Test.YtjghgdccaakfmaaTlk
namespace Go.Proofs.Ytjghgdccaakfmaa
open Go.Sy Go.RatLaw
set_option linter.unusedVariables false
set_option maxHeartbeats 4000000
set_option linter.unusedSimpArgs false

abbrev T_TParts : Tab := [(9, .pu c_thead), (15, .pu c_tSeconds), (19, .pu c_tusable), (20, .pu c_Position), (21, .pu cRatOf), (22, .pu (cBin addR))]
theorem T_TParts_ok : TOk Try.prog T_TParts := ⟨ok_thead, ok_tSeconds, ok_tusable, ok_Position, ok21, ok22, trivial⟩
theorem v_TParts (bars : List Bar) (l : List T3) (pb pn pd qb qn qd rb rn rd : Int) : (vcPu L T_TParts Try.f4 [0, 1, 2, 3, 4, 7, 8, 9, 10, 11, 12, 13, 14, 15, 16, 17, 18, 19, 20, 21, 23, 46, 98, 108, 148] (fun _ _ => none) [BL bars, L3 l, Po pb pn pd, Po qb qn qd, Po rb rn rd] (.t (B true))).holds = P_TParts bars l pb pn pd qb qn qd rb rn rd := by kernel_rfl
theorem w_TParts (bars : List Bar) (l : List T3) (pb pn pd qb qn qd rb rn rd : Int)  : (vcPu L T_TParts Try.f4 [0, 1, 2, 3, 4, 7, 8, 9, 10, 11, 12, 13, 14, 15, 16, 17, 18, 19, 20, 21, 23, 46, 98, 108, 148] (fun _ _ => none) [BL bars, L3 l, Po pb pn pd, Po qb qn qd, Po rb rn rd] (.t (B true))).holds ∧ True := by
  rw [v_TParts]
  exact ⟨p_TParts bars l pb pn pd qb qn qd rb rn rd , trivial⟩
theorem ok_TParts : FnOk Try.prog 4 (CE.pu c_TParts).con := fnPuR T_TParts c_TParts L_ok T_TParts_ok mixed Try.func4 (by kernel_rfl) (by kernel_rfl) fun args cs r h hcs => by
  unfold c_TParts at h
  split at h
  · rename_i bars l pb pn pd qb qn qd rb rn rd
    injection h with h; injection h with h1 h2; subst h1 h2
    exact ⟨[0, 1, 2, 3, 4, 7, 8, 9, 10, 11, 12, 13, 14, 15, 16, 17, 18, 19, 20, 21, 23, 46, 98, 108, 148], (fun _ _ => none), (fun _ _ => none), rfl, rfl, rfl, (by apply And.left (b := True); exact w_TParts bars l pb pn pd qb qn qd rb rn rd)⟩
  · cases h
end Go.Proofs.Ytjghgdccaakfmaa
