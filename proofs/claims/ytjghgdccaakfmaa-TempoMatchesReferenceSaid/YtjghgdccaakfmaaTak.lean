/- The functions meet their contracts. Written by a program (wip/tools/gen.py). -/
import Derived.Test.YtjghgdccaakfmaaTaq
import Derived.Test.YtjghgdccaakfmaaMeterk
import Derived.Test.YtjghgdccaakfmaaFormk
import Derived.Test.YtjghgdccaakfmaaTempok
import Derived.Test.YtjghgdccaakfmaaTlk
namespace Go.Proofs.Ytjghgdccaakfmaa
open Go.Sy Go.RatLaw
set_option linter.unusedVariables false
set_option maxHeartbeats 4000000
set_option linter.unusedSimpArgs false

abbrev T_TMatches : Tab := [(9, .pu c_thead), (10, .pu c_tFew), (11, .pu c_tAt0), (12, .pu c_rAt0), (13, .pu c_tValid), (14, .pu c_rTValid), (15, .pu c_tSeconds), (16, .pu c_rSeconds), (17, .pu c_tPlayed), (18, .pu c_rtPlayed)]
theorem T_TMatches_ok : TOk Try.prog T_TMatches := ⟨ok_thead, ok_tFew, ok_tAt0, ok_rAt0, ok_tValid, ok_rTValid, ok_tSeconds, ok_rSeconds, ok_tPlayed, ok_rtPlayed, trivial⟩
theorem v_TMatches (bars : List Bar) (l : List T3) (g pb pn pd qb qn qd : Int) (b : Int) (r e : List T3) (j t n : Int) (c : List T3) (x y : Int) : (vcPu L T_TMatches Try.f3 [0, 1, 2, 3, 4, 5, 6, 7, 11, 12, 13, 16, 17, 18, 19, 20, 21, 27] (fun _ _ => none) [BL bars, L3 l, I g, Po pb pn pd, Po qb qn qd, F b r e j t n c, I x, I y] (.t (B true))).holds = P_TMatches bars l g pb pn pd qb qn qd b r e j t n c x y := by kernel_rfl
theorem w_TMatches (bars : List Bar) (l : List T3) (g pb pn pd qb qn qd : Int) (b : Int) (r e : List T3) (j t n : Int) (c : List T3) (x y : Int)  : (vcPu L T_TMatches Try.f3 [0, 1, 2, 3, 4, 5, 6, 7, 11, 12, 13, 16, 17, 18, 19, 20, 21, 27] (fun _ _ => none) [BL bars, L3 l, I g, Po pb pn pd, Po qb qn qd, F b r e j t n c, I x, I y] (.t (B true))).holds ∧ True := by
  rw [v_TMatches]
  exact ⟨p_TMatches bars l g pb pn pd qb qn qd b r e j t n c x y , trivial⟩
theorem ok_TMatches : FnOk Try.prog 3 (CE.pu c_TMatches).con := fnPuR T_TMatches c_TMatches L_ok T_TMatches_ok mixed Try.func3 (by kernel_rfl) (by kernel_rfl) fun args cs r h hcs => by
  unfold c_TMatches at h
  split at h
  · rename_i bars l g pb pn pd qb qn qd b r e j t n c x y
    injection h with h; injection h with h1 h2; subst h1 h2
    exact ⟨[0, 1, 2, 3, 4, 5, 6, 7, 11, 12, 13, 16, 17, 18, 19, 20, 21, 27], (fun _ _ => none), (fun _ _ => none), rfl, rfl, rfl, (by apply And.left (b := True); exact w_TMatches bars l g pb pn pd qb qn qd b r e j t n c x y)⟩
  · cases h
end Go.Proofs.Ytjghgdccaakfmaa
