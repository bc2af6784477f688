/- The functions meet their contracts. Written by a program (wip/tools/gen.py). -/
import Derived.Test.YtgibafageolbnaaDoorSealrq
import Derived.Test.YtgibafageolbnaaDoorDigestk
import Derived.Test.YtgibafageolbnaaDoorMarksk
import Derived.Test.YtgibafageolbnaaDoorSealk
import Derived.Test.YtgibafageolbnaaDoorSeallk
namespace Go.Proofs.YtgibafageolbnaaDoor
open Go.Sy Go.RatLaw
set_option linter.unusedVariables false
set_option maxHeartbeats 4000000
set_option linter.unusedSimpArgs false

abbrev T_SForks : Tab := [(9, .pu c_shead), (14, .pu c_rValidL), (15, .pu c_sAppend), (18, .pu c_sBegins), (25, .pu c_schanged)]
theorem T_SForks_ok : TOk Tryd.prog T_SForks := ⟨ok_shead, ok_rValidL, ok_sAppend, ok_sBegins, ok_schanged, trivial⟩
theorem v_SForks (s : Int) (l : List En) (h t k a b c g w y : Int) : (vcPu L T_SForks Tryd.f8 [0, 1, 2, 3, 4, 5, 8, 9, 10, 11, 12, 13, 14, 15, 16, 17, 18, 28, 56] (fun _ _ => none) [LG s l h, E t k a b c g, U8 w, U8 y] (.t (B true))).holds = P_SForks s l h t k a b c g w y := by kernel_rfl
theorem w_SForks (s : Int) (l : List En) (h t k a b c g w y : Int) (h_0 : InI64 s) (h_1 : inE l) (h_2 : InI64 t ∧ InI64 k ∧ InI64 a ∧ InI64 b ∧ InI64 c) (h_3 : 0 ≤ g ∧ g < 18446744073709551616) (h_4 : 0 ≤ w ∧ w ≤ 255) (h_5 : 0 ≤ y ∧ y ≤ 255) : (vcPu L T_SForks Tryd.f8 [0, 1, 2, 3, 4, 5, 8, 9, 10, 11, 12, 13, 14, 15, 16, 17, 18, 28, 56] (fun _ _ => none) [LG s l h, E t k a b c g, U8 w, U8 y] (.t (B true))).holds ∧ True := by
  rw [v_SForks]
  exact ⟨p_SForks s l h t k a b c g w y h_0 h_1 h_2 h_3 h_4 h_5, trivial⟩
theorem ok_SForks : FnOk Tryd.prog 8 (CE.pu c_SForks).con := fnPuR T_SForks c_SForks L_ok T_SForks_ok mixed Tryd.func8 (by kernel_rfl) (by kernel_rfl) fun args cs r h hcs => by
  unfold c_SForks at h
  split at h
  · rename_i s l h t k a b c g w y
    injection h with h; injection h with h1 h2; subst h1 h2
    exact ⟨[0, 1, 2, 3, 4, 5, 8, 9, 10, 11, 12, 13, 14, 15, 16, 17, 18, 28, 56], (fun _ _ => none), (fun _ _ => none), rfl, rfl, rfl, (by apply And.left (b := True); exact w_SForks s l h t k a b c g w y (hcs _ (.head _)) (hcs _ (.tail _ (.head _))) (hcs _ (.tail _ (.tail _ (.head _)))) (hcs _ (.tail _ (.tail _ (.tail _ (.head _))))) (hcs _ (.tail _ (.tail _ (.tail _ (.tail _ (.head _)))))) (hcs _ (.tail _ (.tail _ (.tail _ (.tail _ (.tail _ (.head _))))))))⟩
  · cases h
end Go.Proofs.YtgibafageolbnaaDoor
