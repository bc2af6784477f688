/- The functions meet their contracts. Written by a program (wip/tools/gen.py). -/
import Derived.Test.YtgibafageolbnaaDoorSealnq
import Derived.Test.YtgibafageolbnaaDoorDigestk
import Derived.Test.YtgibafageolbnaaDoorMarksk
import Derived.Test.YtgibafageolbnaaDoorSealk
import Derived.Test.YtgibafageolbnaaDoorSeallk
namespace Go.Proofs.YtgibafageolbnaaDoor
open Go.Sy Go.RatLaw
set_option linter.unusedVariables false
set_option maxHeartbeats 4000000
set_option linter.unusedSimpArgs false

abbrev T_SAppends : Tab := [(9, .pu c_shead), (13, .pu c_sValid), (14, .pu c_rValidL), (15, .pu c_sAppend), (17, .pu c_rSame), (18, .pu c_sBegins), (20, .pu c_rEntry), (21, .pu c_chain), (22, .pu c_next), (23, .pu c_rInts)]
theorem T_SAppends_ok : TOk Tryd.prog T_SAppends := ⟨ok_shead, ok_sValid, ok_rValidL, ok_sAppend, ok_rSame, ok_sBegins, ok_rEntry, ok_chain, ok_next, ok_rInts, trivial⟩
theorem v_SAppends (s : Int) (l : List En) (h t k a b c g : Int) : (vcPu L T_SAppends Tryd.f4 [0, 1, 2, 3, 4, 5, 6, 7, 8, 9, 10, 11, 12, 22, 31, 83] (fun _ _ => none) [LG s l h, E t k a b c g] (.t (B true))).holds = P_SAppends s l h t k a b c g := by kernel_rfl
theorem w_SAppends (s : Int) (l : List En) (h t k a b c g : Int) (h_0 : InI64 s) (h_1 : inE l) (h_2 : InI64 t ∧ InI64 k ∧ InI64 a ∧ InI64 b ∧ InI64 c) (h_3 : 0 ≤ g ∧ g < 18446744073709551616) : (vcPu L T_SAppends Tryd.f4 [0, 1, 2, 3, 4, 5, 6, 7, 8, 9, 10, 11, 12, 22, 31, 83] (fun _ _ => none) [LG s l h, E t k a b c g] (.t (B true))).holds ∧ True := by
  rw [v_SAppends]
  exact ⟨p_SAppends s l h t k a b c g h_0 h_1 h_2 h_3, trivial⟩
theorem ok_SAppends : FnOk Tryd.prog 4 (CE.pu c_SAppends).con := fnPuR T_SAppends c_SAppends L_ok T_SAppends_ok mixed Tryd.func4 (by kernel_rfl) (by kernel_rfl) fun args cs r h hcs => by
  unfold c_SAppends at h
  split at h
  · rename_i s l h t k a b c g
    injection h with h; injection h with h1 h2; subst h1 h2
    exact ⟨[0, 1, 2, 3, 4, 5, 6, 7, 8, 9, 10, 11, 12, 22, 31, 83], (fun _ _ => none), (fun _ _ => none), rfl, rfl, rfl, (by apply And.left (b := True); exact w_SAppends s l h t k a b c g (hcs _ (.head _)) (hcs _ (.tail _ (.head _))) (hcs _ (.tail _ (.tail _ (.head _)))) (hcs _ (.tail _ (.tail _ (.tail _ (.head _))))))⟩
  · cases h
end Go.Proofs.YtgibafageolbnaaDoor
