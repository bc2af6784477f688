/- The functions meet their contracts. Written by a program (wip/tools/gen.py). -/
import Derived.Test.YtgibafageolbnaaDoorSealmq
import Derived.Test.YtgibafageolbnaaDoorDigestk
import Derived.Test.YtgibafageolbnaaDoorMarksk
import Derived.Test.YtgibafageolbnaaDoorSealk
import Derived.Test.YtgibafageolbnaaDoorSeallk
namespace Go.Proofs.YtgibafageolbnaaDoor
open Go.Sy Go.RatLaw
set_option linter.unusedVariables false
set_option maxHeartbeats 4000000
set_option linter.unusedSimpArgs false

abbrev T_SMatches : Tab := [(9, .pu c_shead), (10, .pu c_rFewE), (11, .pu c_sSeal), (12, .pu c_rSeal), (13, .pu c_sValid), (14, .pu c_rValidL), (15, .pu c_sAppend), (16, .pu c_rAppend), (17, .pu c_rSame), (18, .pu c_sBegins), (19, .pu c_rBegins)]
theorem T_SMatches_ok : TOk Tryd.prog T_SMatches := ⟨ok_shead, ok_rFewE, ok_sSeal, ok_rSeal, ok_sValid, ok_rValidL, ok_sAppend, ok_rAppend, ok_rSame, ok_sBegins, ok_rBegins, trivial⟩
theorem v_SMatches (id kind y p d s ver note val : Int) (q : ByteArray) (x s1 : Int) (l1 : List En) (h1 s2 : Int) (l2 : List En) (h2 t k a b c g : Int) : (vcPu L T_SMatches Tryd.f3 [0, 1, 2, 3, 4, 5, 7, 8, 9, 10, 11, 12, 13, 14, 15, 16, 17, 18, 19, 28] (fun _ _ => none) [M id kind y p d s ver note val q, I x, LG s1 l1 h1, LG s2 l2 h2, E t k a b c g] (.t (B true))).holds = P_SMatches id kind y p d s ver note val q x s1 l1 h1 s2 l2 h2 t k a b c g := by kernel_rfl
theorem w_SMatches (id kind y p d s ver note val : Int) (q : ByteArray) (x s1 : Int) (l1 : List En) (h1 s2 : Int) (l2 : List En) (h2 t k a b c g : Int) (h_0 : InI64 s1) (h_1 : inE l1) (h_2 : InI64 s2) (h_3 : inE l2) (h_4 : InI64 t) (h_5 : 0 ≤ g ∧ g < 18446744073709551616) : (vcPu L T_SMatches Tryd.f3 [0, 1, 2, 3, 4, 5, 7, 8, 9, 10, 11, 12, 13, 14, 15, 16, 17, 18, 19, 28] (fun _ _ => none) [M id kind y p d s ver note val q, I x, LG s1 l1 h1, LG s2 l2 h2, E t k a b c g] (.t (B true))).holds ∧ True := by
  rw [v_SMatches]
  exact ⟨p_SMatches id kind y p d s ver note val q x s1 l1 h1 s2 l2 h2 t k a b c g h_0 h_1 h_2 h_3 h_4 h_5, trivial⟩
theorem ok_SMatches : FnOk Tryd.prog 3 (CE.pu c_SMatches).con := fnPuR T_SMatches c_SMatches L_ok T_SMatches_ok mixed Tryd.func3 (by kernel_rfl) (by kernel_rfl) fun args cs r h hcs => by
  unfold c_SMatches at h
  split at h
  · rename_i id kind y p d s ver note val q x s1 l1 h1 s2 l2 h2 t k a b c g
    injection h with h; injection h with h1 h2; subst h1 h2
    exact ⟨[0, 1, 2, 3, 4, 5, 7, 8, 9, 10, 11, 12, 13, 14, 15, 16, 17, 18, 19, 28], (fun _ _ => none), (fun _ _ => none), rfl, rfl, rfl, (by apply And.left (b := True); exact w_SMatches id kind y p d s ver note val q x s1 l1 h1 s2 l2 h2 t k a b c g (hcs _ (.head _)) (hcs _ (.tail _ (.head _))) (hcs _ (.tail _ (.tail _ (.head _)))) (hcs _ (.tail _ (.tail _ (.tail _ (.head _))))) (hcs _ (.tail _ (.tail _ (.tail _ (.tail _ (.head _)))))) (hcs _ (.tail _ (.tail _ (.tail _ (.tail _ (.tail _ (.head _))))))))⟩
  · cases h
end Go.Proofs.YtgibafageolbnaaDoor
