/- The functions meet their contracts. Written by a program (wip/tools/gen.py). -/
import Derived.Test.YtgibafageolbnaaDoorSealoq
import Derived.Test.YtgibafageolbnaaDoorDigestk
import Derived.Test.YtgibafageolbnaaDoorMarksk
import Derived.Test.YtgibafageolbnaaDoorSealk
import Derived.Test.YtgibafageolbnaaDoorSeallk
namespace Go.Proofs.YtgibafageolbnaaDoor
open Go.Sy Go.RatLaw
set_option linter.unusedVariables false
set_option maxHeartbeats 4000000
set_option linter.unusedSimpArgs false

abbrev T_SBegins : Tab := [(9, .pu c_shead), (10, .pu c_rFewE), (14, .pu c_rValidL), (17, .pu c_rSame), (18, .pu c_sBegins), (24, .pu c_rChainE)]
theorem T_SBegins_ok : TOk Tryd.prog T_SBegins := ⟨ok_shead, ok_rFewE, ok_rValidL, ok_rSame, ok_sBegins, ok_rChainE, trivial⟩
theorem v_SBegins (s1 : Int) (l1 : List En) (h1 s2 : Int) (l2 : List En) (h2 s3 : Int) (l3 : List En) (h3 : Int) (n : Int) : (vcPu L T_SBegins Tryd.f5 [0, 1, 2, 3, 4, 5, 6, 8, 9, 10, 11, 12, 13, 14, 15, 16, 17, 18, 19, 20, 21, 22, 23, 52, 105, 125] (fun _ _ => none) [LG s1 l1 h1, LG s2 l2 h2, LG s3 l3 h3, U8 n] (.t (B true))).holds = P_SBegins s1 l1 h1 s2 l2 h2 s3 l3 h3 n := by kernel_rfl
theorem w_SBegins (s1 : Int) (l1 : List En) (h1 s2 : Int) (l2 : List En) (h2 s3 : Int) (l3 : List En) (h3 : Int) (n : Int) (h_0 : InI64 s1) (h_1 : inE l1) (h_2 : InI64 s2) (h_3 : inE l2) (h_4 : InI64 s3) (h_5 : inE l3) (h_6 : 0 ≤ n ∧ n ≤ 255) : (vcPu L T_SBegins Tryd.f5 [0, 1, 2, 3, 4, 5, 6, 8, 9, 10, 11, 12, 13, 14, 15, 16, 17, 18, 19, 20, 21, 22, 23, 52, 105, 125] (fun _ _ => none) [LG s1 l1 h1, LG s2 l2 h2, LG s3 l3 h3, U8 n] (.t (B true))).holds ∧ True := by
  rw [v_SBegins]
  exact ⟨p_SBegins s1 l1 h1 s2 l2 h2 s3 l3 h3 n h_0 h_1 h_2 h_3 h_4 h_5 h_6, trivial⟩
theorem ok_SBegins : FnOk Tryd.prog 5 (CE.pu c_SBegins).con := fnPuR T_SBegins c_SBegins L_ok T_SBegins_ok mixed Tryd.func5 (by kernel_rfl) (by kernel_rfl) fun args cs r h hcs => by
  unfold c_SBegins at h
  split at h
  · rename_i s1 l1 h1 s2 l2 h2 s3 l3 h3 n
    injection h with h; injection h with h1 h2; subst h1 h2
    exact ⟨[0, 1, 2, 3, 4, 5, 6, 8, 9, 10, 11, 12, 13, 14, 15, 16, 17, 18, 19, 20, 21, 22, 23, 52, 105, 125], (fun _ _ => none), (fun _ _ => none), rfl, rfl, rfl, (by apply And.left (b := True); exact w_SBegins s1 l1 h1 s2 l2 h2 s3 l3 h3 n (hcs _ (.head _)) (hcs _ (.tail _ (.head _))) (hcs _ (.tail _ (.tail _ (.head _)))) (hcs _ (.tail _ (.tail _ (.tail _ (.head _))))) (hcs _ (.tail _ (.tail _ (.tail _ (.tail _ (.head _)))))) (hcs _ (.tail _ (.tail _ (.tail _ (.tail _ (.tail _ (.head _))))))) (hcs _ (.tail _ (.tail _ (.tail _ (.tail _ (.tail _ (.tail _ (.head _)))))))))⟩
  · cases h
end Go.Proofs.YtgibafageolbnaaDoor
