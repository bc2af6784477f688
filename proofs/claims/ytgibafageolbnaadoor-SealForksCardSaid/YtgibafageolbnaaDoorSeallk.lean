/- The functions meet their contracts. Written by a program (wip/tools/gen.py). -/
import Derived.Test.YtgibafageolbnaaDoorSeallq
import Derived.Test.YtgibafageolbnaaDoorDigestk
import Derived.Test.YtgibafageolbnaaDoorMarksk
import Derived.Test.YtgibafageolbnaaDoorSealk
namespace Go.Proofs.YtgibafageolbnaaDoor
open Go.Sy Go.RatLaw
set_option linter.unusedVariables false
set_option maxHeartbeats 4000000
set_option linter.unusedSimpArgs false

abbrev T_shead : Tab := [(11, .pu c_sSeal), (13, .pu c_sValid), (15, .pu c_sAppend), (18, .pu c_sBegins), (21, .pu c_chain), (22, .pu c_next), (29, .pu c_sum)]
theorem T_shead_ok : TOk Tryd.prog T_shead := ⟨ok_sSeal, ok_sValid, ok_sAppend, ok_sBegins, ok_chain, ok_next, ok_sum, trivial⟩
theorem v_shead  : (vcPu L T_shead Tryd.f9 [0, 1, 2, 3, 4, 5, 6, 7, 8, 9, 11, 13, 15, 16] (fun _ _ => none) [] (.t (B true))).holds = P_shead  := by kernel_rfl
theorem w_shead   : (vcPu L T_shead Tryd.f9 [0, 1, 2, 3, 4, 5, 6, 7, 8, 9, 11, 13, 15, 16] (fun _ _ => none) [] (.t (B true))).holds ∧ True := by
  rw [v_shead]
  exact ⟨p_shead  , trivial⟩
theorem ok_shead : FnOk Tryd.prog 9 (CE.pu c_shead).con := fnPuR T_shead c_shead L_ok T_shead_ok mixed Tryd.func9 (by kernel_rfl) (by kernel_rfl) fun args cs r h hcs => by
  unfold c_shead at h
  split at h
  · skip
    injection h with h; injection h with h1 h2; subst h1 h2
    exact ⟨[0, 1, 2, 3, 4, 5, 6, 7, 8, 9, 11, 13, 15, 16], (fun _ _ => none), (fun _ _ => none), rfl, rfl, rfl, (by apply And.left (b := True); exact w_shead )⟩
  · cases h
abbrev T_sturned : Tab := []
theorem T_sturned_ok : TOk Tryd.prog T_sturned := trivial
theorem ok_sturned : FnOk Tryd.prog 28 (CE.pu c_sturned).con := fnPuR T_sturned c_sturned (LV_ok [] [] true) T_sturned_ok mixed Tryd.func28 (by kernel_rfl) (by kernel_rfl) fun args cs r h hcs => by
  unfold c_sturned at h
  split at h
  · rename_i n b
    injection h with h; injection h with h1 h2; subst h1 h2
    exact ⟨[0, 1, 4], (fun _ _ => none), (fun _ _ => none), rfl, rfl, rfl, castH (p := P_sturned n b) (by kernel_rfl) (p_sturned n b (hcs _ (.head _)) (hcs _ (.tail _ (.head _))) (hcs _ (.tail _ (.tail _ (.head _)))))⟩
  · cases h
abbrev T_schanged : Tab := [(28, .pu c_sturned)]
theorem T_schanged_ok : TOk Tryd.prog T_schanged := ⟨ok_sturned, trivial⟩
theorem ok_schanged : FnOk Tryd.prog 25 (CE.pu c_schanged).con := fnPuR T_schanged c_schanged L_ok T_schanged_ok mixed Tryd.func25 (by kernel_rfl) (by kernel_rfl) fun args cs r h hcs => by
  unfold c_schanged at h
  split at h
  · rename_i t k a b c g w y
    injection h with h; injection h with h1 h2; subst h1 h2
    exact ⟨[0, 1, 2, 3, 6, 7, 8, 18, 19, 25, 26, 32, 33, 39, 40, 46, 47, 53, 54, 59, 69, 76, 77], (fun _ _ => none), (fun _ _ => none), rfl, rfl, rfl, castH (p := P_schanged t k a b c g w y) (by kernel_rfl) (p_schanged t k a b c g w y (hcs _ (.head _)) (hcs _ (.tail _ (.head _))) (hcs _ (.tail _ (.tail _ (.head _)))) (hcs _ (.tail _ (.tail _ (.tail _ (.head _))))) (hcs _ (.tail _ (.tail _ (.tail _ (.tail _ (.head _)))))))⟩
  · cases h
end Go.Proofs.YtgibafageolbnaaDoor
