/- The functions meet their contracts. Written by a program (wip/tools/gen.py). -/
import Derived.Test.YtgibafageolbnaaDoorSealqq
import Derived.Test.YtgibafageolbnaaDoorDigestk
import Derived.Test.YtgibafageolbnaaDoorMarksk
import Derived.Test.YtgibafageolbnaaDoorSealk
import Derived.Test.YtgibafageolbnaaDoorSeallk
namespace Go.Proofs.YtgibafageolbnaaDoor
open Go.Sy Go.RatLaw
set_option linter.unusedVariables false
set_option maxHeartbeats 4000000
set_option linter.unusedSimpArgs false

abbrev T_SSeals : Tab := [(9, .pu c_shead), (11, .pu c_sSeal), (26, .pu c_rMark), (27, .pu c_rSecret), (28, .pu c_sturned)]
theorem T_SSeals_ok : TOk Tryd.prog T_SSeals := ⟨ok_shead, ok_sSeal, ok_rMark, ok_rSecret, ok_sturned, trivial⟩
theorem v_SSeals (id kind y p d s ver note val : Int) (q : ByteArray) (x w z : Int) : (vcPu L T_SSeals Tryd.f7 [0, 1, 2, 3, 4, 8, 9, 10, 11, 12, 13, 14, 15, 16, 17, 26, 31, 32, 37, 43, 44, 50, 79] (fun _ _ => none) [M id kind y p d s ver note val q, I x, U8 w, U8 z] (.t (B true))).holds = P_SSeals id kind y p d s ver note val q x w z := by kernel_rfl
theorem w_SSeals (id kind y p d s ver note val : Int) (q : ByteArray) (x w z : Int) (h_0 : InI64 note) (h_1 : InI64 val) (h_2 : InI64 x) (h_3 : 0 ≤ w ∧ w ≤ 255) (h_4 : 0 ≤ z ∧ z ≤ 255) : (vcPu L T_SSeals Tryd.f7 [0, 1, 2, 3, 4, 8, 9, 10, 11, 12, 13, 14, 15, 16, 17, 26, 31, 32, 37, 43, 44, 50, 79] (fun _ _ => none) [M id kind y p d s ver note val q, I x, U8 w, U8 z] (.t (B true))).holds ∧ True := by
  rw [v_SSeals]
  exact ⟨p_SSeals id kind y p d s ver note val q x w z h_0 h_1 h_2 h_3 h_4, trivial⟩
theorem ok_SSeals : FnOk Tryd.prog 7 (CE.pu c_SSeals).con := fnPuR T_SSeals c_SSeals L_ok T_SSeals_ok mixed Tryd.func7 (by kernel_rfl) (by kernel_rfl) fun args cs r h hcs => by
  unfold c_SSeals at h
  split at h
  · rename_i id kind y p d s ver note val q x w z
    injection h with h; injection h with h1 h2; subst h1 h2
    exact ⟨[0, 1, 2, 3, 4, 8, 9, 10, 11, 12, 13, 14, 15, 16, 17, 26, 31, 32, 37, 43, 44, 50, 79], (fun _ _ => none), (fun _ _ => none), rfl, rfl, rfl, (by apply And.left (b := True); exact w_SSeals id kind y p d s ver note val q x w z (hcs _ (.head _)) (hcs _ (.tail _ (.head _))) (hcs _ (.tail _ (.tail _ (.head _)))) (hcs _ (.tail _ (.tail _ (.tail _ (.head _))))) (hcs _ (.tail _ (.tail _ (.tail _ (.tail _ (.head _)))))))⟩
  · cases h
end Go.Proofs.YtgibafageolbnaaDoor
