/- The functions meet their contracts. Written by a program (wip/tools/gen.py). -/
import Derived.Test.YtfbbkknfcmofcaaDoorFrontpq
import Derived.Test.YtfbbkknfcmofcaaDoorDigestk
import Derived.Test.YtfbbkknfcmofcaaDoorMarksk
import Derived.Test.YtfbbkknfcmofcaaDoorSealk
import Derived.Test.YtfbbkknfcmofcaaDoorFrontk
import Derived.Test.YtfbbkknfcmofcaaDoorFrontlk
namespace Go.Proofs.YtfbbkknfcmofcaaDoor
open Go.Sy Go.RatLaw
set_option linter.unusedVariables false
set_option maxHeartbeats 4000000
set_option linter.unusedSimpArgs false

abbrev T_FSheets : Tab := [(9, .pu c_fhead), (10, .pu c_rFewE), (11, .pu c_fAt), (13, .pu c_rSameF), (19, .pu c_fhas)]
theorem T_FSheets_ok : TOk Tryd.prog T_FSheets := ⟨ok_fhead, ok_rFewE, ok_fAt, ok_rSameF, ok_fhas, trivial⟩
theorem v_FSheets (s : Int) (l : List En) (h n z : Int) : (vcPu L T_FSheets Tryd.f6 [0, 1, 2, 3, 6, 7, 8, 9, 10, 12, 13, 17, 26, 34, 35, 36, 37, 43, 66] (fun i _ => if i = 9 then some { X := Nat, inv := fun k => k ≤ l.length ∧ ∀ i, i < k → tmE l i ≤ n, m := fun k => l.length - k, s := fun k => [(36, .t (I k)), (10, .t (B (liesB z (l.take k))))] } else some { X := Nat, inv := fun k => 1 ≤ k ∧ k ≤ (laidAt l n).2.2.2.length + 1, m := fun k => (laidAt l n).2.2.2.length + 1 - k, s := fun k => [(13, .t (I k)), (7, .t (B true))] }) [LG s l h, I n, I z] (.t (B true))).holds = P_FSheets s l h n z := by kernel_rfl
theorem w_FSheets (s : Int) (l : List En) (h n z : Int) (h_0 : InI64 s) (h_1 : inE l) : (vcPu L T_FSheets Tryd.f6 [0, 1, 2, 3, 6, 7, 8, 9, 10, 12, 13, 17, 26, 34, 35, 36, 37, 43, 66] (fun i _ => if i = 9 then some { X := Nat, inv := fun k => k ≤ l.length ∧ ∀ i, i < k → tmE l i ≤ n, m := fun k => l.length - k, s := fun k => [(36, .t (I k)), (10, .t (B (liesB z (l.take k))))] } else some { X := Nat, inv := fun k => 1 ≤ k ∧ k ≤ (laidAt l n).2.2.2.length + 1, m := fun k => (laidAt l n).2.2.2.length + 1 - k, s := fun k => [(13, .t (I k)), (7, .t (B true))] }) [LG s l h, I n, I z] (.t (B true))).holds ∧ True := by
  rw [v_FSheets]
  exact ⟨p_FSheets s l h n z h_0 h_1, trivial⟩
theorem ok_FSheets : FnOk Tryd.prog 6 (CE.pu c_FSheets).con := fnPuR T_FSheets c_FSheets L_ok T_FSheets_ok mixed Tryd.func6 (by kernel_rfl) (by kernel_rfl) fun args cs r h hcs => by
  unfold c_FSheets at h
  split at h
  · rename_i s l h n z
    injection h with h; injection h with h1 h2; subst h1 h2
    exact ⟨[0, 1, 2, 3, 6, 7, 8, 9, 10, 12, 13, 17, 26, 34, 35, 36, 37, 43, 66], (fun i _ => if i = 9 then some { X := Nat, inv := fun k => k ≤ l.length ∧ ∀ i, i < k → tmE l i ≤ n, m := fun k => l.length - k, s := fun k => [(36, .t (I k)), (10, .t (B (liesB z (l.take k))))] } else some { X := Nat, inv := fun k => 1 ≤ k ∧ k ≤ (laidAt l n).2.2.2.length + 1, m := fun k => (laidAt l n).2.2.2.length + 1 - k, s := fun k => [(13, .t (I k)), (7, .t (B true))] }), (fun _ _ => none), rfl, rfl, rfl, (by apply And.left (b := True); exact w_FSheets s l h n z (hcs _ (.head _)) (hcs _ (.tail _ (.head _))))⟩
  · cases h
end Go.Proofs.YtfbbkknfcmofcaaDoor
