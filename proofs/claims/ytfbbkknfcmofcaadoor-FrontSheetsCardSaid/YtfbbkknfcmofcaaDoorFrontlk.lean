/- The functions meet their contracts. Written by a program (wip/tools/gen.py). -/
import Derived.Test.YtfbbkknfcmofcaaDoorFrontlq
import Derived.Test.YtfbbkknfcmofcaaDoorDigestk
import Derived.Test.YtfbbkknfcmofcaaDoorMarksk
import Derived.Test.YtfbbkknfcmofcaaDoorSealk
import Derived.Test.YtfbbkknfcmofcaaDoorFrontk
namespace Go.Proofs.YtfbbkknfcmofcaaDoor
open Go.Sy Go.RatLaw
set_option linter.unusedVariables false
set_option maxHeartbeats 4000000
set_option linter.unusedSimpArgs false

abbrev T_fhas : Tab := []
theorem T_fhas_ok : TOk Tryd.prog T_fhas := trivial
theorem ok_fhas : FnOk Tryd.prog 19 (CE.pu c_fhas).con := fnPuR T_fhas c_fhas L_ok T_fhas_ok mixed Tryd.func19 (by kernel_rfl) (by kernel_rfl) fun args cs r h hcs => by
  unfold c_fhas at h
  split at h
  · rename_i l n
    injection h with h; injection h with h1 h2; subst h1 h2
    exact ⟨[0, 1, 4, 5, 9, 17], (fun _ _ => some { X := Nat, inv := fun k => k ≤ l.length ∧ hasI (l.take k) n = false, m := fun k => l.length - k, s := fun k => [(5, .t (I k))] }), (fun _ _ => none), rfl, rfl, rfl, castH (p := P_fhas l n) (by kernel_rfl) (p_fhas l n)⟩
  · cases h
abbrev T_fhead : Tab := [(11, .pu c_fAt), (13, .pu c_rSameF), (14, .pu c_fChanges), (16, .pu c_rSameI), (18, .pu c_sAppend)]
theorem T_fhead_ok : TOk Tryd.prog T_fhead := ⟨ok_fAt, ok_rSameF, ok_fChanges, ok_rSameI, ok_sAppend, trivial⟩
theorem v_fhead  : (vcPu L T_fhead Tryd.f9 [0, 1, 3, 4, 5, 6, 7, 8, 9, 10, 11, 12, 13, 15, 17, 18, 25, 26, 27, 28, 38, 39] (fun _ _ => some { X := Nat, inv := fun k => k ≤ 5, m := fun k => 5 - k, s := fun k => [(27, .t (I k))], h := fun k => [(1, LGC 1 (hE.take k) (chainE 1 (hE.take k)))] }) [] (.t (B true))).holds = P_fhead  := by kernel_rfl
theorem w_fhead   : (vcPu L T_fhead Tryd.f9 [0, 1, 3, 4, 5, 6, 7, 8, 9, 10, 11, 12, 13, 15, 17, 18, 25, 26, 27, 28, 38, 39] (fun _ _ => some { X := Nat, inv := fun k => k ≤ 5, m := fun k => 5 - k, s := fun k => [(27, .t (I k))], h := fun k => [(1, LGC 1 (hE.take k) (chainE 1 (hE.take k)))] }) [] (.t (B true))).holds ∧ True := by
  rw [v_fhead]
  exact ⟨p_fhead  , trivial⟩
theorem ok_fhead : FnOk Tryd.prog 9 (CE.pu c_fhead).con := fnPuR T_fhead c_fhead L_ok T_fhead_ok mixed Tryd.func9 (by kernel_rfl) (by kernel_rfl) fun args cs r h hcs => by
  unfold c_fhead at h
  split at h
  · skip
    injection h with h; injection h with h1 h2; subst h1 h2
    exact ⟨[0, 1, 3, 4, 5, 6, 7, 8, 9, 10, 11, 12, 13, 15, 17, 18, 25, 26, 27, 28, 38, 39], (fun _ _ => some { X := Nat, inv := fun k => k ≤ 5, m := fun k => 5 - k, s := fun k => [(27, .t (I k))], h := fun k => [(1, LGC 1 (hE.take k) (chainE 1 (hE.take k)))] }), (fun _ _ => none), rfl, rfl, rfl, (by apply And.left (b := True); exact w_fhead )⟩
  · cases h
end Go.Proofs.YtfbbkknfcmofcaaDoor
