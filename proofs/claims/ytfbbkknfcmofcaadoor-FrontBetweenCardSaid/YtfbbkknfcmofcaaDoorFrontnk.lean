/- The functions meet their contracts. Written by a program (wip/tools/gen.py). -/
import Derived.Test.YtfbbkknfcmofcaaDoorFrontnq
import Derived.Test.YtfbbkknfcmofcaaDoorDigestk
import Derived.Test.YtfbbkknfcmofcaaDoorMarksk
import Derived.Test.YtfbbkknfcmofcaaDoorSealk
import Derived.Test.YtfbbkknfcmofcaaDoorFrontk
import Derived.Test.YtfbbkknfcmofcaaDoorFrontlk
namespace Go.Proofs.YtfbbkknfcmofcaaDoor
open Go.Sy Go.RatLaw
set_option linter.unusedVariables false
set_option maxHeartbeats 4000000
set_option linter.unusedSimpArgs false

abbrev T_FBetween : Tab := [(9, .pu c_fhead), (10, .pu c_rFewE), (11, .pu c_fAt), (13, .pu c_rSameF), (14, .pu c_fChanges), (17, .pu c_rValidL)]
theorem T_FBetween_ok : TOk Tryd.prog T_FBetween := ⟨ok_fhead, ok_rFewE, ok_fAt, ok_rSameF, ok_fChanges, ok_rValidL, trivial⟩
theorem v_FBetween (s : Int) (l : List En) (h n : Int) : (vcPu L T_FBetween Tryd.f4 [0, 1, 2, 4, 5, 6, 7, 8, 9, 10, 11, 12, 13, 14, 15, 16, 33, 51, 52, 53, 54, 55, 73, 81, 83, 104, 105] (fun _ _ => some { X := Nat, inv := fun k => k ≤ (chS s l h).1.length, m := fun k => (chS s l h).1.length - k, s := fun k => [(54, .t (I k)), (5, .t (B true))], h := fun k => [(10, FC (wantG l (chS s l h).1 n k))] }) [LG s l h, I n] (.t (B true)) (fun i _ => if i = 9 then some { sg := [], go := { go := fun _ => true }, sp := some (10, 3, []), ty := .ti .i64 } else none)).holds = P_FBetween s l h n := by kernel_rfl
theorem w_FBetween (s : Int) (l : List En) (h n : Int) (h_0 : InI64 s) (h_1 : inE l) : (vcPu L T_FBetween Tryd.f4 [0, 1, 2, 4, 5, 6, 7, 8, 9, 10, 11, 12, 13, 14, 15, 16, 33, 51, 52, 53, 54, 55, 73, 81, 83, 104, 105] (fun _ _ => some { X := Nat, inv := fun k => k ≤ (chS s l h).1.length, m := fun k => (chS s l h).1.length - k, s := fun k => [(54, .t (I k)), (5, .t (B true))], h := fun k => [(10, FC (wantG l (chS s l h).1 n k))] }) [LG s l h, I n] (.t (B true)) (fun i _ => if i = 9 then some { sg := [], go := { go := fun _ => true }, sp := some (10, 3, []), ty := .ti .i64 } else none)).holds ∧ True := by
  rw [v_FBetween]
  exact ⟨p_FBetween s l h n h_0 h_1, trivial⟩
theorem ok_FBetween : FnOk Tryd.prog 4 (CE.pu c_FBetween).con := fnPuR T_FBetween c_FBetween L_ok T_FBetween_ok mixed Tryd.func4 (by kernel_rfl) (by kernel_rfl) fun args cs r h hcs => by
  unfold c_FBetween at h
  split at h
  · rename_i s l h n
    injection h with h; injection h with h1 h2; subst h1 h2
    exact ⟨[0, 1, 2, 4, 5, 6, 7, 8, 9, 10, 11, 12, 13, 14, 15, 16, 33, 51, 52, 53, 54, 55, 73, 81, 83, 104, 105], (fun _ _ => some { X := Nat, inv := fun k => k ≤ (chS s l h).1.length, m := fun k => (chS s l h).1.length - k, s := fun k => [(54, .t (I k)), (5, .t (B true))], h := fun k => [(10, FC (wantG l (chS s l h).1 n k))] }), (fun i _ => if i = 9 then some { sg := [], go := { go := fun _ => true }, sp := some (10, 3, []), ty := .ti .i64 } else none), rfl, rfl, rfl, (by apply And.left (b := True); exact w_FBetween s l h n (hcs _ (.head _)) (hcs _ (.tail _ (.head _))))⟩
  · cases h
end Go.Proofs.YtfbbkknfcmofcaaDoor
