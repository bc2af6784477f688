/- The functions meet their contracts. Written by a program (wip/tools/gen.py). -/
import Derived.Test.YtfbbkknfcmofcaaDoorFrontqq
import Derived.Test.YtfbbkknfcmofcaaDoorDigestk
import Derived.Test.YtfbbkknfcmofcaaDoorMarksk
import Derived.Test.YtfbbkknfcmofcaaDoorSealk
import Derived.Test.YtfbbkknfcmofcaaDoorFrontk
import Derived.Test.YtfbbkknfcmofcaaDoorFrontlk
namespace Go.Proofs.YtfbbkknfcmofcaaDoor
open Go.Sy Go.RatLaw
set_option linter.unusedVariables false
set_option maxHeartbeats 4000000
set_option linter.unusedSimpArgs false

abbrev T_FLast : Tab := [(9, .pu c_fhead), (10, .pu c_rFewE), (11, .pu c_fAt), (13, .pu c_rSameF), (17, .pu c_rValidL)]
theorem T_FLast_ok : TOk Tryd.prog T_FLast := ⟨ok_fhead, ok_rFewE, ok_fAt, ok_rSameF, ok_rValidL, trivial⟩
theorem v_FLast (s : Int) (l : List En) (h : Int) : (vcPu L T_FLast Tryd.f7 [0, 1, 2, 3, 4, 5, 6, 7, 8, 10, 14, 22, 34, 49, 55, 57, 58, 59, 60, 65, 68, 72] (fun i _ => if i = 9 then some { X := Nat, inv := fun j => j ≤ l.length, m := fun j => j, s := fun j => [(7, .t (I ((j : Int) - 1)))], h := fun j => [(6, FC (mkF (lastS (l.drop j)) 0))] } else some { X := Nat, inv := fun k => k ≤ l.length, m := fun k => l.length - k, s := fun k => [(59, .t (I k))], h := fun k => [(6, FC (mkF (lastS l) (knowK (l.take k))))] }) [LG s l h] (.t (B true)) (fun i _ => if i = 8 then some { sg := [], go := { go := fun _ => true }, sp := some (6, 3, []), ty := .ti .i64 } else none)).holds = P_FLast s l h := by kernel_rfl
theorem w_FLast (s : Int) (l : List En) (h : Int) (h_0 : InI64 s) (h_1 : inE l) : (vcPu L T_FLast Tryd.f7 [0, 1, 2, 3, 4, 5, 6, 7, 8, 10, 14, 22, 34, 49, 55, 57, 58, 59, 60, 65, 68, 72] (fun i _ => if i = 9 then some { X := Nat, inv := fun j => j ≤ l.length, m := fun j => j, s := fun j => [(7, .t (I ((j : Int) - 1)))], h := fun j => [(6, FC (mkF (lastS (l.drop j)) 0))] } else some { X := Nat, inv := fun k => k ≤ l.length, m := fun k => l.length - k, s := fun k => [(59, .t (I k))], h := fun k => [(6, FC (mkF (lastS l) (knowK (l.take k))))] }) [LG s l h] (.t (B true)) (fun i _ => if i = 8 then some { sg := [], go := { go := fun _ => true }, sp := some (6, 3, []), ty := .ti .i64 } else none)).holds ∧ True := by
  rw [v_FLast]
  exact ⟨p_FLast s l h h_0 h_1, trivial⟩
theorem ok_FLast : FnOk Tryd.prog 7 (CE.pu c_FLast).con := fnPuR T_FLast c_FLast L_ok T_FLast_ok mixed Tryd.func7 (by kernel_rfl) (by kernel_rfl) fun args cs r h hcs => by
  unfold c_FLast at h
  split at h
  · rename_i s l h
    injection h with h; injection h with h1 h2; subst h1 h2
    exact ⟨[0, 1, 2, 3, 4, 5, 6, 7, 8, 10, 14, 22, 34, 49, 55, 57, 58, 59, 60, 65, 68, 72], (fun i _ => if i = 9 then some { X := Nat, inv := fun j => j ≤ l.length, m := fun j => j, s := fun j => [(7, .t (I ((j : Int) - 1)))], h := fun j => [(6, FC (mkF (lastS (l.drop j)) 0))] } else some { X := Nat, inv := fun k => k ≤ l.length, m := fun k => l.length - k, s := fun k => [(59, .t (I k))], h := fun k => [(6, FC (mkF (lastS l) (knowK (l.take k))))] }), (fun i _ => if i = 8 then some { sg := [], go := { go := fun _ => true }, sp := some (6, 3, []), ty := .ti .i64 } else none), rfl, rfl, rfl, (by apply And.left (b := True); exact w_FLast s l h (hcs _ (.head _)) (hcs _ (.tail _ (.head _))))⟩
  · cases h
end Go.Proofs.YtfbbkknfcmofcaaDoor
