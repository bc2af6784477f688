/- The functions meet their contracts. Written by a program (wip/tools/gen.py). -/
import Derived.Test.YtfbbkknfcmofcaaDoorFrontrq
import Derived.Test.YtfbbkknfcmofcaaDoorDigestk
import Derived.Test.YtfbbkknfcmofcaaDoorMarksk
import Derived.Test.YtfbbkknfcmofcaaDoorSealk
import Derived.Test.YtfbbkknfcmofcaaDoorFrontk
import Derived.Test.YtfbbkknfcmofcaaDoorFrontlk
namespace Go.Proofs.YtfbbkknfcmofcaaDoor
open Go.Sy Go.RatLaw
set_option linter.unusedVariables false
set_option maxHeartbeats 4000000
set_option linter.unusedSimpArgs false

abbrev T_FBegins : Tab := [(9, .pu c_fhead), (10, .pu c_rFewE), (11, .pu c_fAt), (13, .pu c_rSameF), (17, .pu c_rValidL), (18, .pu c_sAppend), (20, .pu c_sBegins)]
theorem T_FBegins_ok : TOk Tryd.prog T_FBegins := ⟨ok_fhead, ok_rFewE, ok_fAt, ok_rSameF, ok_rValidL, ok_sAppend, ok_sBegins, trivial⟩
theorem v_FBegins (s : Int) (l : List En) (h w n : Int) : (vcPu L T_FBegins Tryd.f8 [0, 1, 2, 3, 6, 7, 8, 9, 10, 11, 12, 13, 14, 15, 16, 17, 18, 33, 46, 60, 61, 73, 85] (fun _ _ => some { X := Nat, inv := fun k => (k : Int) ≤ Int.tmod w l.length, m := fun k => (Int.tmod w l.length).toNat - k, s := fun k => [(10, .t (I k))], h := fun k => [(9, LGC s (l.take k) (chainE s (l.take k)))] }) [LG s l h, U8 w, I n] (.t (B true))).holds = P_FBegins s l h w n := by kernel_rfl
theorem w_FBegins (s : Int) (l : List En) (h w n : Int) (h_0 : InI64 s) (h_1 : inE l) (h_2 : 0 ≤ w ∧ w ≤ 255) : (vcPu L T_FBegins Tryd.f8 [0, 1, 2, 3, 6, 7, 8, 9, 10, 11, 12, 13, 14, 15, 16, 17, 18, 33, 46, 60, 61, 73, 85] (fun _ _ => some { X := Nat, inv := fun k => (k : Int) ≤ Int.tmod w l.length, m := fun k => (Int.tmod w l.length).toNat - k, s := fun k => [(10, .t (I k))], h := fun k => [(9, LGC s (l.take k) (chainE s (l.take k)))] }) [LG s l h, U8 w, I n] (.t (B true))).holds ∧ True := by
  rw [v_FBegins]
  exact ⟨p_FBegins s l h w n h_0 h_1 h_2, trivial⟩
theorem ok_FBegins : FnOk Tryd.prog 8 (CE.pu c_FBegins).con := fnPuR T_FBegins c_FBegins L_ok T_FBegins_ok mixed Tryd.func8 (by kernel_rfl) (by kernel_rfl) fun args cs r h hcs => by
  unfold c_FBegins at h
  split at h
  · rename_i s l h w n
    injection h with h; injection h with h1 h2; subst h1 h2
    exact ⟨[0, 1, 2, 3, 6, 7, 8, 9, 10, 11, 12, 13, 14, 15, 16, 17, 18, 33, 46, 60, 61, 73, 85], (fun _ _ => some { X := Nat, inv := fun k => (k : Int) ≤ Int.tmod w l.length, m := fun k => (Int.tmod w l.length).toNat - k, s := fun k => [(10, .t (I k))], h := fun k => [(9, LGC s (l.take k) (chainE s (l.take k)))] }), (fun _ _ => none), rfl, rfl, rfl, (by apply And.left (b := True); exact w_FBegins s l h w n (hcs _ (.head _)) (hcs _ (.tail _ (.head _))) (hcs _ (.tail _ (.tail _ (.head _)))))⟩
  · cases h
end Go.Proofs.YtfbbkknfcmofcaaDoor
