/- The functions meet their contracts. Written by a program (wip/tools/gen.py). -/
import Derived.Test.YtpdgmlkagfeglaaFormoq
import Derived.Test.YtpdgmlkagfeglaaFormk
import Derived.Test.YtpdgmlkagfeglaaFormlk
namespace Go.Proofs.Ytpdgmlkagfeglaa
open Go.Sy Go.RatLaw
set_option linter.unusedVariables false
set_option maxHeartbeats 4000000
set_option linter.unusedSimpArgs false

-- ok_del2 stands in Ge
abbrev T_openR : Tab := [(13, .pu c_valid), (50, .gen c_copied), (51, .pu c_idxCu), (52, .gen c_del2)]
theorem T_openR_ok : TOk Try.prog T_openR := ⟨ok_valid, ok_copied, ok_idxCu, ok_del2, trivial⟩
theorem ok_openR : FnOk Try.prog 21 (CE.pu c_openR).con := fnPuR T_openR c_openR L_ok T_openR_ok mixed Try.func21 (by kernel_rfl) (by kernel_rfl) fun args cs r h hcs => by
  unfold c_openR at h
  split at h
  · rename_i b r e j t n c x y z
    injection h with h; injection h with h1 h2; subst h1 h2
    exact ⟨[0, 1, 2, 3, 4, 5, 6, 9, 16, 19, 26], (fun _ _ => none), (fun _ _ => none), rfl, rfl, rfl, castH (p := P_openR b r e j t n c x y z) (by kernel_rfl) (p_openR b r e j t n c x y z)⟩
  · cases h
abbrev T_Matches : Tab := [(9, .pu c_head), (10, .pu c_few), (11, .pu c_unfold), (12, .pu c_rUnfold), (13, .pu c_valid), (14, .pu c_rValid), (15, .pu c_sameV), (16, .pu c_find), (17, .pu c_rFind), (18, .pu c_cut), (19, .pu c_rCut), (20, .pu c_same), (21, .pu c_openR), (22, .pu c_rOpen), (23, .pu c_times), (24, .pu c_rTimes)]
theorem T_Matches_ok : TOk Try.prog T_Matches := ⟨ok_head, ok_few, ok_unfold, ok_rUnfold, ok_valid, ok_rValid, ok_sameV, ok_find, ok_rFind, ok_cut, ok_rCut, ok_same, ok_openR, ok_rOpen, ok_times, ok_rTimes, trivial⟩
theorem ok_Matches : FnOk Try.prog 3 (CE.pu c_Matches).con := fnPuR T_Matches c_Matches L_ok T_Matches_ok mixed Try.func3 (by kernel_rfl) (by kernel_rfl) fun args cs r h hcs => by
  unfold c_Matches at h
  split at h
  · rename_i b r e j t n c o p x y z u v
    injection h with h; injection h with h1 h2; subst h1 h2
    exact ⟨[0, 1, 2, 3, 4, 5, 6, 7, 10, 11, 12, 13, 14, 15, 16, 17, 18, 19, 20, 21, 25], (fun _ _ => none), (fun _ _ => none), rfl, rfl, rfl, castH (p := P_Matches b r e j t n c o p x y z u v) (by kernel_rfl) (p_Matches b r e j t n c o p x y z u v)⟩
  · cases h
abbrev T_Cuts : Tab := [(9, .pu c_head), (11, .pu c_unfold), (15, .pu c_sameV), (18, .pu c_cut), (20, .pu c_same), (21, .pu c_openR), (25, .pu c_usable), (27, .pu c_kept)]
theorem T_Cuts_ok : TOk Try.prog T_Cuts := ⟨ok_head, ok_unfold, ok_sameV, ok_cut, ok_same, ok_openR, ok_usable, ok_kept, trivial⟩
theorem ok_Cuts : FnOk Try.prog 6 (CE.pu c_Cuts).con := fnPuR T_Cuts c_Cuts L_ok T_Cuts_ok mixed Try.func6 (by kernel_rfl) (by kernel_rfl) fun args cs r h hcs => by
  unfold c_Cuts at h
  split at h
  · rename_i b r e j t n c x y z u v w
    injection h with h; injection h with h1 h2; subst h1 h2
    exact ⟨[0, 1, 2, 3, 4, 5, 6, 7, 8, 9, 10, 11, 12, 13, 14, 15, 16, 17, 18, 19, 20, 21, 22, 23, 24, 25, 29, 47, 95, 113], (fun _ _ => none), (fun _ _ => none), rfl, rfl, rfl, castH (p := P_Cuts b r e j t n c x y z u v w) (by kernel_rfl) (p_Cuts b r e j t n c x y z u v w)⟩
  · cases h
end Go.Proofs.Ytpdgmlkagfeglaa
