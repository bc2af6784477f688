/- The functions meet their contracts. Written by a program (wip/tools/gen.py). -/
import Derived.Test.YtdkggjgmlccjcaaFoldlq
namespace Go.Proofs.Ytdkggjgmlccjcaa
open Go.Sy Go.RatLaw
set_option linter.unusedVariables false

abbrev T_example : Tab := []
theorem T_example_ok : TOk Try.prog T_example := trivial
theorem ok_example : FnOk Try.prog 23 (CE.pu c_example).con := fnPuR T_example c_example (LV_ok [] [47, 1000012] false) T_example_ok mixed Try.func23 (by kernel_rfl) (by kernel_rfl) fun args cs r h hcs => by
  unfold c_example at h
  split at h
  · skip
    injection h with h; injection h with h1 h2; subst h1 h2
    exact ⟨[0, 1, 2, 3, 4, 14, 24, 28, 29], (fun _ _ => some { X := Nat, inv := fun x => x ≤ 6, m := fun x => 6 - x, s := fun x => [(3, .t (I x))], h := fun x => [(1, .cells [li .i64 0, .vr (rm2 1 1) (exPre x).length]), (rm2 1 1, .vec MT 47 (exPre x))] }), (fun _ _ => none), rfl, rfl, rfl, castH (p := P_example ) (by kernel_rfl) (p_example )⟩
  · cases h
abbrev T_head : Tab := [(11, .pu c_fold), (13, .pu c_same), (14, .pu c_unfold), (16, .pu c_sameI), (17, .pu c_widths), (23, .pu c_example)]
theorem T_head_ok : TOk Try.prog T_head := ⟨ok_fold, ok_same, ok_unfold, ok_sameI, ok_widths, ok_example, trivial⟩
theorem ok_head : FnOk Try.prog 9 (CE.pu c_head).con := fnPuR T_head c_head L_ok T_head_ok mixed Try.func9 (by kernel_rfl) (by kernel_rfl) fun args cs r h hcs => by
  unfold c_head at h
  split at h
  · skip
    injection h with h; injection h with h1 h2; subst h1 h2
    exact ⟨[0, 1, 2, 3, 4, 5, 6, 7, 8, 9, 11, 13, 15, 16], (fun _ _ => none), (fun _ _ => none), rfl, rfl, rfl, castH (p := P_head ) (by kernel_rfl) (p_head )⟩
  · cases h
abbrev T_usable : Tab := [(10, .pu c_fewV), (29, .pu c_rView)]
theorem T_usable_ok : TOk Try.prog T_usable := ⟨ok_fewV, ok_rView, trivial⟩
theorem ok_usable : FnOk Try.prog 19 (CE.pu c_usable).con := fnPuR T_usable c_usable L_ok T_usable_ok mixed Try.func19 (by kernel_rfl) (by kernel_rfl) fun args cs r h hcs => by
  unfold c_usable at h
  split at h
  · rename_i p ms l
    injection h with h; injection h with h1 h2; subst h1 h2
    exact ⟨[0, 1, 2, 4, 5, 6, 8, 21, 22, 23, 24, 25, 31], (fun _ _ => some { X := Nat, inv := fun x => x ≤ l.length, m := fun x => l.length - x, s := fun x => [(24, .t (I x)), (6, .t (.one (.own (rm 6) (.sl (.ti .i64) (stopsS ms (l.take x))))))], h := fun x => [(rm 6, .gr 3 1 (stopsS ms (l.take x)).length)] }), (fun _ _ => none), rfl, rfl, rfl, castH (p := P_usable p ms l) (by kernel_rfl) (p_usable p ms l (hcs _ (.head _)))⟩
  · cases h
abbrev T_FMatches : Tab := [(9, .pu c_head), (10, .pu c_fewV), (11, .pu c_fold), (12, .pu c_rFold), (13, .pu c_same), (14, .pu c_unfold), (15, .pu c_rUnfold), (16, .pu c_sameI), (17, .pu c_widths), (18, .pu c_rWidths)]
theorem T_FMatches_ok : TOk Try.prog T_FMatches := ⟨ok_head, ok_fewV, ok_fold, ok_rFold, ok_same, ok_unfold, ok_rUnfold, ok_sameI, ok_widths, ok_rWidths, trivial⟩
theorem ok_FMatches : FnOk Try.prog 3 (CE.pu c_FMatches).con := fnPuR T_FMatches c_FMatches L_ok T_FMatches_ok mixed Try.func3 (by kernel_rfl) (by kernel_rfl) fun args cs r h hcs => by
  unfold c_FMatches at h
  split at h
  · rename_i p ms st l
    injection h with h; injection h with h1 h2; subst h1 h2
    exact ⟨[0, 1, 2, 3, 6, 7, 8, 9, 10, 11, 12, 13, 32], (fun _ _ => none), (fun _ _ => none), rfl, rfl, rfl, castH (p := P_FMatches p ms st l) (by kernel_rfl) (p_FMatches p ms st l)⟩
  · cases h
end Go.Proofs.Ytdkggjgmlccjcaa
