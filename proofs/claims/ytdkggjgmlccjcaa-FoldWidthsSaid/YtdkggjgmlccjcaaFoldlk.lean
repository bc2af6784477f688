/- The functions meet their contracts. Written by a program (wip/tools/gen.py). -/
import Derived.Test.YtdkggjgmlccjcaaFoldlq
import Derived.Test.YtdkggjgmlccjcaaMeterk
import Derived.Test.YtdkggjgmlccjcaaFoldk
namespace Go.Proofs.Ytdkggjgmlccjcaa
open Go.Sy Go.RatLaw
set_option linter.unusedVariables false
set_option maxHeartbeats 4000000
set_option maxRecDepth 100000
set_option linter.unusedSimpArgs false

theorem ok_example : FnOk Try.prog 23 (CE.pu c_example).con := okP [] (LV_ok [] [47, 1000012] false) trivial mixed Try.func23 fun args cs r h hcs => by
  unfold c_example at h
  split at h; rotate_left; cases h
  injection h with h; injection h with h1 h2; subst h1 h2
  exact puV [0, 1, 2, 3, 4, 14, 24, 28, 29] (fun _ _ => some { X := Nat, inv := fun x => x ≤ 6, m := fun x => 6 - x, s := fun x => [(3, .t (I x))], h := fun x => [(1, .cells [li .i64 0, .vr (rm2 1 1) (exPre x).length]), (rm2 1 1, .vec MT 47 (exPre x))] }) nR (okV (p_example ) (by kernel_rfl))
theorem ok_head : FnOk Try.prog 9 (CE.pu c_head).con := okP [(11, .pu c_fold), (13, .pu c_same), (14, .pu c_unfold), (16, .pu c_sameI), (17, .pu c_widths), (23, .pu c_example)] L_ok ⟨ok_fold, ok_same, ok_unfold, ok_sameI, ok_widths, ok_example, trivial⟩ mixed Try.func9 fun args cs r h hcs => by
  unfold c_head at h
  split at h; rotate_left; cases h
  injection h with h; injection h with h1 h2; subst h1 h2
  exact puV [0, 1, 2, 3, 4, 5, 6, 7, 8, 9, 11, 13, 15, 16] nA nR (okV (p_head ) (by kernel_rfl))
theorem ok_usable : FnOk Try.prog 19 (CE.pu c_usable).con := okP [(10, .pu c_fewV), (29, .pu c_rView)] L_ok ⟨ok_fewV, ok_rView, trivial⟩ mixed Try.func19 fun args cs r h hcs => by
  unfold c_usable at h
  split at h; rotate_left; cases h
  rename_i p ms l
  injection h with h; injection h with h1 h2; subst h1 h2
  exact puV [0, 1, 2, 4, 5, 6, 8, 21, 22, 23, 24, 25, 31] (fun _ _ => some { X := Nat, inv := fun x => x ≤ l.length, m := fun x => l.length - x, s := fun x => [(24, .t (I x)), (6, .t (.one (.own (rm 6) (.sl (.ti .i64) (stopsS ms (l.take x))))))], h := fun x => [(rm 6, .gr 3 1 (stopsS ms (l.take x)).length)] }) nR (okV (p_usable p ms l (hcs _ (.head _))) (by kernel_rfl))
theorem ok_FMatches : FnOk Try.prog 3 (CE.pu c_FMatches).con := okP [(9, .pu c_head), (10, .pu c_fewV), (11, .pu c_fold), (12, .pu c_rFold), (13, .pu c_same), (14, .pu c_unfold), (15, .pu c_rUnfold), (16, .pu c_sameI), (17, .pu c_widths), (18, .pu c_rWidths)] L_ok ⟨ok_head, ok_fewV, ok_fold, ok_rFold, ok_same, ok_unfold, ok_rUnfold, ok_sameI, ok_widths, ok_rWidths, trivial⟩ mixed Try.func3 fun args cs r h hcs => by
  unfold c_FMatches at h
  split at h; rotate_left; cases h
  rename_i p ms st l
  injection h with h; injection h with h1 h2; subst h1 h2
  exact puV [0, 1, 2, 3, 6, 7, 8, 9, 10, 11, 12, 13, 32] nA nR (okV (p_FMatches p ms st l) (by kernel_rfl))
end Go.Proofs.Ytdkggjgmlccjcaa
