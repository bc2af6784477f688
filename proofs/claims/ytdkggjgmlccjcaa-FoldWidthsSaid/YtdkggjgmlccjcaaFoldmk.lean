/- The functions meet their contracts. Written by a program (wip/tools/gen.py). -/
import Derived.Test.YtdkggjgmlccjcaaFoldmq
import Derived.Test.YtdkggjgmlccjcaaMeterk
import Derived.Test.YtdkggjgmlccjcaaFoldk
import Derived.Test.YtdkggjgmlccjcaaFoldlk
namespace Go.Proofs.Ytdkggjgmlccjcaa
open Go.Sy Go.RatLaw
set_option linter.unusedVariables false
set_option maxHeartbeats 4000000
set_option maxRecDepth 100000
set_option linter.unusedSimpArgs false

theorem ok_FAll : FnOk Try.prog 4 (CE.pu c_FAll).con := okP [(9, .pu c_head), (11, .pu c_fold), (14, .pu c_unfold), (19, .pu c_usable), (20, .pu c_joins)] L_ok ⟨ok_head, ok_fold, ok_unfold, ok_usable, ok_joins, trivial⟩ mixed Try.func4 fun args cs r h hcs => by
  unfold c_FAll at h
  split at h; rotate_left; cases h
  rename_i p ms l
  injection h with h; injection h with h1 h2; subst h1 h2
  exact puV [0, 1, 2, 4, 5, 6, 7, 8, 9, 10, 11, 12, 13, 15, 16, 17, 26, 52, 53, 54, 55, 56, 67, 68, 69, 70, 94, 108, 112] (fun i _ => if i = 10 then some { X := Nat, inv := fun x => x ≤ (unfoldS (foldS ms (useS ms l).1).1).1.length, m := fun x => (unfoldS (foldS ms (useS ms l).1).1).1.length - x, s := fun x => [(55, .t (I x)), (5, .t (B true))] } else if i = 15 then some { X := Nat, inv := fun x => x ≤ (foldS ms (useS ms l).1).1.length, m := fun x => (foldS ms (useS ms l).1).1.length - x, s := fun x => [(69, .t (I x)), (5, .t (B true))] } else some { X := Nat, inv := fun y => y < 70, m := fun y => 70 - y, s := fun y => [(17, .t (I (1 + y))), (5, .t (B true))] }) nR (okV (p_FAll p ms l (hcs _ (.head _))) (by kernel_rfl))
theorem ok_FWhole : FnOk Try.prog 5 (CE.pu c_FWhole).con := okP [(9, .pu c_head), (11, .pu c_fold), (19, .pu c_usable), (20, .pu c_joins), (21, .pu c_hasI)] L_ok ⟨ok_head, ok_fold, ok_usable, ok_joins, ok_hasI, trivial⟩ mixed Try.func5 fun args cs r h hcs => by
  unfold c_FWhole at h
  split at h; rotate_left; cases h
  rename_i p ms l
  injection h with h; injection h with h1 h2; subst h1 h2
  exact puV [0, 1, 2, 4, 5, 6, 7, 8, 9, 10, 11, 13, 14, 23, 32, 33, 34, 35, 36, 40, 41, 42, 43, 91, 106] (fun i _ => if i = 9 then some { X := Nat, inv := fun x => x ≤ (foldS ms (useS ms l).1).1.length, m := fun x => (foldS ms (useS ms l).1).1.length - x, s := fun x => [(35, .t (I x)), (5, .t (B true))] } else some { X := Nat, inv := fun y => y ≤ (useS ms l).1.length, m := fun y => (useS ms l).1.length - y, s := fun y => [(42, .t (I y)), (5, .t (B true))] }) nR (okV (p_FWhole p ms l (hcs _ (.head _))) (by kernel_rfl))
end Go.Proofs.Ytdkggjgmlccjcaa
