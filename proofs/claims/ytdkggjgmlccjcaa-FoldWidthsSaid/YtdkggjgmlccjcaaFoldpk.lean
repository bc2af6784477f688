/- The functions meet their contracts. Written by a program (wip/tools/gen.py). -/
import Derived.Test.YtdkggjgmlccjcaaFoldpq
import Derived.Test.YtdkggjgmlccjcaaMeterk
import Derived.Test.YtdkggjgmlccjcaaFoldk
import Derived.Test.YtdkggjgmlccjcaaFoldlk
import Derived.Test.YtdkggjgmlccjcaaFoldmk
namespace Go.Proofs.Ytdkggjgmlccjcaa
open Go.Sy Go.RatLaw
set_option linter.unusedVariables false
set_option maxHeartbeats 4000000
set_option maxRecDepth 100000
set_option linter.unusedSimpArgs false

theorem ok_FWidths : FnOk Try.prog 8 (CE.pu c_FWidths).con := okP [(9, .pu c_head), (11, .pu c_fold), (17, .pu c_widths), (19, .pu c_usable), (22, .pu c_starts)] L_ok ⟨ok_head, ok_fold, ok_widths, ok_usable, ok_starts, trivial⟩ mixed Try.func8 fun args cs r h hcs => by
  unfold c_FWidths at h
  split at h; rotate_left; cases h
  rename_i p ms l
  injection h with h; injection h with h1 h2; subst h1 h2
  exact puV [0, 1, 2, 4, 5, 6, 7, 8, 9, 10, 11, 12, 13, 22, 48, 49, 50, 51, 52, 88, 100, 112] (fun _ _ => some { X := Nat, inv := fun x => x ≤ (foldS ms (useS ms l).1).1.length, m := fun x => (foldS ms (useS ms l).1).1.length - x, s := fun x => [(51, .t (I x)), (5, .t (B true))] }) nR (okV (p_FWidths p ms l (hcs _ (.head _)) (hcs _ (.tail _ (.head _)))) (by kernel_rfl))
end Go.Proofs.Ytdkggjgmlccjcaa
