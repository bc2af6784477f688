/- The functions meet their contracts. Written by a program (wip/tools/gen.py). -/
import Derived.Test.YtdkggjgmlccjcaaFoldpq
namespace Go.Proofs.Ytdkggjgmlccjcaa
open Go.Sy Go.RatLaw
set_option linter.unusedVariables false

abbrev T_FWidths : Tab := [(9, .pu c_head), (11, .pu c_fold), (17, .pu c_widths), (19, .pu c_usable), (22, .pu c_starts)]
theorem T_FWidths_ok : TOk Try.prog T_FWidths := ⟨ok_head, ok_fold, ok_widths, ok_usable, ok_starts, trivial⟩
theorem ok_FWidths : FnOk Try.prog 8 (CE.pu c_FWidths).con := fnPuR T_FWidths c_FWidths L_ok T_FWidths_ok mixed Try.func8 (by kernel_rfl) (by kernel_rfl) fun args cs r h hcs => by
  unfold c_FWidths at h
  split at h
  · rename_i p ms l
    injection h with h; injection h with h1 h2; subst h1 h2
    exact ⟨[0, 1, 2, 4, 5, 6, 7, 8, 9, 10, 11, 12, 13, 22, 48, 49, 50, 51, 52, 88, 100, 112], (fun _ _ => some { X := Nat, inv := fun x => x ≤ (foldS ms (useS ms l).1).1.length, m := fun x => (foldS ms (useS ms l).1).1.length - x, s := fun x => [(51, .t (I x)), (5, .t (B true))] }), (fun _ _ => none), rfl, rfl, rfl, castH (p := P_FWidths p ms l) (by kernel_rfl) (p_FWidths p ms l (hcs _ (.head _)) (hcs _ (.tail _ (.head _))))⟩
  · cases h
end Go.Proofs.Ytdkggjgmlccjcaa
