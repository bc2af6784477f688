/- The functions meet their contracts. Written by a program (wip/tools/gen.py). -/
import Derived.Test.YtdkggjgmlccjcaaFoldnq
namespace Go.Proofs.Ytdkggjgmlccjcaa
open Go.Sy Go.RatLaw
set_option linter.unusedVariables false

abbrev T_FStops : Tab := [(9, .pu c_head), (11, .pu c_fold), (13, .pu c_same), (19, .pu c_usable)]
theorem T_FStops_ok : TOk Try.prog T_FStops := ⟨ok_head, ok_fold, ok_same, ok_usable, trivial⟩
theorem ok_FStops : FnOk Try.prog 6 (CE.pu c_FStops).con := fnPuR T_FStops c_FStops L_ok T_FStops_ok mixed Try.func6 (by kernel_rfl) (by kernel_rfl) fun args cs r h hcs => by
  unfold c_FStops at h
  split at h
  · rename_i p ms l u
    injection h with h; injection h with h1 h2; subst h1 h2
    exact ⟨[0, 1, 2, 3, 6, 7, 8, 9, 10, 11, 12, 13, 14, 15, 16, 17, 18, 19, 21, 41, 65, 66, 67, 104, 105, 106, 107, 108, 123], (fun i _ => if i = 10 then some { X := Nat, inv := fun x => x ≤ (useS ms l).1.length, m := fun x => (useS ms l).1.length - x, s := fun x => [(66, .t (I x)), (15, .t (.one (.own (rm 15) (.sl (.ti .i64) (backS (useS ms l).1 x)))))], h := fun x => [(rm 15, .gr 3 1 (backS (useS ms l).1 x).length)] } else some { X := Nat, inv := fun x => x ≤ (foldS ms (useS ms l).1).1.length, m := fun x => (foldS ms (useS ms l).1).1.length - x, s := fun x => [(107, .t (I x)), (19, .t (.one (.own (rm 19) (.sl KT (splitL (Int.tmod u ms.length) ((foldS ms (useS ms l).1).1.take x))))))], h := fun x => [(rm 19, .gr 42 2 (splitL (Int.tmod u ms.length) ((foldS ms (useS ms l).1).1.take x)).length)] }), (fun _ _ => none), rfl, rfl, rfl, castH (p := P_FStops p ms l u) (by kernel_rfl) (p_FStops p ms l u (hcs _ (.head _)) (hcs _ (.tail _ (.head _))) (hcs _ (.tail _ (.tail _ (.head _)))))⟩
  · cases h
end Go.Proofs.Ytdkggjgmlccjcaa
