/- The functions meet their contracts. Written by a program (wip/tools/gen.py). -/
import Derived.Test.YtdkggjgmlccjcaaFoldmq
namespace Go.Proofs.Ytdkggjgmlccjcaa
open Go.Sy Go.RatLaw
set_option linter.unusedVariables false

abbrev T_FAll : Tab := [(9, .pu c_head), (11, .pu c_fold), (14, .pu c_unfold), (19, .pu c_usable), (20, .pu c_joins)]
theorem T_FAll_ok : TOk Try.prog T_FAll := ⟨ok_head, ok_fold, ok_unfold, ok_usable, ok_joins, trivial⟩
theorem ok_FAll : FnOk Try.prog 4 (CE.pu c_FAll).con := fnPuR T_FAll c_FAll L_ok T_FAll_ok mixed Try.func4 (by kernel_rfl) (by kernel_rfl) fun args cs r h hcs => by
  unfold c_FAll at h
  split at h
  · rename_i p ms l
    injection h with h; injection h with h1 h2; subst h1 h2
    exact ⟨[0, 1, 2, 4, 5, 6, 7, 8, 9, 10, 11, 12, 13, 15, 16, 17, 26, 52, 53, 54, 55, 56, 67, 68, 69, 70, 94, 108, 112], (fun i _ => if i = 10 then some { X := Nat, inv := fun x => x ≤ (unfoldS (foldS ms (useS ms l).1).1).1.length, m := fun x => (unfoldS (foldS ms (useS ms l).1).1).1.length - x, s := fun x => [(55, .t (I x)), (5, .t (B true))] } else if i = 15 then some { X := Nat, inv := fun x => x ≤ (foldS ms (useS ms l).1).1.length, m := fun x => (foldS ms (useS ms l).1).1.length - x, s := fun x => [(69, .t (I x)), (5, .t (B true))] } else some { X := Nat, inv := fun y => y < 70, m := fun y => 70 - y, s := fun y => [(17, .t (I (1 + y))), (5, .t (B true))] }), (fun _ _ => none), rfl, rfl, rfl, castH (p := P_FAll p ms l) (by kernel_rfl) (p_FAll p ms l (hcs _ (.head _)))⟩
  · cases h
abbrev T_FWhole : Tab := [(9, .pu c_head), (11, .pu c_fold), (19, .pu c_usable), (20, .pu c_joins), (21, .pu c_hasI)]
theorem T_FWhole_ok : TOk Try.prog T_FWhole := ⟨ok_head, ok_fold, ok_usable, ok_joins, ok_hasI, trivial⟩
theorem ok_FWhole : FnOk Try.prog 5 (CE.pu c_FWhole).con := fnPuR T_FWhole c_FWhole L_ok T_FWhole_ok mixed Try.func5 (by kernel_rfl) (by kernel_rfl) fun args cs r h hcs => by
  unfold c_FWhole at h
  split at h
  · rename_i p ms l
    injection h with h; injection h with h1 h2; subst h1 h2
    exact ⟨[0, 1, 2, 4, 5, 6, 7, 8, 9, 10, 11, 13, 14, 23, 32, 33, 34, 35, 36, 40, 41, 42, 43, 91, 106], (fun i _ => if i = 9 then some { X := Nat, inv := fun x => x ≤ (foldS ms (useS ms l).1).1.length, m := fun x => (foldS ms (useS ms l).1).1.length - x, s := fun x => [(35, .t (I x)), (5, .t (B true))] } else some { X := Nat, inv := fun y => y ≤ (useS ms l).1.length, m := fun y => (useS ms l).1.length - y, s := fun y => [(42, .t (I y)), (5, .t (B true))] }), (fun _ _ => none), rfl, rfl, rfl, castH (p := P_FWhole p ms l) (by kernel_rfl) (p_FWhole p ms l (hcs _ (.head _)))⟩
  · cases h
end Go.Proofs.Ytdkggjgmlccjcaa
