/- The functions meet their contracts. Written by a program (wip/tools/gen.py). -/
import Derived.Test.YtdkggjgmlccjcaaFoldoq
namespace Go.Proofs.Ytdkggjgmlccjcaa
open Go.Sy Go.RatLaw
set_option linter.unusedVariables false

abbrev T_FNotes : Tab := [(9, .pu c_head), (11, .pu c_fold), (13, .pu c_same), (19, .pu c_usable)]
theorem T_FNotes_ok : TOk Try.prog T_FNotes := ⟨ok_head, ok_fold, ok_same, ok_usable, trivial⟩
theorem ok_FNotes : FnOk Try.prog 7 (CE.pu c_FNotes).con := fnPuR T_FNotes c_FNotes (LV_ok [47] [] true) T_FNotes_ok mixed Try.func7 (by kernel_rfl) (by kernel_rfl) fun args cs r h hcs => by
  unfold c_FNotes at h
  split at h
  · rename_i p ms l u a b c d e f g h i j
    injection h with h; injection h with h1 h2; subst h1 h2
    exact ⟨[0, 1, 2, 3, 4, 7, 8, 9, 10, 11, 12, 13, 14, 15, 16, 17, 18, 19, 20, 22, 37, 50, 51, 52, 53, 65, 68, 72, 78, 97, 98, 99, 100, 101, 116, 124, 147], (fun q _ => if q = 8 then some { X := Nat, inv := fun x => x ≤ ms.length, m := fun x => ms.length - x, s := fun x => [(52, .t (I x))], h := fun x => [(13, .cells [li .i64 (w64 (p + 1)), .own (rm2 48 1) (.sl MT (otherS (Int.tmod u ms.length) (a, (b, (c, ((d, e), ((f, g), (h, (i, j))))))) ms x))]), (rm2 48 1, .gr 47 5 (otherS (Int.tmod u ms.length) (a, (b, (c, ((d, e), ((f, g), (h, (i, j))))))) ms x).length)] } else some { X := Nat, inv := fun x => x ≤ (foldS ms (useS ms l).1).1.length, m := fun x => (foldS ms (useS ms l).1).1.length - x, s := fun x => [(100, .t (I x)), (20, .t (.one (.own (rm 20) (.sl KT (cutL (Int.tmod u ms.length) ((foldS ms (useS ms l).1).1.take x))))))], h := fun x => [(rm 20, .gr 42 2 (cutL (Int.tmod u ms.length) ((foldS ms (useS ms l).1).1.take x)).length)] }), (fun _ _ => none), rfl, rfl, rfl, castH (p := P_FNotes p ms l u a b c d e f g h i j) (by kernel_rfl) (p_FNotes p ms l u a b c d e f g h i j (hcs _ (.head _)) (hcs _ (.tail _ (.head _))) (hcs _ (.tail _ (.tail _ (.head _)))))⟩
  · cases h
end Go.Proofs.Ytdkggjgmlccjcaa
