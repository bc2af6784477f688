/- The functions meet their contracts. Written by a program (wip/tools/gen.py). -/
import Derived.Test.YtcklbglladijlaaDecidesq
import Derived.Test.YtcklbglladijlaaFormk
import Derived.Test.YtcklbglladijlaaDecidek
import Derived.Test.YtcklbglladijlaaDecidelk
namespace Go.Proofs.Ytcklbglladijlaa
open Go.Sy Go.RatLaw
set_option linter.unusedVariables false
set_option maxHeartbeats 4000000
set_option maxRecDepth 100000
set_option linter.unusedSimpArgs false

theorem ok_QAgrees : FnOk Try.prog 5 (CE.pu c_QAgrees).con := okP [(9, .pu c_dhead), (16, .pu c_dAt), (18, .pu c_rSameR), (19, .pu c_usable), (20, .pu c_rTime)] L_ok ⟨ok_dhead, ok_dAt, ok_rSameR, ok_usable, ok_rTime, trivial⟩ mixed Try.func5 fun args cs r h hcs => by
 unfold c_QAgrees at h
 split at h; rotate_left; cases h
 rename_i u_ws ds u1 u2 tm
 split at h; rotate_left; cases h
 rename_i ws hu_ws
 obtain rfl := asRow_eq hu_ws
 injection h with h; injection h with h1 h2; subst h1 h2
 exact puV [0, 1, 2, 3, 4, 10, 11, 12, 13, 14, 15, 16, 17, 18, 28, 49, 58] (fun _ _ => some { X := Nat, inv := fun k => min (u1.tmod ((ds.length : Int) + 1)) (u2.tmod ((ds.length : Int) + 1)) ≤ (k : Int) ∧ k ≤ ds.length ∧ ∀ i : Nat, i < k → min (u1.tmod ((ds.length : Int) + 1)) (u2.tmod ((ds.length : Int) + 1)) ≤ (i : Int) → tm < (List.getD (α := De) ds i de0).2.1, m := fun k => ds.length - k, s := fun k => [(14, .t (I k))] }) nR (okV (p_QAgrees ws ds u1 u2 tm (hcs _ (.head _)) (hcs _ (.tail _ (.head _))) (hcs _ (.tail _ (.tail _ (.head _)))) (hcs _ (.tail _ (.tail _ (.tail _ (.head _)))))) (by kernel_rfl))
end Go.Proofs.Ytcklbglladijlaa
