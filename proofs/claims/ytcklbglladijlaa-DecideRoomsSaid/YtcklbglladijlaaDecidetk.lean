/- The functions meet their contracts. Written by a program (wip/tools/gen.py). -/
import Derived.Test.YtcklbglladijlaaDecidetq
import Derived.Test.YtcklbglladijlaaFormk
import Derived.Test.YtcklbglladijlaaDecidek
import Derived.Test.YtcklbglladijlaaDecidelk
namespace Go.Proofs.Ytcklbglladijlaa
open Go.Sy Go.RatLaw
set_option linter.unusedVariables false
set_option maxHeartbeats 4000000
set_option maxRecDepth 100000
set_option linter.unusedSimpArgs false

theorem ok_QRooms : FnOk Try.prog 6 (CE.pu c_QRooms).con := okP [(9, .pu c_dhead), (16, .pu c_dAt), (19, .pu c_usable), (20, .pu c_rTime), (22, .pu c_rFind), (23, .pu c_valid)] L_ok ⟨ok_dhead, ok_dAt, ok_usable, ok_rTime, ok_rFind, ok_valid, trivial⟩ mixed Try.func6 fun args cs r h hcs => by
 unfold c_QRooms at h
 split at h; rotate_left; cases h
 rename_i u_ws ds u tm
 split at h; rotate_left; cases h
 rename_i ws hu_ws
 obtain rfl := asRow_eq hu_ws
 injection h with h; injection h with h1 h2; subst h1 h2
 exact puV [0, 1, 2, 3, 8, 9, 10, 11, 12, 13, 14, 24, 67, 69, 70, 71, 72] (fun _ _ => some { X := Nat, inv := fun k => k ≤ (atD ws ds (u.tmod ((ds.length : Int) + 1)) tm).1.2.2.length, m := fun k => (atD ws ds (u.tmod ((ds.length : Int) + 1)) tm).1.2.2.length - k, s := fun k => [(71, .t (I k)), (9, .t (B true))] }) nR (okV (p_QRooms ws ds u tm (hcs _ (.head _)) (hcs _ (.tail _ (.head _)))) (by kernel_rfl))
end Go.Proofs.Ytcklbglladijlaa
