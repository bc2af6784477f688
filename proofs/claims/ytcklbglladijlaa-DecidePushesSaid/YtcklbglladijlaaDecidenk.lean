/- The functions meet their contracts. Written by a program (wip/tools/gen.py). -/
import Derived.Test.YtcklbglladijlaaDecidenq
import Derived.Test.YtcklbglladijlaaFormk
import Derived.Test.YtcklbglladijlaaDecidek
import Derived.Test.YtcklbglladijlaaDecidelk
namespace Go.Proofs.Ytcklbglladijlaa
open Go.Sy Go.RatLaw
set_option linter.unusedVariables false
set_option maxHeartbeats 4000000
set_option maxRecDepth 100000
set_option linter.unusedSimpArgs false

theorem ok_QPushes : FnOk Try.prog 4 (CE.pu c_QPushes).con := okP [(9, .pu c_dhead), (11, .pu c_dPush), (15, .pu c_rSameD), (16, .pu c_dAt), (18, .pu c_rSameR), (19, .pu c_usable), (20, .pu c_rTime), (21, .pu c_rDo)] L_ok ⟨ok_dhead, ok_dPush, ok_rSameD, ok_dAt, ok_rSameR, ok_usable, ok_rTime, ok_rDo, trivial⟩ mixed Try.func4 fun args cs r h hcs => by
 unfold c_QPushes at h
 split at h; rotate_left; cases h
 rename_i u_ws ds x1 x2 x3 x4 x5 x6 u tm
 split at h; rotate_left; cases h
 rename_i ws hu_ws
 obtain rfl := asRow_eq hu_ws
 injection h with h; injection h with h1 h2; subst h1 h2
 exact puV [0, 1, 2, 3, 4, 7, 10, 11, 12, 13, 14, 15, 16, 17, 18, 19, 20, 21, 22, 23, 24, 34, 44, 74, 134, 138] nA nR (okV (p_QPushes ws ds x1 x2 x3 x4 x5 x6 u tm (hcs _ (.head _)) (hcs _ (.tail _ (.head _)))) (by kernel_rfl))
end Go.Proofs.Ytcklbglladijlaa
