/- The functions meet their contracts. Written by a program (wip/tools/gen.py). -/
import Derived.Test.YtcklbglladijlaaDecideqq
import Derived.Test.YtcklbglladijlaaFormk
import Derived.Test.YtcklbglladijlaaDecidek
import Derived.Test.YtcklbglladijlaaDecidelk
namespace Go.Proofs.Ytcklbglladijlaa
open Go.Sy Go.RatLaw
set_option linter.unusedVariables false
set_option maxHeartbeats 4000000
set_option maxRecDepth 100000
set_option linter.unusedSimpArgs false

theorem ok_QBack : FnOk Try.prog 7 (CE.pu c_QBack).con := okP [(9, .pu c_dhead), (11, .pu c_dPush), (16, .pu c_dAt), (18, .pu c_rSameR), (19, .pu c_usable)] (LV_ok [] [] true) ⟨ok_dhead, ok_dPush, ok_dAt, ok_rSameR, ok_usable, trivial⟩ mixed Try.func7 fun args cs r h hcs => by
 unfold c_QBack at h
 split at h; rotate_left; cases h
 rename_i u_ws ds x1 x2 x3 x4 x5 x6
 split at h; rotate_left; cases h
 rename_i ws hu_ws
 obtain rfl := asRow_eq hu_ws
 injection h with h; injection h with h1 h2; subst h1 h2
 exact puV [0, 1, 2, 5, 6, 7, 8, 9, 10, 11, 12, 13, 14, 15, 16, 26, 37, 40, 42, 44, 45, 58, 68, 69, 74, 78, 87] nA nR (okV (p_QBack ws ds x1 x2 x3 x4 x5 x6) (by kernel_rfl))
end Go.Proofs.Ytcklbglladijlaa
