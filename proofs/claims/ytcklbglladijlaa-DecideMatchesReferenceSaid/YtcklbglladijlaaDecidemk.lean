/- The functions meet their contracts. Written by a program (wip/tools/gen.py). -/
import Derived.Test.YtcklbglladijlaaDecidemq
import Derived.Test.YtcklbglladijlaaFormk
import Derived.Test.YtcklbglladijlaaDecidek
import Derived.Test.YtcklbglladijlaaDecidelk
namespace Go.Proofs.Ytcklbglladijlaa
open Go.Sy Go.RatLaw
set_option linter.unusedVariables false
set_option maxHeartbeats 4000000
set_option maxRecDepth 100000
set_option linter.unusedSimpArgs false

theorem ok_QMatches : FnOk Try.prog 3 (CE.pu c_QMatches).con := okP [(9, .pu c_dhead), (10, .pu c_rFew), (11, .pu c_dPush), (12, .pu c_rPushD), (13, .pu c_dValid), (14, .pu c_rValidD), (15, .pu c_rSameD), (16, .pu c_dAt), (17, .pu c_rAtD), (18, .pu c_rSameR)] L_ok ⟨ok_dhead, ok_rFew, ok_dPush, ok_rPushD, ok_dValid, ok_rValidD, ok_rSameD, ok_dAt, ok_rAtD, ok_rSameR, trivial⟩ mixed Try.func3 fun args cs r h hcs => by
 unfold c_QMatches at h
 split at h; rotate_left; cases h
 rename_i u_ws ds x1 x2 x3 x4 x5 x6 kn tm
 split at h; rotate_left; cases h
 rename_i ws hu_ws
 obtain rfl := asRow_eq hu_ws
 injection h with h; injection h with h1 h2; subst h1 h2
 exact puV [0, 1, 2, 3, 4, 7, 10, 11, 12, 13, 14, 15, 16, 17, 22] nA nR (okV (p_QMatches ws ds x1 x2 x3 x4 x5 x6 kn tm) (by kernel_rfl))
end Go.Proofs.Ytcklbglladijlaa
