/- The functions meet their contracts. Written by a program (wip/tools/gen.py). -/
import Derived.Test.YtcklbglladijlaaDeciderq
import Derived.Test.YtcklbglladijlaaFormk
import Derived.Test.YtcklbglladijlaaDecidek
import Derived.Test.YtcklbglladijlaaDecidelk
namespace Go.Proofs.Ytcklbglladijlaa
open Go.Sy Go.RatLaw
set_option linter.unusedVariables false
set_option maxHeartbeats 4000000
set_option maxRecDepth 100000
set_option linter.unusedSimpArgs false

theorem ok_QVersions : FnOk Try.prog 8 (CE.pu c_QVersions).con := okP [(9, .pu c_dhead), (11, .pu c_dPush), (16, .pu c_dAt), (18, .pu c_rSameR), (19, .pu c_usable)] L_ok ⟨ok_dhead, ok_dPush, ok_dAt, ok_rSameR, ok_usable, trivial⟩ mixed Try.func8 fun args cs r h hcs => by
 unfold c_QVersions at h
 split at h; rotate_left; cases h
 rename_i u_ws ds u
 split at h; rotate_left; cases h
 rename_i ws hu_ws
 obtain rfl := asRow_eq hu_ws
 injection h with h; injection h with h1 h2; subst h1 h2
 exact puV [0, 1, 2, 6, 7, 8, 9, 10, 11, 12, 22] nA nR (okV (p_QVersions ws ds u (hcs _ (.head _)) (hcs _ (.tail _ (.head _)))) (by kernel_rfl))
end Go.Proofs.Ytcklbglladijlaa
