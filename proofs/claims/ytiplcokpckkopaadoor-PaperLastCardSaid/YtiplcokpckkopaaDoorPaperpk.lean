/- The functions meet their contracts. Written by a program (wip/tools/gen.py). -/
import Derived.Test.YtiplcokpckkopaaDoorPaperpq
import Derived.Test.YtiplcokpckkopaaDoorMeterk
import Derived.Test.YtiplcokpckkopaaDoorFoldk
import Derived.Test.YtiplcokpckkopaaDoorDigestk
import Derived.Test.YtiplcokpckkopaaDoorPaperk
import Derived.Test.YtiplcokpckkopaaDoorPaperlk
namespace Go.Proofs.YtiplcokpckkopaaDoor
open Go.Sy Go.RatLaw
set_option linter.unusedVariables false
set_option maxHeartbeats 4000000
set_option maxRecDepth 100000
set_option linter.unusedSimpArgs false

theorem ok_PLast : FnOk Tryd.prog 7 (CE.pu c_PLast).con := okP [(8, .pu c_xhead), (9, .pu c_zfew), (10, .pu c_zpdig), (19, .pu c_zrblk)] (LV_ok [] [56, 61] false) ⟨ok_xhead, ok_zfew, ok_zpdig, ok_zrblk, trivial⟩ mixed Tryd.func7 fun args cs r h hcs => by
 unfold c_PLast at h
 split at h; rotate_left; cases h
 rename_i p ms l f u wh
 injection h with h; injection h with h1 h2; subst h1 h2
 exact puV [0, 1, 2, 3, 4, 6, 8, 9, 10, 11, 12, 13, 14, 15, 16, 17, 47, 64, 82, 89, 102, 125] nA nR (okV (p_PLast p ms l f u wh (hcs _ (.head _)) (hcs _ (.tail _ (.head _))) (hcs _ (.tail _ (.tail _ (.head _)))) (hcs _ (.tail _ (.tail _ (.tail _ (.head _))))) (hcs _ (.tail _ (.tail _ (.tail _ (.tail _ (.head _)))))) (hcs _ (.tail _ (.tail _ (.tail _ (.tail _ (.tail _ (.head _)))))))) (by kernel_rfl))
end Go.Proofs.YtiplcokpckkopaaDoor
