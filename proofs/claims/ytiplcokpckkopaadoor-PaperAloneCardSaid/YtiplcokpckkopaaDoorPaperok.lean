/- The functions meet their contracts. Written by a program (wip/tools/gen.py). -/
import Derived.Test.YtiplcokpckkopaaDoorPaperoq
import Derived.Test.YtiplcokpckkopaaDoorMeterk
import Derived.Test.YtiplcokpckkopaaDoorFoldk
import Derived.Test.YtiplcokpckkopaaDoorDigestk
import Derived.Test.YtiplcokpckkopaaDoorPaperk
import Derived.Test.YtiplcokpckkopaaDoorPaperlk
namespace Go.Proofs.YtiplcokpckkopaaDoor
open Go.Sy Go.RatLaw
set_option linter.unusedVariables false
set_option maxHeartbeats 4000000
set_option maxRecDepth 100000
set_option linter.unusedSimpArgs false

theorem ok_PAlone : FnOk Tryd.prog 6 (CE.pu c_PAlone).con := okP [(8, .pu c_xhead), (9, .pu c_zfew), (10, .pu c_zpdig), (19, .pu c_zrblk)] (LV_ok [] [56] false) ⟨ok_xhead, ok_zfew, ok_zpdig, ok_zrblk, trivial⟩ mixed Tryd.func6 fun args cs r h hcs => by
 unfold c_PAlone at h
 split at h; rotate_left; cases h
 rename_i p ms l f u wh bar more
 injection h with h; injection h with h1 h2; subst h1 h2
 exact puV [0, 1, 2, 3, 4, 5, 6, 8, 12, 13, 14, 15, 16, 17, 18, 19, 20, 21, 43, 51, 52, 53, 54, 73, 81, 93, 103] (fun _ _ => some { X := Nat, inv := fun x => x ≤ l.length ∧ ∀ i, i < x → ¬ (f ≤ (i : Int) ∧ (i : Int) < u ∧ (List.getD (α := Bk) l i bk0).1 = Int.tmod wh ms.length), m := fun x => l.length - x, s := fun x => [(53, .t (I x))] }) nR (okV (p_PAlone p ms l f u wh bar more (hcs _ (.head _)) (hcs _ (.tail _ (.head _))) (hcs _ (.tail _ (.tail _ (.head _)))) (hcs _ (.tail _ (.tail _ (.tail _ (.head _))))) (hcs _ (.tail _ (.tail _ (.tail _ (.tail _ (.head _)))))) (hcs _ (.tail _ (.tail _ (.tail _ (.tail _ (.tail _ (.head _))))))) (hcs _ (.tail _ (.tail _ (.tail _ (.tail _ (.tail _ (.tail _ (.head _)))))))) (hcs _ (.tail _ (.tail _ (.tail _ (.tail _ (.tail _ (.tail _ (.tail _ (.head _))))))))) (hcs _ (.tail _ (.tail _ (.tail _ (.tail _ (.tail _ (.tail _ (.tail _ (.tail _ (.head _))))))))))) (by kernel_rfl))
end Go.Proofs.YtiplcokpckkopaaDoor
