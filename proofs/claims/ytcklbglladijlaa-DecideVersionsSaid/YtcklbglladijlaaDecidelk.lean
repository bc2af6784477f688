/- The functions meet their contracts. Written by a program (wip/tools/gen.py). -/
import Derived.Test.YtcklbglladijlaaDecidelq
import Derived.Test.YtcklbglladijlaaFormk
import Derived.Test.YtcklbglladijlaaDecidek
namespace Go.Proofs.Ytcklbglladijlaa
open Go.Sy Go.RatLaw
set_option linter.unusedVariables false
set_option maxHeartbeats 4000000
set_option maxRecDepth 100000
set_option linter.unusedSimpArgs false

theorem ok_work : FnOk Try.prog 24 (CE.pu c_work).con := okP [] (LV_ok [89] [] false) trivial mixed Try.func24 fun args cs r h hcs => by
 unfold c_work at h
 split at h; rotate_left; cases h
 rename_i v n
 injection h with h; injection h with h1 h2; subst h1 h2
 exact puV [0, 1, 4, 5, 6, 12, 13, 14, 26, 28] (fun _ _ => some { X := Nat, inv := fun k => k ≤ n.toNat, m := fun k => n.toNat - k, s := fun k => [(13, .t (I k))], h := fun k => [(5, .cells [li .i64 v, .own (rm2 8 1) (.sl BTT (barsN k)), .d (.sl PTTT []), .d (.sl NTTT []), li .i64 n, .d (.sl T3T []), .d (.sl T3T []), li .i64 0, li .i64 0, li .i64 0, .d (.sl T3T []), .d (.sl T3T [])]), (rm2 8 1, .gr 89 4 (barsN k).length)] }) nR (okV (p_work v n (hcs _ (.head _)) (hcs _ (.tail _ (.head _)))) (by kernel_rfl))
theorem ok_usable : FnOk Try.prog 19 (CE.pu c_usable).con := okP [(10, .pu c_rFew), (14, .pu c_rValidD)] L_ok ⟨ok_rFew, ok_rValidD, trivial⟩ mixed Try.func19 fun args cs r h hcs => by
 unfold c_usable at h
 split at h; rotate_left; cases h
 rename_i u_ws ds
 split at h; rotate_left; cases h
 rename_i ws hu_ws
 obtain rfl := asRow_eq hu_ws
 injection h with h; injection h with h1 h2; subst h1 h2
 exact puV [0, 1, 4] nA nR (okV (p_usable ws ds) (by kernel_rfl))
theorem ok_dhead : FnOk Try.prog 9 (CE.pu c_dhead).con := okP [(11, .pu c_dPush), (13, .pu c_dValid), (16, .pu c_dAt), (18, .pu c_rSameR), (24, .pu c_work)] L_ok ⟨ok_dPush, ok_dValid, ok_dAt, ok_rSameR, ok_work, trivial⟩ mixed Try.func9 fun args cs r h hcs => by
 unfold c_dhead at h
 split at h; rotate_left; cases h
 injection h with h; injection h with h1 h2; subst h1 h2
 exact puV [0, 1, 2, 3, 4, 5, 6, 7, 8, 9, 10, 11, 12, 13, 14, 15, 16, 17, 19, 21, 23, 24, 25] nA nR (okV (p_dhead ) (by kernel_rfl))
end Go.Proofs.Ytcklbglladijlaa
