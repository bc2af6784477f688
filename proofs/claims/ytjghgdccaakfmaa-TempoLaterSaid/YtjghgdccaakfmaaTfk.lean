/- The functions meet their contracts. Written by a program (wip/tools/gen.py). -/
import Derived.Test.YtjghgdccaakfmaaTfq
import Derived.Test.YtjghgdccaakfmaaMeterk
import Derived.Test.YtjghgdccaakfmaaFormk
import Derived.Test.YtjghgdccaakfmaaTempok
import Derived.Test.YtjghgdccaakfmaaTlk
namespace Go.Proofs.Ytjghgdccaakfmaa
open Go.Sy Go.RatLaw
set_option linter.unusedVariables false
set_option maxHeartbeats 4000000
set_option linter.unusedSimpArgs false

abbrev T_TLater : Tab := [(9, .pu c_thead), (11, .pu c_tAt0), (14, .pu c_rTValid), (15, .pu c_tSeconds), (19, .pu c_tusable), (20, .pu c_Position), (21, .pu cRatOf), (23, .pu cVld)]
theorem T_TLater_ok : TOk Try.prog T_TLater := ⟨ok_thead, ok_tAt0, ok_rTValid, ok_tSeconds, ok_tusable, ok_Position, ok21, ok23, trivial⟩
theorem v_TLater (bars : List Bar) (l : List T3) (w a d pb pn pd : Int) : (vcPu (LV [] [50] false) T_TLater Try.f6 [0, 1, 2, 3, 4, 8, 9, 10, 11, 12, 13, 14, 15, 16, 17, 18, 19, 20, 21, 22, 23, 24, 25, 26, 27, 38, 55, 59, 102, 115, 116, 117, 124, 125, 126, 127, 134, 136, 139, 141, 142] (fun i σ => if i = 15 then some { X := Nat, inv := fun k => k ≤ bars.length, m := fun k => bars.length - k, s := fun k => [(116, .t (I k)), (11, .t (B true))] } else some { X := Nat, inv := fun k => k ≤ l.length, m := fun k => l.length - k, s := fun k => [(126, .t (I k))], h := fun k => [(20, .cells [li .i64 (wantT l (dI (slD σ 19)) k).1, li .i64 (wantT l (dI (slD σ 19)) k).2]), (21, .cells [li .i64 (lastW l (dI (slD σ 19)) (Int.tmod w (l.length : Int)).toNat a d k).1, li .i64 (lastW l (dI (slD σ 19)) (Int.tmod w (l.length : Int)).toNat a d k).2])] }) [BL bars, L3 l, U8 w, Q a d, Po pb pn pd] (.t (B true))).holds = P_TLater bars l w a d pb pn pd := by kernel_rfl
theorem w_TLater (bars : List Bar) (l : List T3) (w a d pb pn pd : Int) (h_0 : 0 ≤ w) (h_1 : w ≤ 255) : (vcPu (LV [] [50] false) T_TLater Try.f6 [0, 1, 2, 3, 4, 8, 9, 10, 11, 12, 13, 14, 15, 16, 17, 18, 19, 20, 21, 22, 23, 24, 25, 26, 27, 38, 55, 59, 102, 115, 116, 117, 124, 125, 126, 127, 134, 136, 139, 141, 142] (fun i σ => if i = 15 then some { X := Nat, inv := fun k => k ≤ bars.length, m := fun k => bars.length - k, s := fun k => [(116, .t (I k)), (11, .t (B true))] } else some { X := Nat, inv := fun k => k ≤ l.length, m := fun k => l.length - k, s := fun k => [(126, .t (I k))], h := fun k => [(20, .cells [li .i64 (wantT l (dI (slD σ 19)) k).1, li .i64 (wantT l (dI (slD σ 19)) k).2]), (21, .cells [li .i64 (lastW l (dI (slD σ 19)) (Int.tmod w (l.length : Int)).toNat a d k).1, li .i64 (lastW l (dI (slD σ 19)) (Int.tmod w (l.length : Int)).toNat a d k).2])] }) [BL bars, L3 l, U8 w, Q a d, Po pb pn pd] (.t (B true))).holds ∧ True := by
  rw [v_TLater]
  exact ⟨p_TLater bars l w a d pb pn pd h_0 h_1, trivial⟩
theorem ok_TLater : FnOk Try.prog 6 (CE.pu c_TLater).con := fnPuR T_TLater c_TLater (LV_ok [] [50] false) T_TLater_ok mixed Try.func6 (by kernel_rfl) (by kernel_rfl) fun args cs r h hcs => by
  unfold c_TLater at h
  split at h
  · rename_i bars l w a d pb pn pd
    injection h with h; injection h with h1 h2; subst h1 h2
    exact ⟨[0, 1, 2, 3, 4, 8, 9, 10, 11, 12, 13, 14, 15, 16, 17, 18, 19, 20, 21, 22, 23, 24, 25, 26, 27, 38, 55, 59, 102, 115, 116, 117, 124, 125, 126, 127, 134, 136, 139, 141, 142], (fun i σ => if i = 15 then some { X := Nat, inv := fun k => k ≤ bars.length, m := fun k => bars.length - k, s := fun k => [(116, .t (I k)), (11, .t (B true))] } else some { X := Nat, inv := fun k => k ≤ l.length, m := fun k => l.length - k, s := fun k => [(126, .t (I k))], h := fun k => [(20, .cells [li .i64 (wantT l (dI (slD σ 19)) k).1, li .i64 (wantT l (dI (slD σ 19)) k).2]), (21, .cells [li .i64 (lastW l (dI (slD σ 19)) (Int.tmod w (l.length : Int)).toNat a d k).1, li .i64 (lastW l (dI (slD σ 19)) (Int.tmod w (l.length : Int)).toNat a d k).2])] }), (fun _ _ => none), rfl, rfl, rfl, (by apply And.left (b := True); exact w_TLater bars l w a d pb pn pd (hcs _ (.head _)) (hcs _ (.tail _ (.head _))))⟩
  · cases h
end Go.Proofs.Ytjghgdccaakfmaa
