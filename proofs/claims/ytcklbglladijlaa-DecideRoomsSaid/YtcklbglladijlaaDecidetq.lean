/- The plain proofs. Written by a program (wip/tools/gen.py). -/
import Derived.Test.YtcklbglladijlaaDecidetp
import Derived.Test.YtcklbglladijlaaEs
namespace Go.Proofs.Ytcklbglladijlaa
open Go.Sy Go.RatLaw
set_option linter.unusedVariables false
set_option linter.unusedSimpArgs false
theorem p_QRooms (ws : List Wk) (ds : List De) (u tm : Int) (hu0 : 0 ≤ u) (hu1 : u ≤ 255) : P_QRooms ws ds u tm := by
 refine ⟨fun _ => rfl, fun h => ?_⟩
 obtain ⟨hv, hl, ht⟩ := usable_time h
 obtain ⟨hw, _, hf⟩ := ord_works (valid_ord hv).1
 obtain ⟨m1, m2⟩ := tmod_in hu0 (show (0 : Int) < (ds.length : Int) + 1 by omega)
 have a1 := at_ok hv m1 (show u.tmod ((ds.length : Int) + 1) ≤ ds.length by omega) ht
 have hr := run_room hw (d := untilL ds (u.tmod ((ds.length : Int) + 1)) tm) (first_room hw)
 have ho := run_oss (ws := ws) (d := untilL ds (u.tmod ((ds.length : Int) + 1)) tm) (first_oss ws)
 rw [a1]
 generalize (runS ws (firstR ws) (untilL ds (u.tmod ((ds.length : Int) + 1)) tm)).1 = r at hr ho ⊢
 obtain ⟨g1, g2, g3, g4⟩ := room_bars hw hr
 have hlo := oss_len ho
 refine ⟨by unfold InI64; omega, fun _ => ⟨by unfold InI64; omega, by omega, fun _ => ⟨g1, g2⟩, fun _ => ⟨fun hf => ?_, fun hf _ => ⟨⟨0, by omega, rfl, rfl⟩, fun x hx => ⟨fun hlt => ?_, fun _ => rfl⟩⟩⟩⟩⟩
 ·exfalso
  simp only [d0W, Bool.or_eq_true, bne_iff_ne, ne_eq, decide_eq_true_eq, Bool.not_eq_true'] at hf
  rcases hf with ((hf | hf) | hf) | hf
  ·exact hf (by first | rfl | trivial)
  ·omega
  ·exact absurd (g3.symm.trans hf) (by simp)
  ·exact hf g4
 ·have hlt' : x < r.2.2.length := by have := of_decide_eq_true hlt; omega
  have e1 : ((x : Int) - 1).toNat = x - 1 := by omega
  simp only [d0I, tnG, e1]
  have hb := ho.2 _ (memG (0 : Int) hlt')
  refine ⟨by omega, by omega, fun _ => by unfold InI64; omega, fun h1 => ?_, by unfold InI64; omega, x + 1, by omega, by omega, by omega, ?_, by (repeat' (first | rfl | trivial | apply And.intro))⟩
  ·have h1 : ¬ (x : Int) = 0 := by simpa using h1.1
   omega
  ·rw [decide_eq_true (show r.2.2.getD x 0 ≥ 1 from hb.1), decide_eq_true (show r.2.2.getD x 0 ≤ 20 from hb.2)]
   by_cases hx0 : x = 0
   ·subst hx0; rfl
   ·have := rise_get ho.1 (show x - 1 < x by omega) hlt'
    rw [decide_eq_true (show r.2.2.getD x 0 > r.2.2.getD (x - 1) 0 from this)]
    simp

end Go.Proofs.Ytcklbglladijlaa
