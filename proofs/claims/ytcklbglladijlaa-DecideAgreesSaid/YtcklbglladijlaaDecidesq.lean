/- The plain proofs. Written by a program (wip/tools/gen.py). -/
import Derived.Test.YtcklbglladijlaaDecidesp
import Derived.Test.YtcklbglladijlaaEs
namespace Go.Proofs.Ytcklbglladijlaa
open Go.Sy Go.RatLaw
set_option linter.unusedVariables false
set_option linter.unusedSimpArgs false
theorem p_QAgrees (ws : List Wk) (ds : List De) (u1 u2 tm : Int) (h10 : 0 ≤ u1) (h11 : u1 ≤ 255) (h20 : 0 ≤ u2) (h21 : u2 ≤ 255) : P_QAgrees ws ds u1 u2 tm := by
 refine ⟨fun _ => rfl, fun h => ?_⟩
 obtain ⟨hv, hl, ht⟩ := usable_time h
 obtain ⟨_, _, hf⟩ := ord_works (valid_ord hv).1
 obtain ⟨m1, m2⟩ := tmod_in h10 (show (0 : Int) < (ds.length : Int) + 1 by omega)
 obtain ⟨n1, n2⟩ := tmod_in h20 (show (0 : Int) < (ds.length : Int) + 1 by omega)
 refine ⟨by unfold InI64; omega, by unfold InI64; omega, by omega, by unfold InI64; omega, by unfold InI64; omega, by omega, fun _ _ => ?_⟩
 have a1 := at_ok hv m1 (show u1.tmod ((ds.length : Int) + 1) ≤ ds.length by omega) ht
 have a2 := at_ok hv n1 (show u2.tmod ((ds.length : Int) + 1) ≤ ds.length by omega) ht
 rw [a1, a2]
 generalize u1.tmod ((ds.length : Int) + 1) = a at m1 m2 ⊢
 generalize u2.tmod ((ds.length : Int) + 1) = b at n1 n2 ⊢
 refine ⟨⟨(min a b).toNat, ⟨by omega, by omega, fun i h1 h2 => by omega⟩, ?_⟩, fun x ⟨hx1, hx2, hx3⟩ => ⟨fun hlt => ?_, fun hge => ?_⟩⟩
 ·split <;> omega
 ·have hlt' : x < ds.length := by
   have := of_decide_eq_true hlt
   split at this <;> omega
  simp only [d0D, tnG]
  refine ⟨by omega, by omega, fun _ => (by first | rfl | trivial), fun h1 => ⟨by unfold InI64; omega, x + 1, ⟨by omega, by omega, fun i hi hm => ?_⟩, by omega, by omega, by (repeat' (first | rfl | trivial | apply And.intro))⟩⟩
  have h1 : ¬ (ds.getD x de0).2.1 ≤ tm := of_decide_eq_false h1
  by_cases hi' : i < x
  ·exact hx3 i hi' hm
  ·have : i = x := by omega
   subst this; omega
 ·have hge := of_decide_eq_false hge
  have hmax : a ≤ x ∧ b ≤ x := by split at hge <;> omega
  have e : untilL ds a tm = untilL ds b tm := by
   rcases Int.le_total a b with hab | hab
   ·exact until_agree hab hf fun k k1 k2 k3 => hx3 k (by omega) (by omega)
   ·exact (until_agree hab hf fun k k1 k2 k3 => hx3 k (by omega) (by omega)).symm
  rw [e]
  dsimp only
  rw [sameR_self]; rfl

end Go.Proofs.Ytcklbglladijlaa
