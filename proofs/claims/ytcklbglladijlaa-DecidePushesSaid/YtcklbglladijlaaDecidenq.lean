/- The plain proofs. Written by a program (wip/tools/gen.py). -/
import Derived.Test.YtcklbglladijlaaDecidenp
import Derived.Test.YtcklbglladijlaaEs
namespace Go.Proofs.Ytcklbglladijlaa
open Go.Sy Go.RatLaw
set_option linter.unusedVariables false
set_option linter.unusedSimpArgs false
theorem p_QPushes (ws : List Wk) (ds : List De) (x1 x2 x3 x4 x5 x6 : Int) (u tm : Int) (hu0 : 0 ≤ u) (hu1 : u ≤ 255) : P_QPushes ws ds x1 x2 x3 x4 x5 x6 u tm := by
 refine ⟨fun _ => rfl, fun h => ?_⟩
 obtain ⟨hv, hl, ht⟩ := usable_time h
 refine ⟨fun h2 _ => ?_, fun h2 => ?_⟩
 ·rw [push_err (by simpa using h2)]; rfl
 ·have h2 : (pushS ws ds (x1, (x2, (x3, (x4, (x5, x6)))))).2 = 0 := by simpa using h2
  obtain ⟨hp, hb, _, _, hd⟩ := push_ok h2
  obtain ⟨m1, m2⟩ := tmod_in hu0 (show (0 : Int) < (ds.length : Int) + 1 by omega)
  have eL : ((ds ++ [(x1, (x2, (x3, (x4, (x5, x6)))))]).length : Int) = (ds.length : Int) + 1 := by simp
  have eT : List.drop (Int.toNat 0) (List.take (ds.length : Int).toNat (ds ++ [(x1, (x2, (x3, (x4, (x5, x6)))))])) = ds := by simp
  have eG : (ds ++ [(x1, (x2, (x3, (x4, (x5, x6)))))]).getD (ds.length : Int).toNat (DTT.d0 : De) = (x1, (x2, (x3, (x4, (x5, x6))))) := by
   rw [show (DTT.d0 : De) = de0 from rfl, Int.toNat_natCast]; simp [List.getD_eq_getElem?_getD]
  have a1 := at_ok hv m1 (show u.tmod ((ds.length : Int) + 1) ≤ ds.length by omega) ht
  have a2 := at_ok (valid_snoc h2) m1 (show u.tmod ((ds.length : Int) + 1) ≤ ((ds ++ [(x1, (x2, (x3, (x4, (x5, x6)))))]).length : Int) by omega) ht
  rw [until_one h2 (show u.tmod ((ds.length : Int) + 1) ≤ ds.length by omega)] at a2
  have a3 := at_ok hv (show (0 : Int) ≤ ds.length by omega) (Int.le_refl _) ht
  have a4 := at_ok (valid_snoc h2) (show (0 : Int) ≤ ((ds ++ [(x1, (x2, (x3, (x4, (x5, x6)))))]).length : Int) by omega) (Int.le_refl _) ht
  have ef : (((ds.length : Int) + 1 != (ds.length : Int) + 1) || !sameD ds ds || !(x1 == x1 && (x2 == x2 && (x3 == x3 && (x4 == x4 && (x5 == x5 && x6 == x6)))))) = false := by rw [sameD_self]; simp
  rw [hp]
  dsimp only
  rw [eT, eL, eG]
  refine ⟨by unfold InI64; omega, fun _ => ⟨by omega, by omega, by omega⟩, fun _ => ⟨by omega, by omega⟩, fun _ _ _ _ => ⟨fun hf => ?_, fun _ => ⟨by unfold InI64; omega, fun _ => ⟨by unfold InI64; omega, by omega, fun _ _ => ⟨fun hf => ?_, fun _ => ⟨fun hlt => ?_, fun hge => ?_⟩⟩⟩⟩⟩⟩
  ·exact absurd (hf.symm.trans ef) (by simp)
  ·rw [← eL] at hf
   rw [a4, eL, a1, a2, a3] at hf
   dsimp only at hf
   rw [sameR_self] at hf
   simp at hf
  ·have hlt : tm < x2 := of_decide_eq_true hlt
   have := until_before (x := (x1, (x2, (x3, (x4, (x5, x6)))))) h2 hlt
   rw [this] at a4
   rw [← eL, a4, a3]
   dsimp only
   rw [sameR_self]; rfl
  ·have hge : x2 ≤ tm := Int.not_lt.1 (of_decide_eq_false hge)
   obtain ⟨b1, b2⟩ := at_after (x := (x1, (x2, (x3, (x4, (x5, x6)))))) h2 hge ht
   obtain ⟨o1, o2⟩ := run_oss1 ws ds
   rw [← eL, b1, b2]
   dsimp only
   refine ⟨o1, o2, ?_⟩
   rw [show doS ws ((runS ws (firstR ws) ds).1.1, ((runS ws (firstR ws) ds).1.2.1, (runS ws (firstR ws) ds).1.2.2)) (x1, (x2, (x3, (x4, (x5, x6))))) = doS ws (runS ws (firstR ws) ds).1 (x1, (x2, (x3, (x4, (x5, x6))))) from rfl]
   rw [hd, sameR_self]; rfl

end Go.Proofs.Ytcklbglladijlaa
