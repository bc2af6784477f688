/- The plain proofs. Written by a program (wip/tools/gen.py). -/
import Derived.Test.YtcklbglladijlaaDecideqp
import Derived.Test.YtcklbglladijlaaEs
namespace Go.Proofs.Ytcklbglladijlaa
open Go.Sy Go.RatLaw
set_option linter.unusedVariables false
set_option linter.unusedSimpArgs false
theorem back_end {ws : List Wk} {n : List De} {r : Rm} {q : Int} (h : atD ws n (n.length : Int) 1000000000 = (r, 0)) (hq : q = 0) : (true && q == 0 && (atD ws n (n.length : Int) 1000000000).2 == 0 && sameR r (atD ws n (n.length : Int) 1000000000).1) = true := by
 rw [h, hq, sameR_self]; rfl
theorem wrap_small {z : Int} (h : InI64 z) : IntKind.i64.wrap z = z := by
 unfold InI64 at h
 simp [IntKind.wrap, IntKind.signed, IntKind.bits]
 omega
theorem p_QBack (ws : List Wk) (ds : List De) (x1 x2 x3 x4 x5 x6 : Int) : P_QBack ws ds x1 x2 x3 x4 x5 x6 := by
 intro _
 refine ⟨fun _ => rfl, fun h _ => ?_⟩
 simp only [Bool.or_eq_false_iff, Bool.not_eq_false', decide_eq_false_iff_not] at h
 obtain ⟨hv, _⟩ := usable_parts h.1
 have hl : ds.length ≤ 28 := by omega
 obtain ⟨ho, hr⟩ := valid_ord hv
 obtain ⟨hw, _, hf⟩ := ord_works ho
 have hA : atD ws ds (ds.length : Int) 1000000000 = ((runS ws (firstR ws) ds).1, 0) := by
  rw [at_ok hv (by omega) (Int.le_refl _) (by decide), until_all ds.length hf (by omega)]
 have key : ∀ y : De, (pushS ws ds (x1, (x2, (x3, (x4, (x5, x6)))))).2 = 0 → y.1 = IntKind.i64.wrap (x1 + 1) → y.2.1 = x2 → 1 ≤ y.2.2.1 → y.2.2.1 ≤ 5 →
   doS ws (doS ws (runS ws (firstR ws) ds).1 (x1, (x2, (x3, (x4, (x5, x6)))))).1 y = ((runS ws (firstR ws) ds).1, 0) →
   (true && (pushS ws (pushS ws ds (x1, (x2, (x3, (x4, (x5, x6)))))).1 y).2 == 0 && (atD ws (pushS ws (pushS ws ds (x1, (x2, (x3, (x4, (x5, x6)))))).1 y).1 ((pushS ws (pushS ws ds (x1, (x2, (x3, (x4, (x5, x6)))))).1 y).1.length : Int) 1000000000).2 == 0 &&
    sameR (runS ws (firstR ws) ds).1 (atD ws (pushS ws (pushS ws ds (x1, (x2, (x3, (x4, (x5, x6)))))).1 y).1 ((pushS ws (pushS ws ds (x1, (x2, (x3, (x4, (x5, x6)))))).1 y).1.length : Int) 1000000000).1) = true := by
  intro y h0 hn ht k1 k2 hd
  obtain ⟨hp, hb, _⟩ := push_ok h0
  obtain ⟨_, _, _, hx, _⟩ := pb_parts hb
  have hx : x1 = (ds.length : Int) + 1 := hx
  obtain ⟨e1, e2⟩ := push_back h0 hl (by rw [hn, wrap_small (by unfold InI64; omega)]) ht k1 k2 hd
  rw [hp]
  dsimp only
  rw [e1]
  exact back_end e2 rfl
 rw [hA]
 refine ⟨fun h2 => by simp at h2, fun _ => ⟨fun h3 => ⟨fun _ => rfl, fun h4 _ => ?_⟩, fun h3 => ⟨fun h4 _ => ⟨fun _ => rfl, fun h5 => ?_⟩, fun h4 => ⟨fun h5 => ⟨fun _ => rfl, fun h6 _ => ?_⟩, fun _ => rfl⟩⟩⟩⟩
 ·have h3 : x3 = 2 := by simpa using h3
  subst h3
  have h4 : (pushS ws ds (x1, (x2, (2, (x4, (x5, x6)))))).2 = 0 := by simpa using h4
  exact key _ h4 rfl rfl (show (1 : Int) ≤ 3 by decide) (show (3 : Int) ≤ 5 by decide) (back_cut (x := (x1, (x2, (2, (x4, (x5, x6)))))) rfl (push_ok h4).2.2.2.2)
 ·have h4 : x3 = 4 := by simpa using h4
  subst h4
  simp only [Bool.or_eq_false_iff, decide_eq_false_iff_not] at h5
  dsimp only at h5 ⊢
  refine ⟨by omega, by omega, fun _ => rfl, fun h6 _ => ?_⟩
  have h6 : (pushS ws ds (x1, (x2, (4, (x4, (x5, x6)))))).2 = 0 := by simpa using h6
  exact key _ h6 rfl rfl (show (1 : Int) ≤ 4 by decide) (show (4 : Int) ≤ 5 by decide) (back_times (x := (x1, (x2, (4, (x4, (x5, x6)))))) rfl (push_ok h6).2.2.2.2)
 ·have h5 : x3 = 5 := by simpa using h5
  subst h5
  have h6 : (pushS ws ds (x1, (x2, (5, (x4, (x5, x6)))))).2 = 0 := by simpa using h6
  obtain ⟨b1, b2, b3⟩ := back_ossia (n := IntKind.i64.wrap (x1 + 1)) (x := (x1, (x2, (5, (x4, (x5, x6)))))) (run_oss1 ws ds).1 rfl (push_ok h6).2.2.2.2
  have b1 : 0 ≤ x5 := b1
  have b2 : x5 ≤ 1 := b2
  rw [wrap_small (show InI64 (1 - x5) by unfold InI64; omega)]
  exact key _ h6 rfl rfl (show (1 : Int) ≤ 5 by decide) (show (5 : Int) ≤ 5 by decide) b3

end Go.Proofs.Ytcklbglladijlaa
