/- The plain proofs. Written by a program (wip/tools/gen.py). -/
import Derived.Test.YtcklbglladijlaaDecidelp
import Derived.Test.YtcklbglladijlaaDecidek
namespace Go.Proofs.Ytcklbglladijlaa
open Go.Sy Go.RatLaw
set_option linter.unusedVariables false
set_option linter.unusedSimpArgs false
theorem bars_succ (k : Nat) : barsN (k + 1) = barsN k ++ [((k : Int) + 1, ((4, 1), 0))] := by unfold barsN; rw [List.range_succ, List.map_append]; rfl
theorem bars_len (k : Nat) : (barsN k).length = k := by simp [barsN]
theorem p_work (v n : Int) (h0 : 0 ≤ n) (h1 : n ≤ 1000) : P_work v n := by
 refine ⟨⟨0, Nat.zero_le _, by (repeat' (first | rfl | trivial | apply And.intro))⟩, fun x hx => ⟨fun hlt => ?_, fun hge => ?_⟩⟩
 ·have hlt := of_decide_eq_true hlt
  have hb := bars_succ x
  have hl := bars_len x
  refine ⟨by unfold InI64; omega, by (repeat' (first | rfl | trivial | apply And.intro)), by omega, by unfold InI64; omega, x + 1, by omega, by omega, by omega, ?_⟩
  rw [hb]
  repeat' (first | exact rfl | exact trivial | (simp only [List.length_append, List.length_singleton]; done) | apply And.intro)
 ·have hge := of_decide_eq_false hge
  have : x = n.toNat := by omega
  subst this
  (repeat' (first | rfl | trivial | apply And.intro))
theorem p_usable (ws : List Wk) (ds : List De) : P_usable ws ds := rfl
theorem p_dhead : P_dhead := by unfold P_dhead; decide +kernel

theorem usable_parts {ws : List Wk} {ds : List De} (h : usableB ws ds = true) : validD ws ds = true ∧ ds.length ≤ 30 := by
 unfold usableB fewD at h
 simp only [Bool.and_eq_true, decide_eq_true_eq] at h
 exact ⟨h.2, h.1.2⟩
theorem usable_time {ws : List Wk} {ds : List De} {tm : Int} (h : (!usableB ws ds || !isTimeB tm) = false) : validD ws ds = true ∧ ds.length ≤ 30 ∧ isTimeB tm = true := by
 simp only [Bool.or_eq_false_iff, Bool.not_eq_false'] at h
 exact ⟨(usable_parts h.1).1, (usable_parts h.1).2, h.2⟩
theorem tmod_in {u n : Int} (h0 : 0 ≤ u) (hn : 0 < n) : 0 ≤ u.tmod n ∧ u.tmod n < n := ⟨Int.tmod_nonneg _ h0, Int.tmod_lt_of_pos _ hn⟩

end Go.Proofs.Ytcklbglladijlaa
