/- The plain proofs. Written by a program (wip/tools/gen.py). -/
import Derived.Test.YtdkggjgmlccjcaaFoldlp
import Derived.Test.YtdkggjgmlccjcaaFq
namespace Go.Proofs.Ytdkggjgmlccjcaa
open Go.Sy Go.RatLaw
set_option linter.unusedVariables false
set_option linter.unusedSimpArgs false
theorem exPre_succ (x : Nat) : exPre x ++ [(((x : Int) + 1, (0, ((4, 1), []))) : Ms)] = exPre (x + 1) := by
  unfold exPre; rw [List.range_succ, List.map_append]; rfl
theorem exPre_len (x : Nat) : (exPre x).length = x := by unfold exPre; simp
theorem p_example : P_example := by
  refine ⟨⟨0, by omega, rfl, rfl, rfl, rfl⟩, fun x hx => ⟨fun h => ?_, fun h => ?_⟩⟩
  · have h' := of_decide_eq_true h
    have e := exPre_succ x
    have e2 : (exPre x).length + (0 + 1) = (exPre (x + 1)).length := by rw [exPre_len, exPre_len]
    have e3 := exPre_len x
    exact ⟨by unfold InI64; omega, rfl, by omega, by unfold InI64; omega, x + 1, by omega, by omega, rfl, rfl, e2, e, rfl, rfl, rfl⟩
  · have h' := of_decide_eq_false h
    have : x = 6 := by omega
    subst this
    repeat' apply And.intro
    all_goals first | rfl | decide +kernel
theorem p_head : P_head := by
  unfold P_head
  decide +kernel
theorem useS_bad {ms : List Ms} {l : List Int} (h : (!fewB ms || !viewB ms || decide ((l.length : Int) > 60)) = true) : useS ms l = ([], false) := by
  unfold useS
  rw [if_neg]
  intro hc
  simp only [Bool.and_eq_true, decide_eq_true_eq] at hc
  rw [hc.1, hc.2.1] at h
  have := of_decide_eq_true (show decide ((l.length : Int) > 60) = true by simpa using h)
  omega
theorem useS_ok {ms : List Ms} {l : List Int} (h : (!fewB ms || !viewB ms || decide ((l.length : Int) > 60)) = false) : useS ms l = (stopsS ms l, true) := by
  simp only [Bool.or_eq_false_iff, Bool.not_eq_false', decide_eq_false_iff_not] at h
  unfold useS
  rw [h.1.1, h.1.2, decide_eq_true (show l.length ≤ 60 by omega)]; rfl
theorem stopsS_take {ms : List Ms} {l : List Int} {x : Nat} (hx : x < l.length) : stopsS ms (l.take (x + 1)) = if 0 < ms.length then stopsS ms (l.take x) ++ [Int.tmod (l.getD x 0) ms.length] else stopsS ms (l.take x) := by
  unfold stopsS
  by_cases h : 0 < ms.length
  · rw [if_pos h, if_pos h, if_pos h, takeD 0 hx, List.map_append]; rfl
  · rw [if_neg h, if_neg h, if_neg h]
theorem d0U : ((Ty.ti .u8).d0 : (Ty.ti .u8).T) = (0 : Int) := rfl
theorem stopsS_len (ms : List Ms) (l : List Int) : (stopsS ms l).length ≤ l.length := by unfold stopsS; split <;> simp
theorem p_usable (p : Int) (ms : List Ms) (l : List Int) (hb : bytesB l) : P_usable p ms l := by
  refine fun _ => ⟨fun h => ?_, fun h hlen => ⟨⟨0, Nat.zero_le _, rfl, ?_, ?_⟩, fun x hx => ⟨fun hlt => ?_, fun hge => ?_⟩⟩⟩
  · rw [useS_bad h]; exact ⟨rfl, rfl⟩
  · unfold stopsS; split <;> rfl
  · unfold stopsS; split <;> rfl
  · have hlt' : x < l.length := by have := of_decide_eq_true hlt; omega
    simp only [d0U, tn]
    have hu := hb _ (memD 0 hlt')
    have ht := stopsS_take (ms := ms) hlt'
    have hsl := stopsS_len ms (l.take x)
    have hl60 : l.length ≤ 60 := by
      simp only [Bool.or_eq_false_iff, decide_eq_false_iff_not] at h; omega
    rw [List.length_take] at hsl
    refine ⟨by omega, by omega, fun _ => ⟨fun hm => ?_, fun hm => ?_⟩⟩
    · have hm' := of_decide_eq_true hm
      rw [if_pos (by omega)] at ht
      have e2 : (stopsS ms (l.take x)).length + (0 + 1) = (stopsS ms (l.take (x + 1))).length := by rw [ht]; simp
      have e := ht.symm
      exact ⟨by unfold InI64; omega, fun _ => ⟨by omega, (by first | rfl | trivial), by omega, by unfold InI64; omega, x + 1, hlt', by omega, (by first | rfl | trivial), e, by (repeat' (first | rfl | trivial | apply And.intro))⟩⟩
    · have hm' := of_decide_eq_false hm
      rw [if_neg (by omega)] at ht
      have e := ht.symm
      have e2 : (stopsS ms (l.take x)).length = (stopsS ms (l.take (x + 1))).length := by rw [ht]
      exact ⟨by unfold InI64; omega, x + 1, hlt', by omega, (by first | rfl | trivial), e, by (repeat' (first | rfl | trivial | apply And.intro))⟩
  · have hx' : x = l.length := by have := of_decide_eq_false hge; omega
    rw [useS_ok h, hx', List.take_length]; exact ⟨rfl, rfl⟩
theorem sameL_self (l : List Bk) : sameL l l = true := by unfold sameL; simp
theorem sameIL_self (l : List Int) : sameIL l l = true := by unfold sameIL; simp
theorem p_FMatches (p : Int) (ms : List Ms) (st : List Int) (l : List Bk) : P_FMatches p ms st l := by
  refine fun _ _ _ => ⟨fun _ => rfl, fun _ => ?_⟩
  simp only [sameL_self, sameIL_self, beq_self_eq_true, Bool.and_true]

end Go.Proofs.Ytdkggjgmlccjcaa
