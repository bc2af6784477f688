/- Plain laws on times of positions and back. No program in sight. -/
import Derived.Test.YtjghgdccaakfmaaMq
namespace Go.RatLaw

theorem cmp_dur {a b c d : Int} (h : dur a b = true) (k : dur c d = true) : compareR a b c d = (if tk a b < tk c d then -1 else if tk a b > tk c d then 1 else 0, 0) := by
  have e1 := less_dur h k
  have e2 := less_dur k h
  have v := (dur_spec h).1
  have v' := (dur_spec k).1
  unfold lessR compareR at e1 e2
  rw [v, v'] at e1 e2
  unfold compareR
  rw [v, v']
  simp only [Bool.and_true, if_true] at e1 e2 ⊢
  have s1 : cmpR a b c d < 0 ↔ tk a b < tk c d := by rw [← decide_eq_true_iff (p := cmpR a b c d < 0), e1]; exact decide_eq_true_iff
  have s2 : cmpR c d a b < 0 ↔ tk c d < tk a b := by rw [← decide_eq_true_iff (p := cmpR c d a b < 0), e2]; exact decide_eq_true_iff
  unfold cmpR at s1 s2 ⊢
  congr 1
  by_cases h1 : a * d < c * b
  · have := s1.1 (by rw [if_pos h1]; decide)
    rw [if_pos h1, if_pos this]
  · rw [if_neg h1] at s1 ⊢
    have n1 : ¬ tk a b < tk c d := fun q => by have := s1.2 q; split at this <;> omega
    rw [if_neg n1]
    by_cases h2 : a * d > c * b
    · have := s2.1 (by rw [if_pos h2]; decide)
      rw [if_pos h2, if_pos this]
    · rw [if_neg h2]
      have n2 : ¬ tk a b > tk c d := fun q => by
        have := s2.2 q
        rw [if_neg (by omega)] at this
        split at this <;> omega
      rw [if_neg n2]
end Go.RatLaw
