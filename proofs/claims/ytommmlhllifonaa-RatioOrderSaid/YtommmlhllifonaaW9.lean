/- The law on the order of ratios: its function returns true. -/
import Derived.Test.YtommmlhllifonaaW5
namespace Go.Proofs.Ytommmlhllifonaa
open Go.Sy Go.RatLaw

theorem cmp_sign (a b c d : Int) : (cmpR a b c d < 0 ↔ a * d < c * b) ∧ (cmpR a b c d > 0 ↔ c * b < a * d) ∧ -1 ≤ cmpR a b c d ∧ cmpR a b c d ≤ 1 := by
  unfold cmpR
  split
  · omega
  · split <;> omega
theorem compareR_yes {a b c d : Int} (h : vld a b = true) (h' : vld c d = true) : compareR a b c d = (cmpR a b c d, 0) := by unfold compareR; rw [h, h']; rfl
theorem cmp_zero {a b c d : Int} (h : vld a b = true) (h' : vld c d = true) : (cmpR a b c d == 0) = (a == c && b == d) := by
  have hs := cmp_sign a b c d
  have v1 := vld_iff.1 h
  have v2 := vld_iff.1 h'
  rw [Bool.eq_iff_iff, beq_iff_eq, Bool.and_eq_true, beq_iff_eq, beq_iff_eq]
  constructor
  · intro h0
    exact red_uniq (by omega) (by omega) v1.2.2.2.2 v2.2.2.2.2 (by omega)
  · rintro ⟨rfl, rfl⟩
    omega
theorem cmp_trans {a b c d e f : Int} (h : 0 < b) (h' : 0 < d) (h2 : 0 < f) (h1 : a * d ≤ c * b) (h3 : c * f ≤ e * d) : a * f ≤ e * b ∧ ((a * d < c * b ∨ c * f < e * d) → a * f < e * b) := by
  have k1 : a * d * f ≤ c * b * f := Int.mul_le_mul_of_nonneg_right h1 (by omega)
  have k2 : c * f * b ≤ e * d * b := Int.mul_le_mul_of_nonneg_right h3 (by omega)
  have r1 : a * d * f = (a * f) * d := by grind
  have r2 : c * b * f = c * f * b := by grind
  have r3 : e * d * b = (e * b) * d := by grind
  refine ⟨Int.le_of_mul_le_mul_right (by omega) h', fun hs => ?_⟩
  refine Int.lt_of_mul_lt_mul_right (a := d) (?_ : (a * f) * d < (e * b) * d) (by omega)
  rcases hs with hs | hs
  · have := Int.mul_lt_mul_of_pos_right hs h2; omega
  · have := Int.mul_lt_mul_of_pos_right hs h; omega
theorem subR_cases {a b c d : Int} (h : vld a b = true) (h' : vld c d = true) : subR a b c d = (0, 0, 3) ∨ ∃ p q, subR a b c d = (p, q, 0) ∧ vld p q = true ∧ p * (b * d) = q * (a * d - c * b) := by
  unfold subR
  rw [h, h']
  exact mk_cases _ _ (bfs h h')
theorem sub_sign {a b c d p q : Int} (h : 0 < b) (h' : 0 < d) (hq : 0 < q) (e : p * (b * d) = q * (a * d - c * b)) : (p < 0 ↔ a * d < c * b) ∧ (p > 0 ↔ c * b < a * d) := by
  have hbd : 0 < b * d := Int.mul_pos h h'
  have key : ∀ x y z w : Int, 0 < y → 0 < z → x * y = z * w → (x < 0 ↔ w < 0) ∧ (x > 0 ↔ w > 0) := by
    intro x y z w hy hz hxy
    rcases Int.lt_trichotomy x 0 with hx | hx | hx <;> rcases Int.lt_trichotomy w 0 with hw | hw | hw
    · omega
    · subst hw; have := Int.mul_neg_of_neg_of_pos hx hy; simp at hxy; omega
    · have := Int.mul_neg_of_neg_of_pos hx hy; have := Int.mul_pos hz hw; omega
    · subst hx; have := Int.mul_neg_of_pos_of_neg hz hw; simp at hxy; omega
    · omega
    · subst hx; have := Int.mul_pos hz hw; simp at hxy; omega
    · have := Int.mul_pos hx hy; have := Int.mul_neg_of_pos_of_neg hz hw; omega
    · subst hw; have := Int.mul_pos hx hy; simp at hxy; omega
    · omega
  have := key p (b * d) q (a * d - c * b) hbd hq e
  omega
abbrev C4 (a b c d e f : Int) : Bool := (compareR a b c d).2 != 0 || (compareR c d a b).2 != 0 || (compareR c d e f).2 != 0 || (compareR a b e f).2 != 0
abbrev C8 (a b c d e f : Int) : Bool := C4 a b c d e f || (compareR a b c d).1 != -(compareR c d a b).1 || ((compareR a b c d).1 == 0) != (a == c && b == d) || decide ((compareR a b c d).1 < -1) || decide ((compareR a b c d).1 > 1)
abbrev D3 (a b c d e f : Int) : Bool := decide ((compareR a b c d).1 ≤ 0) && decide ((compareR c d e f).1 ≤ 0)
abbrev D5 (a b c d e f : Int) : Bool := D3 a b c d e f && decide ((compareR a b e f).1 > 0)
abbrev D9 (a b c d e f : Int) : Bool := D5 a b c d e f || (D3 a b c d e f && decide ((compareR a b c d).1 + (compareR c d e f).1 < 0) && decide ((compareR a b e f).1 ≥ 0))
def P9 (a b c d e f : Int) : Prop :=
  ((!vld a b || !vld c d || !vld e f) = true → true = true) ∧ ((!vld a b || !vld c d || !vld e f) = false →
    (C4 a b c d e f = false → InI64 (-(compareR c d a b).1)) ∧ (C8 a b c d e f = true → false = true) ∧ (C8 a b c d e f = false →
      (All [D3 a b c d e f = true, D5 a b c d e f = false] → InI64 ((compareR a b c d).1 + (compareR c d e f).1)) ∧ (D9 a b c d e f = true → false = true) ∧ (D9 a b c d e f = false →
        (((subR a b c d).2.2 != 0) = true → (true && (subR a b c d).2.2 == 3) = true) ∧ (((subR a b c d).2.2 != 0) = false →
          (true && decide ((subR a b c d).1 < 0) == decide ((compareR a b c d).1 < 0) && decide ((subR a b c d).1 > 0) == decide ((compareR a b c d).1 > 0)) = true))))
theorem p9 (a b c d e f : Int) : P9 a b c d e f := by
  refine ⟨fun _ => rfl, fun hv => ?_⟩
  have hv : vld a b = true ∧ vld c d = true ∧ vld e f = true := by
    cases h1 : vld a b <;> cases h2 : vld c d <;> cases h3 : vld e f <;> simp_all
  obtain ⟨v1, v2, v3⟩ := hv
  have b1 := vld_bd v1
  have b2 := vld_bd v2
  have b3 := vld_bd v3
  have s1 := cmp_sign a b c d
  have s2 := cmp_sign c d a b
  have s3 := cmp_sign c d e f
  have s4 := cmp_sign a b e f
  have tr := cmp_trans (a := a) (c := c) (e := e) b1.2.2.2 b2.2.2.2 b3.2.2.2
  unfold C8 D9 D5 D3 C4
  rw [compareR_yes v1 v2, compareR_yes v2 v1, compareR_yes v2 v3, compareR_yes v1 v3]
  simp only [cmp_zero v1 v2]
  unfold InI64
  refine ⟨fun _ => by omega, fun h => ?_, fun _ => ⟨fun _ => by omega, fun h => ?_, fun _ => ?_⟩⟩
  · exfalso
    simp only [bne_self_eq_false, Bool.false_or, Bool.or_false, Bool.or_eq_true, bne_iff_ne, decide_eq_true_eq] at h
    omega
  · exfalso
    simp only [Bool.or_eq_true, Bool.and_eq_true, decide_eq_true_eq] at h
    by_cases h1 : a * d ≤ c * b
    · by_cases h2 : c * f ≤ e * d
      · have := tr h1 h2
        omega
      · omega
    · omega
  · rcases subR_cases v1 v2 with h1 | ⟨p, q, h1, v4, e1⟩
    · rw [h1]; simp
    · have hs := sub_sign b1.2.2.2 b2.2.2.2 (vld_bd v4).2.2.2 e1
      rw [h1]
      refine ⟨fun h => by simp at h, fun _ => ?_⟩
      simp only [Bool.true_and, Bool.and_eq_true, beq_iff_eq, decide_eq_decide]
      omega
theorem ok9 : FnOk Try.prog 9 (CE.pu cLaw3).con := fnPu T6 cLaw3 L_ok T6_ok mixed Try.func9 (by kernel_rfl) (by kernel_rfl) fun args cs r h hcs => by
  unfold cLaw3 at h
  split at h
  · rename_i a b c d e f
    injection h with h; injection h with h1 h2; subst h1 h2
    exact ⟨[0, 1, 2, 3, 4, 5, 6, 7, 8, 9, 10, 11, 12, 13, 14, 15, 16, 17, 31, 92, 120, 128], fun _ => none, rfl, rfl, rfl, castH (p := P9 a b c d e f) (by kernel_rfl) (p9 a b c d e f)⟩
  · cases h
end Go.Proofs.Ytommmlhllifonaa
