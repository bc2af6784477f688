/- The laws on products: their function returns true. -/
import Derived.Test.YtommmlhllifonaaW5
namespace Go.Proofs.Ytommmlhllifonaa
open Go.Sy Go.RatLaw

theorem mulR_comm (a b c d : Int) : mulR c d a b = mulR a b c d := by
  unfold mulR
  rw [Bool.and_comm, Int.mul_comm c a, Int.mul_comm d b]
theorem mulR_yes {a b c d : Int} (h : vld a b = true) (h' : vld c d = true) : mulR a b c d = mk (a * c) (b * d) := by unfold mulR; rw [h, h']; rfl
theorem mulR_cases {a b c d : Int} (h : vld a b = true) (h' : vld c d = true) : mulR a b c d = (0, 0, 3) ∨ ∃ p q, mulR a b c d = (p, q, 0) ∧ vld p q = true ∧ p * (b * d) = q * (a * c) := by
  rw [mulR_yes h h']
  exact mk_cases _ _ (bfs h h')
theorem mulR_one {a b : Int} (h : vld a b = true) : mulR a b 1 1 = (a, b, 0) := by
  rw [mulR_yes h (by decide), Int.mul_one, Int.mul_one, mk_vld h]
theorem mulR_zero {a b : Int} (h : vld a b = true) : mulR a b 0 1 = (0, 1, 0) := by
  have v : vld 0 1 = true := by decide
  rw [mulR_yes h v, ← mk_vld v]
  exact mk_congr (bfs h v) (by decide) (by simp)
theorem divR_mul {a b c d p q : Int} (h : vld a b = true) (h' : vld c d = true) (hc : (c != 0) = true) (hv : vld p q = true) (e : p * (b * d) = q * (a * c)) : divR p q c d = (a, b, 0) := by
  unfold divR
  rw [hv, h', hc]
  show mk _ _ = _
  rw [← mk_vld h]
  refine mk_congr (Int.mul_ne_zero (vld_bd hv).2.2.1 (by simpa using hc)) (vld_bd h).2.2.1 ?_
  grind
theorem mul_dist {a b c d e f p q r s x y : Int} (h : vld a b = true) (h' : vld c d = true) (h2 : vld e f = true) (hv : vld p q = true) (hr : vld r s = true) (hx : vld x y = true) (e1 : p * (b * d) = q * (a * c)) (e2 : r * (d * f) = s * (c * f + e * d)) (e3 : x * (b * f) = y * (a * e)) :
    mulR a b r s = addR p q x y := by
  rw [mulR_yes h hr, addR_yes hv hx]
  refine mk_congr (bfs h hr) (bfs hv hx) ?_
  have hd := (vld_bd h').2.2.1
  have hf := (vld_bd h2).2.2.1
  have hb := (vld_bd h).2.2.1
  refine Int.eq_of_mul_eq_mul_right (Int.mul_ne_zero (Int.mul_ne_zero hb hd) hf) ?_
  have k1 : a * r * (q * y) * (b * d * f) = a * b * q * y * (r * (d * f)) := by grind
  have k2 : (p * y + x * q) * (b * s) * (b * d * f) = y * b * s * f * (p * (b * d)) + q * b * s * d * (x * (b * f)) := by grind
  rw [k1, k2, e1, e2, e3]
  grind
def P4 (a b c d e f : Int) : Prop :=
  ((!vld a b || !vld c d || !vld e f) = true → true = true) ∧
    ((!vld a b || !vld c d || !vld e f) = false →
      ((!((mulR a b c d).fst == (mulR c d a b).fst && (mulR a b c d).snd.fst == (mulR c d a b).snd.fst) ||
                      (mulR a b c d).snd.snd != (mulR c d a b).snd.snd ||
                    (mulR a b 1 1).snd.snd != 0 ||
                  (mulR a b 0 1).snd.snd != 0 ||
                !((mulR a b 1 1).fst == a && (mulR a b 1 1).snd.fst == b) ||
              !((mulR a b 0 1).fst == 0 && (mulR a b 0 1).snd.fst == 1)) =
            true →
          false = true) ∧
        ((!((mulR a b c d).fst == (mulR c d a b).fst && (mulR a b c d).snd.fst == (mulR c d a b).snd.fst) ||
                      (mulR a b c d).snd.snd != (mulR c d a b).snd.snd ||
                    (mulR a b 1 1).snd.snd != 0 ||
                  (mulR a b 0 1).snd.snd != 0 ||
                !((mulR a b 1 1).fst == a && (mulR a b 1 1).snd.fst == b) ||
              !((mulR a b 0 1).fst == 0 && (mulR a b 0 1).snd.fst == 1)) =
            false →
          (((mulR a b c d).snd.snd == 0 && c != 0) = true →
              (((mulR a b c d).snd.snd != 0 || (addR c d e f).snd.snd != 0 || (mulR a b e f).snd.snd != 0) = true →
                  (true && (divR (mulR a b c d).fst (mulR a b c d).snd.fst c d).snd.snd == 0 &&
                      ((divR (mulR a b c d).fst (mulR a b c d).snd.fst c d).fst == a &&
                        (divR (mulR a b c d).fst (mulR a b c d).snd.fst c d).snd.fst == b)) =
                    true) ∧
                (((mulR a b c d).snd.snd != 0 || (addR c d e f).snd.snd != 0 || (mulR a b e f).snd.snd != 0) = false →
                  (true && (divR (mulR a b c d).fst (mulR a b c d).snd.fst c d).snd.snd == 0 &&
                          ((divR (mulR a b c d).fst (mulR a b c d).snd.fst c d).fst == a &&
                            (divR (mulR a b c d).fst (mulR a b c d).snd.fst c d).snd.fst == b) &&
                        (mulR a b (addR c d e f).fst (addR c d e f).snd.fst).snd.snd ==
                          (addR (mulR a b c d).fst (mulR a b c d).snd.fst (mulR a b e f).fst
                                (mulR a b e f).snd.fst).snd.snd &&
                      ((mulR a b (addR c d e f).fst (addR c d e f).snd.fst).fst ==
                          (addR (mulR a b c d).fst (mulR a b c d).snd.fst (mulR a b e f).fst
                              (mulR a b e f).snd.fst).fst &&
                        (mulR a b (addR c d e f).fst (addR c d e f).snd.fst).snd.fst ==
                          (addR (mulR a b c d).fst (mulR a b c d).snd.fst (mulR a b e f).fst
                                (mulR a b e f).snd.fst).snd.fst)) =
                    true)) ∧
            (((mulR a b c d).snd.snd == 0 && c != 0) = false →
              (((mulR a b c d).snd.snd != 0 || (addR c d e f).snd.snd != 0 || (mulR a b e f).snd.snd != 0) = true →
                  true = true) ∧
                (((mulR a b c d).snd.snd != 0 || (addR c d e f).snd.snd != 0 || (mulR a b e f).snd.snd != 0) = false →
                  (true &&
                        (mulR a b (addR c d e f).fst (addR c d e f).snd.fst).snd.snd ==
                          (addR (mulR a b c d).fst (mulR a b c d).snd.fst (mulR a b e f).fst
                                (mulR a b e f).snd.fst).snd.snd &&
                      ((mulR a b (addR c d e f).fst (addR c d e f).snd.fst).fst ==
                          (addR (mulR a b c d).fst (mulR a b c d).snd.fst (mulR a b e f).fst
                              (mulR a b e f).snd.fst).fst &&
                        (mulR a b (addR c d e f).fst (addR c d e f).snd.fst).snd.fst ==
                          (addR (mulR a b c d).fst (mulR a b c d).snd.fst (mulR a b e f).fst
                                (mulR a b e f).snd.fst).snd.fst)) =
                    true))))
theorem p4 (a b c d e f : Int) : P4 a b c d e f := by
  unfold P4
  rw [mulR_comm a b c d]
  refine ⟨fun _ => rfl, fun hv => ?_⟩
  have hv : vld a b = true ∧ vld c d = true ∧ vld e f = true := by
    cases h1 : vld a b <;> cases h2 : vld c d <;> cases h3 : vld e f <;> simp_all
  obtain ⟨v1, v2, v3⟩ := hv
  rw [mulR_one v1, mulR_zero v1]
  refine ⟨fun h => by simp at h, fun _ => ?_⟩
  rcases mulR_cases v1 v2 with h1 | ⟨p, q, h1, v4, e1⟩
  · rw [h1]; simp
  · rw [h1]
    refine ⟨fun hc => ?_, fun _ => ⟨fun _ => rfl, ?_⟩⟩
    · have hc : (c != 0) = true := by simpa using hc
      simp only [divR_mul v1 v2 hc v4 e1]
      refine ⟨fun _ => by simp, ?_⟩
      rcases addR_cases v2 v3 with h2 | ⟨r, s, h2, v5, e2⟩
      · rw [h2]; simp
      · rcases mulR_cases v1 v3 with h3 | ⟨x, y, h3, v6, e3⟩
        · rw [h3]; simp
        · rw [h2, h3]
          simp [mul_dist v1 v2 v3 v4 v5 v6 e1 e2 e3]
    · rcases addR_cases v2 v3 with h2 | ⟨r, s, h2, v5, e2⟩
      · rw [h2]; simp
      · rcases mulR_cases v1 v3 with h3 | ⟨x, y, h3, v6, e3⟩
        · rw [h3]; simp
        · rw [h2, h3]
          simp [mul_dist v1 v2 v3 v4 v5 v6 e1 e2 e3]
theorem ok4 : FnOk Try.prog 4 (CE.pu cLaw3).con := fnPu T6 cLaw3 L_ok T6_ok mixed Try.func4 (by kernel_rfl) (by kernel_rfl) fun args cs r h hcs => by
  unfold cLaw3 at h
  split at h
  · rename_i a b c d e f
    injection h with h; injection h with h1 h2; subst h1 h2
    exact ⟨[0, 1, 2, 3, 4, 5, 6, 7, 8, 9, 10, 11, 12, 13, 14, 15, 16, 17, 18, 19, 20, 21, 22, 23, 24, 25, 39, 90, 97, 135], fun _ => none, rfl, rfl, rfl, castH (p := P4 a b c d e f) (by kernel_rfl) (p4 a b c d e f)⟩
  · cases h
end Go.Proofs.Ytommmlhllifonaa
