/- The laws on sums: their function returns true. -/
import Derived.Test.YtommmlhllifonaaW4
import Derived.Test.YtommmlhllifonaaRq
namespace Go.Proofs.Ytommmlhllifonaa
open Go.Sy Go.RatLaw

theorem addR_comm (a b c d : Int) : addR c d a b = addR a b c d := by
  unfold addR
  rw [Bool.and_comm, Int.add_comm (c * b), Int.mul_comm d b]
theorem addR_no {a b c d : Int} (h : (vld a b && vld c d) = false) : addR a b c d = (0, 0, 1) := by unfold addR; rw [h]; rfl
theorem addR_yes {a b c d : Int} (h : vld a b = true) (h' : vld c d = true) : addR a b c d = mk (a * d + c * b) (b * d) := by unfold addR; rw [h, h']; rfl
theorem addR_cases {a b c d : Int} (h : vld a b = true) (h' : vld c d = true) : addR a b c d = (0, 0, 3) ∨ ∃ p q, addR a b c d = (p, q, 0) ∧ vld p q = true ∧ p * (b * d) = q * (a * d + c * b) := by
  rw [addR_yes h h']
  exact mk_cases _ _ (bfs h h')
theorem subR_add {a b c d p q : Int} (h : vld a b = true) (h' : vld c d = true) (hv : vld p q = true) (e : p * (b * d) = q * (a * d + c * b)) : subR p q c d = (a, b, 0) := by
  unfold subR
  rw [hv, h']
  show mk _ _ = _
  rw [← mk_vld h]
  refine mk_congr (bfs hv h') (vld_bd h).2.2.1 ?_
  grind
theorem addR_assoc {a b c d e f p q r s : Int} (h : vld a b = true) (h' : vld c d = true) (h2 : vld e f = true) (hv : vld p q = true) (hv' : vld r s = true) (e1 : p * (b * d) = q * (a * d + c * b)) (e2 : r * (d * f) = s * (c * f + e * d)) :
    addR a b r s = addR p q e f := by
  rw [addR_yes h hv', addR_yes hv h2]
  refine mk_congr (bfs h hv') (bfs hv h2) ?_
  refine Int.eq_of_mul_eq_mul_right (vld_bd h').2.2.1 ?_
  have k1 : (a * s + r * b) * (q * f) * d = a * s * d * q * f + b * q * (r * (d * f)) := by grind
  have k2 : (p * f + e * q) * (b * s) * d = f * s * (p * (b * d)) + e * q * b * s * d := by grind
  rw [k1, k2, e1, e2]
  grind
theorem addR_zero {a b : Int} (h : vld a b = true) : addR 0 1 a b = (a, b, 0) := by
  rw [addR_yes (by decide) h, ← mk_vld h]
  congr 1 <;> omega
theorem err_self (m : Int × Int × Int) (h : m.2.2 = 0 ∨ m = (0, 0, m.2.2)) : (if m.2.2 = 0 then (m.1, m.2.1, 0) else ((0, 0, m.2.2) : Int × Int × Int)) = m := by
  split
  · rename_i e
    rw [← e]
  · rename_i e
    rcases h with h | h
    · exact absurd h e
    · exact h.symm
theorem addR_form (a b c d : Int) : (addR a b c d).2.2 = 0 ∨ addR a b c d = (0, 0, (addR a b c d).2.2) := by
  cases h : (vld a b && vld c d)
  · rw [addR_no h]; exact .inr rfl
  · rw [Bool.and_eq_true] at h
    rcases addR_cases h.1 h.2 with h | ⟨p, q, h, _⟩ <;> rw [h]
    · exact .inr rfl
    · exact .inl rfl
theorem sum3 {a b c d e f p q : Int} (h : vld a b = true) (h' : vld c d = true) (hx : addR a b c d = (p, q, 0)) : sumR [(a, b), (c, d), (e, f)] = addR p q e f := by
  unfold sumR
  rw [if_neg (by simp)]
  cases h2 : vld e f
  · rw [if_neg (by simp [h2]), addR_no (by simp [h2])]
  · rw [if_pos (by simp [h, h', h2])]
    simp only [carr, addR_zero h, hx]
    exact err_self _ (addR_form ..)
def P7 (a b c d e f : Int) : Prop :=
  ((!((addR a b c d).fst == (addR c d a b).fst && (addR a b c d).snd.fst == (addR c d a b).snd.fst) ||
          (addR a b c d).snd.snd != (addR c d a b).snd.snd) =
        true →
      false = true) ∧
    ((!((addR a b c d).fst == (addR c d a b).fst && (addR a b c d).snd.fst == (addR c d a b).snd.fst) ||
          (addR a b c d).snd.snd != (addR c d a b).snd.snd) =
        false →
      (((addR a b c d).snd.snd != 0) = true →
          (true && ((addR a b c d).snd.snd == 3 || (addR a b c d).snd.snd == 1 && !(vld a b && vld c d))) = true) ∧
        (((addR a b c d).snd.snd != 0) = false →
          isQL ((Ty.ti IntKind.i64).tp (Ty.ti IntKind.i64)).d0 2 ((Ty.ti IntKind.i64).tp (Ty.ti IntKind.i64)).enc ∧
            (((subR (addR a b c d).fst (addR a b c d).snd.fst c d).snd.snd != 0 ||
                        !((subR (addR a b c d).fst (addR a b c d).snd.fst c d).fst == a &&
                            (subR (addR a b c d).fst (addR a b c d).snd.fst c d).snd.fst == b) ||
                      (sumR [(a, b), (c, d), (e, f)]).snd.snd !=
                        (addR (addR a b c d).fst (addR a b c d).snd.fst e f).snd.snd ||
                    !((sumR [(a, b), (c, d), (e, f)]).fst == (addR (addR a b c d).fst (addR a b c d).snd.fst e f).fst &&
                        (sumR [(a, b), (c, d), (e, f)]).snd.fst ==
                          (addR (addR a b c d).fst (addR a b c d).snd.fst e f).snd.fst)) =
                  true →
                false = true) ∧
              (((subR (addR a b c d).fst (addR a b c d).snd.fst c d).snd.snd != 0 ||
                        !((subR (addR a b c d).fst (addR a b c d).snd.fst c d).fst == a &&
                            (subR (addR a b c d).fst (addR a b c d).snd.fst c d).snd.fst == b) ||
                      (sumR [(a, b), (c, d), (e, f)]).snd.snd !=
                        (addR (addR a b c d).fst (addR a b c d).snd.fst e f).snd.snd ||
                    !((sumR [(a, b), (c, d), (e, f)]).fst == (addR (addR a b c d).fst (addR a b c d).snd.fst e f).fst &&
                        (sumR [(a, b), (c, d), (e, f)]).snd.fst ==
                          (addR (addR a b c d).fst (addR a b c d).snd.fst e f).snd.fst)) =
                  false →
                (true &&
                    ((addR (addR a b c d).fst (addR a b c d).snd.fst e f).snd.snd != 0 || (addR c d e f).snd.snd != 0 ||
                      (addR a b (addR c d e f).fst (addR c d e f).snd.fst).snd.snd == 0 &&
                        ((addR (addR a b c d).fst (addR a b c d).snd.fst e f).fst ==
                            (addR a b (addR c d e f).fst (addR c d e f).snd.fst).fst &&
                          (addR (addR a b c d).fst (addR a b c d).snd.fst e f).snd.fst ==
                            (addR a b (addR c d e f).fst (addR c d e f).snd.fst).snd.fst))) =
                  true)))
theorem p7 (a b c d e f : Int) : P7 a b c d e f := by
  unfold P7
  rw [addR_comm a b c d]
  refine ⟨fun h => by simp at h, fun _ => ⟨fun h => ?_, fun h => ⟨⟨rfl, rfl, rfl⟩, ?_⟩⟩⟩
  · cases hv : (vld a b && vld c d)
    · rw [addR_no hv]; rfl
    · rw [Bool.and_eq_true] at hv
      rcases addR_cases hv.1 hv.2 with h1 | ⟨p, q, h1, _⟩
      · rw [h1]; rfl
      · rw [h1] at h; simp at h
  · cases hv : (vld a b && vld c d)
    · rw [addR_no hv] at h; simp at h
    · rw [Bool.and_eq_true] at hv
      obtain ⟨v1, v2⟩ := hv
      rcases addR_cases v1 v2 with h1 | ⟨p, q, h1, v3, e1⟩
      · rw [h1] at h; simp at h
      · rw [sum3 v1 v2 h1, h1]
        simp only [subR_add v1 v2 v3 e1]
        refine ⟨fun h => by simp at h, fun _ => ?_⟩
        cases h4 : vld e f
        · rw [addR_no (by simp [h4])]; rfl
        · rcases addR_cases v3 h4 with h5 | ⟨x, y, h5, v5, e5⟩
          · rw [h5]; rfl
          · rcases addR_cases v2 h4 with h6 | ⟨r, s, h6, v6, e6⟩
            · rw [h6]; simp
            · rw [h6]
              simp only [addR_assoc v1 v2 h4 v3 v6 e1 e6, h5]
              simp
def cLaw3 : PCon
  | [.agg [.d (.lit (.int .i64 _)), .d (.lit (.int .i64 _))], .agg [.d (.lit (.int .i64 _)), .d (.lit (.int .i64 _))], .agg [.d (.lit (.int .i64 _)), .d (.lit (.int .i64 _))]] => some ([], .t (B true))
  | _ => none
theorem ok7 : FnOk Try.prog 7 (CE.pu cLaw3).con := fnPu T6 cLaw3 L_ok T6_ok mixed Try.func7 (by kernel_rfl) (by kernel_rfl) fun args cs r h hcs => by
  unfold cLaw3 at h
  split at h
  · rename_i a b c d e f
    injection h with h; injection h with h1 h2; subst h1 h2
    exact ⟨[0, 1, 2, 3, 4, 5, 6, 7, 8, 9, 10, 11, 12, 13, 14, 15, 16, 17, 18, 19, 20, 21, 42, 44, 111], fun _ => none, rfl, rfl, rfl, castH (p := P7 a b c d e f) (by kernel_rfl) (p7 a b c d e f)⟩
  · cases h
end Go.Proofs.Ytommmlhllifonaa
