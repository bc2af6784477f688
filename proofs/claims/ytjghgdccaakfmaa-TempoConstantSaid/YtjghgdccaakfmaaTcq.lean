/- The plain proofs. Written by a program (wip/tools/gen.py). -/
import Derived.Test.YtjghgdccaakfmaaTcp
import Derived.Test.YtjghgdccaakfmaaTr
namespace Go.Proofs.Ytjghgdccaakfmaa
open Go.Sy Go.RatLaw
set_option linter.unusedVariables false
set_option linter.unusedSimpArgs false
theorem usT {bars : List Bar} {l : List T3} (h : (!usableT bars l) = false) : okTm bars l = true := by
  unfold usableT at h
  simp only [Bool.not_eq_false', Bool.and_eq_true] at h
  exact h.2
theorem p_TConstant (bars : List Bar) (g a d pb pn pd qb qn qd : Int) : P_TConstant bars g a d pb pn pd qb qn qd := by
  refine ⟨fun _ => rfl, fun hu => ⟨fun _ => rfl, fun h => ?_⟩⟩
  have ho := usT hu
  have hk := okTm_ok ho
  simp only [bne_eq_false_iff_eq] at h
  have hpq : posS bars pb pn pd = true ∧ posS bars qb qn qd = true := by
    by_cases h1 : posS bars pb pn pd = true
    · by_cases h2 : posS bars qb qn qd = true
      · exact ⟨h1, h2⟩
      · simp only [Bool.not_eq_true] at h2; rw [secS_no (by rw [h2]; simp)] at h; cases h
    · simp only [Bool.not_eq_true] at h1; rw [secS_no (by rw [h1]; simp)] at h; cases h
  have ⟨hp, hq⟩ := hpq
  have f := sec_form ho hp hq
  by_cases he : earlS qb qn qd pb pn pd = true
  · rw [f, if_pos he] at h; cases h
  simp only [Bool.not_eq_true] at he
  rw [he] at f
  simp only [Bool.false_eq_true, if_false] at f
  have hle := up_le hk hp hq he
  rw [one_up ho hp, one_up ho hq] at f hle
  have ⟨ht, _⟩ := one_tm ho
  have hb := scl_bd ht
  have hA := posS_ahead hk.okb hp
  have hB := posS_ahead hk.okb hq
  rw [timeS_ok hk.okb hp, timeS_ok hk.okb hq]
  generalize aheadB bars pb pn pd = A at *
  generalize aheadB bars qb qn qd = B at *
  have hAB : A ≤ B := Int.le_of_mul_le_mul_left hle (by omega)
  have dA : dur (ofT A).1 (ofT A).2 = true := dur_ofT (by omega) (by omega)
  have dB' : dur (ofT B).1 (ofT B).2 = true := dur_ofT (by omega) (by omega)
  have s : subR (ofT B).1 (ofT B).2 (ofT A).1 (ofT A).2 = ((ofT (B - A)).1, (ofT (B - A)).2, 0) := by
    rw [ssub (dur_sdur dB') (dur_sdur dA), tk_ofT (by omega) (by omega), tk_ofT (by omega) (by omega)]
    exact (ofT_spec (by omega) (by omega)).2.2
  have dD : dur (ofT (B - A)).1 (ofT (B - A)).2 = true := dur_ofT (by omega) (by omega)
  have ds := dur_spec dD
  rw [tk_ofT (by omega) (by omega)] at ds
  have hv := (isTm_iff.1 ht).1
  have m : mulR (ofT (B - A)).1 (ofT (B - A)).2 a d = secS bars [(g, (a, d))] pb pn pd qb qn qd := by
    rw [f]
    unfold mulR
    rw [if_pos (by rw [ds.1, hv]; rfl)]
    have p1 := ds.2.2.1
    have p2 := vld_pos hv
    refine mk_congr (Int.ne_of_gt (Int.mul_pos p1 p2)) (by decide) ?_
    have e1 := ds.2.2.2.2.1
    have e2 := scl_mul ht
    generalize (ofT (B - A)).1 = x at *
    generalize (ofT (B - A)).2 = y at *
    generalize sclT a d = s at *
    have e3 : (x * 1680) * (60 * a) = ((B - A) * y) * (s * d) := by rw [e1, e2]
    rw [show s * B - s * A = s * (B - A) by grind]
    grind
  simp only [s, m, h]
  simp

end Go.Proofs.Ytjghgdccaakfmaa
