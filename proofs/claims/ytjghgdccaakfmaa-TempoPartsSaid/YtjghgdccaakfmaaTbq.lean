/- The plain proofs. Written by a program (wip/tools/gen.py). -/
import Derived.Test.YtjghgdccaakfmaaTbp
import Derived.Test.YtjghgdccaakfmaaTr
namespace Go.Proofs.Ytjghgdccaakfmaa
open Go.Sy Go.RatLaw
set_option linter.unusedVariables false
set_option linter.unusedSimpArgs false
theorem usT {bars : List Bar} {l : List T3} (h : (!usableT bars l) = false) : okTm bars l = true := by
  unfold usableT at h
  simp only [Bool.not_eq_false', Bool.and_eq_true] at h
  exact h.2
theorem p_TParts (bars : List Bar) (l : List T3) (pb pn pd qb qn qd rb rn rd : Int) : P_TParts bars l pb pn pd qb qn qd rb rn rd := by
  refine ⟨fun _ => rfl, fun h => ?_⟩
  simp only [Bool.or_eq_false_iff] at h
  obtain ⟨⟨⟨hu, hp⟩, hq⟩, hr⟩ := h
  have ho := usT hu
  simp only [Bool.not_eq_false'] at hp hq hr
  have hk := okTm_ok ho
  have fpp : secS bars l pb pn pd pb pn pd = (0, 1, 0) := by rw [sec_form ho hp hp, earl_self, Int.sub_self]; exact mk_zero
  have fpq := sec_form ho hp hq
  have fqr := sec_form ho hq hr
  have fpr := sec_form ho hp hr
  have fqp := sec_form ho hq hp
  have e3 : ∀ {b n d b' n' d' : Int}, posS bars b n d = true → posS bars b' n' d' = true → (secS bars l b n d b' n' d').2.2 = 0 → earlS b' n' d' b n d = false ∧ upT bars l b (tk n d) ≤ upT bars l b' (tk n' d') := by
    intro b n d b' n' d' h1 h2 h3
    rw [sec_form ho h1 h2] at h3
    by_cases he : earlS b' n' d' b n d = true
    · rw [if_pos he] at h3; cases h3
    · simp only [Bool.not_eq_true] at he
      exact ⟨he, up_le hk h1 h2 he⟩
  refine ⟨fun h => ?_, fun _ => ⟨fun h => ?_, fun h => ?_⟩⟩
  · rw [fpp] at h
    have : ((secS bars l pb pn pd qb qn qd).2.2 != 0 && (secS bars l pb pn pd qb qn qd).2.2 != 1 && (secS bars l pb pn pd qb qn qd).2.2 != 3) = false := by
      rw [fpq]
      split
      · rfl
      · rcases mk100_err (upT bars l qb (tk qn qd) - upT bars l pb (tk pn pd)) with q | q <;> rw [q] <;> rfl
    rw [this] at h
    simp at h
  · rw [Bool.true_and]
    by_cases h1 : (secS bars l pb pn pd qb qn qd).2.2 = 0
    · by_cases h2 : (secS bars l qb qn qd rb rn rd).2.2 = 0
      · have a1 := e3 hp hq h1
        have a2 := e3 hq hr h2
        have he := earl_up hk hp hr (by omega)
        rw [h1, h2] at h
        rw [fpr, he] at h ⊢
        rcases mk100_err (upT bars l rb (tk rn rd) - upT bars l pb (tk pn pd)) with q | q
        · simp [q] at h
        · simp [q]
      · simp [h2]
    · simp [h1]
  · simp only [Bool.or_eq_false_iff, bne_eq_false_iff_eq] at h
    obtain ⟨⟨h1, h2⟩, h3⟩ := h
    have a1 := e3 hp hq h1
    have a2 := e3 hq hr h2
    have a3 := e3 hp hr h3
    rw [a1.1] at fpq
    rw [a2.1] at fqr
    rw [a3.1] at fpr
    simp only [Bool.false_eq_true, if_false] at fpq fqr fpr
    have hx := up_eq hk hp hq
    have hlt := (up_lt hk hp hq).symm
    generalize upT bars l pb (tk pn pd) = U at *
    generalize upT bars l qb (tk qn qd) = V at *
    generalize upT bars l rb (tk rn rd) = W at *
    rcases mk100 (V - U) with q | ⟨a, ad, hm, hv, he⟩
    · rw [fpq, q] at h1; cases h1
    rcases mk100 (W - V) with q | ⟨b, bd, hm', hv', he'⟩
    · rw [fqr, q] at h2; cases h2
    have hs : addR a ad b bd = secS bars l pb pn pd rb rn rd := by rw [fpr, add100 hv hv' he he']; congr 1; omega
    rw [hm] at fpq
    rw [hm'] at fqr
    have hpos := vld_pos hv
    have hz : a = 0 ↔ (pb = qb ∧ pn = qn ∧ pd = qd) := by
      rw [← hx]
      constructor
      · intro q; rw [q] at he
        have : V - U = 0 := by
          rcases Int.mul_eq_zero.1 (show ad * (V - U) = 0 by omega) with q | q <;> omega
        omega
      · intro q
        rw [show V - U = 0 by omega] at he; omega
    have hnn : 0 ≤ a := by
      have : 0 ≤ ad * (V - U) := Int.mul_nonneg (by omega) (by omega)
      omega
    have heq : (a == 0) = (pb == qb && (pn == qn && pd == qd)) := by
      rw [Bool.eq_iff_iff]; simp; exact hz
    refine ⟨fun h => ?_, fun _ => ?_⟩
    · rw [fpq, fqr] at h
      simp only [hs, h3, heq] at h
      simp at h
      omega
    · rw [Bool.true_and, ← heq, fqp]
      by_cases q : a = 0
      · obtain ⟨q1, q2, q3⟩ := hz.1 q
        subst q1 q2 q3
        have hUV : U = V := hx.2 ⟨rfl, rfl, rfl⟩
        rw [if_neg (by rw [earl_self]; simp), q, hUV, Int.sub_self, mk_zero]; rfl
      · rw [if_pos]
        · simp [q]
        · rw [hlt]
          have : ¬ U = V := fun r => q (hz.2 (hx.1 r))
          omega

end Go.Proofs.Ytjghgdccaakfmaa
