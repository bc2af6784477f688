/- The plain proofs. Written by a program (wip/tools/gen.py). -/
import Derived.Test.YtfbbkknfcmofcaaDoorFrontop
import Derived.Test.YtfbbkknfcmofcaaDoorVs
namespace Go.Proofs.YtfbbkknfcmofcaaDoor
open Go.Sy Go.RatLaw
set_option linter.unusedVariables false
set_option linter.unusedSimpArgs false
theorem later_end {s : Int} {l : List En} {h : Int} {e : En} {ch n : Int} (hv : logB s l h = true) (hw : logB s (l ++ [e]) ch = true) (h0 : 0 ≤ n) (h1 : n ≤ 1000000000) :
    (true && (atS s l h n).2 == 0 && (atS s (l ++ [e]) ch n).2 == 0 && (decide (n ≥ e.1) && !(e.2.1 == 4 || e.2.1 == 5) || sameF (atS s l h n).1 (atS s (l ++ [e]) ch n).1)) = true := by
  rw [at_valid hv h0 h1, at_valid hw h0 h1]
  have hk : l.length < (l ++ [e]).length := by simp
  have ht := laidAt_snoc (n := n) hk
  have e1 : (l ++ [e]).take (l.length + 1) = l ++ [e] := by rw [← List.length_singleton (a := e), ← List.length_append, List.take_length]
  have e2 : (l ++ [e]).take l.length = l := List.take_left' rfl
  have e3 : (l ++ [e]).getD l.length en0 = e := by rw [List.getD_eq_getElem?_getD, List.getElem?_append_right (Nat.le_refl _)]; simp
  have e4 : tmE (l ++ [e]) l.length = e.1 := by unfold tmE; rw [e3]
  rw [e1, e2, e3, e4] at ht
  rw [ht]
  by_cases hn : e.1 ≤ n
  · rw [if_pos hn]
    by_cases hk : e.2.1 = 4 ∨ e.2.1 = 5
    · rw [do4 (by omega) (by omega) (by omega), same_refl]; simp
    · have k1 : (e.2.1 == 4) = false := beq_eq_false_iff_ne.2 fun q => hk (.inl q)
      have k2 : (e.2.1 == 5) = false := beq_eq_false_iff_ne.2 fun q => hk (.inr q)
      rw [decide_eq_true (show n ≥ e.1 from hn), k1, k2]; rfl
  · rw [if_neg hn, same_refl]; simp
theorem p_FLater (s : Int) (l : List En) (h t k a b c g n : Int) (hs : InI64 s) (hi : inE l) (ht : InI64 t) (hg : 0 ≤ g ∧ g < 18446744073709551616) : P_FLater s l h t k a b c g n := by
  refine ⟨fun _ => rfl, fun hc => ⟨hs, hi, ht, hg, fun _ => rfl, fun he => ?_⟩⟩
  simp only [Bool.or_eq_false_iff, Bool.not_eq_false', decide_eq_false_iff_not] at hc
  obtain ⟨⟨f1, f2⟩, f3⟩ := hc
  have f1 := of_decide_eq_true f1
  have he' : (appS s l h (t, k, a, b, c, g)).2 = 0 := by simpa using he
  have hv : logB s l h = true := by
    cases hq : logB s l h with
    | true => rfl
    | false => rw [app_no (by rw [hq]; rfl)] at he'; cases he'
  obtain ⟨hx, hq, ha, hlg⟩ := app_got hv (by omega) he'
  rw [ha]
  exact ⟨hs, hi, hs, inE_app hi hx hg, later_end hv hlg (by omega) (by omega)⟩

end Go.Proofs.YtfbbkknfcmofcaaDoor
