/- The plain proofs. Written by a program (wip/tools/gen.py). -/
import Derived.Test.YtjghgdccaakfmaaTep
import Derived.Test.YtjghgdccaakfmaaTr
namespace Go.Proofs.Ytjghgdccaakfmaa
open Go.Sy Go.RatLaw
set_option linter.unusedVariables false
set_option linter.unusedSimpArgs false
theorem usT {bars : List Bar} {l : List T3} (h : (!usableT bars l) = false) : okTm bars l = true := by
  unfold usableT at h
  simp only [Bool.not_eq_false', Bool.and_eq_true] at h
  exact h.2
theorem p_TPlain (bars : List Bar) (l : List T3) (v w : Int) (hv0 : 0 ≤ v) (hv1 : v ≤ 255) (hw0 : 0 ≤ w) (hw1 : w ≤ 255) : P_TPlain bars l v w := by
  refine ⟨fun _ => rfl, fun hu _ => ?_⟩
  have ho := usT hu
  have hk := okTm_ok ho
  have hb := okBars_iff.1 hk.okb
  have hx0 := Int.tmod_nonneg (b := (bars.length : Int) + 1) (a := v) hv0
  have hx1 := Int.tmod_lt_of_pos v (b := (bars.length : Int) + 1) (by omega)
  generalize v.tmod ((bars.length : Int) + 1) = x at *
  have hz0 := Int.tmod_nonneg (b := (bars.length : Int) + 1 - x) (a := w) hw0
  have hz1 := Int.tmod_lt_of_pos w (b := (bars.length : Int) + 1 - x) (by omega)
  generalize w.tmod ((bars.length : Int) + 1 - x) = z at *
  have hun := plain_unfold (n := (bars.length : Int)) (by omega) (by omega)
  have hl : ((unfoldS (plainF (bars.length : Int))).1.length : Int) = bars.length := by rw [hun, visS_len, intsF_len]; omega
  have hp : PlayOk bars l (plainF (bars.length : Int)) x (x + z) := play_mk_ok ho (plain_valid (by omega) (by omega)) rfl hx0 (by omega) (by omega)
  have e : playS bars l ((bars.length : Int), ([], ([], ((0, (0, 0)), [])))) x (x + z) = secS bars l x 0 1 (x + z) 0 1 := by
    show playS bars l (plainF (bars.length : Int)) x (x + z) = _
    rw [play_mk hp, sec_bar ho hx0 (by omega) (by omega), ← play_all hp (k := (x + z - x).toNat) (by omega), plain_play hp (Nat.le_refl _), show x.toNat + (x + z - x).toNat = (x + z).toNat by omega]
  have e2 := sec_bar ho hx0 (show x ≤ x + z by omega) (show x + z ≤ bars.length by omega)
  have e3 := mk100_err (sumT bars l (x + z).toNat - sumT bars l x.toNat)
  refine ⟨by unfold InI64; omega, by unfold InI64; omega, by omega, by unfold InI64; omega, by unfold InI64; omega, by unfold InI64; omega, by omega, by unfold InI64; omega, ?_⟩
  rw [e, e2]
  rcases e3 with e3 | e3 <;> simp [e3]

end Go.Proofs.Ytjghgdccaakfmaa
