/- The plain proofs. Written by a program (wip/tools/gen.py). -/
import Derived.Test.YtjghgdccaakfmaaTlp
namespace Go.Proofs.Ytjghgdccaakfmaa
open Go.Sy Go.RatLaw
set_option linter.unusedVariables false
set_option linter.unusedSimpArgs false
theorem p_tusable (bars : List Bar) (l : List T3) : P_tusable bars l := by
  intro _ _
  unfold usableT
  rw [Bool.eq_iff_iff]; simp only [Bool.and_eq_true, decide_eq_true_iff]; exact ⟨fun h => ⟨⟨by omega, by omega⟩, h.2⟩, fun h => ⟨⟨by omega, by omega⟩, h.2⟩⟩
theorem p_thead : P_thead := by
  unfold P_thead
  exact ⟨fun _ => by decide, by kernel_rfl⟩

end Go.Proofs.Ytjghgdccaakfmaa
