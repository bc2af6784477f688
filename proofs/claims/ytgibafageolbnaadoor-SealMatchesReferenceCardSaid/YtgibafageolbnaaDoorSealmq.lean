/- The plain proofs. Written by a program (wip/tools/gen.py). -/
import Derived.Test.YtgibafageolbnaaDoorSealmp
namespace Go.Proofs.YtgibafageolbnaaDoor
open Go.Sy Go.RatLaw
set_option linter.unusedVariables false
set_option linter.unusedSimpArgs false
theorem starts_self (s : Int) (l : List En) : startsB s l s l = true := by
  unfold startsB
  rw [decide_eq_true rfl, decide_eq_true (Nat.le_refl _), List.take_length, decide_eq_true rfl]; rfl
theorem same_self (s : Int) (l : List En) (h : Int) : sameL s l h s l h = true := by
  unfold sameL
  rw [starts_self, decide_eq_true rfl, decide_eq_true rfl]; rfl
theorem p_SMatches (id kind y p d s ver note val : Int) (q : ByteArray) (x s1 : Int) (l1 : List En) (h1 s2 : Int) (l2 : List En) (h2 t k a b c g : Int) (i1 : InI64 s1) (i2 : inE l1) (i3 : InI64 s2) (i4 : inE l2) (i5 : InI64 t) (hg : 0 ≤ g ∧ g < 18446744073709551616) : P_SMatches id kind y p d s ver note val q x s1 l1 h1 s2 l2 h2 t k a b c g := by
  refine ⟨fun _ => rfl, fun _ => ⟨fun _ => ⟨i1, i2⟩, fun _ => ⟨i1, i2⟩, i1, i2, i5, hg, i1, i2, i5, hg, i1, i2, i3, i4, i1, i2, i3, i4, ?_⟩⟩
  rw [same_self]
  simp only [beq_self_eq_true, Bool.and_true]

end Go.Proofs.YtgibafageolbnaaDoor
