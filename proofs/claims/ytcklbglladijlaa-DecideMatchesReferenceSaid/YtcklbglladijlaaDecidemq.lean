/- The plain proofs. Written by a program (wip/tools/gen.py). -/
import Derived.Test.YtcklbglladijlaaDecidemp
import Derived.Test.YtcklbglladijlaaDecidelk
namespace Go.Proofs.Ytcklbglladijlaa
open Go.Sy Go.RatLaw
set_option linter.unusedVariables false
set_option linter.unusedSimpArgs false
theorem sameR_iff (a b : Rm) : sameR a b = true ↔ a = b := by
 obtain ⟨v, f, o⟩ := a
 obtain ⟨v', f', o'⟩ := b
 unfold sameR eqIs
 simp only [Bool.and_eq_true, decide_eq_true_eq, sameF_iff, Prod.mk.injEq]
 constructor
 ·rintro ⟨⟨a, b⟩, c⟩; exact ⟨a, b, c⟩
 ·rintro ⟨a, b, c⟩; exact ⟨⟨a, b⟩, c⟩
theorem sameR_self (a : Rm) : sameR a a = true := (sameR_iff a a).2 rfl
theorem sameD_self (l : List De) : sameD l l = true := decide_eq_true rfl
theorem p_QMatches (ws : List Wk) (ds : List De) (x1 x2 x3 x4 x5 x6 : Int) (kn tm : Int) : P_QMatches ws ds x1 x2 x3 x4 x5 x6 kn tm := by
 refine ⟨fun _ => rfl, fun _ => ?_⟩
 simp only [sameR_self, sameD_self, beq_self_eq_true, Bool.and_true, Bool.true_and]

end Go.Proofs.Ytcklbglladijlaa
