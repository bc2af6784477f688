/- The plain proofs. Written by a program (wip/tools/gen.py). -/
import Derived.Test.YtfbbkknfcmofcaaDoorMarksp
namespace Go.Proofs.YtfbbkknfcmofcaaDoor
open Go.Sy Go.RatLaw
set_option linter.unusedVariables false
set_option linter.unusedSimpArgs false
theorem beqD (a b : Int) : (a == b) = decide (a = b) := by by_cases h : a = b <;> simp [h]
theorem byB1 (p d s : Int) : byB 1 p d s = readerB p d s := rfl
theorem byB0 {y : Int} (h1 : y ≠ 1) (h2 : y ≠ 2) (h3 : y ≠ 3) (h4 : y ≠ 4) (p d s : Int) : byB y p d s = false := by
  unfold byB; rw [if_neg h1, if_neg h2, if_neg h3, if_neg h4]
/-- what all arms of the layers have in common -/
theorem mk_arm {id kind y p d s ver note val : Int} {q : ByteArray} {r : Bool} (hr : byB y p d s = r) :
    ((!r || !idB id || !idB ver || !idB note || !rngB kind 1 5) = true → false = markB id kind y p d s ver note val q) ∧
    ((!r || !idB id || !idB ver || !idB note || !rngB kind 1 5) = false →
      ((kind == 1) = true → (rngB val 0 2 && decide ((q.size : Int) ≤ 200) && !(strR q).any oddC) = markB id kind y p d s ver note val q) ∧
      ((kind == 1) = false → (rngB val 0 1000 && decide ((q.size : Int) ≤ 200) && !(strR q).any oddC) = markB id kind y p d s ver note val q)) := by
  unfold markB textB
  rw [hr, any_runes]
  have e : decide ((q.size : Int) ≤ 200) = decide (q.size ≤ 200) := decide_eq_decide.2 (by omega)
  rw [e]
  refine ⟨fun h => ?_, fun h => ⟨fun hk => ?_, fun hk => ?_⟩⟩
  · rw [eq_comm, Bool.eq_false_iff]
    intro hh
    simp only [Bool.and_eq_true] at hh
    obtain ⟨⟨⟨⟨⟨⟨h1, h2⟩, h3⟩, h4⟩, h5⟩, _⟩, _⟩ := hh
    rw [h1, h2, h3, h4, h5] at h
    simp at h
  · simp only [Bool.or_eq_false_iff, Bool.not_eq_false'] at h
    obtain ⟨⟨⟨⟨h1, h2⟩, h3⟩, h4⟩, h5⟩ := h
    rw [h1, h2, h3, h4, h5, if_pos (by simpa using hk)]
    simp [Bool.and_assoc]
  · simp only [Bool.or_eq_false_iff, Bool.not_eq_false'] at h
    obtain ⟨⟨⟨⟨h1, h2⟩, h3⟩, h4⟩, h5⟩ := h
    rw [h1, h2, h3, h4, h5, if_neg (by simpa using hk)]
    simp [Bool.and_assoc]
end Go.Proofs.YtfbbkknfcmofcaaDoor
