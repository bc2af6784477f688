/- The plain proofs. Written by a program (wip/tools/gen.py). -/
import Derived.Test.YtgibafageolbnaaDoorMarksp
namespace Go.Proofs.YtgibafageolbnaaDoor
open Go.Sy Go.RatLaw
set_option linter.unusedVariables false
set_option linter.unusedSimpArgs false
theorem beqD (a b : Int) : (a == b) = decide (a = b) := by by_cases h : a = b <;> simp [h]
theorem p_within (n a b : Int) : P_within n a b := rfl
theorem p_isID (n : Int) : P_isID n := rfl
theorem p_isReader (p d s : Int) : P_isReader p d s := rfl
theorem p_lay2 (p d s : Int) : P_lay2 p d s := by
  unfold P_lay2 byB; rw [beqD]; rfl
theorem p_lay4 (p d s : Int) : P_lay4 p d s := by
  unfold P_lay4 byB; rw [beqD, beqD]; rfl
theorem p_lay6 (p d s : Int) : P_lay6 p d s := by
  unfold P_lay6 byB; rw [beqD, beqD, beqD, ← Bool.and_assoc]; rfl
theorem p_odd (c : Int) : P_odd c := rfl
theorem p_ixRu (l : List Int) : P_ixRu l := by
  intro hlen
  refine ⟨⟨0, ⟨Nat.zero_le _, fun k hk => absurd hk (Nat.not_lt_zero _)⟩, (by first | rfl | trivial)⟩, fun k ⟨hx, hn⟩ => ⟨fun hlt => ?_, fun hge => ?_⟩⟩
  · have hlt' : k < l.length := by have := of_decide_eq_true hlt; omega
    have e0 : ∀ k, l.getD k (Ty.ti IntKind.i32).d0 = l.getD k (0 : Int) := fun _ => rfl
    simp only [e0, tnG]
    refine ⟨by omega, by omega, fun h => ?_, fun h => ⟨by unfold InI64; omega, k + 1, ⟨hlt', fun i hi => ?_⟩, by omega, by (repeat' (first | rfl | trivial | apply And.intro))⟩⟩
    · rw [gidx_some (0 : Int) hlt' hn h]; (repeat' (first | rfl | trivial | apply And.intro))
    · rcases Nat.lt_succ_iff_lt_or_eq.1 hi with hi | hi
      · exact hn i hi
      · rw [hi]; exact h
  · have hx' : k = l.length := by have := of_decide_eq_false hge; omega
    rw [gidx_none (0 : Int) fun i hi => hn i (by omega)]; (repeat' (first | rfl | trivial | apply And.intro))
theorem p_cfRu (l : List Int) : P_cfRu l := by
  unfold P_cfRu
  rw [gidx_any]
theorem p_layers : P_layers := by
  unfold P_layers
  refine ⟨by decide, by decide, by decide, by decide, by decide, by decide, ?_⟩
  (repeat' (first | rfl | trivial | apply And.intro))
theorem byB1 (p d s : Int) : byB 1 p d s = readerB p d s := rfl
theorem byB0 {y : Int} (h1 : y ≠ 1) (h2 : y ≠ 2) (h3 : y ≠ 3) (h4 : y ≠ 4) (p d s : Int) : byB y p d s = false := by
  unfold byB; rw [if_neg h1, if_neg h2, if_neg h3, if_neg h4]
/-- what all arms of the layers have in common -/
theorem mk_arm {id kind y p d s ver note val : Int} {q : ByteArray} {r : Bool} (hr : byB y p d s = r) :
    ((!r || !idB id || !idB ver || !idB note || !rngB kind 1 5) = true → false = markB id kind y p d s ver note val q) ∧
    ((!r || !idB id || !idB ver || !idB note || !rngB kind 1 5) = false →
      ((kind == 1) = true → (rngB val 0 2 && decide ((q.size : Int) ≤ 200) && !(strR q).any oddC) = markB id kind y p d s ver note val q) ∧
      ((kind == 1) = false → (rngB val 0 1000 && decide ((q.size : Int) ≤ 200) && !(strR q).any oddC) = markB id kind y p d s ver note val q)) := by
  unfold markB textB
  rw [hr, any_runes]
  have e : decide ((q.size : Int) ≤ 200) = decide (q.size ≤ 200) := decide_eq_decide.2 (by omega)
  rw [e]
  refine ⟨fun h => ?_, fun h => ⟨fun hk => ?_, fun hk => ?_⟩⟩
  · rw [eq_comm, Bool.eq_false_iff]
    intro hh
    simp only [Bool.and_eq_true] at hh
    obtain ⟨⟨⟨⟨⟨⟨h1, h2⟩, h3⟩, h4⟩, h5⟩, _⟩, _⟩ := hh
    rw [h1, h2, h3, h4, h5] at h
    simp at h
  · simp only [Bool.or_eq_false_iff, Bool.not_eq_false'] at h
    obtain ⟨⟨⟨⟨h1, h2⟩, h3⟩, h4⟩, h5⟩ := h
    rw [h1, h2, h3, h4, h5, if_pos (by simpa using hk)]
    simp [Bool.and_assoc]
  · simp only [Bool.or_eq_false_iff, Bool.not_eq_false'] at h
    obtain ⟨⟨⟨⟨h1, h2⟩, h3⟩, h4⟩, h5⟩ := h
    rw [h1, h2, h3, h4, h5, if_neg (by simpa using hk)]
    simp [Bool.and_assoc]
theorem p_mkValid (id kind y p d s ver note val : Int) (q : ByteArray) : P_mkValid id kind y p d s ver note val q := by
  have hq : ∀ v : Bool, (v && decide ((q.size : Int) ≤ 200)) = true → q.size ≤ 70368744177664 := fun v h => by
    rw [Bool.and_eq_true] at h
    have := of_decide_eq_true h.2
    omega
  have go : ∀ r : Bool, byB y p d s = r →
    ((!true || !r || !idB id || !idB ver || !idB note || !rngB kind 1 5) = true → false = markB id kind y p d s ver note val q) ∧
    ((!true || !r || !idB id || !idB ver || !idB note || !rngB kind 1 5) = false →
      ((kind == 1) = true → ((rngB val 0 2 && decide ((q.size : Int) ≤ 200)) = true → q.size ≤ 70368744177664) ∧ (rngB val 0 2 && decide ((q.size : Int) ≤ 200) && !(strR q).any oddC) = markB id kind y p d s ver note val q) ∧
      ((kind == 1) = false → ((rngB val 0 1000 && decide ((q.size : Int) ≤ 200)) = true → q.size ≤ 70368744177664) ∧ (rngB val 0 1000 && decide ((q.size : Int) ≤ 200) && !(strR q).any oddC) = markB id kind y p d s ver note val q)) := fun r hr =>
    ⟨(mk_arm hr).1, fun h => ⟨fun hk => ⟨hq _, ((mk_arm hr).2 h).1 hk⟩, fun hk => ⟨hq _, ((mk_arm hr).2 h).2 hk⟩⟩⟩
  refine ⟨fun h => ?_, fun n1 => ⟨fun h => ?_, fun n2 => ⟨fun h => ?_, fun n3 => ⟨fun h => ?_, fun n4 => ⟨n1, n2, n3, n4, fun h => by simp at h, fun _ => ?_, fun h => by simp at h⟩⟩⟩⟩⟩
  · exact go _ (by rw [h]; rfl)
  · exact go _ (by rw [h])
  · exact go _ (by rw [h])
  · exact go _ (by rw [h])
  · unfold markB; rw [byB0 n1 n2 n3 n4]; rfl

end Go.Proofs.YtgibafageolbnaaDoor
