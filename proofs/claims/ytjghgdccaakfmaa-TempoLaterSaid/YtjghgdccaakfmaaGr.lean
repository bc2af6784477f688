/- Plain numbers: laws of visits: they do not come twice, what follows what, what a repeat's times change. No program in sight. -/
import Derived.Test.YtjghgdccaakfmaaGq
namespace Go.RatLaw
open Go.Sy
set_option linter.unusedVariables false
set_option linter.unusedSimpArgs false
theorem vis_get {l : List Int} {i : Nat} (h : i < l.length) : (visS l).getD i vi0 = (l.getD i 0, ((l.take (i + 1)).count (l.getD i 0) : Int)) := by
  unfold visS visTo
  rw [List.getD_eq_getElem?_getD, List.getElem?_map, List.getElem?_range h]
  rfl
theorem vis_pos {l : List Int} {v : Vi} (h : v ∈ visS l) : v.1 ∈ l ∧ 1 ≤ v.2 := by
  obtain ⟨i, hi, e⟩ := List.mem_iff_getElem.1 h
  have hi' := hi
  rw [visS_len] at hi'
  have ei : (visS l)[i] = (visS l).getD i vi0 := by rw [List.getD_eq_getElem?_getD, List.getElem?_eq_getElem]; rfl
  rw [← e, ei, vis_get hi']
  refine ⟨memG 0 hi', ?_⟩
  simp only
  rw [takeG (0 : Int) hi', List.count_append, List.count_singleton_self]
  omega
/-! what follows what -/
def gchain (R : Int → Int → Prop) : List Int → Prop
  | [] => True
  | [_] => True
  | a :: b :: l => R a b ∧ gchain R (b :: l)
/-- bars from p to before u, those between them in endings -/
structure Seg (e : List T3) (R : Int → Int → Prop) (p u : Int) (l : List Int) : Prop where
  no : l = [] → skippedB e p u = true
  hd : ∀ b, l.head? = some b → p ≤ b ∧ skippedB e p b = true
  la : ∀ a, l.getLast? = some a → a < u ∧ skippedB e (a + 1) u = true
  inn : ∀ x ∈ l, p ≤ x ∧ x < u
  li : gchain R l
/-! what the times of a repeat change -/
end Go.RatLaw
