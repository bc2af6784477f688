/- Plain: rising integers, with one more and with one less. No program in sight. -/
import Derived.Test.YtcklbglladijlaaGq
namespace Go.RatLaw
open Go.Sy
set_option linter.unusedVariables false
set_option linter.unusedSimpArgs false
def putS : List Int → Int → List Int
 | [], n => [n]
 | x :: r, n => if n = x then x :: r else if n < x then n :: x :: r else x :: putS r n
def rise : List Int → Prop
 | [] => True
 | x :: r => (∀ y ∈ r, x < y) ∧ rise r
def below (l : List Int) (n : Int) : Nat := match l with
 | [] => 0
 | x :: r => if x < n then below r n + 1 else 0
def hasI (l : List Int) (n : Int) : Bool := l.contains n
def eqIs (l m : List Int) : Bool := decide (l = m)
def insAt (l : List Int) (i : Nat) (x : Int) : List Int := l.take i ++ x :: l.drop i
theorem below_le (n : Int) : ∀ l : List Int, below l n ≤ l.length
 | [] => Nat.le_refl _
 | x :: r => by
  have := below_le n r
  unfold below
  split
  ·simp; omega
  ·simp
theorem below_lt {n : Int} : ∀ {l : List Int} {i : Nat}, i < below l n → l.getD i 0 < n
 | [], i, h => by simp [below] at h
 | x :: r, i, h => by
  unfold below at h
  split at h
  ·rename_i hx
   cases i with
   | zero => simpa using hx
   | succ i => simpa using below_lt (l := r) (i := i) (by omega)
  ·omega
theorem rise_get : ∀ {l : List Int}, rise l → ∀ {i j : Nat}, i < j → j < l.length → l.getD i 0 < l.getD j 0
 | [], _, _, _, _, h => by simp at h
 | x :: r, h, 0, j + 1, _, hj => by
  have hj' : j < r.length := by simpa using hj
  have : r.getD j 0 ∈ r := memG 0 hj'
  simpa using h.1 _ this
 | x :: r, h, i + 1, j + 1, hij, hj => by
  have := rise_get h.2 (i := i) (j := j) (by omega) (by simpa using hj)
  simpa using this
theorem below_ge {n : Int} : ∀ {l : List Int} {i : Nat}, rise l → below l n ≤ i → i < l.length → n ≤ l.getD i 0
 | [], i, _, _, h => by simp at h
 | x :: r, i, hr, hb, hi => by
  unfold below at hb
  split at hb
  ·cases i with
   | zero => omega
   | succ i => simpa using below_ge hr.2 (by omega) (by simpa using hi)
  ·rename_i hx
   have hx : n ≤ x := by omega
   cases i with
   | zero => simpa using hx
   | succ i =>
    have := hr.1 _ (memG (d := (0 : Int)) (l := r) (x := i) (by simpa using hi))
    show n ≤ r.getD i 0
    omega
theorem has_mem {l : List Int} {n : Int} : hasI l n = true ↔ n ∈ l := by unfold hasI; simp
theorem has_no {l : List Int} {n : Int} : hasI l n = false ↔ n ∉ l := by rw [← has_mem]; simp
theorem has_below {n : Int} : ∀ {l : List Int}, rise l → (hasI l n = true ↔ below l n < l.length ∧ l.getD (below l n) 0 = n)
 | [], _ => by simp [hasI, below]
 | x :: r, h => by
  have ih := has_below (n := n) h.2
  rw [has_mem] at ih ⊢
  unfold below
  by_cases hx : x < n
  ·rw [if_pos hx, List.mem_cons, ih]
   simp
   intro e; omega
  ·rw [if_neg hx]
   simp only [List.mem_cons, List.length_cons]
   constructor
   ·rintro (e | e)
    ·exact ⟨by omega, by simp [e]⟩
    ·exact absurd (h.1 n e) hx
   ·intro e; left; simpa using e.2.symm
theorem ins_put {n : Int} : ∀ {l : List Int}, rise l → hasI l n = false → l.take (below l n) ++ n :: l.drop (below l n) = putS l n
 | [], _, _ => rfl
 | x :: r, h, hn => by
  rw [has_no] at hn
  simp only [List.mem_cons, not_or] at hn
  unfold below putS
  rw [if_neg hn.1]
  by_cases hx : x < n
  ·rw [if_pos hx, if_neg (by omega), List.take_succ_cons, List.drop_succ_cons, List.cons_append, ins_put h.2 (has_no.2 hn.2)]
  ·rw [if_neg hx, if_pos (by omega)]; rfl
theorem mem_put {n m : Int} : ∀ {l : List Int}, m ∈ putS l n ↔ m = n ∨ m ∈ l
 | [] => by simp [putS]
 | x :: r => by
  unfold putS
  split
  ·rename_i e; subst e; simp
  ·split
   ·simp
   ·simp only [List.mem_cons, mem_put (l := r)]
    constructor
    ·rintro (h | h | h) <;> simp [h]
    ·rintro (h | h | h) <;> simp [h]
theorem rise_put {n : Int} : ∀ {l : List Int}, rise l → rise (putS l n)
 | [], _ => ⟨fun _ h => (by cases h), trivial⟩
 | x :: r, h => by
  unfold putS
  split
  ·exact h
  ·rename_i e
   split
   ·rename_i e2
    refine ⟨fun y hy => ?_, h⟩
    rcases List.mem_cons.1 hy with rfl | hy
    ·exact e2
    ·have := h.1 y hy; omega
   ·rename_i e2
    refine ⟨fun y hy => ?_, rise_put h.2⟩
    rcases mem_put.1 hy with rfl | hy
    ·omega
    ·exact h.1 y hy
theorem erase_mem {n m : Int} : ∀ {l : List Int}, rise l → hasI l n = true → (m ∈ l.eraseIdx (below l n) ↔ m ∈ l ∧ m ≠ n)
 | [], _, h => by simp [hasI] at h
 | x :: r, h, hn => by
  rw [has_mem, List.mem_cons] at hn
  unfold below
  by_cases hx : x < n
  ·have hm : n ∈ r := hn.resolve_left (by omega)
   have ih := erase_mem (m := m) h.2 (has_mem.2 hm)
   rw [if_pos hx, List.eraseIdx_cons_succ, List.mem_cons, ih, List.mem_cons]
   constructor
   ·rintro (rfl | ⟨a, b⟩)
    ·exact ⟨.inl rfl, by omega⟩
    ·exact ⟨.inr a, b⟩
   ·rintro ⟨rfl | a, b⟩
    ·exact .inl rfl
    ·exact .inr ⟨a, b⟩
  ·have e : n = x := by
    rcases hn with e | e
    ·exact e
    ·exact absurd (h.1 n e) hx
   subst e
   rw [if_neg hx, List.eraseIdx_cons_zero, List.mem_cons]
   constructor
   ·intro a; exact ⟨.inr a, fun e => by subst e; have := h.1 m a; omega⟩
   ·rintro ⟨rfl | a, b⟩
    ·exact absurd rfl b
    ·exact a
theorem rise_erase : ∀ {l : List Int} {k : Nat}, rise l → rise (l.eraseIdx k)
 | [], _, _ => trivial
 | x :: r, 0, h => h.2
 | x :: r, k + 1, h => by
  rw [List.eraseIdx_cons_succ]
  exact ⟨fun y hy => h.1 y (List.mem_of_mem_eraseIdx hy), rise_erase h.2⟩
theorem rise_len : ∀ {l : List Int} {a b : Int}, rise l → (∀ y ∈ l, a ≤ y ∧ y ≤ b) → (l.length : Int) ≤ max 0 (b - a + 1)
 | [], _, _, _, _ => by simp; omega
 | x :: r, a, b, h, hb => by
  have h1 := hb x (List.mem_cons_self ..)
  have ih := rise_len (l := r) (a := x + 1) (b := b) h.2 fun y hy => ⟨by have := h.1 y hy; omega, (hb y (List.mem_cons_of_mem _ hy)).2⟩
  simp only [List.length_cons]
  omega
theorem rise_ext : ∀ {l m : List Int}, rise l → rise m → (∀ x, x ∈ l ↔ x ∈ m) → l = m
 | [], [], _, _, _ => rfl
 | [], y :: m, _, _, h => by have := (h y).2 (List.mem_cons_self ..); cases this
 | x :: l, [], _, _, h => by have := (h x).1 (List.mem_cons_self ..); cases this
 | x :: l, y :: m, hl, hm, h => by
  have e : x = y := by
   have h1 := (h x).1 (List.mem_cons_self ..)
   have h2 := (h y).2 (List.mem_cons_self ..)
   rcases List.mem_cons.1 h1 with e | h1
   ·exact e
   ·rcases List.mem_cons.1 h2 with e | h2
    ·exact e.symm
    ·have := hm.1 x h1; have := hl.1 y h2; omega
  subst e
  rw [rise_ext hl.2 hm.2 fun z => ?_]
  constructor
  ·intro hz
   have hx := hl.1 z hz
   rcases List.mem_cons.1 ((h z).1 (List.mem_cons_of_mem _ hz)) with e | h3
   ·omega
   ·exact h3
  ·intro hz
   have hx := hm.1 z hz
   rcases List.mem_cons.1 ((h z).2 (List.mem_cons_of_mem _ hz)) with e | h3
   ·omega
   ·exact h3
end Go.RatLaw
