/- Plain: what holds of works, decisions, and what is in force. No program in sight. -/
import Derived.Test.YtcklbglladijlaaEp
import Derived.Test.YtcklbglladijlaaGr
namespace Go.RatLaw
open Go.Sy
set_option linter.unusedVariables false
set_option linter.unusedSimpArgs false
theorem wrap_u64 (z : Int) : IntKind.u64.wrap z = z % 18446744073709551616 := by simp [IntKind.wrap, IntKind.signed, IntKind.bits]
theorem lastW_succ {l : List Wk} {x : Nat} : lastW l (x + 1) = verW (l.getD x wk0) := by simp [lastW]
theorem lastD_succ {l : List De} {x : Nat} : lastD l (x + 1) = (l.getD x de0).2.1 := by simp [lastD]
theorem works_step {l : List Wk} {x : Nat} (h : x < l.length) : worksFrom (lastW l x) (l.drop x) = (!workBad (lastW l x) (l.getD x wk0) && worksFrom (lastW l (x + 1)) (l.drop (x + 1))) := by
 rw [dropG wk0 h, lastW_succ]; rfl
theorem works_end {l : List Wk} {x : Nat} (h : ¬ x < l.length) : worksFrom (lastW l x) (l.drop x) = true := by
 rw [List.drop_eq_nil_of_le (by omega)]; rfl
theorem ord_step {l : List De} {x : Nat} (h : x < l.length) : ordFrom x (lastD l x) (l.drop x) = (!ordBad x (lastD l x) (l.getD x de0) && ordFrom (x + 1) (lastD l (x + 1)) (l.drop (x + 1))) := by
 rw [dropG de0 h, lastD_succ]; rfl
theorem ord_end {l : List De} {x : Nat} (h : ¬ x < l.length) : ordFrom x (lastD l x) (l.drop x) = true := by
 rw [List.drop_eq_nil_of_le (by omega)]; rfl
theorem worksFrom_mem : ∀ {l : List Wk} {last : Int}, worksFrom last l = true → ∀ w ∈ l, last < verW w ∧ verW w ≤ 1000000 ∧ (formW w).1 = w.1.2.1.length ∧ validF (formW w) = true
 | [], _, _, w, hw => by cases hw
 | y :: l, last, h, w, hw => by
  unfold worksFrom at h
  simp only [Bool.and_eq_true, Bool.not_eq_true'] at h
  obtain ⟨h1, h2⟩ := h
  unfold workBad at h1
  simp only [Bool.or_eq_false_iff, decide_eq_false_iff_not, Bool.not_eq_false', ne_eq, Decidable.not_not] at h1
  obtain ⟨⟨⟨a1, a2⟩, a3⟩, a4⟩ := h1
  rcases List.mem_cons.1 hw with rfl | hw
  ·exact ⟨by omega, by omega, a3, a4⟩
  ·have := worksFrom_mem h2 w hw
   exact ⟨by omega, this.2⟩
theorem works_mem {l : List Wk} (h : worksB l = true) : 1 ≤ l.length ∧ l.length ≤ 100 ∧ ∀ w ∈ l, 1 ≤ verW w ∧ verW w ≤ 1000000 ∧ (formW w).1 = w.1.2.1.length ∧ validF (formW w) = true := by
 unfold worksB at h
 simp only [Bool.and_eq_true, decide_eq_true_eq] at h
 refine ⟨by omega, by omega, fun w hw => ?_⟩
 have := worksFrom_mem h.1 w hw
 exact ⟨by omega, this.2⟩
theorem vf_lens {f : Fm} (h : validF f = true) : f.2.1.length ≤ 100 ∧ f.2.2.1.length ≤ 100 ∧ f.2.2.2.2.length ≤ 100 := by
 unfold validF okForm repsB endsB cutsB at h
 simp only [Bool.and_eq_true, decide_eq_true_eq] at h
 exact ⟨h.1.1.1.1.2.2, h.1.1.1.2.2, h.1.2.2⟩
theorem works_lens {l : List Wk} (h : worksB l = true) {w : Wk} (hw : w ∈ l) : w.2.1.2.1.length ≤ 100 ∧ w.2.1.2.2.1.length ≤ 100 ∧ w.2.1.2.2.2.2.length ≤ 100 :=
 vf_lens ((works_mem h).2.2 w hw).2.2.2
theorem oss_len {o : List Int} (h : ossB o) : o.length ≤ 100 := by
 have := rise_len h.1 h.2
 omega
theorem reform_oss (r : Rm) (m : Fm × Int) : (reformS r m).1.2.2 = r.2.2 := by unfold reformS; split <;> rfl
theorem reform_err {r : Rm} {m : Fm × Int} (h : (reformS r m).2 ≠ 0) : (reformS r m).1 = r := by
 unfold reformS at h ⊢
 split
 ·rename_i h1; rw [if_pos h1] at h; exact absurd rfl h
 ·rfl
theorem version_oss {ws : List Wk} {r : Rm} {x : De} (h : ossB r.2.2) : ossB (versionS ws r x).1.2.2 := by
 unfold versionS
 split
 ·exact h
 ·split
  ·exact h
  ·exact ⟨trivial, fun y hy => by cases hy⟩
theorem ossia_oss {r : Rm} {x : De} (h : ossB r.2.2) : ossB (ossiaS r x).1.2.2 := by
 unfold ossiaS
 split
 ·exact h
 ·rename_i hb
  split
  ·exact h
  ·split
   ·rename_i hh
    refine ⟨rise_erase h.1, fun y hy => h.2 y ((erase_mem h.1 hh).1 hy).1⟩
   ·refine ⟨rise_put h.1, fun y hy => ?_⟩
    rcases mem_put.1 hy with rfl | hy
    ·unfold ossBad at hb
     simp only [Bool.or_eq_true, decide_eq_true_eq, not_or] at hb
     omega
    ·exact h.2 y hy
theorem do_oss {ws : List Wk} {r : Rm} {x : De} (h : ossB r.2.2) : ossB (doS ws r x).1.2.2 := by
 unfold doS
 split
 ·exact version_oss h
 ·split
  ·unfold cutD; rw [reform_oss]; exact h
  ·split
   ·unfold openD; rw [reform_oss]; exact h
   ·split
    ·unfold timesD
     split
     ·exact h
     ·rw [reform_oss]; exact h
    ·split
     ·exact ossia_oss h
     ·exact h
theorem do_err {ws : List Wk} {r : Rm} {x : De} (h : (doS ws r x).2 ≠ 0) : (doS ws r x).1 = r := by
 unfold doS at h ⊢
 split
 ·rename_i h1; rw [if_pos h1] at h
  unfold versionS at h ⊢
  split
  ·rfl
  ·rename_i h2; rw [if_neg h2] at h
   split
   ·rfl
   ·rename_i h3; rw [if_neg h3] at h; exact absurd rfl h
 ·rename_i h1; rw [if_neg h1] at h
  split
  ·rename_i h1; rw [if_pos h1] at h; exact reform_err h
  ·rename_i h1; rw [if_neg h1] at h
   split
   ·rename_i h1; rw [if_pos h1] at h; exact reform_err h
   ·rename_i h1; rw [if_neg h1] at h
    split
    ·rename_i h1; rw [if_pos h1] at h
     unfold timesD at h ⊢
     split
     ·rfl
     ·rename_i h2; rw [if_neg h2] at h; exact reform_err h
    ·rename_i h1; rw [if_neg h1] at h
     split
     ·rename_i h1; rw [if_pos h1] at h
      unfold ossiaS at h ⊢
      split
      ·rfl
      ·rename_i h2; rw [if_neg h2] at h
       split
       ·rfl
       ·rename_i h3; rw [if_neg h3] at h
        split at h <;> exact absurd rfl h
     ·rfl
theorem run_oss {ws : List Wk} : ∀ {d : List De} {r : Rm}, ossB r.2.2 → ossB (runS ws r d).1.2.2
 | [], _, h => h
 | x :: d, r, h => by
  unfold runS
  split
  ·exact run_oss (do_oss h)
  ·exact h
theorem first_oss (ws : List Wk) : ossB (firstR ws).2.2 := ⟨trivial, fun y hy => by cases hy⟩
theorem run_oss1 (ws : List Wk) (d : List De) : rise (runS ws (firstR ws) d).1.2.2 ∧ (runS ws (firstR ws) d).1.2.2.length ≤ 100 := ⟨(run_oss (first_oss ws)).1, oss_len (run_oss (first_oss ws))⟩
theorem run_cons {ws : List Wk} {r : Rm} {x : De} {d : List De} : runS ws r (x :: d) = if (doS ws r x).2 = 0 then runS ws (doS ws r x).1 d else (r, false) := rfl
theorem runE_cons {ws : List Wk} {r : Rm} {x : De} {d : List De} : runE ws r (x :: d) = if (doS ws r x).2 = 0 then runE ws (doS ws r x).1 d else (doS ws r x).2 := rfl
theorem run_app {ws : List Wk} {b : List De} : ∀ {a : List De} {r : Rm}, runS ws r (a ++ b) = if (runS ws r a).2 then runS ws (runS ws r a).1 b else runS ws r a
 | [], r => rfl
 | x :: a, r => by
  rw [List.cons_append, run_cons, run_cons]
  by_cases h : (doS ws r x).2 = 0
  ·rw [if_pos h, if_pos h]; exact run_app
  ·rw [if_neg h, if_neg h]; rfl
theorem run_snoc {ws : List Wk} {a : List De} {r : Rm} {x : De} (h : (runS ws r a).2 = true) : runS ws r (a ++ [x]) = if (doS ws (runS ws r a).1 x).2 = 0 then ((doS ws (runS ws r a).1 x).1, true) else ((runS ws r a).1, false) := by
 rw [run_app, if_pos h]; rfl
theorem runE_ok {ws : List Wk} : ∀ {a : List De} {r : Rm}, (runE ws r a = 0 ↔ (runS ws r a).2 = true)
 | [], r => by simp [runE, runS]
 | x :: a, r => by
  unfold runE runS
  split
  ·exact runE_ok
  ·rename_i h; simp [h]
theorem runE_app {ws : List Wk} {b : List De} : ∀ {a : List De} {r : Rm}, (runS ws r a).2 = true → runE ws r (a ++ b) = runE ws (runS ws r a).1 b
 | [], r, _ => rfl
 | x :: a, r, h => by
  rw [run_cons] at h
  rw [List.cons_append, runE_cons, run_cons]
  by_cases h1 : (doS ws r x).2 = 0
  ·rw [if_pos h1] at h; rw [if_pos h1, if_pos h1]; exact runE_app h
  ·rw [if_neg h1] at h; cases h
theorem unD_app (a b : List (De × Unit)) : unD (a ++ b) = unD a ++ unD b := List.map_append
theorem fed_run {ws : List Wk} {r : Rm} : ∀ (L : List De) (d : List (De × Unit)), (runS ws r (unD d)).2 = true → runS ws r (unD (gfed (fun hist : List (De × Unit) => (runS ws r (unD hist)).2) d (h1 L))) = runS ws r (unD d ++ L)
 | [], d, h => by simp [h1, gfed]
 | x :: L, d, h => by
  have e : h1 (x :: L) = (x, ()) :: h1 L := rfl
  have e2 : unD (d ++ [(x, ())]) = unD d ++ [x] := unD_app _ _
  rw [e]
  unfold gfed
  split
  ·rename_i h2
   rw [fed_run L _ h2, e2, List.append_assoc]; rfl
  ·rename_i h2
   simp only [Bool.not_eq_true] at h2
   rw [e2] at h2 ⊢
   have : unD d ++ x :: L = (unD d ++ [x]) ++ L := by simp
   rw [this, run_app (a := unD d ++ [x]), if_neg (by rw [h2]; simp)]
theorem ossBad_iff {x : De} : ossBad x = (decide (x.2.2.2.1 < 1) || decide (x.2.2.2.1 > 20) || decide (x.2.2.2.2.1 < 0) || decide (x.2.2.2.2.1 > 1) || (x.2.2.2.2.2 != 0)) := by
 unfold ossBad; congr 1; by_cases h : x.2.2.2.2.2 = 0 <;> simp [h]
theorem until_all {d : List De} {i : Nat} {last : Int} (n : Int) (h : ordFrom i last d = true) (hn : (i : Int) + d.length ≤ n) : untilL d n 1000000000 = d := by
 unfold untilL
 induction d generalizing i last with
 | nil => rfl
 | cons x d ih =>
  unfold ordFrom at h
  simp only [Bool.and_eq_true, Bool.not_eq_true'] at h
  obtain ⟨h1, h2⟩ := h
  unfold ordBad at h1
  simp only [Bool.or_eq_false_iff, decide_eq_false_iff_not, ne_eq, Decidable.not_not, Bool.not_eq_false', isTimeB, Bool.and_eq_true, decide_eq_true_eq] at h1
  simp only [List.length_cons] at hn
  rw [List.takeWhile_cons_of_pos (by unfold inTime; simp only [Bool.and_eq_true, decide_eq_true_eq]; omega), ih h2 (by omega)]
theorem until_take {d : List De} {kn tm : Int} {k : Nat} (hk : k ≤ d.length) (h : ∀ i, i < k → inTime kn tm (d.getD i de0) = true) (he : ¬ k < d.length ∨ inTime kn tm (d.getD k de0) = false) : untilL d kn tm = d.take k := by
 unfold untilL
 induction d generalizing k with
 | nil => simp
 | cons x d ih =>
  cases k with
  | zero =>
   rcases he with he | he
   ·simp at he
   ·rw [List.takeWhile_cons_of_neg (by simpa using he)]; rfl
  | succ k =>
   have h0 : inTime kn tm x = true := h 0 (by omega)
   rw [List.takeWhile_cons_of_pos h0, List.take_succ_cons, ih (by simpa using hk) (fun i hi => h (i + 1) (by omega)) (by simpa using he)]
theorem until_len (d : List De) (kn tm : Int) : (untilL d kn tm).length ≤ d.length := (List.takeWhile_sublist _).length_le
theorem ord_get : ∀ {d : List De} {i : Nat} {last : Int}, ordFrom i last d = true → ∀ {k : Nat}, k < d.length → (d.getD k de0).1 = ((i + k : Nat) : Int) + 1
 | [], _, _, _, k, hk => by simp at hk
 | x :: d, i, last, h, k, hk => by
  unfold ordFrom at h
  simp only [Bool.and_eq_true, Bool.not_eq_true'] at h
  obtain ⟨h1, h2⟩ := h
  cases k with
  | zero =>
   unfold ordBad at h1
   simp only [Bool.or_eq_false_iff, decide_eq_false_iff_not, ne_eq, Decidable.not_not] at h1
   simpa using h1.1.1
  | succ k =>
   have := ord_get h2 (k := k) (by simpa using hk)
   simp only [List.getD_cons_succ]
   rw [this]; push_cast; omega
theorem ossO_len (a b : Int) (l : List Int) : ∀ k, (ossO a b l k).1.length ≤ 2 * k
 | 0 => Nat.le_refl _
 | k + 1 => by
  have := ossO_len a b l k
  unfold ossO
  split
  ·simp only; omega
  ·split <;> simp only [List.length_append, List.length_singleton] <;> omega
theorem ossO_there {a b : Int} {l : List Int} : ∀ {k : Nat}, k ≤ l.length → (ossO a b l k).2 = if hasI (l.take k) a then 1 else 0
 | 0, _ => by simp [ossO, hasI]
 | k + 1, h => by
  have ih := ossO_there (a := a) (b := b) (l := l) (k := k) (by omega)
  have e : hasI (l.take (k + 1)) a = (hasI (l.take k) a || decide (l.getD k 0 = a)) := by
   rw [takeG 0 (by omega)]
   unfold hasI
   rw [Bool.eq_iff_iff]
   simp only [List.contains_iff_mem, List.mem_append, List.mem_singleton, Bool.or_eq_true, decide_eq_true_eq]
   constructor
   ·rintro (h | h)
    ·exact .inl h
    ·exact .inr h.symm
   ·rintro (h | h)
    ·exact .inl h
    ·exact .inr h.symm
  rw [e]
  unfold ossO
  split
  ·rename_i h1; rw [decide_eq_true h1]; simp
  ·rename_i h1
   rw [decide_eq_false h1, Bool.or_false]
   split <;> exact ih
theorem rise_filter (p : Int → Bool) : ∀ {l : List Int}, rise l → rise (l.filter p)
 | [], _ => trivial
 | x :: l, h => by
  rw [List.filter_cons]
  split
  ·exact ⟨fun y hy => h.1 y (List.mem_filter.1 hy).1, rise_filter p h.2⟩
  ·exact rise_filter p h.2
theorem ossO_succ (a b : Int) (l : List Int) (k : Nat) : ossO a b l (k + 1) = if l.getD k 0 = a then ((ossO a b l k).1, 1) else if l.getD k 0 > a ∧ b = 1 ∧ (k = 0 ∨ l.getD (k - 1) 0 < a) then ((ossO a b l k).1 ++ [a] ++ [l.getD k 0], (ossO a b l k).2) else ((ossO a b l k).1 ++ [l.getD k 0], (ossO a b l k).2) := rfl
theorem ossO_del {a : Int} {l : List Int} : ∀ {k : Nat}, k ≤ l.length → (ossO a 0 l k).1 = (l.take k).filter fun y => decide (y ≠ a)
 | 0, _ => rfl
 | k + 1, h => by
  have ih := ossO_del (a := a) (l := l) (k := k) (by omega)
  rw [takeG 0 (by omega), List.filter_append, ← ih, ossO_succ]
  by_cases h1 : l.getD k 0 = a
  ·have e : [l.getD k 0].filter (fun y => decide (y ≠ a)) = [] := by rw [h1]; simp
   rw [if_pos h1, e, List.append_nil]
  ·have e : [l.getD k 0].filter (fun y => decide (y ≠ a)) = [l.getD k 0] := List.filter_cons_of_pos (by simpa using h1)
   rw [if_neg h1, if_neg (by omega), e]
theorem oss_del {a : Int} {l : List Int} (h : rise l) (hh : hasI l a = true) : (ossO a 0 l l.length).1 = l.eraseIdx (below l a) := by
 rw [ossO_del (Nat.le_refl _), List.take_length]
 refine rise_ext (rise_filter _ h) (rise_erase h) fun x => ?_
 rw [erase_mem h hh, List.mem_filter]
 simp
theorem ossO_put {a : Int} {l : List Int} (hr : rise l) (hn : hasI l a = false) : ∀ {k : Nat}, k ≤ l.length → (ossO a 1 l k).1 = if k ≤ below l a then l.take k else l.take (below l a) ++ a :: (l.drop (below l a)).take (k - below l a)
 | 0, _ => by rw [if_pos (Nat.zero_le _)]; rfl
 | k + 1, h => by
  have ih := ossO_put hr hn (k := k) (by omega)
  have hne : l.getD k 0 ≠ a := fun e => has_no.1 hn (e ▸ memG 0 (by omega))
  unfold ossO
  rw [if_neg hne]
  rcases Nat.lt_trichotomy k (below l a) with hk | hk | hk
  ·have := below_lt hk
   rw [if_neg (by omega), if_pos (by omega)]
   rw [if_pos (by omega)] at ih
   rw [ih, takeG 0 (by omega)]
  ·have h1 := below_ge hr (by omega : below l a ≤ k) (by omega)
   have h2 : k = 0 ∨ l.getD (k - 1) 0 < a := by
    rcases Nat.eq_zero_or_pos k with h0 | h0
    ·exact .inl h0
    ·exact .inr (below_lt (by omega))
   rw [if_pos ⟨by omega, rfl, h2⟩, if_neg (by omega)]
   rw [if_pos (by omega)] at ih
   rw [ih, ← hk, show k + 1 - k = 1 by omega, dropG 0 (by omega)]
   simp
  ·have h1 := below_ge hr (by omega : below l a ≤ k) (by omega)
   have h2 := below_ge hr (by omega : below l a ≤ k - 1) (by omega)
   rw [if_neg (by omega), if_neg (by omega)]
   rw [if_neg (by omega)] at ih
   rw [ih, show k + 1 - below l a = (k - below l a) + 1 by omega, takeG 0 (by rw [List.length_drop]; omega)]
   have : (l.drop (below l a)).getD (k - below l a) 0 = l.getD k 0 := by
    rw [List.getD_eq_getElem?_getD, List.getElem?_drop, List.getD_eq_getElem?_getD, show below l a + (k - below l a) = k by omega]
   rw [this]
   simp
def lastLt (a : Int) (o : List Int) : Bool := decide (o.length = 0) || decide (o.getD (o.length - 1) 0 < a)
theorem oss_put {a : Int} {l : List Int} (hr : rise l) (hn : hasI l a = false) : (if lastLt a (ossO a 1 l l.length).1 then (ossO a 1 l l.length).1 ++ [a] else (ossO a 1 l l.length).1) = putS l a := by
 have hb := below_le a l
 rw [← ins_put hr hn]
 rcases Nat.lt_or_ge (below l a) l.length with h | h
 ·have e : (l.drop (below l a)).take (l.length - below l a) = l.drop (below l a) := by rw [← List.length_drop, List.take_length]
  have e0 : (ossO a 1 l l.length).1 = l.take (below l a) ++ a :: l.drop (below l a) := by rw [ossO_put hr hn (Nat.le_refl _), if_neg (by omega), e]
  rw [e0, if_neg]
  unfold lastLt
  simp only [Bool.or_eq_true, decide_eq_true_eq, not_or]
  have hl : (l.take (below l a) ++ a :: l.drop (below l a)).length = l.length + 1 := by simp; omega
  refine ⟨by omega, ?_⟩
  rw [hl, List.getD_eq_getElem?_getD, List.getElem?_append_right (by simp; omega), List.length_take, Nat.min_eq_left hb, show l.length + 1 - 1 - below l a = (l.length - 1 - below l a) + 1 by omega, List.getElem?_cons_succ, List.getElem?_drop,
   show below l a + (l.length - 1 - below l a) = l.length - 1 by omega, ← List.getD_eq_getElem?_getD]
  have := below_ge hr (by omega : below l a ≤ l.length - 1) (by omega)
  omega
 ·have hm : below l a = l.length := by omega
  have e0 : (ossO a 1 l l.length).1 = l := by rw [ossO_put hr hn (Nat.le_refl _), if_pos (by omega), List.take_length]
  rw [e0, hm, List.take_length, List.drop_length, if_pos]
  unfold lastLt
  simp only [Bool.or_eq_true, decide_eq_true_eq]
  rcases Nat.eq_zero_or_pos l.length with h0 | h0
  ·exact .inl h0
  ·exact .inr (below_lt (by omega))
end Go.RatLaw
