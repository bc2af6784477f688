/- Plain: what holds of pushing and of what is in force. -/
import Derived.Test.YtcklbglladijlaaDecidek
namespace Go.Proofs.Ytcklbglladijlaa
open Go.Sy Go.RatLaw
set_option linter.unusedVariables false
set_option linter.unusedSimpArgs false
theorem sameF_self (f : Fm) : sameF f f = true := (sameF_iff f f).2 rfl
theorem sameR_self (r : Rm) : sameR r r = true := by
 unfold sameR eqIs; rw [sameF_self]; simp
theorem sameD_self (d : List De) : sameD d d = true := decide_eq_true rfl
theorem push_ok {ws : List Wk} {ds : List De} {x : De} (h : (pushS ws ds x).2 = 0) : pushS ws ds x = (ds ++ [x], 0) ∧ pushBad ws ds x = false ∧ ¬ (ds.length > 0 ∧ x.2.1 < (ds.getD (ds.length - 1) de0).2.1) ∧ ds.length ≠ 1000 ∧ (doS ws (runS ws (firstR ws) ds).1 x).2 = 0 := by
 cases h1 : pushBad ws ds x with
 | true => rw [push_1 h1] at h; simp at h
 | false =>
  by_cases h2 : ds.length > 0 ∧ x.2.1 < (ds.getD (ds.length - 1) de0).2.1
  ·rw [push_2 h1 h2] at h; simp at h
  ·by_cases h3 : ds.length = 1000
   ·rw [push_3 h1 h2 h3] at h; simp at h
   ·by_cases h4 : (doS ws (runS ws (firstR ws) ds).1 x).2 = 0
    ·exact ⟨push_5 h1 h2 h3 h4, rfl, h2, h3, h4⟩
    ·rw [push_4 h1 h2 h3 h4] at h; exact absurd h h4
theorem push_err {ws : List Wk} {ds : List De} {x : De} (h : (pushS ws ds x).2 ≠ 0) : (pushS ws ds x).1 = [] := by
 cases h1 : pushBad ws ds x with
 | true => rw [push_1 h1]
 | false =>
  by_cases h2 : ds.length > 0 ∧ x.2.1 < (ds.getD (ds.length - 1) de0).2.1
  ·rw [push_2 h1 h2]
  ·by_cases h3 : ds.length = 1000
   ·rw [push_3 h1 h2 h3]
   ·by_cases h4 : (doS ws (runS ws (firstR ws) ds).1 x).2 = 0
    ·rw [push_5 h1 h2 h3 h4] at h; simp at h
    ·rw [push_4 h1 h2 h3 h4]
theorem pb_parts {ws : List Wk} {ds : List De} {x : De} (h : pushBad ws ds x = false) : validD ws ds = true ∧ 1 ≤ x.2.2.1 ∧ x.2.2.1 ≤ 5 ∧ x.1 = (ds.length : Int) + 1 ∧ isTimeB x.2.1 = true := by
 unfold pushBad at h
 simp only [Bool.or_eq_false_iff, Bool.not_eq_false', decide_eq_false_iff_not, ne_eq, Decidable.not_not] at h
 obtain ⟨⟨⟨⟨a, b⟩, c⟩, d⟩, e⟩ := h
 exact ⟨a, by omega, by omega, d, e⟩
theorem pb_make {ws : List Wk} {ds : List De} {x : De} (a : validD ws ds = true) (b : 1 ≤ x.2.2.1) (c : x.2.2.1 ≤ 5) (d : x.1 = (ds.length : Int) + 1) (e : isTimeB x.2.1 = true) : pushBad ws ds x = false := by
 unfold pushBad
 simp only [Bool.or_eq_false_iff, Bool.not_eq_false', decide_eq_false_iff_not, ne_eq, Decidable.not_not]
 exact ⟨⟨⟨⟨a, by omega⟩, by omega⟩, d⟩, e⟩
def endT : Int → List De → Int
 | last, [] => last
 | _, x :: d => endT x.2.1 d
theorem endT_eq : ∀ {d : List De} {last : Int}, endT last d = if d.length > 0 then (d.getD (d.length - 1) de0).2.1 else last
 | [], _ => rfl
 | [x], _ => rfl
 | x :: y :: d, last => by
  have := @endT_eq (y :: d) x.2.1
  show endT x.2.1 (y :: d) = _
  rw [this, if_pos (by simp), if_pos (by simp)]
  simp
theorem ord_cons {i : Nat} {last : Int} {x : De} {d : List De} : ordFrom i last (x :: d) = true ↔ (x.1 = (i : Int) + 1 ∧ last ≤ x.2.1 ∧ isTimeB x.2.1 = true) ∧ ordFrom (i + 1) x.2.1 d = true := by
 show (!ordBad i last x && ordFrom (i + 1) x.2.1 d) = true ↔ _
 unfold ordBad
 simp only [Bool.and_eq_true, Bool.not_eq_true', Bool.or_eq_false_iff, decide_eq_false_iff_not, ne_eq, Decidable.not_not, Bool.not_eq_false']
 constructor
 ·rintro ⟨⟨⟨a, b⟩, c⟩, d⟩; exact ⟨⟨a, by omega, c⟩, d⟩
 ·rintro ⟨⟨a, b, c⟩, d⟩; exact ⟨⟨⟨a, by omega⟩, c⟩, d⟩
theorem ord_le : ∀ {d : List De} {i : Nat} {last : Int}, ordFrom i last d = true → last ≤ endT last d ∧ ∀ y ∈ d, y.2.1 ≤ endT last d
 | [], _, last, _ => ⟨Int.le_refl _, fun y hy => by cases hy⟩
 | x :: d, i, last, h => by
  obtain ⟨⟨_, h2, _⟩, h4⟩ := ord_cons.1 h
  obtain ⟨g1, g2⟩ := ord_le h4
  refine ⟨Int.le_trans h2 g1, fun y hy => ?_⟩
  rcases List.mem_cons.1 hy with rfl | hy
  ·exact g1
  ·exact g2 y hy
theorem ord_snoc {x : De} : ∀ {d : List De} {i : Nat} {last : Int}, ordFrom i last d = true → x.1 = (i : Int) + d.length + 1 → isTimeB x.2.1 = true → endT last d ≤ x.2.1 → ordFrom i last (d ++ [x]) = true
 | [], i, last, _, h1, h2, h3 => ord_cons.2 ⟨⟨by simpa using h1, h3, h2⟩, rfl⟩
 | y :: d, i, last, h, h1, h2, h3 => by
  obtain ⟨g1, g2⟩ := ord_cons.1 h
  refine ord_cons.2 ⟨g1, ord_snoc g2 ?_ h2 h3⟩
  rw [h1, List.length_cons]; push_cast; omega
theorem late_end {ds : List De} {x : De} (h : ¬ (ds.length > 0 ∧ x.2.1 < (ds.getD (ds.length - 1) de0).2.1)) (ht : isTimeB x.2.1 = true) : endT 0 ds ≤ x.2.1 := by
 unfold isTimeB at ht
 simp only [Bool.and_eq_true, decide_eq_true_eq] at ht
 rw [endT_eq]
 split
 ·rename_i h1; exact Int.not_lt.1 fun h2 => h ⟨h1, h2⟩
 ·exact ht.1
theorem valid_snoc {ws : List Wk} {ds : List De} {x : De} (h : (pushS ws ds x).2 = 0) : validD ws (ds ++ [x]) = true := by
 obtain ⟨_, h1, h2, h3, h4⟩ := push_ok h
 obtain ⟨a, _, _, d, e⟩ := pb_parts h1
 obtain ⟨o, hr⟩ := valid_ord a
 obtain ⟨hw, hl, hf⟩ := ord_works o
 have hs : (runS ws (firstR ws) (ds ++ [x])).2 = true := by rw [run_snoc hr, if_pos h4]
 unfold validD ordB
 rw [hw, hs, ord_snoc hf (by simpa using d) e (late_end h2 e), decide_eq_true (by rw [List.length_append, List.length_singleton]; omega)]
 rfl
theorem until_no {ds : List De} {x : De} {kn tm : Int} (h : inTime kn tm x = false) : untilL (ds ++ [x]) kn tm = untilL ds kn tm := by
 unfold untilL
 induction ds with
 | nil => simp [List.takeWhile_cons, h]
 | cons y d ih => simp only [List.cons_append, List.takeWhile_cons, ih]
theorem until_full {ds : List De} {kn tm : Int} (h : ∀ y ∈ ds, inTime kn tm y = true) : untilL ds kn tm = ds := by
 unfold untilL
 induction ds with
 | nil => rfl
 | cons y d ih => rw [List.takeWhile_cons_of_pos (h y (.head _)), ih fun z hz => h z (.tail _ hz)]
theorem until_agree {a b tm : Int} (hab : a ≤ b) : ∀ {d : List De} {i : Nat} {last : Int}, ordFrom i last d = true → (∀ k, k < d.length → a ≤ (i : Int) + k → (i : Int) + k < b → tm < (d.getD k de0).2.1) → untilL d a tm = untilL d b tm
 | [], _, _, _, _ => rfl
 | x :: d, i, last, h, hk => by
  obtain ⟨⟨hx, _, _⟩, h2⟩ := ord_cons.1 h
  have ih := until_agree hab h2 (fun k h1 h2 h3 => by
   have := hk (k + 1) (by simpa using h1) (by push_cast at h2 ⊢; omega) (by push_cast at h3 ⊢; omega)
   simpa using this)
  have h0 := hk 0 (by simp)
  simp only [List.getD_cons_zero] at h0
  unfold untilL at ih ⊢
  rw [List.takeWhile_cons, List.takeWhile_cons]
  have e : inTime a tm x = inTime b tm x := by
   unfold inTime
   by_cases h1 : x.2.1 ≤ tm
   ·by_cases h2 : x.1 ≤ a
    ·rw [decide_eq_true h2, decide_eq_true (show x.1 ≤ b by omega)]
    ·have : ¬ x.1 ≤ b := fun h3 => by have := h0 (by omega) (by omega); omega
     rw [decide_eq_false h2, decide_eq_false this]
   ·rw [decide_eq_false h1, Bool.and_false, Bool.and_false]
  rw [e, ih]
theorem ord_num {d : List De} {i : Nat} {last : Int} (h : ordFrom i last d = true) : ∀ y ∈ d, y.1 ≤ (i : Int) + d.length := fun y hy => by
 obtain ⟨k, hk, rfl⟩ := List.getElem_of_mem hy
 have := ord_get h hk
 have e : d.getD k de0 = d[k] := by simp [List.getD_eq_getElem?_getD, hk]
 rw [e] at this
 rw [this]; push_cast; omega
theorem until_one {ws : List Wk} {ds : List De} {x : De} (h : (pushS ws ds x).2 = 0) {k tm : Int} (hk : k ≤ ds.length) : untilL (ds ++ [x]) k tm = untilL ds k tm := by
 obtain ⟨_, h1, _⟩ := push_ok h
 obtain ⟨_, _, _, d, _⟩ := pb_parts h1
 exact until_no (by unfold inTime; rw [decide_eq_false (by omega)]; rfl)
theorem until_before {ws : List Wk} {ds : List De} {x : De} (h : (pushS ws ds x).2 = 0) {tm : Int} (ht : tm < x.2.1) : untilL (ds ++ [x]) ((ds ++ [x]).length : Int) tm = untilL ds ds.length tm := by
 obtain ⟨_, h1, _⟩ := push_ok h
 obtain ⟨a, _, _, d, _⟩ := pb_parts h1
 obtain ⟨_, _, hf⟩ := ord_works (valid_ord a).1
 rw [until_no (by unfold inTime; rw [decide_eq_false (show ¬ x.2.1 ≤ tm by omega), Bool.and_false])]
 exact (until_agree (by simp; omega) hf fun k h1 h2 h3 => by omega).symm
theorem until_after {ws : List Wk} {ds : List De} {x : De} (h : (pushS ws ds x).2 = 0) {tm : Int} (ht : x.2.1 ≤ tm) : untilL (ds ++ [x]) ((ds ++ [x]).length : Int) tm = ds ++ [x] ∧ untilL ds ds.length tm = ds := by
 obtain ⟨_, h1, h2, _⟩ := push_ok h
 obtain ⟨a, _, _, d, e⟩ := pb_parts h1
 obtain ⟨_, _, hf⟩ := ord_works (valid_ord a).1
 have hle := late_end h2 e
 have hn := ord_num hf
 have hall := (ord_le hf).2
 constructor
 ·refine until_full fun y hy => ?_
  rw [List.length_append, List.length_singleton]
  unfold inTime
  simp only [Bool.and_eq_true, decide_eq_true_eq]
  rcases List.mem_append.1 hy with hy | hy
  ·have := hn y hy; have := hall y hy; push_cast; omega
  ·simp only [List.mem_singleton] at hy; subst hy; push_cast; omega
 ·refine until_full fun y hy => ?_
  unfold inTime
  simp only [Bool.and_eq_true, decide_eq_true_eq]
  have := hn y hy; have := hall y hy; omega
theorem at_ok {ws : List Wk} {ds : List De} {kn tm : Int} (h : validD ws ds = true) (h0 : 0 ≤ kn) (h1 : kn ≤ ds.length) (ht : isTimeB tm = true) : atD ws ds kn tm = ((runS ws (firstR ws) (untilL ds kn tm)).1, 0) :=
 at_2 (by unfold atBad; rw [h, ht, decide_eq_false (by omega), decide_eq_false (by omega)]; rfl)
theorem at_after {ws : List Wk} {ds : List De} {x : De} (h : (pushS ws ds x).2 = 0) {tm : Int} (ht : x.2.1 ≤ tm) (hm : isTimeB tm = true) :
  atD ws (ds ++ [x]) ((ds ++ [x]).length : Int) tm = ((doS ws (runS ws (firstR ws) ds).1 x).1, 0) ∧ atD ws ds ds.length tm = ((runS ws (firstR ws) ds).1, 0) := by
 obtain ⟨_, h1, _, _, h4⟩ := push_ok h
 obtain ⟨a, _⟩ := pb_parts h1
 obtain ⟨e1, e2⟩ := until_after h ht
 rw [at_ok (valid_snoc h) (by omega) (by omega) hm, at_ok a (by omega) (by omega) hm, e1, e2, run_snoc (valid_ord a).2, if_pos h4]
 exact ⟨rfl, rfl⟩
/-! works -/
theorem works_uniq : ∀ {l : List Wk} {last : Int}, worksFrom last l = true → ∀ {v w : Wk}, v ∈ l → w ∈ l → verW v = verW w → v = w
 | [], _, _, v, w, h, _, _ => by cases h
 | y :: l, last, h, v, w, hv, hw, e => by
  have h2 : worksFrom (verW y) l = true := by
   unfold worksFrom at h
   simp only [Bool.and_eq_true] at h
   exact h.2
  have hm := worksFrom_mem h2
  rcases List.mem_cons.1 hv with e1 | g1 <;> rcases List.mem_cons.1 hw with e2 | g2
  ·rw [e1, e2]
  ·have := (hm w g2).1; rw [← e, e1] at this; omega
  ·have := (hm v g1).1; rw [e, e2] at this; omega
  ·exact works_uniq h2 g1 g2 e
theorem works_from {l : List Wk} (h : worksB l = true) : worksFrom 0 l = true := by
 unfold worksB at h
 simp only [Bool.and_eq_true] at h
 exact h.1
theorem gidx_neg {α : Type} {p : α → Bool} : ∀ {l : List α}, gidx p l < 0 → ∀ x ∈ l, p x = false
 | [], _, x, hx => by cases hx
 | y :: l, h, x, hx => by
  unfold gidx at h
  split at h
  ·omega
  ·rename_i h1
   have h2 : gidx p l < 0 := by
    split at h
    ·rename_i h2; exact h2
    ·omega
   rcases List.mem_cons.1 hx with rfl | hx
   ·simpa using h1
   ·exact gidx_neg h2 x hx
theorem find_ver {ws : List Wk} (h : worksB ws = true) {w : Wk} (hw : w ∈ ws) : 0 ≤ gidx (isVer (verW w)) ws ∧ gidx (isVer (verW w)) ws < ws.length ∧ ws.getD (gidx (isVer (verW w)) ws).toNat wk0 = w := by
 have h0 : 0 ≤ gidx (isVer (verW w)) ws := Int.not_lt.1 fun hn => by
  have := gidx_neg hn w hw
  simp [isVer] at this
 obtain ⟨g1, g2, _⟩ := gidx_spec wk0 h0
 have g2 : verW (ws.getD (gidx (isVer (verW w)) ws).toNat wk0) = verW w := of_decide_eq_true g2
 exact ⟨h0, by omega, works_uniq (works_from h) (memG wk0 g1) hw g2⟩
end Go.Proofs.Ytcklbglladijlaa
