/- Plain: what is decided and decided back; what is in force is right. -/
import Derived.Test.YtcklbglladijlaaEr
namespace Go.Proofs.Ytcklbglladijlaa
open Go.Sy Go.RatLaw
set_option linter.unusedVariables false
set_option linter.unusedSimpArgs false
theorem any_isC {c : T3} {l : List T3} : l.any (isC c) = true ↔ c ∈ l := by
 rw [List.any_eq_true]
 constructor
 ·rintro ⟨q, h1, h2⟩
  have := of_decide_eq_true h2
  exact this ▸ h1
 ·exact fun h => ⟨c, h, decide_eq_true rfl⟩
theorem cut_ok {f : Fm} {c : T3} (h : (cutS f c).2 = 0) : validF f = true ∧ cutB f.1 c = true ∧ c ∉ f.2.2.2.2 ∧ f.2.2.2.2.length ≠ 100 ∧ (cutS f c).1 = setCuts f (f.2.2.2.2 ++ [c]) := by
 unfold cutS at h ⊢
 by_cases h1 : (!validF f || !cutB f.1 c) = true
 ·rw [if_pos h1] at h; simp at h
 ·rw [if_neg h1] at h ⊢
  have h1 : validF f = true ∧ cutB f.1 c = true := by simpa using h1
  by_cases h2 : f.2.2.2.2.any (isC c) = true
  ·rw [if_pos h2] at h; simp at h
  ·rw [if_neg h2] at h ⊢
   by_cases h3 : f.2.2.2.2.length = 100
   ·rw [if_pos h3] at h; simp at h
   ·rw [if_neg h3]
    exact ⟨h1.1, h1.2, fun h => h2 (any_isC.2 h), h3, rfl⟩
theorem cut_valid {f : Fm} {c : T3} (hv : validF f = true) (h1 : cutB f.1 c = true) (h2 : c ∉ f.2.2.2.2) (h3 : f.2.2.2.2.length ≠ 100) : validF (setCuts f (f.2.2.2.2 ++ [c])) = true := by
 rw [valid_iff] at hv ⊢
 obtain ⟨a1, a2, a3, a4, a5, ⟨a6, a7, a8⟩, a9⟩ := hv
 refine ⟨a1, a2, a3, a4, a5, ⟨?_, ?_, ?_⟩, a9⟩
 ·show (f.2.2.2.2 ++ [c]).all (cutB f.1) = true
  rw [List.all_append, a6]
  simp [h1]
 ·show (f.2.2.2.2 ++ [c]).Nodup
  rw [List.nodup_append]
  refine ⟨a7, by simp, fun q hq q' hq' e => ?_⟩
  simp at hq'
  exact h2 (hq' ▸ e ▸ hq)
 ·show (f.2.2.2.2 ++ [c]).length ≤ 100
  rw [List.length_append, List.length_singleton]
  omega
theorem gidx_snoc {c : T3} : ∀ {l : List T3}, c ∉ l → gidx (isC c) (l ++ [c]) = l.length := by
 intro l h
 refine gidx_some t30 (x := l.length) (by simp) (fun k hk => ?_) ?_
 ·rw [List.getD_eq_getElem?_getD, List.getElem?_append_left hk, ← List.getD_eq_getElem?_getD]
  exact decide_eq_false fun e => h (e ▸ memG t30 hk)
 ·rw [List.getD_eq_getElem?_getD]
  simp [isC]
theorem open_cut {f : Fm} {c : T3} (h : (cutS f c).2 = 0) : openS (cutS f c).1 c = (f, 0) := by
 obtain ⟨h1, h2, h3, h4, h5⟩ := cut_ok h
 have hg : gidx (isC c) (f.2.2.2.2 ++ [c]) = f.2.2.2.2.length := gidx_snoc h3
 rw [h5]
 have hv := cut_valid h1 h2 h3 h4
 unfold openS
 rw [if_neg (by rw [hv]; simp)]
 have e : (setCuts f (f.2.2.2.2 ++ [c])).2.2.2.2 = f.2.2.2.2 ++ [c] := rfl
 rw [e, hg, if_neg (by omega), Int.toNat_natCast]
 have e2 : (f.2.2.2.2 ++ [c]).eraseIdx f.2.2.2.2.length = f.2.2.2.2 := by
  rw [List.eraseIdx_append_of_length_le (Nat.le_refl _)]
  simp
 rw [e2]
 rfl
theorem open_valid {f : Fm} {c : T3} (h : (openS f c).2 = 0) : validF (openS f c).1 = true ∧ (openS f c).1.1 = f.1 := by
 unfold openS at h ⊢
 by_cases h1 : (!validF f) = true
 ·rw [if_pos h1] at h; simp at h
 ·rw [if_neg h1] at h ⊢
  have hv : validF f = true := by simpa using h1
  by_cases h2 : gidx (isC c) f.2.2.2.2 < 0
  ·rw [if_pos h2] at h; simp at h
  ·rw [if_neg h2]
   refine ⟨?_, rfl⟩
   have hs := List.eraseIdx_sublist f.2.2.2.2 (gidx (isC c) f.2.2.2.2).toNat
   rw [valid_iff] at hv ⊢
   obtain ⟨a1, a2, a3, a4, a5, ⟨a6, a7, a8⟩, a9⟩ := hv
   refine ⟨a1, a2, a3, a4, a5, ⟨?_, ?_, ?_⟩, a9⟩
   ·show (f.2.2.2.2.eraseIdx _).all (cutB f.1) = true
    rw [List.all_eq_true] at a6 ⊢
    exact fun q hq => a6 q (hs.subset hq)
   ·exact a7.sublist hs
   ·exact Nat.le_trans hs.length_le a8
theorem times_ok {f : Fm} {i m : Int} (h : (timesS f i m).2 = 0) : validF f = true ∧ 0 ≤ i ∧ i < f.2.1.length ∧ 1 ≤ m ∧ m ≤ 9 ∧ shortF (setReps f (setTimes f.2.1 i m)) = true ∧ (timesS f i m).1 = setReps f (setTimes f.2.1 i m) := by
 unfold timesS at h ⊢
 by_cases h1 : (!validF f) = true
 ·rw [if_pos h1] at h; simp at h
 ·rw [if_neg h1] at h ⊢
  by_cases h2 : i < 0 ∨ (f.2.1.length : Int) ≤ i
  ·rw [if_pos h2] at h; simp at h
  ·rw [if_neg h2] at h ⊢
   by_cases h3 : m < 1 ∨ 9 < m
   ·rw [if_pos h3] at h; simp at h
   ·rw [if_neg h3] at h ⊢
    by_cases h4 : (!shortF (setReps f (setTimes f.2.1 i m))) = true
    ·rw [if_pos h4] at h; simp at h
    ·rw [if_neg h4]
     exact ⟨by simpa using h1, by omega, by omega, by omega, by omega, by simpa using h4, rfl⟩
theorem times_make {f : Fm} {i m : Int} (h1 : validF f = true) (h2 : 0 ≤ i) (h3 : i < f.2.1.length) (h4 : 1 ≤ m) (h5 : m ≤ 9) (h6 : shortF (setReps f (setTimes f.2.1 i m)) = true) : timesS f i m = (setReps f (setTimes f.2.1 i m), 0) := by
 unfold timesS
 rw [if_neg (by rw [h1]; simp), if_neg (by omega), if_neg (by omega), if_neg (by rw [h6]; simp)]
theorem times_valid {f : Fm} {i m : Int} (h : (timesS f i m).2 = 0) : validF (timesS f i m).1 = true ∧ (timesS f i m).1.1 = f.1 := by
 obtain ⟨h1, _, _, h4, h5, h6, h7⟩ := times_ok h
 rw [h7]
 refine ⟨?_, rfl⟩
 obtain ⟨b, r, e, ⟨j, t, n⟩, c⟩ := f
 unfold validF at h1 ⊢
 simp only [Bool.and_eq_true] at h1 ⊢
 exact ⟨set_ok (i := i) (m := m) h4 h5 h1.1, h6⟩
theorem set_back {r : List T3} {i m : Int} : setTimes (setTimes r i m) i (r.getD i.toNat t30).2.2 = r := by
 unfold setTimes
 by_cases h : i.toNat < r.length
 ·have e : (r.set i.toNat ((r.getD i.toNat t30).1, ((r.getD i.toNat t30).2.1, m))).getD i.toNat t30 = ((r.getD i.toNat t30).1, ((r.getD i.toNat t30).2.1, m)) := by
   rw [List.getD_eq_getElem?_getD, List.getElem?_set_self (by omega)]; rfl
  rw [e, List.set_set]
  show r.set i.toNat (r.getD i.toNat t30) = r
  rw [show r.getD i.toNat t30 = r[i.toNat] by simp [List.getD_eq_getElem?_getD, h], List.set_getElem_self]
 ·rw [List.set_eq_of_length_le (by simp; omega), List.set_eq_of_length_le (by omega)]
theorem reps_mem {b : Int} : ∀ {r : List T3} {last : Int}, repsFrom b last r = true → ∀ q ∈ r, 1 ≤ q.2.2 ∧ q.2.2 ≤ 9
 | [], _, _, q, hq => by cases hq
 | x :: r, last, h, q, hq => by
  unfold repsFrom at h
  simp only [Bool.and_eq_true, Bool.not_eq_true'] at h
  rcases List.mem_cons.1 hq with rfl | hq
  ·have := h.1
   unfold repBad at this
   simp only [Bool.or_eq_false_iff, decide_eq_false_iff_not] at this
   omega
  ·exact reps_mem h.2 q hq
theorem times_back {f : Fm} {i m : Int} (h : (timesS f i m).2 = 0) : timesS (timesS f i m).1 i (f.2.1.getD i.toNat t30).2.2 = (f, 0) := by
 obtain ⟨h1, h2, h3, h4, h5, h6, h7⟩ := times_ok h
 have hv := (times_valid h).1
 rw [h7] at hv ⊢
 have e : (setReps f (setTimes f.2.1 i m)).2.1 = setTimes f.2.1 i m := rfl
 have e2 : setReps (setReps f (setTimes f.2.1 i m)) (setTimes (setReps f (setTimes f.2.1 i m)).2.1 i (f.2.1.getD i.toNat t30).2.2) = f := by rw [e, set_back]; rfl
 have hr : repsFrom f.1 0 f.2.1 = true := by
  have := ((valid_iff f).1 h1).2.2.1
  unfold repsB at this
  simp only [Bool.and_eq_true] at this
  exact this.1
 obtain ⟨g1, g2⟩ := reps_mem hr _ (memG t30 (show i.toNat < f.2.1.length by omega))
 have hs : shortF f = true := by unfold validF at h1; simp only [Bool.and_eq_true] at h1; exact h1.2
 rw [times_make hv h2 (by rw [e]; unfold setTimes; rw [List.length_set]; exact h3) g1 g2 (by rw [e2]; exact hs), e2]
theorem oss_back {l : List Int} {a : Int} (hr : rise l) : (hasI l a = true → hasI (l.eraseIdx (below l a)) a = false ∧ putS (l.eraseIdx (below l a)) a = l) ∧ (hasI l a = false → hasI (putS l a) a = true ∧ (putS l a).eraseIdx (below (putS l a) a) = l) := by
 constructor
 ·intro h
  refine ⟨has_no.2 fun hm => ((erase_mem hr h).1 hm).2 rfl, rise_ext (rise_put (rise_erase hr)) hr fun x => ?_⟩
  rw [mem_put, erase_mem hr h]
  constructor
  ·rintro (rfl | hx)
   ·exact has_mem.1 h
   ·exact hx.1
  ·intro hx
   by_cases e : x = a
   ·exact .inl e
   ·exact .inr ⟨hx, e⟩
 ·intro h
  have hp : hasI (putS l a) a = true := has_mem.2 (mem_put.2 (.inl rfl))
  refine ⟨hp, rise_ext (rise_erase (rise_put hr)) hr fun x => ?_⟩
  rw [erase_mem (rise_put hr) hp, mem_put]
  constructor
  ·rintro ⟨rfl | hx, hne⟩
   ·exact absurd rfl hne
   ·exact hx
  ·exact fun hx => ⟨.inr hx, fun e => has_no.1 h (e ▸ hx)⟩
/-! what is in force -/
def roomOk (ws : List Wk) (r : Rm) : Prop := ∃ w ∈ ws, verW w = r.1 ∧ validF r.2.1 = true ∧ r.2.1.1 = w.1.2.1.length
theorem first_room {ws : List Wk} (h : worksB ws = true) : roomOk ws (firstR ws) := by
 obtain ⟨h1, _, h3⟩ := works_mem h
 have hm := memG wk0 (show 0 < ws.length by omega)
 exact ⟨_, hm, rfl, (h3 _ hm).2.2.2, (h3 _ hm).2.2.1⟩
theorem reform_room {ws : List Wk} {r : Rm} {m : Fm × Int} (h : roomOk ws r) (hm : m.2 = 0 → validF m.1 = true ∧ m.1.1 = r.2.1.1) : roomOk ws (reformS r m).1 := by
 unfold reformS
 split
 ·rename_i h0
  obtain ⟨w, h1, h2, h3, h4⟩ := h
  exact ⟨w, h1, h2, (hm h0).1, (hm h0).2.trans h4⟩
 ·exact h
theorem do_room {ws : List Wk} {r : Rm} {x : De} (hw : worksB ws = true) (h : roomOk ws r) : roomOk ws (doS ws r x).1 := by
 unfold doS
 split
 ·unfold versionS
  split
  ·exact h
  ·split
   ·exact h
   ·rename_i h1 h2
    have hm := memG wk0 (gidx_spec wk0 (Int.not_lt.1 h2)).1
    have := (works_mem hw).2.2 _ hm
    exact ⟨_, hm, rfl, this.2.2.2, this.2.2.1⟩
 ·split
  ·refine reform_room h fun h0 => ?_
   obtain ⟨a1, a2, a3, a4, a5⟩ := cut_ok h0
   rw [a5]; exact ⟨cut_valid a1 a2 a3 a4, rfl⟩
  ·split
   ·exact reform_room h open_valid
   ·split
    ·unfold timesD
     split
     ·exact h
     ·exact reform_room h times_valid
    ·split
     ·unfold ossiaS
      split
      ·exact h
      ·split
       ·exact h
       ·split <;> exact h
     ·exact h
theorem run_room {ws : List Wk} (hw : worksB ws = true) : ∀ {d : List De} {r : Rm}, roomOk ws r → roomOk ws (runS ws r d).1
 | [], _, h => h
 | x :: d, r, h => by
  unfold runS
  split
  ·exact run_room hw (do_room hw h)
  ·exact h
theorem room_bars {ws : List Wk} (hw : worksB ws = true) {r : Rm} (h : roomOk ws r) : 0 ≤ gidx (isVer r.1) ws ∧ gidx (isVer r.1) ws < ws.length ∧ validF r.2.1 = true ∧ r.2.1.1 = (ws.getD (gidx (isVer r.1) ws).toNat wk0).1.2.1.length := by
 obtain ⟨w, h1, h2, h3, h4⟩ := h
 rw [← h2]
 obtain ⟨g1, g2, g3⟩ := find_ver hw h1
 rw [g3]
 exact ⟨g1, g2, h3, h4⟩
/-! back -/
theorem reform_ok {r : Rm} {m : Fm × Int} (h : (reformS r m).2 = 0) : m.2 = 0 ∧ (reformS r m).1 = (r.1, (m.1, r.2.2)) := by
 unfold reformS at h ⊢
 split
 ·rename_i h0; exact ⟨h0, rfl⟩
 ·rename_i h0; rw [if_neg h0] at h; exact absurd h h0
theorem back_cut {ws : List Wk} {r : Rm} {x : De} {n : Int} (hk : x.2.2.1 = 2) (h : (doS ws r x).2 = 0) : doS ws (doS ws r x).1 (n, (x.2.1, (3, x.2.2.2))) = (r, 0) := by
 rw [do_2 hk] at h ⊢
 rw [do_3 rfl]
 unfold cutD at h ⊢
 unfold openD
 obtain ⟨h1, h2⟩ := reform_ok h
 rw [h2]
 show reformS _ (openS (cutS r.2.1 x.2.2.2).1 x.2.2.2) = _
 rw [open_cut h1]
 rfl
theorem back_times {ws : List Wk} {r : Rm} {x : De} {n : Int} (hk : x.2.2.1 = 4) (h : (doS ws r x).2 = 0) : doS ws (doS ws r x).1 (n, (x.2.1, (4, (x.2.2.2.1, ((r.2.1.2.1.getD x.2.2.2.1.toNat t30).2.2, x.2.2.2.2.2))))) = (r, 0) := by
 rw [do_4 hk] at h ⊢
 rw [do_4 rfl]
 unfold timesD at h ⊢
 by_cases h0 : x.2.2.2.2.2 ≠ 0
 ·rw [if_pos h0] at h; simp at h
 ·rw [if_neg h0] at h ⊢
  obtain ⟨h1, h2⟩ := reform_ok h
  rw [if_neg (by simpa using h0), h2]
  show reformS _ (timesS (timesS r.2.1 x.2.2.2.1 x.2.2.2.2.1).1 x.2.2.2.1 _) = _
  rw [times_back h1]
  rfl
theorem back_ossia {ws : List Wk} {r : Rm} {x : De} {n : Int} (ho : rise r.2.2) (hk : x.2.2.1 = 5) (h : (doS ws r x).2 = 0) : 0 ≤ x.2.2.2.2.1 ∧ x.2.2.2.2.1 ≤ 1 ∧ doS ws (doS ws r x).1 (n, (x.2.1, (5, (x.2.2.2.1, (1 - x.2.2.2.2.1, x.2.2.2.2.2))))) = (r, 0) := by
 rw [do_5 hk] at h ⊢
 rw [do_5 rfl]
 unfold ossiaS at h ⊢
 by_cases h0 : ossBad x = true
 ·rw [if_pos h0] at h; simp at h
 ·rw [if_neg h0] at h ⊢
  have hb := h0
  unfold ossBad at hb
  simp only [Bool.or_eq_true, decide_eq_true_eq, not_or, ne_eq, Decidable.not_not] at hb
  obtain ⟨⟨⟨⟨b1, b2⟩, b3⟩, b4⟩, b5⟩ := hb
  have hb' : ¬ ossBad (n, (x.2.1, (5, (x.2.2.2.1, (1 - x.2.2.2.2.1, x.2.2.2.2.2))))) = true := by
   unfold ossBad
   simp only [Bool.or_eq_true, decide_eq_true_eq, not_or, ne_eq, Decidable.not_not]
   omega
  refine ⟨by omega, by omega, ?_⟩
  obtain ⟨o1, o2⟩ := oss_back (a := x.2.2.2.1) ho
  by_cases h1 : hasI r.2.2 x.2.2.2.1 = decide (x.2.2.2.2.1 = 1)
  ·rw [if_pos h1] at h; simp at h
  ·rw [if_neg h1, if_neg hb']
   cases hh : hasI r.2.2 x.2.2.2.1 with
   | true =>
    obtain ⟨p1, p2⟩ := o1 hh
    have hx : x.2.2.2.2.1 = 0 := by
     rw [hh] at h1
     have : ¬ x.2.2.2.2.1 = 1 := fun e => h1 (by rw [decide_eq_true e])
     omega
    simp only [hx, if_true]
    rw [p1]
    simp [p2]
   | false =>
    obtain ⟨p1, p2⟩ := o2 hh
    have hx : x.2.2.2.2.1 = 1 := by
     rw [hh] at h1
     have : ¬ ¬ x.2.2.2.2.1 = 1 := fun e => h1 (by rw [decide_eq_false e])
     omega
    simp only [hx, Bool.false_eq_true, if_false]
    rw [p1]
    simp [p2]
theorem push_back {ws : List Wk} {ds : List De} {x y : De} (h : (pushS ws ds x).2 = 0) (hl : ds.length ≤ 28) (hn : y.1 = x.1 + 1) (ht : y.2.1 = x.2.1) (k1 : 1 ≤ y.2.2.1) (k2 : y.2.2.1 ≤ 5)
  (hd : doS ws (doS ws (runS ws (firstR ws) ds).1 x).1 y = ((runS ws (firstR ws) ds).1, 0)) :
  pushS ws (ds ++ [x]) y = (ds ++ [x] ++ [y], 0) ∧ atD ws (ds ++ [x] ++ [y]) ((ds ++ [x] ++ [y]).length : Int) 1000000000 = ((runS ws (firstR ws) ds).1, 0) := by
 obtain ⟨_, h1, h2, h3, h4⟩ := push_ok h
 obtain ⟨a, b, c, d, e⟩ := pb_parts h1
 have hr : runS ws (firstR ws) (ds ++ [x]) = ((doS ws (runS ws (firstR ws) ds).1 x).1, true) := by rw [run_snoc (valid_ord a).2, if_pos h4]
 have hp : pushS ws (ds ++ [x]) y = (ds ++ [x] ++ [y], 0) := by
  refine push_5 (pb_make (valid_snoc h) k1 k2 (by rw [List.length_append, List.length_singleton]; push_cast; omega) (by rw [ht]; exact e)) ?_ (by simp; omega) (by rw [hr, hd])
  rintro ⟨_, g⟩
  simp [ht] at g
 have hp0 : (pushS ws (ds ++ [x]) y).2 = 0 := by rw [hp]
 have hy : y.2.1 ≤ 1000000000 := by
  rw [ht]; unfold isTimeB at e; simp only [Bool.and_eq_true, decide_eq_true_eq] at e; exact e.2
 have := (at_after hp0 hy (by decide)).1
 rw [hr, hd] at this
 exact ⟨hp, this⟩
end Go.Proofs.Ytcklbglladijlaa
