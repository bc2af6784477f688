/- The plain proofs. Written by a program (wip/tools/gen.py). -/
import Derived.Test.YtpdgmlkagfeglaaFormlp
import Derived.Test.YtpdgmlkagfeglaaGr
namespace Go.Proofs.Ytpdgmlkagfeglaa
open Go.Sy Go.RatLaw
set_option linter.unusedVariables false
set_option linter.unusedSimpArgs false
theorem p_example : P_example := by (repeat' (first | rfl | trivial | apply And.intro))
theorem p_lbars (l : List Vi) (hl : l.length ≤ 20000) : P_lbars l := by
  intro _
  refine ⟨⟨0, Nat.zero_le _, rfl, rfl, rfl⟩, fun x hx => ⟨fun hlt => ?_, fun hge => ?_⟩⟩
  · have hlt' : x < l.length := by have := of_decide_eq_true hlt; omega
    have e : (l.take (x + 1)).map fst1 = (l.take x).map fst1 ++ [(l.getD x vi0).1] := by rw [takeG vi0 hlt', List.map_append]; rfl
    have hll : ((l.take x).map fst1).length ≤ 20000 := by simp; omega
    simp only [d0V, tnG]
    refine ⟨by omega, by omega, by (repeat' (first | rfl | trivial | apply And.intro)), by omega, by unfold InI64; omega, x + 1, hlt', by omega, rfl, e.symm, ?_⟩
    rw [e, List.length_append]
    (repeat' (first | rfl | trivial | apply And.intro))
  · have hx' : x = l.length := by have := of_decide_eq_false hge; omega
    rw [hx', List.take_length]
theorem p_lsame (l m : List Int) : P_lsame l m := by
  refine fun hl hm => ⟨fun h => ?_, fun h => ?_⟩
  · have : ¬ l = m := fun e => by rw [e] at h; simp at h
    unfold sameI; simp [this]
  · have he : l.length = m.length := by simp at h; omega
    intro _
    refine ⟨⟨0, ⟨Nat.zero_le _, rfl⟩, by (repeat' (first | rfl | trivial | apply And.intro))⟩, fun x ⟨hx, ht⟩ => ⟨fun hlt => ?_, fun hge => ?_⟩⟩
    · have hlt' : x < l.length := by have := of_decide_eq_true hlt; omega
      simp only [d0I, tnG]
      refine ⟨by omega, by omega, by omega, by omega, fun hn => ?_, fun hn => ⟨by unfold InI64; omega, x + 1, ⟨hlt', ?_⟩, by omega, by (repeat' (first | rfl | trivial | apply And.intro))⟩⟩
      · have : ¬ l = m := at_eqG (0 : Int) (x := x) (by simpa using hn)
        unfold sameI; simp [this]
      · exact take_eqG (0 : Int) he hlt' ht (by simpa using hn)
    · have hx' : x = l.length := by have := of_decide_eq_false hge; omega
      rw [hx', List.take_length, he, List.take_length] at ht
      unfold sameI; simp [ht]
theorem p_usable (b : Int) (r e : List T3) (j t n : Int) (c : List T3) : P_usable b r e j t n c := rfl
theorem p_kept (l : List Vi) (x y z : Int) (hl : l.length ≤ 20000) : P_kept l x y z := by
  intro _
  refine ⟨⟨0, Nat.zero_le _, rfl, rfl, rfl⟩, fun k hk => ⟨fun hlt => ?_, fun hge => ?_⟩⟩
  · have hlt' : k < l.length := by have := of_decide_eq_true hlt; omega
    have hfl := List.length_filter_le (keepV (x, (y, z))) (l.take k)
    have htl : (l.take k).length ≤ k := by rw [List.length_take]; exact Nat.min_le_left _ _
    have hb : (decide ((l.getD k vi0).1 < x) || decide ((l.getD k vi0).1 ≥ y) || z != 0 && z != (l.getD k vi0).2) = keepV (x, (y, z)) (l.getD k vi0) := by
      unfold keepV; rw [bneD, bneD]
    simp only [d0V, tnG, hb]
    refine ⟨by omega, by omega, fun h => ?_, fun h => ?_⟩
    · have e : List.filter (keepV (x, (y, z))) (l.take (k + 1)) = List.filter (keepV (x, (y, z))) (l.take k) ++ [l.getD k vi0] := by
        rw [takeG vi0 hlt', List.filter_append]
        congr 1
        rw [List.filter_cons, if_pos h]; rfl
      refine ⟨by (repeat' (first | rfl | trivial | apply And.intro)), by omega, by unfold InI64; omega, k + 1, hlt', by omega, rfl, ?_⟩
      rw [e, List.length_append]
      (repeat' (first | rfl | trivial | apply And.intro))
    · have e : List.filter (keepV (x, (y, z))) (l.take (k + 1)) = List.filter (keepV (x, (y, z))) (l.take k) := by
        rw [takeG vi0 hlt', List.filter_append, List.filter_cons, if_neg (by rw [h]; simp)]
        simp
      refine ⟨by unfold InI64; omega, k + 1, hlt', by omega, rfl, ?_⟩
      rw [e]
      (repeat' (first | rfl | trivial | apply And.intro))
  · have hx' : k = l.length := by have := of_decide_eq_false hge; omega
    rw [hx', List.take_length]
theorem p_skipped (b : Int) (r e : List T3) (j t n : Int) (c : List T3) (x y : Int) (hx0 : InI64 x) (hy : InI64 y) : P_skipped b r e j t n c x y := by
  refine ⟨⟨x, ⟨Int.le_refl _, rfl⟩, rfl⟩, fun q ⟨hq, hs⟩ => ⟨fun hlt => ?_, fun hge => ?_⟩⟩
  · have hlt := of_decide_eq_true hlt
    intro hlen
    refine ⟨⟨0, Nat.zero_le _, rfl, rfl⟩, fun k hk => ⟨fun hk2 => ?_, fun hk2 => ⟨fun h => ?_, fun h => ?_⟩⟩⟩
    · have hk' : k < e.length := by have := of_decide_eq_true hk2; omega
      simp only [d0T, tnG]
      refine ⟨by omega, by omega, by unfold InI64; omega, k + 1, hk', by omega, rfl, ?_, by (repeat' (first | rfl | trivial | apply And.intro))⟩
      rw [takeG t30 hk', List.any_append, List.any_cons, List.any_nil, Bool.or_false]
      rfl
    · have hk' : k = e.length := by have := of_decide_eq_false hk2; omega
      rw [hk', List.take_length] at h
      have h : inEndB e q = false := not_true h
      rw [hs]
      unfold skippedB
      rw [intsF_step hlt, List.all_cons, h]; rfl
    · have hk' : k = e.length := by have := of_decide_eq_false hk2; omega
      rw [hk', List.take_length] at h
      have h : inEndB e q = true := not_false_ h
      unfold InI64 at hx0 hy ⊢
      refine ⟨by omega, q + 1, ⟨by omega, ?_⟩, by omega, rfl, by (repeat' (first | rfl | trivial | apply And.intro))⟩
      rw [hs]
      unfold skippedB
      rw [intsF_step hlt, List.all_cons, h]; rfl
  · have hge := of_decide_eq_false hge
    rw [hs, skip_self hge]
theorem jumpT {f : Fm} (h : okForm0 f = true) (hj : f.2.2.2.1.1 ≠ 0) : f.2.2.2.1.2.1 < f.2.2.2.1.1 := by
  unfold okForm0 at h
  simp only [Bool.and_eq_true, decide_eq_true_eq] at h
  have h4 := h.2
  rw [jump_eq, if_neg (by simp [hj])] at h4
  split at h4
  · cases h4
  · rename_i hc
    simp only [Bool.or_eq_true, decide_eq_true_eq, not_or] at hc
    omega
theorem p_follows (b : Int) (r e : List T3) (j t n : Int) (c : List T3) (x y : Int) (h : 0 ≤ x ∧ x ≤ 4000 ∧ 0 ≤ y ∧ y ≤ 4000 ∧ okForm0 (b, (r, (e, ((j, (t, n)), c)))) = true) : P_follows b r e j t n c x y := by
  obtain ⟨h1, h2, h3, h4, hf⟩ := h
  have hx : InI64 (x + 1) := by unfold InI64; omega
  have hy : InI64 y := by unfold InI64; omega
  obtain ⟨p1, p2, p3, p4⟩ := okParts_of hf
  have hb := p1.1
  have hb2 := p1.2.1
  have hrb := p1.2.2.1
  simp only at p2 p3 p4 hb hb2 hrb
  have ht0 : InI64 t := by
    have := p3.2.2.2.1
    have h5 := p3.2.2.2.2
    by_cases hj : j = 0
    · have := p4 hj
      unfold InI64; omega
    · have hjj := jumpT hf hj
      have h6 := (p2 hj).2.2.2.2
      simp only at hjj
      unfold InI64; omega
  have hj : j > 0 → InI64 j := fun hj => by
    have := p2 (by omega)
    have h5 := this.2.2.2.2
    unfold InI64; omega
  have hfo : followsB (b, (r, (e, ((j, (t, n)), c)))) x y = ((decide (y > x) && skippedB e (x + 1) y) || r.any (followsR e x y) || (decide (j > 0) && decide (x < j) && decide (y ≥ t) && skippedB e (x + 1) j && skippedB e t y)) := rfl
  refine ⟨fun _ => hx, fun _ => ⟨hx, hy⟩, fun h => ?_, fun h hlen => ⟨⟨0, ⟨Nat.zero_le _, fun k hk => absurd hk (Nat.not_lt_zero _)⟩, (by first | rfl | trivial)⟩, fun k ⟨hk, hn⟩ => ⟨fun hlt => ?_, fun hge => ?_⟩⟩⟩
  · rw [hfo, h]; rfl
  · have hlt' : k < r.length := by have := of_decide_eq_true hlt; omega
    have hq := repsB_mem hrb _ (memG t30 hlt')
    simp only [d0T, tnG]
    have hq2 : InI64 (r.getD k t30).2.1 := by unfold InI64; omega
    have hq1 : InI64 (r.getD k t30).1 := by unfold InI64; omega
    refine ⟨by omega, by omega, fun _ => hx, fun _ => ⟨hx, hq2⟩, fun _ => ⟨hq1, hy⟩, fun h' => ?_, fun h' => ⟨by unfold InI64; omega, k + 1, ⟨hlt', fun i hi => ?_⟩, by omega, by (repeat' (first | rfl | trivial | apply And.intro))⟩⟩
    · have h' : followsR e x y (r.getD k t30) = true := h'
      rw [hfo, any_true t30 hlt' h', Bool.or_true, Bool.true_or]
    · rcases Nat.lt_succ_iff_lt_or_eq.1 hi with hi | hi
      · exact hn i hi
      · rw [hi]; exact h'
  · have hx' : k = r.length := by have := of_decide_eq_false hge; omega
    refine ⟨fun _ => hx, fun h => ⟨hx, hj (by simp at h; exact h.1.1)⟩, fun _ => ⟨ht0, hy⟩, ?_⟩
    rw [hfo, h, any_false t30 fun i hi => hn i (by omega)]
    rfl
theorem usable_valid {f : Fm} (h : usableF f = true) : validF f = true := by unfold usableF at h; simp only [Bool.and_eq_true] at h; exact h.2
theorem unfold_eq {f : Fm} (h : validF f = true) : unfoldS f = ((visS (wholeF f)).filter (keptB f.2.2.2.2), 0) := by unfold unfoldS; rw [if_pos h]
theorem valid_nocuts {f : Fm} (h : validF f = true) : validF (setCuts f []) = true := by
  rw [valid_iff] at h ⊢
  exact ⟨h.1, h.2.1, h.2.2.1, h.2.2.2.1, h.2.2.2.2.1, ⟨rfl, List.nodup_nil, Nat.zero_le _⟩, h.2.2.2.2.2.2⟩
theorem unfold_nocuts {f : Fm} (h : validF f = true) : unfoldS (setCuts f []) = (visS (wholeF f), 0) := by
  rw [unfold_eq (valid_nocuts h)]
  have : keptB ([] : List T3) = fun _ => true := rfl
  show ((visS (wholeF f)).filter (keptB []), (0 : Int)) = _
  rw [this]
  simp
theorem whole_in {f : Fm} (h : validF f = true) : ∀ x ∈ wholeF f, 0 ≤ x ∧ x < f.1 := by
  obtain ⟨a1, a2, a3, a4, a5, _, a7⟩ := (valid_iff f).1 h
  have h0 : okForm0 f = true := by unfold okForm0; simp only [Bool.and_eq_true, decide_eq_true_eq]; exact ⟨⟨⟨a1, a2⟩, a3⟩, a5⟩
  intro x hx
  rw [whole_eq h0, List.mem_append] at hx
  obtain ⟨p1, p2, p3, p4⟩ := okParts_of h0
  have hu := untilJ_ok h0
  rcases hx with hx | hx
  · exact part_mem a3 hu.2.2.2.2 _ _ (Nat.le_refl _) x hx
  · have := part_mem a3 p3.2.2.2.2 _ _ (Nat.le_refl _) x hx
    have h3 := p3.2.2.2.1
    omega
theorem valid_ok0 {f : Fm} (h : validF f = true) : okForm0 f = true := by
  obtain ⟨a1, a2, a3, a4, a5, _, a7⟩ := (valid_iff f).1 h
  unfold okForm0; simp only [Bool.and_eq_true, decide_eq_true_eq]; exact ⟨⟨⟨a1, a2⟩, a3⟩, a5⟩
theorem p_Visits (b : Int) (r e : List T3) (j t n : Int) (c : List T3) : P_Visits b r e j t n c := by
  refine ⟨fun _ => rfl, fun h => ?_⟩
  have hv := usable_valid (not_false_ h)
  have hlen := ((valid_iff (b, (r, (e, ((j, (t, n)), c))))).1 hv).2.2.2.2.2.2
  have hin := whole_in hv
  have e1 := unfold_eq hv
  have e2 : unfoldS (b, (r, (e, ((j, (t, n)), [])))) = (visS (wholeF (b, (r, (e, ((j, (t, n)), c))))), 0) := unfold_nocuts hv
  have e3 : unfoldS (setCuts (b, (r, (e, ((j, (t, n)), c)))) []) = (visS (wholeF (b, (r, (e, ((j, (t, n)), c))))), 0) := e2
  unfold P_Visits at *
  rw [e1, e2, e3]
  have hU1 : ((visS (wholeF (b, (r, (e, ((j, (t, n)), c)))))).filter (keptB c)).Pairwise Rv := (vis_pair _).filter _
  have hU2 : ∀ v ∈ (visS (wholeF (b, (r, (e, ((j, (t, n)), c)))))).filter (keptB c), 0 ≤ v.1 ∧ v.1 < b ∧ 1 ≤ v.2 := fun v hv' => by
    have := vis_pos (List.mem_filter.1 hv').1
    have h2 := hin _ this.1
    exact ⟨h2.1, h2.2, this.2⟩
  have hUl : ((visS (wholeF (b, (r, (e, ((j, (t, n)), c)))))).filter (keptB c)).length ≤ (visS (wholeF (b, (r, (e, ((j, (t, n)), c)))))).length := List.length_filter_le _ _
  have hWl := visS_len (wholeF (b, (r, (e, ((j, (t, n)), c)))))
  have hWm := vis_map (wholeF (b, (r, (e, ((j, (t, n)), c)))))
  have hWt := visS_take (wholeF (b, (r, (e, ((j, (t, n)), c)))))
  have hWg := fun i (h : i < (wholeF (b, (r, (e, ((j, (t, n)), c))))).length) => vis_get h
  simp only
  generalize hU : (visS (wholeF (b, (r, (e, ((j, (t, n)), c)))))).filter (keptB c) = U at *
  generalize hW : wholeF (b, (r, (e, ((j, (t, n)), c)))) = W at *
  intro _
  refine ⟨⟨0, Nat.zero_le _, rfl, rfl⟩, fun x hx => ⟨fun hlt => ?_, fun hge _ => ⟨⟨0, Nat.zero_le _, by (repeat' (first | rfl | trivial | apply And.intro)), by (repeat' (first | rfl | trivial | apply And.intro)), by (repeat' (first | rfl | trivial | apply And.intro))⟩, fun y hy => ⟨fun hlt => ?_, fun hge2 _ _ => ?_⟩⟩⟩⟩
  · have hlt' : x < U.length := by have := of_decide_eq_true hlt; omega
    have hm := hU2 _ (memG vi0 hlt')
    have hll : (mgetI (U.getD x vi0).1 (lastM (U.take x))).getD 0 < (U.getD x vi0).2 := last_lt (by rw [← takeG vi0 hlt']; exact hU1.sublist (List.take_sublist _ _)) hm.2.2
    simp only [d0V, tnG]
    refine ⟨by omega, by omega, fun h => ?_, fun _ => ⟨by unfold InI64; omega, x + 1, hlt', by omega, by (repeat' (first | rfl | trivial | apply And.intro)), ?_⟩⟩
    · exfalso
      have h' : (decide ((U.getD x vi0).1 < 0) || decide ((U.getD x vi0).1 ≥ b) || decide ((U.getD x vi0).2 ≤ (mgetI (U.getD x vi0).1 (lastM (U.take x))).getD 0)) = true := h
      simp only [Bool.or_eq_true, decide_eq_true_eq] at h'
      omega
    · have e : lastM (U.take (x + 1)) = putL (lastM (U.take x)) (U.getD x vi0) := by rw [takeG vi0 hlt', last_snoc]
      rw [e]
      (repeat' (first | rfl | trivial | apply And.intro))
  · have hlt' : y < W.length := by have := of_decide_eq_true hlt; rw [← hWl]; omega
    have hg := hWg y hlt'
    have em : ∀ k, ((visS W).take k).map fst1 = W.take k := fun k => by rw [List.map_take, hWm]
    simp only [d0V, tnG, em, hg]
    have ec : (mgetI (W.getD y 0) (cntM (W.take y))).getD 0 = ((W.take y).count (W.getD y 0) : Int) := cntM_get _ _
    have ec2 : (mgetI (W.getD y 0) (bump (cntM (W.take y)) (W.getD y 0))).getD 0 = (mgetI (W.getD y 0) (cntM (W.take y))).getD 0 + 1 := by
      unfold bump; rw [mget_bump, if_pos rfl]; rfl
    have hcl : (W.take y).count (W.getD y 0) ≤ y := Nat.le_trans List.count_le_length (by rw [List.length_take]; exact Nat.min_le_left _ _)
    have es : cntM (W.take (y + 1)) = bump (cntM (W.take y)) (W.getD y 0) := by rw [takeG (0 : Int) hlt', cntM_snoc]
    have et : (((W.take (y + 1)).count (W.getD y 0) : Nat) : Int) = ((W.take y).count (W.getD y 0) : Int) + 1 := by
      rw [takeG (0 : Int) hlt', List.count_append, List.count_singleton_self]; rfl
    refine ⟨by omega, by omega, ?_, by unfold InI64; omega, y + 1, by omega, by omega, by (repeat' (first | rfl | trivial | apply And.intro)), ?_, ?_⟩
    · have : InI64 ((mgetI (W.getD y 0) (cntM (W.take y))).getD 0 + 1) := by rw [ec]; unfold InI64; omega
      exact this
    · have : (true && (((W.take (y + 1)).count (W.getD y 0) : Nat) : Int) == (mgetI (W.getD y 0) (bump (cntM (W.take y)) (W.getD y 0))).getD 0) = true := by
        rw [ec2, ec, et]; simp
      exact this
    · rw [es]
      (repeat' (first | rfl | trivial | apply And.intro))
  · simp
    omega
theorem seg_whole {f : Fm} (h : validF f = true) : gchain (fun x y => followsB f x y = true) (wholeF f) := by
  have h0 := valid_ok0 h
  obtain ⟨p1, p2, p3, p4⟩ := okParts_of h0
  have hu := untilJ_ok h0
  have hrb := p1.2.2.1
  have hR : ∀ a b, a < b → skippedB f.2.2.1 (a + 1) b = true → followsB f a b = true := fun a b h1 h2 => by
    unfold followsB; rw [h2, decide_eq_true (by omega : b > a)]; rfl
  have hR2 : ∀ q ∈ f.2.1, ∀ a b, q.1 ≤ a → a < q.2.1 → q.1 ≤ b → b < q.2.1 → skippedB f.2.2.1 (a + 1) q.2.1 = true → skippedB f.2.2.1 q.1 b = true → followsB f a b = true := fun q hq a b g1 g2 g3 g4 g5 g6 => by
    have hf : followsR f.2.2.1 a b q = true := by
      unfold followsR
      rw [decide_eq_true g1, decide_eq_true g2, decide_eq_true g3, decide_eq_true g4, g5, g6]; rfl
    have : f.2.1.any (followsR f.2.2.1 a b) = true := List.any_eq_true.2 ⟨q, hq, hf⟩
    unfold followsB; rw [this, Bool.or_true, Bool.true_or]
  have hjump := (valid_iff f).1 h
  have hj5 := hjump.2.2.2.2.1
  have hend : ∀ q ∈ f.2.1, q.2.1 ≤ f.1 := fun q hq => (repsB_mem hrb q hq).2.2.1
  have hbar : ∀ y, withinB f.2.1 y = false → ∀ q ∈ f.2.1, q.1 < y → q.2.1 ≤ y := fun y hy q hq hlt => by
    by_cases hle : q.2.1 ≤ y
    · exact hle
    · have : withinB f.2.1 y = true := List.any_eq_true.2 ⟨q, hq, by unfold inP; rw [decide_eq_true hlt, decide_eq_true (by omega : y < q.2.1)]; rfl⟩
      rw [hy] at this; cases this
  by_cases hj : f.2.2.2.1.1 = 0
  · have hw : wholeF f = partS f.2.1 f.2.2.1 0 f.1 false := by unfold wholeF wholeS; rw [if_pos hj]
    rw [hw]
    have := p1.1
    exact (seg_part hrb (fun q hq _ => hend q hq) hR hR2 _ 0 (Nat.le_refl _) (by omega)).li
  · have hw : wholeF f = partS f.2.1 f.2.2.1 0 f.2.2.2.1.1 false ++ partS f.2.1 f.2.2.1 f.2.2.2.1.2.1 f.2.2.2.1.2.2 true := by unfold wholeF wholeS; rw [if_neg hj]
    rw [hw]
    rw [jump_eq, if_neg (by simp [hj])] at hj5
    split at hj5
    · cases hj5
    · rename_i hc
      simp only [Bool.or_eq_true, decide_eq_true_eq, not_or] at hc
      simp only [Bool.and_eq_true, Bool.not_eq_true'] at hj5
      have s1 := seg_part (ag := false) hrb (hbar _ hj5.1.1) hR hR2 _ 0 (Nat.le_refl _) (by omega)
      have s2 := seg_part (ag := true) hrb (hbar _ hj5.2) hR hR2 _ f.2.2.2.1.2.1 (Nat.le_refl _) (by omega)
      refine gchain_app s1.li s2.li fun a b ha hb => ?_
      have g1 := s1.la a ha
      have g2 := s2.hd b hb
      unfold followsB
      rw [g1.2, g2.2, decide_eq_true (by omega : f.2.2.2.1.1 > 0), decide_eq_true g1.1, decide_eq_true (by omega : b ≥ f.2.2.2.1.2.1)]
      simp
theorem p_Steps (b : Int) (r e : List T3) (j t n : Int) (c : List T3) : P_Steps b r e j t n c := by
  refine ⟨fun _ => rfl, fun h => ?_⟩
  have hv := usable_valid (not_false_ h)
  have hlen := ((valid_iff (b, (r, (e, ((j, (t, n)), []))))).1 hv).2.2.2.2.2.2
  have hb4 := ((valid_iff (b, (r, (e, ((j, (t, n)), []))))).1 hv).2.1
  have hin := whole_in hv
  have hs := seg_whole hv
  have h0 := valid_ok0 hv
  have e2 : unfoldS (b, (r, (e, ((j, (t, n)), [])))) = (visS (wholeF (b, (r, (e, ((j, (t, n)), []))))), 0) := unfold_nocuts (f := (b, (r, (e, ((j, (t, n)), []))))) hv
  have e3 : unfoldS (setCuts (b, (r, (e, ((j, (t, n)), c)))) []) = (visS (wholeF (b, (r, (e, ((j, (t, n)), []))))), 0) := e2
  unfold P_Steps at *
  rw [e2, e3]
  have hWl := visS_len (wholeF (b, (r, (e, ((j, (t, n)), [])))))
  have hWg := fun i (h : i < (wholeF (b, (r, (e, ((j, (t, n)), []))))).length) => vis_get h
  simp only at hin hb4 ⊢
  generalize hW : wholeF (b, (r, (e, ((j, (t, n)), [])))) = W at *
  refine ⟨⟨0, Nat.zero_le _, by (repeat' (first | rfl | trivial | apply And.intro)), by (repeat' (first | rfl | trivial | apply And.intro))⟩, fun x hx _ => ⟨fun hlt => ?_, fun _ => rfl⟩⟩
  have hlt' : x + 1 < W.length := by have := of_decide_eq_true hlt; omega
  have z1 : ((x : Int) + 1 - 1).toNat = x := by omega
  have z2 : ((x : Int) + 1).toNat = x + 1 := by omega
  have g1 := hWg x (by omega)
  have g2 := hWg (x + 1) hlt'
  have i1 := hin _ (memG (0 : Int) (by omega : x < W.length))
  have i2 := hin _ (memG (0 : Int) hlt')
  have hf := gchain_get hs hlt'
  simp only [d0V, z1, z2, g1, g2]
  refine ⟨fun _ => by unfold InI64; omega, fun _ => ⟨by omega, by omega⟩, fun _ => ⟨by omega, by omega⟩, fun _ => ⟨i1.1, by omega, i2.1, by omega, h0⟩, by unfold InI64; omega, x + 1, by omega, by omega, by omega, by rw [hf]; rfl, ?_⟩
  (repeat' (first | rfl | trivial | apply And.intro))
theorem p_Finds (b : Int) (r e : List T3) (j t n : Int) (c : List T3) (w x y : Int) (hw0 : 0 ≤ w) (hw1 : w ≤ 65535) : P_Finds b r e j t n c w x y := by
  refine ⟨fun _ => rfl, fun h => ?_⟩
  have hv := usable_valid (not_false_ h)
  have hlen := ((valid_iff (b, (r, (e, ((j, (t, n)), c))))).1 hv).2.2.2.2.2.2
  have e1 := unfold_eq hv
  have hU1 : ((visS (wholeF (b, (r, (e, ((j, (t, n)), c)))))).filter (keptB c)).Pairwise Rv := (vis_pair _).filter _
  have hfs : ∀ v, findS (b, (r, (e, ((j, (t, n)), c)))) v = if gidx (isVi v) ((visS (wholeF (b, (r, (e, ((j, (t, n)), c)))))).filter (keptB c)) < 0 then (0, false, 0) else (gidx (isVi v) ((visS (wholeF (b, (r, (e, ((j, (t, n)), c)))))).filter (keptB c)), true, 0) := fun v => by
    unfold findS; rw [e1]; rfl
  unfold P_Finds at *
  rw [e1, hfs (x, y)]
  simp only [hfs]
  have hUl : ((visS (wholeF (b, (r, (e, ((j, (t, n)), c)))))).filter (keptB c)).length ≤ 20000 := Nat.le_trans (List.length_filter_le _ _) (by rw [visS_len]; exact hlen)
  generalize hU : (visS (wholeF (b, (r, (e, ((j, (t, n)), c)))))).filter (keptB c) = U at *
  have key : (gidx (isVi (x, y)) U < 0) ∨ (0 ≤ gidx (isVi (x, y)) U ∧ (gidx (isVi (x, y)) U).toNat < U.length ∧ U.getD (gidx (isVi (x, y)) U).toNat vi0 = (x, y)) := by
    by_cases hg : gidx (isVi (x, y)) U < 0
    · exact .inl hg
    · obtain ⟨g1, g2, _⟩ := gidx_spec vi0 (p := isVi (x, y)) (l := U) (by omega)
      exact .inr ⟨by omega, g1, of_decide_eq_true g2⟩
  have again : ∀ k : Nat, k < U.length → gidx (isVi (U.getD k vi0)) U = k := fun k hk =>
    gidx_some vi0 hk (fun i hi => decide_eq_false (pair_ne hU1 hi hk)) (decide_eq_true rfl)
  refine ⟨fun h => ?_, fun _ => ?_⟩
  · obtain ⟨h1, h2, _⟩ := h
    rcases key with hg | ⟨g1, g2, g3⟩
    · rw [if_pos hg] at h2; cases h2
    · rw [if_neg (by omega)]; simp only; omega
  · have bad : ((0 : Int) != 0 || (if gidx (isVi (x, y)) U < 0 then ((0 : Int), false, (0 : Int)) else (gidx (isVi (x, y)) U, true, 0)).2.2 != 0 || (if gidx (isVi (x, y)) U < 0 then ((0 : Int), false, (0 : Int)) else (gidx (isVi (x, y)) U, true, 0)).2.1 && (decide ((if gidx (isVi (x, y)) U < 0 then ((0 : Int), false, (0 : Int)) else (gidx (isVi (x, y)) U, true, 0)).1 < 0) || decide ((if gidx (isVi (x, y)) U < 0 then ((0 : Int), false, (0 : Int)) else (gidx (isVi (x, y)) U, true, 0)).1 ≥ (U.length : Int)) || !((U.getD (if gidx (isVi (x, y)) U < 0 then ((0 : Int), false, (0 : Int)) else (gidx (isVi (x, y)) U, true, 0)).1.toNat T2T.d0).1 == x && (U.getD (if gidx (isVi (x, y)) U < 0 then ((0 : Int), false, (0 : Int)) else (gidx (isVi (x, y)) U, true, 0)).1.toNat T2T.d0).2 == y)) || !(if gidx (isVi (x, y)) U < 0 then ((0 : Int), false, (0 : Int)) else (gidx (isVi (x, y)) U, true, 0)).2.1 && (if gidx (isVi (x, y)) U < 0 then ((0 : Int), false, (0 : Int)) else (gidx (isVi (x, y)) U, true, 0)).1 != 0) = false := by
      rcases key with hg | ⟨g1, g2, g3⟩
      · rw [if_pos hg]; rfl
      · rw [if_neg (by omega)]
        simp only [d0V, g3]
        rw [decide_eq_false (by omega), decide_eq_false (by omega)]
        simp
    refine ⟨fun h => ?_, fun _ _ => ⟨fun h => ?_, fun h => ⟨by unfold InI64; omega, fun _ => ?_⟩⟩⟩
    · rw [bad] at h; cases h
    · have hU0 : U = [] := List.eq_nil_of_length_eq_zero (by simp at h; simpa using h)
      rw [hU0]; rfl
    · have hne : (U.length : Int) ≠ 0 := by simpa using h
      have t0 : 0 ≤ w.tmod (U.length : Int) := Int.tmod_nonneg _ hw0
      have t1 : w.tmod (U.length : Int) < (U.length : Int) := Int.tmod_lt_of_pos _ (by omega)
      have ha := again (w.tmod (U.length : Int)).toNat (by omega)
      refine ⟨hne, t0, t1, ?_⟩
      simp only [d0V]
      have fin : ∀ v : Vi, gidx (isVi v) U = w.tmod (U.length : Int) → (true && (if gidx (isVi v) U < 0 then ((0 : Int), false, (0 : Int)) else (gidx (isVi v) U, true, 0)).2.2 == 0 && (if gidx (isVi v) U < 0 then ((0 : Int), false, (0 : Int)) else (gidx (isVi v) U, true, 0)).2.1 && (if gidx (isVi v) U < 0 then ((0 : Int), false, (0 : Int)) else (gidx (isVi v) U, true, 0)).1 == w.tmod (U.length : Int)) = true := fun v hv => by
        rw [hv, if_neg (by omega)]
        simp
      exact fin _ (ha.trans (by omega))
theorem keepV_out (q : T3) (v : Vi) : keepV (q.1, (q.2.1, 0)) v = outQ q v.1 := by
  unfold keepV outQ
  simp
theorem p_Times (b : Int) (r e : List T3) (j t n : Int) (c : List T3) (x y : Int) : P_Times b r e j t n c x y := by
  refine ⟨fun _ => rfl, fun h => ?_⟩
  have hv := usable_valid (not_false_ h)
  have hlen := ((valid_iff (b, (r, (e, ((j, (t, n)), c))))).1 hv).2.2.2.2.2.2
  have hrb := ((valid_iff (b, (r, (e, ((j, (t, n)), c))))).1 hv).2.2.1
  have e1 := unfold_eq hv
  refine ⟨fun h2 => ?_, fun h2 _ => ⟨fun h3 => ?_, fun h3 => ?_⟩⟩
  · have h2 : (timesS (b, (r, (e, ((j, (t, n)), c)))) x y).2 ≠ 0 := by simpa using h2
    have : (timesS (b, (r, (e, ((j, (t, n)), c)))) x y).1 = fm0 := by
      unfold timesS at h2 ⊢
      split
      · rfl
      · rename_i c1
        rw [if_neg c1] at h2
        split
        · rfl
        · rename_i c2
          rw [if_neg c2] at h2
          split
          · rfl
          · rename_i c3
            rw [if_neg c3] at h2
            split
            · rfl
            · rename_i c4
              rw [if_neg c4] at h2
              exact absurd rfl h2
    rw [this]
    have e : sameF fm0 fm0 = true := (sameF_iff _ _).2 rfl
    exact e
  · exfalso
    have h2 : (timesS (b, (r, (e, ((j, (t, n)), c)))) x y).2 = 0 := by simpa using h2
    have h3 : x < 0 ∨ (r.length : Int) ≤ x := by simp at h3; omega
    unfold timesS at h2
    rw [if_neg (by rw [hv]; simp), if_pos h3] at h2
    cases h2
  · have h2 : (timesS (b, (r, (e, ((j, (t, n)), c)))) x y).2 = 0 := by simpa using h2
    have h3 : ¬ (x < 0 ∨ (r.length : Int) ≤ x) := by simp at h3; omega
    have ht : (timesS (b, (r, (e, ((j, (t, n)), c)))) x y).1 = setReps (b, (r, (e, ((j, (t, n)), c)))) (setTimes r x y) ∧ shortF (setReps (b, (r, (e, ((j, (t, n)), c)))) (setTimes r x y)) = true ∧ 1 ≤ y ∧ y ≤ 9 := by
      unfold timesS at h2 ⊢
      rw [if_neg (by rw [hv]; simp), if_neg h3] at h2 ⊢
      by_cases h4 : y < 1 ∨ 9 < y
      · rw [if_pos h4] at h2; cases h2
      · rw [if_neg h4] at h2 ⊢
        by_cases h5 : (!shortF (setReps (b, (r, (e, ((j, (t, n)), c)))) (setTimes r x y))) = true
        · rw [if_pos h5] at h2; cases h2
        · rw [if_neg h5]
          exact ⟨rfl, by simpa using h5, by omega, by omega⟩
    obtain ⟨t1, t2, t3, t4⟩ := ht
    have hok : okForm (b, (r, (e, ((j, (t, n)), c)))) = true := by unfold validF at hv; simp only [Bool.and_eq_true] at hv; exact hv.1
    have hv' : validF (setReps (b, (r, (e, ((j, (t, n)), c)))) (setTimes r x y)) = true := by
      unfold validF
      rw [show okForm (setReps (b, (r, (e, ((j, (t, n)), c)))) (setTimes r x y)) = true from set_ok (i := x) (m := y) t3 t4 hok, t2]; rfl
    have hlen' := ((valid_iff (setReps (b, (r, (e, ((j, (t, n)), c)))) (setTimes r x y))).1 hv').2.2.2.2.2.2
    have e2 := unfold_eq hv'
    have hxi : x.toNat < r.length := by omega
    have eW : (wholeF (setReps (b, (r, (e, ((j, (t, n)), c)))) (setTimes r x y))).filter (outQ (r.getD x.toNat t30)) = (wholeF (b, (r, (e, ((j, (t, n)), c))))).filter (outQ (r.getD x.toNat t30)) := by
      rw [whole_eq (valid_ok0 hv'), whole_eq (valid_ok0 hv), List.filter_append, List.filter_append]
      have p1 := part_set (e := e) (ag := false) (u := untilJ b j) (m := y) hrb hxi _ 0 (Nat.le_refl _)
      have p2 := part_set (e := e) (ag := true) (u := n) (m := y) hrb hxi _ t (Nat.le_refl _)
      exact (congr (congrArg _ p1) p2)
    have eV : ∀ l : List Int, (visS l).filter (keepV ((r.getD x.toNat t30).1, ((r.getD x.toNat t30).2.1, 0))) = visS (l.filter (outQ (r.getD x.toNat t30))) := fun l => by
      rw [← vis_filter (outQ (r.getD x.toNat t30)) _ l rfl]
      congr 1
      funext v
      exact keepV_out _ _
    have comm : ∀ (p q : Vi → Bool) (l : List Vi), (l.filter p).filter q = (l.filter q).filter p := fun p q l => by
      rw [List.filter_filter, List.filter_filter]
      congr 1
      funext v
      exact Bool.and_comm _ _
    have t1' : (((timesS (b, (r, (e, ((j, (t, n)), c)))) x y).1.1, ((timesS (b, (r, (e, ((j, (t, n)), c)))) x y).1.2.1, ((timesS (b, (r, (e, ((j, (t, n)), c)))) x y).1.2.2.1, (((timesS (b, (r, (e, ((j, (t, n)), c)))) x y).1.2.2.2.1.1, ((timesS (b, (r, (e, ((j, (t, n)), c)))) x y).1.2.2.2.1.2.1, (timesS (b, (r, (e, ((j, (t, n)), c)))) x y).1.2.2.2.1.2.2)), (timesS (b, (r, (e, ((j, (t, n)), c)))) x y).1.2.2.2.2)))) : Fm) = setReps (b, (r, (e, ((j, (t, n)), c)))) (setTimes r x y) := t1
    rw [t1', e1, e2]
    simp only [d0T]
    have l1 : ((visS (wholeF (b, (r, (e, ((j, (t, n)), c)))))).filter (keptB c)).length ≤ 20000 := Nat.le_trans (List.length_filter_le _ _) (by rw [visS_len]; exact hlen)
    have l2 : ((visS (wholeF (setReps (b, (r, (e, ((j, (t, n)), c)))) (setTimes r x y)))).filter (keptB c)).length ≤ 20000 := Nat.le_trans (List.length_filter_le _ _) (by rw [visS_len]; exact hlen')
    refine ⟨by omega, by omega, fun _ => l1, fun _ => l2, ?_⟩
    have es : ((visS (wholeF (b, (r, (e, ((j, (t, n)), c)))))).filter (keptB c)).filter (keepV ((r.getD x.toNat t30).1, ((r.getD x.toNat t30).2.1, 0))) = ((visS (wholeF (setReps (b, (r, (e, ((j, (t, n)), c)))) (setTimes r x y)))).filter (keptB c)).filter (keepV ((r.getD x.toNat t30).1, ((r.getD x.toNat t30).2.1, 0))) := by
      rw [comm, comm (keptB c), eV, eV, eW]
    have ec : (setReps (b, (r, (e, ((j, (t, n)), c)))) (setTimes r x y)).2.2.2.2 = c := rfl
    rw [ec, es]
    unfold sameV
    simp
theorem p_head : P_head := by
  unfold P_head
  refine ⟨by decide, fun _ => by decide, fun _ => by decide, fun _ => by decide, ?_⟩
  decide

end Go.Proofs.Ytpdgmlkagfeglaa
