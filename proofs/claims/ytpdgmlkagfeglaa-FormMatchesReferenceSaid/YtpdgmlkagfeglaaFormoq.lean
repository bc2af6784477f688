/- The plain proofs. Written by a program (wip/tools/gen.py). -/
import Derived.Test.YtpdgmlkagfeglaaFormop
import Derived.Test.YtpdgmlkagfeglaaFormlk
namespace Go.Proofs.Ytpdgmlkagfeglaa
open Go.Sy Go.RatLaw
set_option linter.unusedVariables false
set_option linter.unusedSimpArgs false
theorem p_openR (b : Int) (r e : List T3) (j t n : Int) (c : List T3) (x y z : Int) : P_openR b r e j t n c x y z := by
  refine ⟨fun h => ?_, fun h => ⟨fun h2 => ?_, fun h2 => ?_⟩⟩
  · unfold openS; rw [if_pos h]; exact ⟨rfl, rfl, rfl, rfl, rfl, rfl, rfl, rfl⟩
  · have h2 := of_decide_eq_true h2
    unfold openS; rw [if_neg (by rw [h]; simp), if_pos h2]; exact ⟨rfl, rfl, rfl, rfl, rfl, rfl, rfl, rfl⟩
  · have h2 := of_decide_eq_false h2
    have hv := not_false_ h
    obtain ⟨l1, l2, l3⟩ := valid_lens hv
    simp only at l1 l2 l3
    obtain ⟨g1, _, _⟩ := gidx_spec t30 (p := isC (x, (y, z))) (l := c) (by omega)
    unfold openS; rw [if_neg (by rw [h]; simp), if_neg h2]
    exact ⟨l1, l2, l3, by unfold InI64; omega, rfl, by omega, by omega, rfl, rfl, rfl, rfl, rfl, rfl, rfl, rfl, rfl, rfl, rfl, rfl⟩
theorem sameF_self (f : Fm) : sameF f f = true := (sameF_iff f f).2 rfl
theorem sameV_self (l : List Vi) : sameV l l = true := decide_eq_true rfl
theorem p_Matches (b : Int) (r e : List T3) (j t n : Int) (c : List T3) (o p x y z u v : Int) : P_Matches b r e j t n c o p x y z u v := by
  refine ⟨fun _ => rfl, fun _ => ?_⟩
  simp only [sameF_self, sameV_self, beq_self_eq_true, Bool.and_true, Bool.true_and]
theorem any_isC {c : T3} {l : List T3} : l.any (isC c) = true ↔ c ∈ l := by
  rw [List.any_eq_true]
  constructor
  · rintro ⟨q, h1, h2⟩
    have := of_decide_eq_true h2
    exact this ▸ h1
  · exact fun h => ⟨c, h, decide_eq_true rfl⟩
theorem cut_ok {f : Fm} {c : T3} : (cutS f c).2 = 0 ↔ validF f = true ∧ cutB f.1 c = true ∧ c ∉ f.2.2.2.2 ∧ f.2.2.2.2.length ≠ 100 := by
  unfold cutS
  by_cases h1 : (!validF f || !cutB f.1 c) = true
  · rw [if_pos h1]
    constructor
    · intro h; cases h
    · rintro ⟨h2, h3, _⟩; rw [h2, h3] at h1; cases h1
  · rw [if_neg h1]
    have h1 : validF f = true ∧ cutB f.1 c = true := by simpa using h1
    by_cases h2 : f.2.2.2.2.any (isC c) = true
    · rw [if_pos h2]
      constructor
      · intro h; cases h
      · rintro ⟨_, _, h, _⟩; exact absurd (any_isC.1 h2) h
    · rw [if_neg h2]
      have h2 : c ∉ f.2.2.2.2 := fun h => h2 (any_isC.2 h)
      by_cases h3 : f.2.2.2.2.length = 100
      · rw [if_pos h3]
        constructor
        · intro h; cases h
        · rintro ⟨_, _, _, h⟩; exact absurd h3 h
      · rw [if_neg h3]
        exact ⟨fun _ => ⟨h1.1, h1.2, h2, h3⟩, fun _ => rfl⟩
theorem cut_fst {f : Fm} {c : T3} (h : (cutS f c).2 = 0) : (cutS f c).1 = setCuts f (f.2.2.2.2 ++ [c]) := by
  obtain ⟨h1, h2, h3, h4⟩ := cut_ok.1 h
  unfold cutS
  rw [if_neg (by rw [h1, h2]; simp), if_neg (fun h => h3 (any_isC.1 h)), if_neg h4]
theorem cut_errs (f : Fm) (c : T3) (h : (cutS f c).2 ≠ 0) : (cutS f c).2 = 1 ∨ (cutS f c).2 = 5 ∨ (cutS f c).2 = 2 := by
  unfold cutS at h ⊢
  split
  · exact .inl rfl
  · rename_i h1
    rw [if_neg h1] at h
    split
    · exact .inr (.inl rfl)
    · rename_i h2
      rw [if_neg h2] at h
      split
      · exact .inr (.inr rfl)
      · rename_i h3
        rw [if_neg h3] at h
        exact absurd rfl h
theorem cut_valid {f : Fm} {c : T3} (hv : validF f = true) (h1 : cutB f.1 c = true) (h2 : c ∉ f.2.2.2.2) (h3 : f.2.2.2.2.length ≠ 100) : validF (setCuts f (f.2.2.2.2 ++ [c])) = true := by
  rw [valid_iff] at hv ⊢
  obtain ⟨a1, a2, a3, a4, a5, ⟨a6, a7, a8⟩, a9⟩ := hv
  refine ⟨a1, a2, a3, a4, a5, ⟨?_, ?_, ?_⟩, a9⟩
  · show (f.2.2.2.2 ++ [c]).all (cutB f.1) = true
    rw [List.all_append, a6]
    simp [h1]
  · show (f.2.2.2.2 ++ [c]).Nodup
    rw [List.nodup_append]
    refine ⟨a7, by simp, fun q hq q' hq' e => ?_⟩
    simp at hq'
    exact h2 (hq' ▸ e ▸ hq)
  · show (f.2.2.2.2 ++ [c]).length ≤ 100
    rw [List.length_append, List.length_singleton]
    omega
theorem kept_snoc (l : List T3) (c : T3) (v : Vi) : keptB (l ++ [c]) v = (keptB l v && !leavesB v c) := by
  unfold keptB
  simp [List.any_append]
theorem keep_leaves (c : T3) (v : Vi) : keepV c v = !leavesB v c := by
  unfold keepV leavesB
  simp only [Bool.not_and, Bool.not_or]
  congr 1
  · congr 1 <;> simp only [← decide_not] <;> exact decide_eq_decide.2 (by omega)
  · simp only [← decide_not]
theorem gidx_snoc {c : T3} : ∀ {l : List T3}, c ∉ l → gidx (isC c) (l ++ [c]) = l.length := by
  intro l h
  refine gidx_some t30 (x := l.length) (by simp) (fun k hk => ?_) ?_
  · rw [List.getD_eq_getElem?_getD, List.getElem?_append_left hk, ← List.getD_eq_getElem?_getD]
    exact decide_eq_false fun e => h (e ▸ memG t30 hk)
  · rw [List.getD_eq_getElem?_getD]
    simp [isC]
theorem set_self (f : Fm) : setCuts f f.2.2.2.2 = f := rfl
theorem open_cut {f : Fm} {c : T3} (h : (cutS f c).2 = 0) : openS (cutS f c).1 c = (f, 0) := by
  obtain ⟨h1, h2, h3, h4⟩ := cut_ok.1 h
  have hg : gidx (isC c) (f.2.2.2.2 ++ [c]) = f.2.2.2.2.length := gidx_snoc h3
  rw [cut_fst h]
  have hv := cut_valid h1 h2 h3 h4
  unfold openS
  rw [if_neg (by rw [hv]; simp)]
  have e : (setCuts f (f.2.2.2.2 ++ [c])).2.2.2.2 = f.2.2.2.2 ++ [c] := rfl
  rw [e, hg, if_neg (by omega), Int.toNat_natCast]
  have e2 : (f.2.2.2.2 ++ [c]).eraseIdx f.2.2.2.2.length = f.2.2.2.2 := by
    rw [List.eraseIdx_append_of_length_le (Nat.le_refl _)]
    simp
  rw [e2]
  rfl
theorem cuts_law (f : Fm) (c d : T3) (hv : validF f = true) :
    (((unfoldS f).2 != 0 || (cutS f c).2 != 0) = true → (true && (unfoldS f).2 == 0 && ((cutS f c).2 == 1 || (cutS f c).2 == 5 || (cutS f c).2 == 2)) = true) ∧
    (((unfoldS f).2 != 0 || (cutS f c).2 != 0) = false →
      (((unfoldS (cutS f c).1).2 != 0 || (openS (cutS f c).1 c).2 != 0) = false → (unfoldS f).1.length ≤ 20000) ∧
      (((unfoldS (cutS f c).1).2 != 0 || (openS (cutS f c).1 c).2 != 0 || !sameV (unfoldS (cutS f c).1).1 (List.filter (keepV c) (unfoldS f).1) || !sameF (openS (cutS f c).1 c).1 f) = true → false = true) ∧
      (((unfoldS (cutS f c).1).2 != 0 || (openS (cutS f c).1 c).2 != 0 || !sameV (unfoldS (cutS f c).1).1 (List.filter (keepV c) (unfoldS f).1) || !sameF (openS (cutS f c).1 c).1 f) = false →
        (((cutS (cutS f c).1 d).2 != 0 || (cutS f d).2 != 0) = true → true = true) ∧
        (((cutS (cutS f c).1 d).2 != 0 || (cutS f d).2 != 0) = false →
          (true && (cutS (cutS f d).1 c).2 == 0 && (unfoldS (cutS (cutS f c).1 d).1).2 == 0 && (unfoldS (cutS (cutS f d).1 c).1).2 == 0 && sameV (unfoldS (cutS (cutS f c).1 d).1).1 (unfoldS (cutS (cutS f d).1 c).1).1) = true))) := by
  have e1 := unfold_eq hv
  have hlen := ((valid_iff f).1 hv).2.2.2.2.2.2
  have e2 : (unfoldS f).2 = 0 := by rw [e1]
  refine ⟨fun h => ?_, fun h => ?_⟩
  · have h : (cutS f c).2 ≠ 0 := by rw [e2] at h; simpa using h
    rw [e2]
    rcases cut_errs f c h with g | g | g <;> rw [g] <;> rfl
  · have h : (cutS f c).2 = 0 := by rw [e2] at h; simpa using h
    obtain ⟨h1, h2, h3, h4⟩ := cut_ok.1 h
    have hg := cut_valid h1 h2 h3 h4
    have u1 : unfoldS (cutS f c).1 = ((visS (wholeF f)).filter (keptB (f.2.2.2.2 ++ [c])), 0) := by rw [cut_fst h, unfold_eq hg]; rfl
    have u2 : (visS (wholeF f)).filter (keptB (f.2.2.2.2 ++ [c])) = List.filter (keepV c) (unfoldS f).1 := by
      rw [e1, List.filter_filter]
      refine List.filter_congr fun v _ => ?_
      rw [kept_snoc, keep_leaves, Bool.and_comm]
    refine ⟨fun _ => ?_, fun hb => ?_, fun _ => ⟨fun _ => rfl, fun hb => ?_⟩⟩
    · rw [e1]
      exact Nat.le_trans (List.length_filter_le _ _) (by rw [visS_len]; exact hlen)
    · exfalso
      rw [open_cut h, u1, u2, sameV_self, sameF_self] at hb
      cases hb
    · have hb : (cutS (cutS f c).1 d).2 = 0 ∧ (cutS f d).2 = 0 := by simpa using hb
      obtain ⟨g1, g2⟩ := hb
      have k0 := cut_ok.1 g1
      have k1 : (cutS (cutS f c).1 d).1 = setCuts f (f.2.2.2.2 ++ [c] ++ [d]) := by rw [cut_fst g1, cut_fst h]; rfl
      obtain ⟨q1, q2, q3, q4⟩ := k0
      rw [cut_fst h] at q1 q2 q3 q4
      have q3 : d ∉ f.2.2.2.2 ++ [c] := q3
      have q4 : (f.2.2.2.2 ++ [c]).length ≠ 100 := q4
      obtain ⟨r1, r2, r3, r4⟩ := cut_ok.1 g2
      have hd := cut_valid r1 r2 r3 r4
      have hcd : d ≠ c := fun e => q3 (by rw [e]; simp)
      have o1 : (cutS (cutS f d).1 c).2 = 0 := cut_ok.2 (by
        rw [cut_fst g2]
        refine ⟨hd, h2, ?_, ?_⟩
        · show c ∉ f.2.2.2.2 ++ [d]
          simp only [List.mem_append, List.mem_singleton]
          exact fun e => e.elim h3 fun e => hcd e.symm
        · show (f.2.2.2.2 ++ [d]).length ≠ 100
          simpa using q4)
      have o2 : (cutS (cutS f d).1 c).1 = setCuts f (f.2.2.2.2 ++ [d] ++ [c]) := by rw [cut_fst o1, cut_fst g2]; rfl
      have w1 : validF (cutS (cutS f c).1 d).1 = true := by rw [cut_fst g1]; exact cut_valid (cut_ok.1 g1).1 (cut_ok.1 g1).2.1 (cut_ok.1 g1).2.2.1 (cut_ok.1 g1).2.2.2
      have w2 : validF (cutS (cutS f d).1 c).1 = true := by rw [cut_fst o1]; exact cut_valid (cut_ok.1 o1).1 (cut_ok.1 o1).2.1 (cut_ok.1 o1).2.2.1 (cut_ok.1 o1).2.2.2
      have x1 : unfoldS (cutS (cutS f c).1 d).1 = ((visS (wholeF f)).filter (keptB (f.2.2.2.2 ++ [c] ++ [d])), 0) := by rw [unfold_eq w1, k1]; rfl
      have x2 : unfoldS (cutS (cutS f d).1 c).1 = ((visS (wholeF f)).filter (keptB (f.2.2.2.2 ++ [d] ++ [c])), 0) := by rw [unfold_eq w2, o2]; rfl
      have x3 : (visS (wholeF f)).filter (keptB (f.2.2.2.2 ++ [c] ++ [d])) = (visS (wholeF f)).filter (keptB (f.2.2.2.2 ++ [d] ++ [c])) := by
        refine List.filter_congr fun v _ => ?_
        rw [kept_snoc, kept_snoc, kept_snoc, kept_snoc, Bool.and_assoc, Bool.and_assoc, Bool.and_comm (!leavesB v c)]
      rw [x1, x2, x3, o1, sameV_self]
      rfl
theorem p_Cuts (b : Int) (r e : List T3) (j t n : Int) (c : List T3) (x y z u v w : Int) : P_Cuts b r e j t n c x y z u v w := by
  refine ⟨fun _ => rfl, fun h => ?_⟩
  exact cuts_law (b, (r, (e, ((j, (t, n)), c)))) (x, (y, z)) (u, (v, w)) (usable_valid (not_false_ h))

end Go.Proofs.Ytpdgmlkagfeglaa
