/- Plain facts of what lies on a stand. No program in sight. -/
import Derived.Test.YtfbbkknfcmofcaaDoorVp
namespace Go.RatLaw
open Go.Sy
set_option linter.unusedVariables false
set_option linter.unusedSimpArgs false
theorem below_le (n : Int) : ∀ l : List Int, below l n ≤ l.length
  | [] => Nat.le_refl _
  | x :: r => by
    have := below_le n r
    unfold below
    split
    · simp; omega
    · simp
theorem below_lt {n : Int} : ∀ {l : List Int} {i : Nat}, i < below l n → l.getD i 0 < n
  | [], i, h => by simp [below] at h
  | x :: r, i, h => by
    unfold below at h
    split at h
    · rename_i hx
      cases i with
      | zero => simpa using hx
      | succ i => simpa using below_lt (l := r) (i := i) (by omega)
    · omega
theorem rise_get : ∀ {l : List Int}, rise l → ∀ {i j : Nat}, i < j → j < l.length → l.getD i 0 < l.getD j 0
  | [], _, _, _, _, h => by simp at h
  | x :: r, h, 0, j + 1, _, hj => by
    have hj' : j < r.length := by simpa using hj
    have : r.getD j 0 ∈ r := memG 0 hj'
    simpa using h.1 _ this
  | x :: r, h, i + 1, j + 1, hij, hj => by
    have := rise_get h.2 (i := i) (j := j) (by omega) (by simpa using hj)
    simpa using this
theorem below_ge {n : Int} : ∀ {l : List Int} {i : Nat}, rise l → below l n ≤ i → i < l.length → n ≤ l.getD i 0
  | [], i, _, _, h => by simp at h
  | x :: r, i, hr, hb, hi => by
    unfold below at hb
    split at hb
    · cases i with
      | zero => omega
      | succ i => simpa using below_ge hr.2 (by omega) (by simpa using hi)
    · rename_i hx
      have hx : n ≤ x := by omega
      cases i with
      | zero => simpa using hx
      | succ i =>
        have := hr.1 _ (memG (d := (0 : Int)) (l := r) (x := i) (by simpa using hi))
        show n ≤ r.getD i 0
        omega
theorem has_mem {l : List Int} {n : Int} : hasI l n = true ↔ n ∈ l := by unfold hasI; simp
theorem has_no {l : List Int} {n : Int} : hasI l n = false ↔ n ∉ l := by rw [← has_mem]; simp
theorem has_below {n : Int} : ∀ {l : List Int}, rise l → (hasI l n = true ↔ below l n < l.length ∧ l.getD (below l n) 0 = n)
  | [], _ => by simp [hasI, below]
  | x :: r, h => by
    have ih := has_below (n := n) h.2
    rw [has_mem] at ih ⊢
    unfold below
    by_cases hx : x < n
    · rw [if_pos hx, List.mem_cons, ih]
      simp
      intro e; omega
    · rw [if_neg hx]
      simp only [List.mem_cons, List.length_cons]
      constructor
      · rintro (e | e)
        · exact ⟨by omega, by simp [e]⟩
        · exact absurd (h.1 n e) hx
      · intro e; left; simpa using e.2.symm
theorem ins_put {n : Int} : ∀ {l : List Int}, rise l → hasI l n = false → l.take (below l n) ++ n :: l.drop (below l n) = putS l n
  | [], _, _ => rfl
  | x :: r, h, hn => by
    rw [has_no] at hn
    simp only [List.mem_cons, not_or] at hn
    unfold below putS
    rw [if_neg hn.1]
    by_cases hx : x < n
    · rw [if_pos hx, if_neg (by omega), List.take_succ_cons, List.drop_succ_cons, List.cons_append, ins_put h.2 (has_no.2 hn.2)]
    · rw [if_neg hx, if_pos (by omega)]; rfl
theorem put_has {n : Int} : ∀ {l : List Int}, rise l → hasI l n = true → putS l n = l
  | [], _, h => by simp [hasI] at h
  | x :: r, h, hn => by
    rw [has_mem, List.mem_cons] at hn
    unfold putS
    by_cases e : n = x
    · rw [if_pos e]
    · rw [if_neg e]
      have hm : n ∈ r := hn.resolve_left e
      have := h.1 n hm
      rw [if_neg (by omega), put_has h.2 (has_mem.2 hm)]
theorem mem_put {n m : Int} : ∀ {l : List Int}, m ∈ putS l n ↔ m = n ∨ m ∈ l
  | [] => by simp [putS]
  | x :: r => by
    unfold putS
    split
    · rename_i e; subst e; simp
    · split
      · simp
      · simp only [List.mem_cons, mem_put (l := r)]
        constructor
        · rintro (h | h | h) <;> simp [h]
        · rintro (h | h | h) <;> simp [h]
theorem rise_put {n : Int} : ∀ {l : List Int}, rise l → rise (putS l n)
  | [], _ => ⟨fun _ h => (by cases h), trivial⟩
  | x :: r, h => by
    unfold putS
    split
    · exact h
    · rename_i e
      split
      · rename_i e2
        refine ⟨fun y hy => ?_, h⟩
        rcases List.mem_cons.1 hy with rfl | hy
        · exact e2
        · have := h.1 y hy; omega
      · rename_i e2
        refine ⟨fun y hy => ?_, rise_put h.2⟩
        rcases mem_put.1 hy with rfl | hy
        · omega
        · exact h.1 y hy
theorem len_put {n : Int} : ∀ {l : List Int}, (putS l n).length ≤ l.length + 1
  | [] => by simp [putS]
  | x :: r => by
    have := len_put (n := n) (l := r)
    unfold putS
    split
    · simp
    · split
      · simp
      · simp; omega
def putF (n : Int) (p : List Int × Bool) (x : Int) : List Int × Bool := if p.2 = false ∧ n < x then (p.1 ++ [n] ++ [x], true) else (p.1 ++ [x], p.2)
theorem putSt_fold (n : Int) (l : List Int) : putSt n l = l.foldl (putF n) ([], false) := rfl
theorem putF_in {n : Int} : ∀ {l acc : List Int}, l.foldl (putF n) (acc, true) = (acc ++ l, true)
  | [], acc => by simp
  | x :: r, acc => by
    rw [List.foldl_cons]
    have : putF n (acc, true) x = (acc ++ [x], true) := by unfold putF; rw [if_neg (by simp)]
    rw [this, putF_in]; simp
theorem putF_end {n : Int} : ∀ {l acc : List Int}, hasI l n = false → (l.foldl (putF n) (acc, false)).1 ++ (if (l.foldl (putF n) (acc, false)).2 then [] else [n]) = acc ++ putS l n
  | [], acc, _ => by simp [putS]
  | x :: r, acc, h => by
    rw [has_no] at h
    simp only [List.mem_cons, not_or] at h
    rw [List.foldl_cons]
    unfold putS
    rw [if_neg h.1]
    by_cases hx : n < x
    · have : putF n (acc, false) x = (acc ++ [n] ++ [x], true) := by unfold putF; rw [if_pos ⟨rfl, hx⟩]
      rw [this, putF_in, if_pos rfl, if_pos hx]; simp
    · have : putF n (acc, false) x = (acc ++ [x], false) := by unfold putF; rw [if_neg (fun q => hx q.2)]
      rw [this, if_neg hx, putF_end (has_no.2 h.2)]; simp
theorem putSt_end {n : Int} {l : List Int} (h : hasI l n = false) : (putSt n l).1 ++ (if (putSt n l).2 then [] else [n]) = putS l n := by
  rw [putSt_fold, putF_end h]; rfl
theorem putSt_snoc {n : Int} {l : List Int} {k : Nat} (h : k < l.length) : putSt n (l.take (k + 1)) = putF n (putSt n (l.take k)) (l.getD k 0) := by
  rw [putSt_fold, putSt_fold, takeG 0 h, List.foldl_append]; rfl
theorem putSt_len {n : Int} : ∀ {l : List Int}, (putSt n l).1.length ≤ 2 * l.length := by
  intro l
  rw [putSt_fold]
  have key : ∀ (l : List Int) (p : List Int × Bool), (l.foldl (putF n) p).1.length ≤ p.1.length + 2 * l.length := by
    intro l
    induction l with
    | nil => intro p; simp
    | cons x r ih =>
      intro p
      rw [List.foldl_cons]
      have h1 := ih (putF n p x)
      have h2 : (putF n p x).1.length ≤ p.1.length + 2 := by unfold putF; split <;> simp
      simp only [List.length_cons]; omega
  simpa using key l ([], false)
theorem has_take {n : Int} {l : List Int} {k : Nat} (h : k < l.length) (h1 : hasI (l.take k) n = false) (h2 : l.getD k 0 ≠ n) : hasI (l.take (k + 1)) n = false := by
  rw [has_no] at h1 ⊢
  rw [takeG 0 h]
  simp only [List.mem_append, List.mem_singleton, not_or]
  exact ⟨h1, fun e => h2 e.symm⟩
/-! fronts -/
theorem laid_snoc (f : Fr) (l : List En) (e : En) : laidG f (l ++ [e]) = doE (laidG f l) e := by unfold laidG; rw [List.foldl_append]; rfl
theorem laid_take (f : Fr) {l : List En} {k : Nat} (h : k < l.length) : laidG f (l.take (k + 1)) = doE (laidG f (l.take k)) (l.getD k en0) := by rw [takeG en0 h, laid_snoc]
theorem laid_app (f : Fr) (l m : List En) : laidG f (l ++ m) = laidG (laidG f l) m := List.foldl_append
theorem do1 {f : Fr} {e : En} (h : e.2.1 = 1) : doE f e = (e.2.2.1, (e.2.2.2.1, (f.2.2.1, []))) := by unfold doE; rw [if_pos h]
theorem do2 {f : Fr} {e : En} (h1 : e.2.1 ≠ 1) (h : e.2.1 = 2) : doE f e = (f.1, (f.2.1, (f.2.2.1, putS f.2.2.2 e.2.2.1))) := by unfold doE; rw [if_neg h1, if_pos h]
theorem do3 {f : Fr} {e : En} (h1 : e.2.1 ≠ 1) (h2 : e.2.1 ≠ 2) (h : e.2.1 = 3) : doE f e = (f.1, (f.2.1, (e.2.2.1, f.2.2.2))) := by unfold doE; rw [if_neg h1, if_neg h2, if_pos h]
theorem do4 {f : Fr} {e : En} (h1 : e.2.1 ≠ 1) (h2 : e.2.1 ≠ 2) (h : e.2.1 ≠ 3) : doE f e = f := by unfold doE; rw [if_neg h1, if_neg h2, if_neg h]
theorem do_rise {f : Fr} {e : En} (h : rise f.2.2.2) : rise (doE f e).2.2.2 := by
  unfold doE
  split
  · trivial
  · split
    · exact rise_put h
    · split <;> exact h
theorem laid_rise {f : Fr} : ∀ {l : List En}, rise f.2.2.2 → rise (laidG f l).2.2.2 := by
  intro l
  unfold laidG
  induction l generalizing f with
  | nil => exact id
  | cons e r ih => intro h; rw [List.foldl_cons]; exact ih (do_rise h)
theorem do_len {f : Fr} {e : En} : (doE f e).2.2.2.length ≤ f.2.2.2.length + 1 := by
  unfold doE
  split
  · simp
  · split
    · exact len_put
    · split <;> simp
theorem laid_len {f : Fr} : ∀ {l : List En}, (laidG f l).2.2.2.length ≤ f.2.2.2.length + l.length := by
  intro l
  unfold laidG
  induction l generalizing f with
  | nil => simp
  | cons e r ih =>
    rw [List.foldl_cons]
    have h1 := ih (f := doE f e)
    have h2 := do_len (f := f) (e := e)
    simp only [List.length_cons]; omega
/-! times -/
theorem ents_le : ∀ {l : List En} {t : Int}, entsFrom t l = true → ∀ e ∈ l, t ≤ e.1
  | [], _, _, _, h => by cases h
  | x :: l, t, h, e, he => by
    simp only [entsFrom, Bool.and_eq_true, decide_eq_true_iff] at h
    rcases List.mem_cons.1 he with rfl | he
    · exact h.1.2
    · have h1 := ents_le h.2 e he
      have h2 : t ≤ x.1 := h.1.2
      omega
theorem ents_sort : ∀ {l : List En} {t : Int}, entsFrom t l = true → ∀ {i j : Nat}, i ≤ j → j < l.length → tmE l i ≤ tmE l j
  | [], _, _, _, _, _, h => by simp at h
  | x :: l, t, h, 0, 0, _, _ => Int.le_refl _
  | x :: l, t, h, 0, j + 1, _, hj => by
    simp only [entsFrom, Bool.and_eq_true] at h
    have := ents_le h.2 _ (memG en0 (l := l) (x := j) (by simpa using hj))
    simpa [tmE] using this
  | x :: l, t, h, i + 1, j + 1, hij, hj => by
    simp only [entsFrom, Bool.and_eq_true] at h
    have := ents_sort h.2 (i := i) (j := j) (by omega) (by simpa using hj)
    simpa [tmE] using this
/-- how many come up to a time -/
def cutN (n : Int) (l : List En) : Nat := (l.takeWhile (uptoB n)).length
theorem filter_cut {n : Int} : ∀ {l : List En} {t : Int}, entsFrom t l = true → l.filter (uptoB n) = l.take (cutN n l)
  | [], _, _ => rfl
  | x :: l, t, h => by
    simp only [entsFrom, Bool.and_eq_true] at h
    have ih := filter_cut (n := n) h.2
    unfold cutN at ih ⊢
    by_cases hx : uptoB n x = true
    · rw [List.filter_cons_of_pos hx, List.takeWhile_cons_of_pos hx, ih]; rfl
    · rw [List.filter_cons_of_neg hx, List.takeWhile_cons_of_neg hx]
      simp only [List.length_nil, List.take_zero]
      rw [List.filter_eq_nil_iff]
      intro e he
      have h1 := ents_le h.2 e he
      unfold uptoB at hx ⊢
      simp only [decide_eq_true_iff] at hx ⊢
      omega
theorem gidx_cut {n : Int} : ∀ (l : List En), gidx (laterB n) l = if cutN n l = l.length then -1 else (cutN n l : Int)
  | [] => rfl
  | x :: l => by
    have ih := gidx_cut (n := n) l
    unfold gidx
    by_cases hx : uptoB n x = true
    · have hl : laterB n x = false := by
        unfold uptoB at hx; unfold laterB
        have := of_decide_eq_true hx
        exact decide_eq_false (by omega)
      have hc : cutN n (x :: l) = cutN n l + 1 := by unfold cutN; rw [List.takeWhile_cons_of_pos hx]; rfl
      rw [hl, if_neg (by simp), ih, hc]
      by_cases he : cutN n l = l.length
      · rw [if_pos he, if_pos (by omega), if_pos (by simp [he])]
      · rw [if_neg he, if_neg (by omega), if_neg (by simp; omega)]; omega
    · have hl : laterB n x = true := by
        unfold uptoB at hx; unfold laterB
        exact decide_eq_true (by simp at hx; omega)
      have hc : cutN n (x :: l) = 0 := by unfold cutN; rw [List.takeWhile_cons_of_neg hx]; rfl
      rw [hl, if_pos rfl, hc, if_neg (by simp)]; rfl
theorem cut_le (n : Int) (l : List En) : cutN n l ≤ l.length := (List.takeWhile_sublist _).length_le
theorem laidAt_cut {n t : Int} {l : List En} (h : entsFrom t l = true) : laidAt l n = laidF (l.take (cutN n l)) := by unfold laidAt; rw [filter_cut h]
/-- the entries up to a time are those ahead of k -/
theorem cut_is {n : Int} : ∀ {l : List En} {k : Nat}, k ≤ l.length → (∀ i, i < k → tmE l i ≤ n) → (k < l.length → n < tmE l k) → cutN n l = k
  | [], k, hk, _, _ => by simp at hk; subst hk; rfl
  | x :: l, 0, hk, _, h2 => by
    have := h2 (by simp)
    unfold cutN
    rw [List.takeWhile_cons_of_neg]; rfl
    unfold uptoB; simp [tmE] at this; simp; omega
  | x :: l, k + 1, hk, h1, h2 => by
    have h0 := h1 0 (by omega)
    have ih := cut_is (n := n) (l := l) (k := k) (by simpa using hk) (fun i hi => by simpa [tmE] using h1 (i + 1) (by omega)) (fun hi => by simpa [tmE] using h2 (by simpa using hi))
    unfold cutN at ih ⊢
    rw [List.takeWhile_cons_of_pos, List.length_cons, ih]
    unfold uptoB; simpa [tmE] using h0
/-- a time's entries end there -/
def endB (l : List En) (k : Nat) : Prop := k = l.length ∨ tmE l k > tmE l (k - 1)
theorem laidAt_tm {l : List En} {k : Nat} (h : entsFrom 0 l = true) (hk : k < l.length) (he : endB l (k + 1)) : laidAt l (tmE l k) = laidF (l.take (k + 1)) := by
  rw [laidAt_cut h, cut_is (k := k + 1) hk (fun i hi => ents_sort h (by omega) hk) (fun hi => ?_)]
  rcases he with he | he
  · omega
  · exact he
theorem step_twice (x : List Int × Fr) (t : Int) (f : Fr) : stepC (stepC x t f) t f = stepC x t f := by unfold stepC; simp
theorem rst_pst {l : List En} (h : entsFrom 0 l = true) : ∀ k, k ≤ l.length → (k = 0 ∨ endB l k → rst l k = pst l f0 ([], f0) k) ∧ (¬ (k = 0 ∨ endB l k) → rst l k = stepC (pst l f0 ([], f0) k) (tmE l (k - 1)) (laidAt l (tmE l (k - 1))))
  | 0, _ => ⟨fun _ => rfl, fun h => absurd (.inl rfl) h⟩
  | k + 1, hk => by
    obtain ⟨h1, h2⟩ := rst_pst h k (by omega)
    have key : rst l (k + 1) = stepC (pst l f0 ([], f0) k) (tmE l k) (laidAt l (tmE l k)) := by
      show stepC (rst l k) _ _ = _
      by_cases hb : k = 0 ∨ endB l k
      · rw [h1 hb]
      · rw [h2 hb]
        simp only [not_or] at hb
        have hs := ents_sort h (i := k - 1) (j := k) (by omega) (by omega)
        have : tmE l (k - 1) = tmE l k := by
          have : ¬ tmE l k > tmE l (k - 1) := fun q => hb.2 (.inr q)
          omega
        rw [this, step_twice]
    rw [key]
    show _ ∧ _
    have hp : pst l f0 ([], f0) (k + 1) = if k + 1 = l.length ∨ tmE l (k + 1) > tmE l k then stepC (pst l f0 ([], f0) k) (tmE l k) (laidG f0 (l.take (k + 1))) else pst l f0 ([], f0) k := rfl
    rw [hp]
    have he : (k + 1 = 0 ∨ endB l (k + 1)) ↔ (k + 1 = l.length ∨ tmE l (k + 1) > tmE l k) := by
      unfold endB
      simp
    refine ⟨fun hb => ?_, fun hb => ?_⟩
    · rw [if_pos (he.1 hb), laidAt_tm h (by omega) (hb.resolve_left (by omega))]; rfl
    · rw [if_neg (fun q => hb (he.2 q))]; rfl
theorem pst_all {l : List En} (h : entsFrom 0 l = true) : pst l f0 ([], f0) l.length = rst l l.length := ((rst_pst h l.length (Nat.le_refl _)).1 (.inr (.inl rfl))).symm
theorem pst_len {l : List En} {f : Fr} {x : List Int × Fr} : ∀ k, (pst l f x k).1.length ≤ x.1.length + k
  | 0 => Nat.le_refl _
  | k + 1 => by
    have := pst_len (l := l) (f := f) (x := x) k
    unfold pst stepC
    split
    · simp only
      split
      · omega
      · simp; omega
    · omega
theorem rst_len {l : List En} : ∀ k, (rst l k).1.length ≤ k
  | 0 => Nat.le_refl _
  | k + 1 => by
    have := rst_len (l := l) k
    unfold rst stepC
    simp only
    split
    · omega
    · simp; omega
theorem log_ents {s : Int} {l : List En} {h : Int} (e : logB s l h = true) : idB s = true ∧ l.length ≤ 5000 ∧ entsFrom 0 l = true ∧ h = chainE s l := by
  unfold logB at e
  simp only [Bool.and_eq_true, decide_eq_true_iff] at e
  exact ⟨e.1.1.1, e.1.1.2, e.1.2, e.2⟩
theorem laidAt_snoc {l : List En} {k : Nat} {n : Int} (h : k < l.length) : laidAt (l.take (k + 1)) n = if tmE l k ≤ n then doE (laidAt (l.take k) n) (l.getD k en0) else laidAt (l.take k) n := by
  unfold laidAt
  rw [takeG en0 h, List.filter_append]
  unfold tmE
  by_cases hx : (l.getD k en0).1 ≤ n
  · have : uptoB n (l.getD k en0) = true := decide_eq_true hx
    rw [if_pos hx, List.filter_cons_of_pos this, List.filter_nil]
    exact laid_snoc _ _ _
  · have : ¬ uptoB n (l.getD k en0) = true := fun q => hx (of_decide_eq_true q)
    rw [if_neg hx, List.filter_cons_of_neg this, List.filter_nil, List.append_nil]
theorem laidAt_rise {l : List En} {n : Int} : rise (laidAt l n).2.2.2 := laid_rise trivial
theorem laidAt_len {l : List En} {n : Int} : (laidAt l n).2.2.2.length ≤ l.length := by
  have h1 := laid_len (f := f0) (l := l.filter (uptoB n))
  have h2 := List.length_filter_le (uptoB n) l
  unfold laidAt laidF
  have : f0.2.2.2.length = 0 := rfl
  omega
end Go.RatLaw
