/- Plain facts for the laws of what lies on a stand. -/
import Derived.Test.YtfbbkknfcmofcaaDoorVq
import Derived.Test.YtfbbkknfcmofcaaDoorSv
namespace Go.Proofs.YtfbbkknfcmofcaaDoor
open Go.Sy Go.RatLaw
set_option linter.unusedVariables false
set_option linter.unusedSimpArgs false
theorem at_valid {s : Int} {l : List En} {h n : Int} (hv : logB s l h = true) (h0 : 0 ≤ n) (h1 : n ≤ 1000000000) : atS s l h n = (laidAt l n, 0) := by
  unfold atS
  rw [if_pos]
  unfold rngB
  rw [hv, decide_eq_true h0, decide_eq_true h1]; rfl
theorem ch_valid {s : Int} {l : List En} {h : Int} (hv : logB s l h = true) : chS s l h = ((rst l l.length).1, 0) := by
  unfold chS; rw [if_pos hv]
theorem same_refl (f : Fr) : sameF f f = true := decide_eq_true rfl
theorem lies_step (f : Fr) (e : En) (z : Int) : hasI (doE f e).2.2.2 z = (e.2.1 == 2 && e.2.2.1 == z || hasI f.2.2.2 z && e.2.1 != 1) := by
  by_cases h1 : e.2.1 = 1
  · rw [do1 h1, h1]; simp [hasI]
  · by_cases h2 : e.2.1 = 2
    · rw [do2 h1 h2, h2, Bool.eq_iff_iff, has_mem, mem_put]
      simp only [Bool.or_eq_true, Bool.and_eq_true, has_mem]
      constructor
      · rintro (e | e)
        · exact .inl ⟨rfl, beq_iff_eq.2 e.symm⟩
        · exact .inr ⟨e, rfl⟩
      · rintro (e | e)
        · exact .inl (eq_of_beq e.2).symm
        · exact .inr e.1
    · have e1 : (e.2.1 == 2) = false := beq_eq_false_iff_ne.2 h2
      have e2 : (e.2.1 != 1) = true := bne_iff_ne.2 h1
      rw [e1, e2]
      by_cases h3 : e.2.1 = 3
      · rw [do3 h1 h2 h3]; simp
      · rw [do4 h1 h2 h3]; simp
theorem lies_fold (z : Int) : ∀ (l : List En) (f : Fr) (b : Bool), hasI f.2.2.2 z = b → hasI (laidG f l).2.2.2 z = l.foldl (fun b e => e.2.1 == 2 && e.2.2.1 == z || b && e.2.1 != 1) b
  | [], f, b, h => h
  | e :: r, f, b, h => by
    rw [List.foldl_cons]
    show hasI (laidG (doE f e) r).2.2.2 z = _
    exact lies_fold z r _ _ (by rw [lies_step, h])
theorem lies_eq (z : Int) (l : List En) : hasI (laidF l).2.2.2 z = liesB z l := lies_fold z l f0 false rfl
theorem lies_snoc {z : Int} {l : List En} {k : Nat} (h : k < l.length) : liesB z (l.take (k + 1)) = ((l.getD k en0).2.1 == 2 && (l.getD k en0).2.2.1 == z || liesB z (l.take k) && (l.getD k en0).2.1 != 1) := by
  unfold liesB
  rw [takeG en0 h, List.foldl_append]; rfl
theorem last_cons (e : En) (r : List En) : lastS (e :: r) = if e.2.1 = 1 ∧ (lastS r).1 = 0 then (e.2.2.1, e.2.2.2.1) else lastS r := rfl
theorem last_nz : ∀ {l : List En}, (∀ e ∈ l, e.2.1 = 1 → e.2.2.1 ≠ 0) → lastS l = (0, 0) ∨ (lastS l).1 ≠ 0
  | [], _ => .inl rfl
  | e :: r, h => by
    rw [last_cons]
    by_cases hc : e.2.1 = 1 ∧ (lastS r).1 = 0
    · rw [if_pos hc]; exact .inr (h e (List.mem_cons_self ..) hc.1)
    · rw [if_neg hc]; exact last_nz fun x hx => h x (List.mem_cons_of_mem _ hx)
theorem do_show {f : Fr} {e : En} : ((doE f e).1, (doE f e).2.1) = if e.2.1 = 1 then (e.2.2.1, e.2.2.2.1) else (f.1, f.2.1) := by
  by_cases h1 : e.2.1 = 1
  · rw [do1 h1, if_pos h1]
  · rw [if_neg h1]
    by_cases h2 : e.2.1 = 2
    · rw [do2 h1 h2]
    · by_cases h3 : e.2.1 = 3
      · rw [do3 h1 h2 h3]
      · rw [do4 h1 h2 h3]
theorem last_laid : ∀ {l : List En} {f : Fr}, (∀ e ∈ l, e.2.1 = 1 → e.2.2.1 ≠ 0) → ((laidG f l).1, (laidG f l).2.1) = if (lastS l).1 = 0 then (f.1, f.2.1) else lastS l
  | [], f, _ => rfl
  | e :: r, f, h => by
    have ih := last_laid (l := r) (f := doE f e) fun x hx => h x (List.mem_cons_of_mem _ hx)
    show ((laidG (doE f e) r).1, (laidG (doE f e) r).2.1) = _
    rw [ih, do_show]
    by_cases h0 : (lastS r).1 = 0
    · by_cases h1 : e.2.1 = 1
      · have e1 : lastS (e :: r) = (e.2.2.1, e.2.2.2.1) := by rw [last_cons, if_pos ⟨h1, h0⟩]
        rw [if_pos h0, if_pos h1, e1, if_neg (h e (List.mem_cons_self ..) h1)]
      · have e1 : lastS (e :: r) = lastS r := by rw [last_cons, if_neg (fun q => h1 q.1)]
        rw [if_pos h0, if_neg h1, e1, if_pos h0]
    · have e1 : lastS (e :: r) = lastS r := by rw [last_cons, if_neg (fun q => h0 q.2)]
      rw [if_neg h0, e1, if_neg h0]
theorem last_F {l : List En} (h : ∀ e ∈ l, e.2.1 = 1 → e.2.2.1 ≠ 0) : ((laidF l).1, (laidF l).2.1) = lastS l := by
  have h1 := last_laid (f := f0) h
  show ((laidG f0 l).1, (laidG f0 l).2.1) = _
  rw [h1]
  rcases last_nz h with h2 | h2
  · rw [h2]; rfl
  · rw [if_neg h2]
theorem know_step {f : Fr} {e : En} : (doE f e).2.2.1 = if e.2.1 = 3 then e.2.2.1 else f.2.2.1 := by
  by_cases h1 : e.2.1 = 1
  · rw [do1 h1, if_neg (by omega)]
  · by_cases h2 : e.2.1 = 2
    · rw [do2 h1 h2, if_neg (by omega)]
    · by_cases h3 : e.2.1 = 3
      · rw [do3 h1 h2 h3, if_pos h3]
      · rw [do4 h1 h2 h3, if_neg h3]
theorem know_fold : ∀ (l : List En) (f : Fr) (a : Int), f.2.2.1 = a → (laidG f l).2.2.1 = l.foldl (fun a e => if e.2.1 = 3 then e.2.2.1 else a) a
  | [], f, a, h => h
  | e :: r, f, a, h => by
    rw [List.foldl_cons]
    show (laidG (doE f e) r).2.2.1 = _
    exact know_fold r _ _ (by rw [know_step, h])
theorem know_eq (l : List En) : (laidF l).2.2.1 = knowK l := know_fold l f0 0 rfl
theorem know_snoc {l : List En} {k : Nat} (h : k < l.length) : knowK (l.take (k + 1)) = if (l.getD k en0).2.1 = 3 then (l.getD k en0).2.2.1 else knowK (l.take k) := by
  unfold knowK
  rw [takeG en0 h, List.foldl_append]; rfl
theorem ent_show {e : En} (h : entB e = true) (h1 : e.2.1 = 1) : e.2.2.1 ≠ 0 := by
  unfold entB entryB at h
  rw [Bool.and_eq_true] at h
  have h2 := h.2
  unfold kindB idB rngB at h2
  rw [if_pos h1] at h2
  simp only [Bool.and_eq_true, decide_eq_true_iff] at h2
  omega
theorem ent_time' {e : En} (h : entB e = true) : 0 ≤ e.1 ∧ e.1 ≤ 1000000000 := by
  unfold entB entryB at h
  rw [Bool.and_eq_true] at h
  exact rngB_i h.1
theorem tm_in {l : List En} {k : Nat} (h : entsFrom 0 l = true) (hk : k < l.length) : 0 ≤ tmE l k ∧ tmE l k ≤ 1000000000 := ent_time' (ents_mem h _ (memG en0 hk))
theorem laidAt_all {l : List En} {n : Int} (h : ∀ e ∈ l, e.1 ≤ n) : laidAt l n = laidF l := by
  unfold laidAt
  rw [List.filter_eq_self.2]
  intro e he
  exact decide_eq_true (h e he)
theorem laidAt_is {l : List En} {k : Nat} {n : Int} (h : entsFrom 0 l = true) (hk : k ≤ l.length) (h1 : ∀ i, i < k → tmE l i ≤ n) (h2 : k < l.length → n < tmE l k) : laidAt l n = laidF (l.take k) := by
  rw [laidAt_cut h, cut_is hk h1 h2]
theorem laidAt_front {l : List En} {k : Nat} {n : Int} (h : entsFrom 0 l = true) (hk : k < l.length) (hn : n < tmE l k) : laidAt (l.take k) n = laidAt l n := by
  unfold laidAt
  have e : l.filter (uptoB n) = (l.take k).filter (uptoB n) := by
    conv => lhs; rw [← List.take_append_drop k l]
    rw [List.filter_append]
    have : (l.drop k).filter (uptoB n) = [] := by
      rw [List.filter_eq_nil_iff]
      intro x hx
      obtain ⟨i, hi⟩ := List.mem_iff_getElem?.1 hx
      rw [List.getElem?_drop] at hi
      have hlt := (List.getElem?_eq_some_iff.1 hi).1
      have ht := ents_sort h (i := k) (j := k + i) (by omega) hlt
      have hx' : tmE l (k + i) = x.1 := by unfold tmE; rw [List.getD_eq_getElem?_getD, hi]; rfl
      unfold uptoB
      simp only [decide_eq_true_iff]
      omega
    rw [this, List.append_nil]
  rw [e]
theorem app_next {s : Int} {l : List En} {k : Nat} {h : Int} (hv : logB s l h = true) (hk : k < l.length) (h60 : l.length ≤ 60) :
    appS s (l.take k) (chainE s (l.take k)) (l.getD k en0) = ((s, (l.take (k + 1), chainE s (l.take (k + 1)))), 0) := by
  have h1 := log_take (k := k) hv
  have he := ents_take (k := k + 1) (log_ents hv).2.2.1
  have hlen : (l.take k).length = k := by rw [List.length_take]; omega
  rw [takeG en0 hk, ents_snoc, lastT0, hlen] at he
  simp only [Bool.and_eq_true] at he
  have ht : lastE (l.take k) k ≤ (l.getD k en0).1 := of_decide_eq_true he.2.2
  have := app_ok (t := (l.getD k en0).1) (k := (l.getD k en0).2.1) (a := (l.getD k en0).2.2.1) (b := (l.getD k en0).2.2.2.1) (c := (l.getD k en0).2.2.2.2.1) (g := (l.getD k en0).2.2.2.2.2) h1 (by omega) he.2.1 (by rw [hlen]; omega)
  rw [takeG en0 hk]
  exact this
/-! changes -/
theorem rst_now {l : List En} (h : entsFrom 0 l = true) {k : Nat} {n : Int} (hk : k ≤ l.length) (h1 : ∀ i, i < k → tmE l i ≤ n) (h2 : k < l.length → n < tmE l k) : laidAt l n = (rst l k).2 := by
  cases k with
  | zero => rw [laidAt_is h hk h1 h2]; rfl
  | succ k =>
    show _ = laidAt l (tmE l k)
    rw [laidAt_is h hk h1 h2, laidAt_is h hk (fun i hi => ents_sort h (by omega) (by omega)) (fun hl => ?_)]
    have := h1 k (by omega)
    have := h2 hl
    omega
/-- all that is known of the changes up to an entry -/
theorem rst_inv {l : List En} (h : entsFrom 0 l = true) : ∀ k, k ≤ l.length →
    (∀ i, i < (rst l k).1.length → ∃ j, j < k ∧ (rst l k).1.getD i 0 = tmE l j) ∧
    (∀ i, i + 1 < (rst l k).1.length → (rst l k).1.getD i 0 < (rst l k).1.getD (i + 1) 0) ∧
    (∀ i, i < (rst l k).1.length → laidAt l ((rst l k).1.getD i 0 - 1) ≠ laidAt l ((rst l k).1.getD i 0)) ∧
    (rst l k).2 = (if (rst l k).1.length = 0 then f0 else laidAt l ((rst l k).1.getD ((rst l k).1.length - 1) 0))
  | 0, _ => ⟨fun i hi => absurd hi (by simp [rst]), fun i hi => absurd hi (by simp [rst]), fun i hi => absurd hi (by simp [rst]), rfl⟩
  | k + 1, hk => by
    obtain ⟨i1, i2, i3, i4⟩ := rst_inv h k (by omega)
    have hS : rst l (k + 1) = stepC (rst l k) (tmE l k) (laidAt l (tmE l k)) := rfl
    by_cases hc : (rst l k).2 = laidAt l (tmE l k)
    · have hS : rst l (k + 1) = ((rst l k).1, laidAt l (tmE l k)) := by rw [hS]; unfold stepC; rw [if_pos hc]
      rw [hS]
      refine ⟨fun i hi => ?_, i2, i3, by rw [← hc]; exact i4⟩
      obtain ⟨j, hj, e⟩ := i1 i hi
      exact ⟨j, by omega, e⟩
    · have hS : rst l (k + 1) = ((rst l k).1 ++ [tmE l k], laidAt l (tmE l k)) := by rw [hS]; unfold stepC; rw [if_neg hc]
      have hold : ∀ i, i < (rst l k).1.length → ((rst l k).1 ++ [tmE l k]).getD i 0 = (rst l k).1.getD i 0 := fun i hi => by
        rw [List.getD_eq_getElem?_getD, List.getElem?_append_left hi, ← List.getD_eq_getElem?_getD]
      have hnew : ((rst l k).1 ++ [tmE l k]).getD (rst l k).1.length 0 = tmE l k := by
        rw [List.getD_eq_getElem?_getD, List.getElem?_append_right (Nat.le_refl _)]; simp
      have hstrict : ∀ j, j < k → tmE l j < tmE l k := fun j hj => by
        have hs := ents_sort h (i := j) (j := k) (by omega) (by omega)
        rcases Int.lt_or_eq_of_le hs with z | z
        · exact z
        · exfalso
          apply hc
          cases k with
          | zero => omega
          | succ k =>
            have s1 := ents_sort h (i := j) (j := k) (by omega) (by omega)
            have s2 := ents_sort h (i := k) (j := k + 1) (by omega) (by omega)
            have : tmE l k = tmE l (k + 1) := by omega
            rw [← this]; rfl
      have hprev : laidAt l (tmE l k - 1) = (rst l k).2 := rst_now h (by omega) (fun i hi => by have := hstrict i hi; omega) (fun _ => by omega)
      rw [hS]
      simp only [List.length_append, List.length_cons, List.length_nil, Nat.zero_add]
      refine ⟨fun i hi => ?_, fun i hi => ?_, fun i hi => ?_, ?_⟩
      · by_cases hi' : i < (rst l k).1.length
        · obtain ⟨j, hj, e⟩ := i1 i hi'
          exact ⟨j, by omega, by rw [hold i hi']; exact e⟩
        · have : i = (rst l k).1.length := by omega
          exact ⟨k, by omega, by rw [this]; exact hnew⟩
      · by_cases hi' : i + 1 < (rst l k).1.length
        · rw [hold i (by omega), hold _ hi']; exact i2 i hi'
        · have e : i + 1 = (rst l k).1.length := by omega
          rw [hold i (by omega), e, hnew]
          obtain ⟨j, hj, ej⟩ := i1 i (by omega)
          rw [ej]; exact hstrict j hj
      · by_cases hi' : i < (rst l k).1.length
        · rw [hold i hi']; exact i3 i hi'
        · have : i = (rst l k).1.length := by omega
          rw [this, hnew, hprev]; exact hc
      · rw [if_neg (by omega), Nat.add_sub_cancel, hnew]
/-- later changes are behind the earlier ones -/
theorem rst_pre {l : List En} {k : Nat} : ∀ j, (∀ i, i < (rst l k).1.length → (rst l (k + j)).1.getD i 0 = (rst l k).1.getD i 0) ∧ (rst l k).1.length ≤ (rst l (k + j)).1.length ∧
    ∀ i, (rst l k).1.length ≤ i → i < (rst l (k + j)).1.length → ∃ m, k ≤ m ∧ m < k + j ∧ (rst l (k + j)).1.getD i 0 = tmE l m
  | 0 => ⟨fun _ _ => rfl, Nat.le_refl _, fun i h1 h2 => absurd h2 (by simpa using h1)⟩
  | j + 1 => by
    obtain ⟨g1, g2, g3⟩ := rst_pre (l := l) (k := k) j
    have hS : rst l (k + (j + 1)) = stepC (rst l (k + j)) (tmE l (k + j)) (laidAt l (tmE l (k + j))) := rfl
    by_cases hc : (rst l (k + j)).2 = laidAt l (tmE l (k + j))
    · have hS : (rst l (k + (j + 1))).1 = (rst l (k + j)).1 := by rw [hS]; unfold stepC; rw [if_pos hc]
      rw [hS]
      refine ⟨g1, g2, fun i h1 h2 => ?_⟩
      obtain ⟨m, m1, m2, e⟩ := g3 i h1 h2
      exact ⟨m, m1, by omega, e⟩
    · have hS : (rst l (k + (j + 1))).1 = (rst l (k + j)).1 ++ [tmE l (k + j)] := by rw [hS]; unfold stepC; rw [if_neg hc]
      have hold : ∀ i, i < (rst l (k + j)).1.length → ((rst l (k + j)).1 ++ [tmE l (k + j)]).getD i 0 = (rst l (k + j)).1.getD i 0 := fun i hi => by
        rw [List.getD_eq_getElem?_getD, List.getElem?_append_left hi, ← List.getD_eq_getElem?_getD]
      rw [hS]
      refine ⟨fun i hi => by rw [hold i (by omega)]; exact g1 i hi, by simp; omega, fun i h1 h2 => ?_⟩
      by_cases hi' : i < (rst l (k + j)).1.length
      · obtain ⟨m, m1, m2, e⟩ := g3 i h1 hi'
        exact ⟨m, m1, by omega, by rw [hold i hi']; exact e⟩
      · have e : i = (rst l (k + j)).1.length := by simp at h2; omega
        refine ⟨k + j, by omega, by omega, ?_⟩
        rw [e, List.getD_eq_getElem?_getD, List.getElem?_append_right (Nat.le_refl _)]; simp
theorem want_all {l : List En} {ts : List Int} {n : Int} : ∀ {m : Nat}, (∀ i, i < m → ts.getD i 0 ≤ n) → wantG l ts n m = if m = 0 then f0 else laidAt l (ts.getD (m - 1) 0)
  | 0, _ => rfl
  | m + 1, h => by
    unfold wantG
    rw [if_pos (h m (by omega)), if_neg (by omega)]; rfl
theorem want_none {l : List En} {ts : List Int} {n : Int} {m : Nat} : ∀ {j : Nat}, (∀ i, m ≤ i → i < m + j → n < ts.getD i 0) → wantG l ts n (m + j) = wantG l ts n m
  | 0, _ => rfl
  | j + 1, h => by
    show (if ts.getD (m + j) 0 ≤ n then _ else wantG l ts n (m + j)) = _
    have := h (m + j) (by omega) (by omega)
    rw [if_neg (by omega), want_none fun i h1 h2 => h i h1 (by omega)]
theorem want_end {l : List En} (h : entsFrom 0 l = true) (n : Int) : wantG l (rst l l.length).1 n (rst l l.length).1.length = laidAt l n := by
  obtain ⟨k, hk⟩ : ∃ k, k = cutN n l := ⟨_, rfl⟩
  have hkl : k ≤ l.length := by rw [hk]; exact cut_le n l
  have hc : (∀ i, i < k → tmE l i ≤ n) ∧ (k < l.length → n < tmE l k) := by
    rw [hk]
    clear hk hkl h
    induction l with
    | nil => exact ⟨fun i hi => by simp [cutN] at hi, fun hi => by simp at hi⟩
    | cons x r ih =>
      by_cases hx : uptoB n x = true
      · have hcut : cutN n (x :: r) = cutN n r + 1 := by unfold cutN; rw [List.takeWhile_cons_of_pos hx]; rfl
        rw [hcut]
        refine ⟨fun i hi => ?_, fun hi => ih.2 (by simpa using hi)⟩
        cases i with
        | zero => exact of_decide_eq_true hx
        | succ i => exact ih.1 i (by omega)
      · have hcut : cutN n (x :: r) = 0 := by unfold cutN; rw [List.takeWhile_cons_of_neg hx]; rfl
        rw [hcut]
        refine ⟨fun i hi => by omega, fun _ => ?_⟩
        have : ¬ x.1 ≤ n := fun q => hx (decide_eq_true q)
        show n < x.1
        omega
  obtain ⟨g1, g2, g3⟩ := rst_pre (l := l) (k := k) (l.length - k)
  rw [show k + (l.length - k) = l.length by omega] at g1 g2 g3
  obtain ⟨i1, i2, i3, i4⟩ := rst_inv h k hkl
  have hle : ∀ i, i < (rst l k).1.length → (rst l l.length).1.getD i 0 ≤ n := fun i hi => by
    rw [g1 i hi]
    obtain ⟨j, hj, e⟩ := i1 i hi
    rw [e]; exact hc.1 j hj
  have hgt : ∀ i, (rst l k).1.length ≤ i → i < (rst l k).1.length + ((rst l l.length).1.length - (rst l k).1.length) → n < (rst l l.length).1.getD i 0 := fun i h1 h2 => by
    obtain ⟨m, m1, m2, e⟩ := g3 i h1 (by omega)
    rw [e]
    have hkl' : k < l.length := by omega
    have := ents_sort h (i := k) (j := m) m1 (by omega)
    have := hc.2 hkl'
    omega
  have hw := want_none (l := l) hgt
  rw [show (rst l k).1.length + ((rst l l.length).1.length - (rst l k).1.length) = (rst l l.length).1.length by omega] at hw
  rw [hw, want_all hle, rst_now h hkl hc.1 hc.2, i4]
  by_cases h0 : (rst l k).1.length = 0
  · rw [if_pos h0, if_pos h0]
  · rw [if_neg h0, if_neg h0, g1 _ (by omega)]
end Go.Proofs.YtfbbkknfcmofcaaDoor
