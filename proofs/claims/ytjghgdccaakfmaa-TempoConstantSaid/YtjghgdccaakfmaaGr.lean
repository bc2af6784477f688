/- Plain numbers: laws of visits: they do not come twice, what follows what, what a repeat's times change. No program in sight. -/
import Derived.Test.YtjghgdccaakfmaaGq
namespace Go.RatLaw
open Go.Sy
set_option linter.unusedVariables false
set_option linter.unusedSimpArgs false
theorem vis_map (l : List Int) : (visS l).map fst1 = l := by
  unfold visS visTo
  rw [List.map_map]
  apply List.ext_getElem
  · simp
  · intro i h1 h2
    simp [fst1, List.getD, List.getElem?_eq_getElem h2]
theorem vis_get {l : List Int} {i : Nat} (h : i < l.length) : (visS l).getD i vi0 = (l.getD i 0, ((l.take (i + 1)).count (l.getD i 0) : Int)) := by
  unfold visS visTo
  rw [List.getD_eq_getElem?_getD, List.getElem?_map, List.getElem?_range h]
  rfl
def Rv (a b : Vi) : Prop := a.1 = b.1 → a.2 < b.2
theorem vis_pair (l : List Int) : (visS l).Pairwise Rv := by
  rw [List.pairwise_iff_getElem]
  intro i j hi hj hij
  rw [visS_len] at hi hj
  have ei : (visS l)[i]'(by rw [visS_len]; exact hi) = (visS l).getD i vi0 := by rw [List.getD_eq_getElem?_getD, List.getElem?_eq_getElem]; rfl
  have ej : (visS l)[j]'(by rw [visS_len]; exact hj) = (visS l).getD j vi0 := by rw [List.getD_eq_getElem?_getD, List.getElem?_eq_getElem]; rfl
  rw [ei, ej, vis_get hi, vis_get hj]
  intro he
  simp only at he ⊢
  rw [← he]
  have e1 := takeG (0 : Int) hj
  rw [← he] at e1
  rw [e1, List.count_append, List.count_singleton_self]
  have hsub : (l.take (i + 1)).Sublist (l.take j) := by
    have : l.take (i + 1) = (l.take j).take (i + 1) := by rw [List.take_take, Nat.min_eq_left (by omega)]
    rw [this]; exact List.take_sublist _ _
  have := hsub.count_le (l.getD i 0)
  omega
theorem vis_pos {l : List Int} {v : Vi} (h : v ∈ visS l) : v.1 ∈ l ∧ 1 ≤ v.2 := by
  obtain ⟨i, hi, e⟩ := List.mem_iff_getElem.1 h
  have hi' := hi
  rw [visS_len] at hi'
  have ei : (visS l)[i] = (visS l).getD i vi0 := by rw [List.getD_eq_getElem?_getD, List.getElem?_eq_getElem]; rfl
  rw [← e, ei, vis_get hi']
  refine ⟨memG 0 hi', ?_⟩
  simp only
  rw [takeG (0 : Int) hi', List.count_append, List.count_singleton_self]
  omega
theorem pair_ne {l : List Vi} (h : l.Pairwise Rv) {i j : Nat} (hij : i < j) (hj : j < l.length) : l.getD i vi0 ≠ l.getD j vi0 := by
  rw [List.pairwise_iff_getElem] at h
  have := h i j (by omega) hj hij
  have ei : l[i] = l.getD i vi0 := by rw [List.getD_eq_getElem?_getD, List.getElem?_eq_getElem]; rfl
  have ej : l[j] = l.getD j vi0 := by rw [List.getD_eq_getElem?_getD, List.getElem?_eq_getElem]; rfl
  rw [ei, ej] at this
  intro e
  rw [e] at this
  exact absurd (this rfl) (by omega)
theorem last_fold (x : Int) : ∀ (l : List Vi) (m : List (Int × Int)), mgetI x (l.foldl putL m) = mgetI x m ∨ ∃ a ∈ l, a.1 = x ∧ mgetI x (l.foldl putL m) = some a.2
  | [], m => .inl rfl
  | v :: l, m => by
    rw [List.foldl_cons]
    have hp : mgetI x (putL m v) = if x = v.1 then some v.2 else mgetI x m := mget_bump x v.1 m v.2
    rcases last_fold x l (putL m v) with h | ⟨a, h1, h2, h3⟩
    · rw [h, hp]
      by_cases hx : x = v.1
      · rw [if_pos hx]; exact .inr ⟨v, List.mem_cons_self .., hx.symm, rfl⟩
      · rw [if_neg hx]; exact .inl rfl
    · exact .inr ⟨a, List.mem_cons_of_mem _ h1, h2, h3⟩
theorem last_lt {l : List Vi} {v : Vi} (h : (l ++ [v]).Pairwise Rv) (hv : 1 ≤ v.2) : (mgetI v.1 (lastM l)).getD 0 < v.2 := by
  unfold lastM
  rcases last_fold v.1 l [] with h1 | ⟨a, h1, h2, h3⟩
  · rw [h1]
    have : (mgetI v.1 []).getD 0 = 0 := rfl
    omega
  · rw [h3]
    exact (List.pairwise_append.1 h).2.2 a h1 v (List.mem_singleton.2 rfl) h2
theorem last_snoc (l : List Vi) (v : Vi) : lastM (l ++ [v]) = putL (lastM l) v := by unfold lastM; rw [List.foldl_append]; rfl
/-! what follows what -/
def gchain (R : Int → Int → Prop) : List Int → Prop
  | [] => True
  | [_] => True
  | a :: b :: l => R a b ∧ gchain R (b :: l)
theorem gchain_app {R : Int → Int → Prop} : ∀ {l m : List Int}, gchain R l → gchain R m → (∀ a b, l.getLast? = some a → m.head? = some b → R a b) → gchain R (l ++ m)
  | [], m, _, h, _ => h
  | [a], [], h, _, _ => trivial
  | [a], b :: m, _, h, hc => ⟨hc a b rfl rfl, h⟩
  | a :: b :: l, m, h1, h2, hc => ⟨h1.1, gchain_app (l := b :: l) h1.2 h2 fun x y hx hy => hc x y (by rw [List.getLast?_cons_cons]; exact hx) hy⟩
theorem gchain_get {R : Int → Int → Prop} : ∀ {l : List Int} {i : Nat}, gchain R l → i + 1 < l.length → R (l.getD i 0) (l.getD (i + 1) 0)
  | a :: b :: l, 0, h, _ => h.1
  | a :: b :: l, i + 1, h, hi => by
    have := gchain_get (l := b :: l) (i := i) h.2 (by simpa using hi)
    simpa using this
/-- bars from p to before u, those between them in endings -/
structure Seg (e : List T3) (R : Int → Int → Prop) (p u : Int) (l : List Int) : Prop where
  no : l = [] → skippedB e p u = true
  hd : ∀ b, l.head? = some b → p ≤ b ∧ skippedB e p b = true
  la : ∀ a, l.getLast? = some a → a < u ∧ skippedB e (a + 1) u = true
  inn : ∀ x ∈ l, p ≤ x ∧ x < u
  li : gchain R l
theorem skip_app {e : List T3} {a b c : Int} (h1 : skippedB e a b = true) (h2 : skippedB e b c = true) : skippedB e a c = true := by
  unfold skippedB at *
  rw [List.all_eq_true] at *
  intro x hx
  have hx := mem_intsF.1 hx
  by_cases h : x < b
  · exact h1 x (mem_intsF.2 ⟨hx.1, h⟩)
  · exact h2 x (mem_intsF.2 ⟨by omega, hx.2⟩)
theorem skip_one {e : List T3} {a : Int} : skippedB e a (a + 1) = inEndB e a := by
  unfold skippedB
  rw [intsF_step (by omega), intsF_end (by omega)]
  simp
theorem skip_self {e : List T3} {a b : Int} (h : ¬ a < b) : skippedB e a b = true := by unfold skippedB; rw [intsF_end h]; rfl
theorem last_or {α : Type} {l m : List α} {a : α} (h : (l ++ m).getLast? = some a) : (m = [] ∧ l.getLast? = some a) ∨ (m ≠ [] ∧ m.getLast? = some a) := by
  rw [List.getLast?_append] at h
  cases hm : m.getLast? with
  | none => rw [List.getLast?_eq_none_iff] at hm; subst hm; left; simpa using h
  | some b =>
    rw [hm] at h
    right
    exact ⟨(fun e => by subst e; cases hm), by simpa using h⟩
theorem head_or {α : Type} {l m : List α} {a : α} (h : (l ++ m).head? = some a) : (l = [] ∧ m.head? = some a) ∨ (l ≠ [] ∧ l.head? = some a) := by
  cases l with
  | nil => exact .inl ⟨rfl, h⟩
  | cons x l => exact .inr ⟨by simp, by simpa using h⟩
theorem seg_app {e : List T3} {R : Int → Int → Prop} {p m u : Int} {l k : List Int} (hR : ∀ a b, a < b → skippedB e (a + 1) b = true → R a b) (hpm : p ≤ m) (hmu : m ≤ u) (h1 : Seg e R p m l) (h2 : Seg e R m u k) : Seg e R p u (l ++ k) := by
  refine ⟨fun h => ?_, fun b hb => ?_, fun a ha => ?_, fun x hx => ?_, gchain_app h1.li h2.li fun a b ha hb => ?_⟩
  · have := List.append_eq_nil_iff.1 h
    exact skip_app (h1.no this.1) (h2.no this.2)
  · rcases head_or hb with ⟨h, hb⟩ | ⟨_, hb⟩
    · have := h2.hd b hb
      exact ⟨by omega, skip_app (h1.no h) this.2⟩
    · exact h1.hd b hb
  · rcases last_or ha with ⟨h, ha⟩ | ⟨_, ha⟩
    · have := h1.la a ha
      exact ⟨by omega, skip_app this.2 (h2.no h)⟩
    · exact h2.la a ha
  · rcases List.mem_append.1 hx with hx | hx
    · have := h1.inn x hx; omega
    · have := h2.inn x hx; omega
  · have g1 := h1.la a ha
    have g2 := h2.hd b hb
    exact hR a b (by omega) (skip_app g1.2 g2.2)
theorem seg_again {e : List T3} {R : Int → Int → Prop} {p u : Int} {l k : List Int} (hR : ∀ a b, p ≤ a → a < u → p ≤ b → b < u → skippedB e (a + 1) u = true → skippedB e p b = true → R a b) (h1 : Seg e R p u l) (h2 : Seg e R p u k) : Seg e R p u (l ++ k) := by
  refine ⟨fun h => h1.no (List.append_eq_nil_iff.1 h).1, fun b hb => ?_, fun a ha => ?_, fun x hx => ?_, gchain_app h1.li h2.li fun a b ha hb => ?_⟩
  · rcases head_or hb with ⟨h, hb⟩ | ⟨_, hb⟩
    · exact h2.hd b hb
    · exact h1.hd b hb
  · rcases last_or ha with ⟨h, ha⟩ | ⟨_, ha⟩
    · exact h1.la a ha
    · exact h2.la a ha
  · rcases List.mem_append.1 hx with hx | hx
    · exact h1.inn x hx
    · exact h2.inn x hx
  · have g1 := h1.la a ha
    have g2 := h2.hd b hb
    have g3 := h1.inn a (List.mem_of_getLast? ha)
    have g4 := h2.inn b (List.mem_of_head? hb)
    exact hR a b g3.1 g3.2 g4.1 g4.2 g1.2 g2.2
theorem not_played {e : List T3} {x p : Int} (h : playedB e x p = false) : inEndB e x = true := by
  unfold playedB at h
  simp only [Bool.not_eq_false'] at h
  obtain ⟨q, hq, h⟩ := List.any_eq_true.1 h
  unfold endHit at h
  simp only [Bool.and_eq_true] at h
  exact List.any_eq_true.2 ⟨q, hq, by unfold barIn; rw [Bool.and_eq_true]; exact h.1⟩
theorem seg_nil {e : List T3} {R : Int → Int → Prop} {p u : Int} (h : skippedB e p u = true) : Seg e R p u [] := ⟨fun _ => h, (fun _ h => by cases h), (fun _ h => by cases h), (fun _ h => by cases h), trivial⟩
theorem seg_one {e : List T3} {R : Int → Int → Prop} {p : Int} : Seg e R p (p + 1) [p] :=
  ⟨(fun h => by cases h), (fun b h => by simp at h; subst h; exact ⟨Int.le_refl _, skip_self (by omega)⟩), (fun b h => by simp at h; subst h; exact ⟨by omega, skip_self (by omega)⟩), (fun x h => by simp at h; subst h; omega), trivial⟩
theorem seg_pass {e : List T3} {R : Int → Int → Prop} (hR : ∀ a b, a < b → skippedB e (a + 1) b = true → R a b) (u p : Int) : ∀ (k : Nat) (i : Int), (u - i).toNat = k → i ≤ u → Seg e R i u ((intsF i u).filter fun x => playedB e x p)
  | 0, i, h, hi => by
    rw [intsF_end (by omega)]
    exact seg_nil (skip_self (by omega))
  | k + 1, i, h, hi => by
    have ih := seg_pass hR u p k (i + 1) (by omega) (by omega)
    rw [intsF_step (by omega), List.filter_cons]
    split
    · exact seg_app hR (by omega) (by omega) seg_one ih
    · rename_i hp
      have := seg_app hR (p := i) (m := i + 1) (u := u) (l := []) (by omega) (by omega) (seg_nil (by rw [skip_one]; exact not_played (by simpa using hp))) ih
      simpa using this
theorem seg_passes {e : List T3} {R : Int → Int → Prop} {q : T3} (hR : ∀ a b, a < b → skippedB e (a + 1) b = true → R a b) (hR2 : ∀ a b, q.1 ≤ a → a < q.2.1 → q.1 ≤ b → b < q.2.1 → skippedB e (a + 1) q.2.1 = true → skippedB e q.1 b = true → R a b) (hq : q.1 ≤ q.2.1) :
    ∀ (k : Nat) (p : Int), (q.2.2 + 1 - p).toNat = k + 1 → Seg e R q.1 q.2.1 (passesL e q p)
  | 0, p, h => by
    rw [passes_step (by omega), passes_end (p := p + 1) (by omega), List.append_nil]
    exact seg_pass hR q.2.1 p _ q.1 rfl hq
  | k + 1, p, h => by
    rw [passes_step (by omega)]
    exact seg_again hR2 (seg_pass hR q.2.1 p _ q.1 rfl hq) (seg_passes hR hR2 hq k (p + 1) (by omega))
theorem seg_part {b : Int} {r e : List T3} {ag : Bool} {u : Int} {R : Int → Int → Prop} (hb : repsB r b = true) (hu : ∀ q ∈ r, q.1 < u → q.2.1 ≤ u) (hR : ∀ a b, a < b → skippedB e (a + 1) b = true → R a b)
    (hR2 : ∀ q ∈ r, ∀ a b, q.1 ≤ a → a < q.2.1 → q.1 ≤ b → b < q.2.1 → skippedB e (a + 1) q.2.1 = true → skippedB e q.1 b = true → R a b) : ∀ (k : Nat) (f : Int), (u - f).toNat ≤ k → f ≤ u → Seg e R f u (partS r e f u ag) := by
  have hr : ∀ q ∈ r, q.1 < q.2.1 := fun q hq => (repsB_mem hb q hq).2.1
  intro k
  induction k with
  | zero => intro f h hf; rw [part_end (by omega)]; exact seg_nil (skip_self (by omega))
  | succ k ih =>
    intro f h hfu
    by_cases hf : f < u
    · cases hq : r.find? (startP f) with
      | none =>
        rw [part_none hr hf hq]
        exact seg_app hR (l := [f]) (by omega) (by omega) seg_one (ih (f + 1) (by omega) (by omega))
      | some q =>
        have h1 := List.mem_of_find?_eq_some hq
        obtain ⟨g1, g2, g3, g4, g5⟩ := repsB_mem hb q h1
        have h3 : q.1 = f := by have := List.find?_some hq; simpa [startP] using this
        have h4 := hu q h1 (by omega)
        rw [part_some hr hf hq]
        have hf1 : firstP q ag ≤ q.2.2 := by unfold firstP; split <;> omega
        obtain ⟨z, hz⟩ : ∃ z, (q.2.2 + 1 - firstP q ag).toNat = z + 1 := ⟨(q.2.2 + 1 - firstP q ag).toNat - 1, by omega⟩
        have s1 := seg_passes (e := e) hR (hR2 q h1) (by omega) z (firstP q ag) hz
        rw [h3] at s1
        exact seg_app hR (by omega) (by omega) s1 (ih q.2.1 (by omega) (by omega))
    · rw [part_end hf]; exact seg_nil (skip_self (by omega))
/-! what the times of a repeat change -/
theorem set_find (f m : Int) : ∀ (r : List T3) (i : Nat),
    (r.find? (startP f) = none ∧ (r.set i ((r.getD i t30).1, ((r.getD i t30).2.1, m))).find? (startP f) = none) ∨
    (∃ q, r.find? (startP f) = some q ∧ (r.set i ((r.getD i t30).1, ((r.getD i t30).2.1, m))).find? (startP f) = some q) ∨
    (r.find? (startP f) = some (r.getD i t30) ∧ (r.set i ((r.getD i t30).1, ((r.getD i t30).2.1, m))).find? (startP f) = some ((r.getD i t30).1, ((r.getD i t30).2.1, m)))
  | [], _ => .inl ⟨rfl, rfl⟩
  | a :: r, 0 => by
    simp only [List.set_cons_zero, List.getD_cons_zero, List.find?_cons]
    have e : startP f (a.1, (a.2.1, m)) = startP f a := rfl
    rw [e]
    cases h : startP f a with
    | true => exact .inr (.inr ⟨rfl, rfl⟩)
    | false =>
      cases h2 : r.find? (startP f) with
      | none => exact .inl ⟨rfl, rfl⟩
      | some q => exact .inr (.inl ⟨q, rfl, rfl⟩)
  | a :: r, i + 1 => by
    simp only [List.set_cons_succ, List.getD_cons_succ, List.find?_cons]
    cases h : startP f a with
    | true => exact .inr (.inl ⟨a, rfl, rfl⟩)
    | false => exact set_find f m r i
def outQ (q : T3) (x : Int) : Bool := decide (x < q.1) || decide (x ≥ q.2.1)
theorem out_passes {e : List T3} {q : T3} {p : Int} : (passesL e q p).filter (outQ q) = [] := by
  rw [List.filter_eq_nil_iff]
  intro x hx
  have := passes_mem hx
  unfold outQ
  simp only [Bool.or_eq_true, decide_eq_true_eq]
  omega
theorem part_set {b : Int} {r e : List T3} {ag : Bool} {u m : Int} {i : Nat} (hb : repsB r b = true) (hi : i < r.length) : ∀ (k : Nat) (f : Int), (u - f).toNat ≤ k →
    (partS (r.set i ((r.getD i t30).1, ((r.getD i t30).2.1, m))) e f u ag).filter (outQ (r.getD i t30)) = (partS r e f u ag).filter (outQ (r.getD i t30)) := by
  have hr : ∀ q ∈ r, q.1 < q.2.1 := fun q hq => (repsB_mem hb q hq).2.1
  have hr' : ∀ q ∈ r.set i ((r.getD i t30).1, ((r.getD i t30).2.1, m)), q.1 < q.2.1 := fun q hq => by
    rcases List.mem_or_eq_of_mem_set hq with h | h
    · exact hr q h
    · rw [h]
      have := hr _ (memG t30 hi)
      exact this
  intro k
  induction k with
  | zero => intro f h; rw [part_end (by omega), part_end (by omega)]
  | succ k ih =>
    intro f h
    by_cases hf : f < u
    · rcases set_find f m r i with ⟨h1, h2⟩ | ⟨q, h1, h2⟩ | ⟨h1, h2⟩
      · rw [part_none hr hf h1, part_none hr' hf h2, List.filter_cons, List.filter_cons, ih (f + 1) (by omega)]
      · have h3 : q.1 = f := by have := List.find?_some h1; simpa [startP] using this
        have h4 := hr q (List.mem_of_find?_eq_some h1)
        rw [part_some hr hf h1, part_some hr' hf h2, List.filter_append, List.filter_append, ih q.2.1 (by omega)]
      · have h3 : (r.getD i t30).1 = f := by have := List.find?_some h1; simpa [startP] using this
        have h4 := hr _ (memG t30 hi)
        rw [part_some hr hf h1, part_some hr' hf h2, List.filter_append, List.filter_append, ih (r.getD i t30).2.1 (by omega), out_passes]
        have : (passesL e ((r.getD i t30).1, ((r.getD i t30).2.1, m)) (firstP ((r.getD i t30).1, ((r.getD i t30).2.1, m)) ag)).filter (outQ (r.getD i t30)) = [] := out_passes (q := ((r.getD i t30).1, ((r.getD i t30).2.1, m)))
        rw [this]
    · rw [part_end hf, part_end hf]
/-- visits of some bars alone -/
theorem vis_filter (p : Int → Bool) : ∀ (n : Nat) (l : List Int), l.length = n → (visS l).filter (fun v => p v.1) = visS (l.filter p) := by
  intro n
  induction n with
  | zero => intro l h; rw [List.eq_nil_of_length_eq_zero h]; rfl
  | succ n ih =>
    intro l h
    have hne : l ≠ [] := fun e => by rw [e] at h; cases h
    have e := List.dropLast_concat_getLast hne
    rw [← e, visS_snoc, List.filter_append, ih l.dropLast (by rw [List.length_dropLast]; omega), List.filter_append]
    by_cases hp : p (l.getLast hne) = true
    · rw [List.filter_cons, if_pos hp, List.filter_cons, if_pos hp, List.filter_nil, List.filter_nil, visS_snoc]
      congr 4
      rw [List.count_append, List.count_append, List.count_filter hp]
    · rw [List.filter_cons, if_neg hp, List.filter_cons, if_neg hp]
      simp
end Go.RatLaw
