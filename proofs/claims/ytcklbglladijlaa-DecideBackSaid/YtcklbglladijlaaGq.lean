/- Plain numbers: lemmas on forms and on the order of their bars. No program in sight. -/
import Derived.Test.YtcklbglladijlaaGp
namespace Go.RatLaw
open Go.Sy
set_option linter.unusedVariables false
set_option linter.unusedSimpArgs false
theorem tnG (x : Nat) : ((x : Int)).toNat = x := Int.toNat_natCast x
theorem dropG {α : Type} (d : α) {l : List α} {x : Nat} (h : x < l.length) : l.drop x = l.getD x d :: l.drop (x + 1) := by
 rw [List.getD_eq_getElem?_getD, List.getElem?_eq_getElem h, Option.getD_some, List.drop_eq_getElem_cons h]
theorem takeG {α : Type} (d : α) {l : List α} {x : Nat} (h : x < l.length) : l.take (x + 1) = l.take x ++ [l.getD x d] := by
 rw [List.take_add_one, List.getD_eq_getElem?_getD, List.getElem?_eq_getElem h]; rfl
theorem memG {α : Type} (d : α) {l : List α} {x : Nat} (h : x < l.length) : l.getD x d ∈ l := by
 rw [List.getD_eq_getElem?_getD, List.getElem?_eq_getElem h]; exact List.getElem_mem h
theorem gidx_ge {α : Type} (p : α → Bool) : ∀ l : List α, -1 ≤ gidx p l
 | [] => by simp [gidx]
 | x :: r => by
  have := gidx_ge p r
  unfold gidx
  split
  ·omega
  ·split <;> omega
theorem gidx_some {α : Type} {p : α → Bool} (d : α) : ∀ {l : List α} {x : Nat}, x < l.length → (∀ k, k < x → p (l.getD k d) = false) → p (l.getD x d) = true → gidx p l = x
 | a :: l, 0, _, _, h => by simp at h; simp [gidx, h]
 | a :: l, x + 1, hx, hn, h => by
  have h0 := hn 0 (by omega)
  simp at h0 h hx
  have ih := gidx_some d (p := p) (l := l) (x := x) (by omega) (fun k hk => by have := hn (k + 1) (by omega); simpa using this) (by simpa using h)
  simp only [gidx, h0, ih]
  rw [if_neg (by simp), if_neg (by omega)]
  push_cast; rfl
theorem gidx_none {α : Type} {p : α → Bool} (d : α) : ∀ {l : List α}, (∀ k, k < l.length → p (l.getD k d) = false) → gidx p l = -1
 | [], _ => rfl
 | a :: l, hn => by
  have h0 := hn 0 (by simp)
  simp at h0
  have ih := gidx_none d (p := p) (l := l) (fun k hk => by have := hn (k + 1) (by simpa using hk); simpa using this)
  simp [gidx, h0, ih]
theorem gidx_any {α : Type} (p : α → Bool) : ∀ l : List α, decide (gidx p l ≥ 0) = l.any p
 | [] => by simp [gidx]
 | x :: r => by
  have ih := gidx_any p r
  have hg := gidx_ge p r
  unfold gidx
  by_cases h : p x = true
  ·simp [h]
  ·simp only [h, List.any_cons, Bool.false_eq_true, if_false, Bool.false_or, ← ih]
   split
   ·have : ¬ gidx p r ≥ 0 := by omega
    simp [this]
   ·rename_i h1
    have e1 : gidx p r + 1 ≥ 0 := by omega
    have e2 : gidx p r ≥ 0 := by omega
    simp [e1, e2]
theorem gidx_neg {α : Type} (p : α → Bool) (l : List α) : decide (gidx p l < 0) = !l.any p := by
 rw [← gidx_any]
 by_cases h : gidx p l < 0
 ·have : ¬ gidx p l ≥ 0 := by omega
  simp [h, this]
 ·have : gidx p l ≥ 0 := by omega
  simp [h, this]
theorem gidx_spec {α : Type} {p : α → Bool} (d : α) : ∀ {l : List α}, 0 ≤ gidx p l → (gidx p l).toNat < l.length ∧ p (l.getD (gidx p l).toNat d) = true ∧ l.find? p = some (l.getD (gidx p l).toNat d)
 | [], h => by simp [gidx] at h
 | x :: r, h => by
  by_cases hp : p x = true
  ·simp [gidx, hp]
  ·have hp' : p x = false := by simpa using hp
   unfold gidx at h ⊢
   simp only [hp', Bool.false_eq_true, if_false] at h ⊢
   by_cases h1 : gidx p r < 0
   ·rw [if_pos h1] at h; omega
   ·rw [if_neg h1] at h ⊢
    obtain ⟨g1, g2, g3⟩ := gidx_spec (p := p) d (l := r) (by omega)
    have e : (gidx p r + 1).toNat = (gidx p r).toNat + 1 := by omega
    rw [e]
    simp only [List.length_cons, List.getD_cons_succ, List.find?_cons, hp']
    exact ⟨by omega, g2, g3⟩
theorem gidx_find_none {α : Type} {p : α → Bool} {l : List α} (h : gidx p l < 0) : l.find? p = none := by
 have := gidx_neg p l
 rw [decide_eq_true h] at this
 rw [List.find?_eq_none]
 intro x hx hp
 have h2 : l.any p = true := List.any_eq_true.2 ⟨x, hx, hp⟩
 rw [h2] at this; cases this
theorem any_false {α : Type} {p : α → Bool} (d : α) {l : List α} (h : ∀ k, k < l.length → p (l.getD k d) = false) : l.any p = false := by
 rw [List.any_eq_false]
 intro x hx hp
 obtain ⟨k, hk, e⟩ := List.mem_iff_getElem.1 hx
 have := h k hk
 rw [List.getD_eq_getElem?_getD, List.getElem?_eq_getElem hk, Option.getD_some, e] at this
 rw [this] at hp; cases hp
theorem any_true {α : Type} {p : α → Bool} (d : α) {l : List α} {k : Nat} (hk : k < l.length) (h : p (l.getD k d) = true) : l.any p = true := List.any_eq_true.2 ⟨_, memG d hk, h⟩
/-! repeats -/
theorem lastT_succ {l : List T3} {x : Nat} : lastT l (x + 1) = (l.getD x t30).2.1 := by simp [lastT]
theorem reps_step {b : Int} {r : List T3} {x : Nat} (h : x < r.length) : repsFrom b (lastT r x) (r.drop x) = (!repBad (lastT r x) b (r.getD x t30) && repsFrom b (lastT r (x + 1)) (r.drop (x + 1))) := by
 rw [dropG t30 h, repsFrom, lastT_succ]
theorem ends_step {r e : List T3} {x : Nat} (h : x < e.length) : endsFrom r (lastT e x) (e.drop x) = (!endBad r (lastT e x) (e.getD x t30) && endsFrom r (lastT e (x + 1)) (e.drop (x + 1))) := by
 rw [dropG t30 h, endsFrom, lastT_succ]
theorem reps_end {b : Int} {r : List T3} {x : Nat} (h : ¬ x < r.length) : repsFrom b (lastT r x) (r.drop x) = true := by
 rw [List.drop_eq_nil_of_le (by omega)]; rfl
theorem ends_end {r e : List T3} {x : Nat} (h : ¬ x < e.length) : endsFrom r (lastT e x) (e.drop x) = true := by
 rw [List.drop_eq_nil_of_le (by omega)]; rfl
theorem reps_mem {b : Int} : ∀ {r : List T3} {last : Int}, repsFrom b last r = true → ∀ q ∈ r, last ≤ q.1 ∧ q.1 < q.2.1 ∧ q.2.1 ≤ b ∧ 1 ≤ q.2.2 ∧ q.2.2 ≤ 9
 | x :: r, last, h, q, hq => by
  simp only [repsFrom, repBad, Bool.and_eq_true, Bool.not_eq_true', Bool.or_eq_false_iff, decide_eq_false_iff_not] at h
  obtain ⟨⟨⟨⟨⟨h1, h2⟩, h3⟩, h4⟩, h5⟩, h6⟩ := h
  rcases List.mem_cons.1 hq with rfl | hq
  ·omega
  ·have := reps_mem h6 q hq
   omega
theorem repsB_mem {b : Int} {r : List T3} (h : repsB r b = true) : ∀ q ∈ r, 0 ≤ q.1 ∧ q.1 < q.2.1 ∧ q.2.1 ≤ b ∧ 1 ≤ q.2.2 ∧ q.2.2 ≤ 9 := by
 unfold repsB at h
 simp only [Bool.and_eq_true] at h
 exact reps_mem h.1
/-! bars as they come -/
theorem part_fuel {r e : List T3} {ag : Bool} {u : Int} (hr : ∀ q ∈ r, q.1 < q.2.1) : ∀ (k m : Nat) (f : Int), (u - f).toNat ≤ k → (u - f).toNat ≤ m → partN r e ag u k f = partN r e ag u m f := by
 intro k
 induction k with
 | zero =>
  intro m f h _
  cases m with
  | zero => rfl
  | succ m =>
   have : ¬ f < u := by omega
   simp [partN, this]
 | succ k ih =>
  intro m f h h'
  cases m with
  | zero =>
   have : ¬ f < u := by omega
   simp [partN, this]
  | succ m =>
   by_cases hf : f < u
   ·simp only [partN, if_pos hf]
    cases hq : r.find? (startP f) with
    | none => simp only; rw [ih m (f + 1) (by omega) (by omega)]
    | some q =>
     have h2 := hr q (List.mem_of_find?_eq_some hq)
     have h3 : q.1 = f := by have := List.find?_some hq; simpa [startP] using this
     simp only; rw [ih m q.2.1 (by omega) (by omega)]
   ·simp [partN, hf]
theorem part_end {r e : List T3} {ag : Bool} {u f : Int} (h : ¬ f < u) : partS r e f u ag = [] := by
 unfold partS
 rw [show (u - f).toNat = 0 by omega]
 rfl
theorem part_none {r e : List T3} {ag : Bool} {u f : Int} (hr : ∀ q ∈ r, q.1 < q.2.1) (h : f < u) (hq : r.find? (startP f) = none) : partS r e f u ag = f :: partS r e (f + 1) u ag := by
 obtain ⟨m, hm⟩ : ∃ m, (u - f).toNat = m + 1 := ⟨(u - f).toNat - 1, by omega⟩
 unfold partS
 rw [hm]
 simp only [partN, if_pos h, hq]
 rw [part_fuel hr m (u - (f + 1)).toNat (f + 1) (by omega) (Nat.le_refl _)]
theorem part_some {r e : List T3} {ag : Bool} {u f : Int} (hr : ∀ q ∈ r, q.1 < q.2.1) (h : f < u) {q : T3} (hq : r.find? (startP f) = some q) : partS r e f u ag = passesL e q (firstP q ag) ++ partS r e q.2.1 u ag := by
 obtain ⟨m, hm⟩ : ∃ m, (u - f).toNat = m + 1 := ⟨(u - f).toNat - 1, by omega⟩
 have h2 := hr q (List.mem_of_find?_eq_some hq)
 have h3 : q.1 = f := by have := List.find?_some hq; simpa [startP] using this
 unfold partS
 rw [hm]
 simp only [partN, if_pos h, hq]
 rw [part_fuel hr m (u - q.2.1).toNat q.2.1 (by omega) (Nat.le_refl _)]
theorem intsF_end {a b : Int} (h : ¬ a < b) : intsF a b = [] := by unfold intsF; rw [show (b - a).toNat = 0 by omega]; rfl
theorem intsF_step {a b : Int} (h : a < b) : intsF a b = a :: intsF (a + 1) b := by
 obtain ⟨m, hm⟩ : ∃ m, (b - a).toNat = m + 1 := ⟨(b - a).toNat - 1, by omega⟩
 unfold intsF
 rw [hm, show (b - (a + 1)).toNat = m by omega, List.range_succ_eq_map]
 simp only [List.map_cons, List.map_map]
 congr 1
 ·simp
 ·apply List.map_congr_left
  intro x _
  simp only [Function.comp]
  push_cast
  omega
theorem passes_end {e : List T3} {q : T3} {p : Int} (h : ¬ p ≤ q.2.2) : passesL e q p = [] := by
 unfold passesL; rw [intsF_end (by omega)]; rfl
theorem passes_step {e : List T3} {q : T3} {p : Int} (h : p ≤ q.2.2) : passesL e q p = passL e q p ++ passesL e q (p + 1) := by
 unfold passesL; rw [intsF_step (by omega)]; rfl
theorem pass_end {e : List T3} {q : T3} {p i : Int} (h : ¬ i < q.2.1) : ((intsF i q.2.1).filter fun i => playedB e i p) = [] := by
 rw [intsF_end h]; rfl
theorem pass_step {e : List T3} {q : T3} {p i : Int} (h : i < q.2.1) : ((intsF i q.2.1).filter fun i => playedB e i p) = (if playedB e i p then [i] else []) ++ ((intsF (i + 1) q.2.1).filter fun i => playedB e i p) := by
 rw [intsF_step h, List.filter_cons]
 split <;> rfl
theorem intsF_len (a b : Int) : (intsF a b).length = (b - a).toNat := by simp [intsF]
theorem passes_len {e : List T3} {q : T3} : ∀ (k : Nat) (p : Int), (q.2.2 + 1 - p).toNat = k → (passesL e q p).length ≤ k * (q.2.1 - q.1).toNat
 | 0, p, h => by rw [passes_end (by omega)]; simp
 | k + 1, p, h => by
  rw [passes_step (by omega), List.length_append, Nat.succ_mul]
  have h1 := passes_len (e := e) (q := q) k (p + 1) (by omega)
  have h2 : (passL e q p).length ≤ (q.2.1 - q.1).toNat := by
   unfold passL
   exact Nat.le_trans (List.length_filter_le _ _) (by rw [intsF_len]; exact Nat.le_refl _)
  omega
theorem part_len {b : Int} {r e : List T3} {ag : Bool} {u : Int} (hb : repsB r b = true) (hu : u ≤ b) : ∀ (k : Nat) (f : Int), (b - f).toNat ≤ k → f ≤ b → (partS r e f u ag).length ≤ 9 * (b - f).toNat := by
 have hr : ∀ q ∈ r, q.1 < q.2.1 := fun q hq => (repsB_mem hb q hq).2.1
 intro k
 induction k with
 | zero => intro f h _; rw [part_end (by omega)]; simp
 | succ k ih =>
  intro f h hfb
  by_cases hf : f < u
  ·cases hq : r.find? (startP f) with
   | none =>
    rw [part_none hr hf hq, List.length_cons]
    have := ih (f + 1) (by omega) (by omega)
    omega
   | some q =>
    have h1 := List.mem_of_find?_eq_some hq
    obtain ⟨g1, g2, g3, g4, g5⟩ := repsB_mem hb q h1
    have h3 : q.1 = f := by have := List.find?_some hq; simpa [startP] using this
    rw [part_some hr hf hq, List.length_append]
    have i1 := ih q.2.1 (by omega) (by omega)
    have i2 := passes_len (e := e) (q := q) _ (firstP q ag) rfl
    have i3 : (q.2.2 + 1 - firstP q ag).toNat ≤ 9 := by unfold firstP; split <;> omega
    have i4 := Nat.mul_le_mul_right (q.2.1 - q.1).toNat i3
    have i5 : (b - f).toNat = (q.2.1 - q.1).toNat + (b - q.2.1).toNat := by omega
    rw [i5, Nat.mul_add]
    omega
  ·rw [part_end hf]; simp
/-! visits -/
theorem visTo_succ (l : List Int) (k : Nat) : visTo l (k + 1) = visTo l k ++ [(l.getD k 0, ((l.take (k + 1)).count (l.getD k 0) : Int))] := by
 unfold visTo; rw [List.range_succ, List.map_append]; rfl
theorem visTo_len (l : List Int) (k : Nat) : (visTo l k).length = k := by simp [visTo]
theorem visTo_take {l m : List Int} {k : Nat} (h : k ≤ l.length) : visTo (l ++ m) k = visTo l k := by
 unfold visTo
 apply List.map_congr_left
 intro i hi
 have hi := List.mem_range.1 hi
 have e1 : (l ++ m).getD i 0 = l.getD i 0 := by
  rw [List.getD_eq_getElem?_getD, List.getD_eq_getElem?_getD, List.getElem?_append_left (by omega)]
 rw [e1, List.take_append_of_le_length (by omega)]
theorem visS_snoc (l : List Int) (x : Int) : visS (l ++ [x]) = visS l ++ [(x, ((l ++ [x]).count x : Int))] := by
 unfold visS
 rw [List.length_append, List.length_singleton, visTo_succ, visTo_take (Nat.le_refl _)]
 have e1 : (l ++ [x]).getD l.length 0 = x := by
  rw [List.getD_eq_getElem?_getD, List.getElem?_append_right (Nat.le_refl _)]; simp
 rw [e1]
 congr 4
 rw [List.take_of_length_le (by simp)]
theorem visS_len (l : List Int) : (visS l).length = l.length := visTo_len l _
theorem visS_app (l m : List Int) : (visS (l ++ m)).take l.length = visS l := by
 unfold visS
 rw [visTo, ← List.map_take, List.take_range, Nat.min_eq_left (by simp)]
 exact visTo_take (Nat.le_refl _)
theorem visS_take (l : List Int) (k : Nat) : (visS l).take k = visS (l.take k) := by
 by_cases h : k ≤ l.length
 ·have := visS_app (l.take k) (l.drop k)
  rw [List.take_append_drop, List.length_take, Nat.min_eq_left h] at this
  exact this
 ·rw [List.take_of_length_le (by rw [visS_len]; omega), List.take_of_length_le (by omega)]
theorem tiBeq (x y : Int) : (Ty.ti IntKind.i64).beq x y = decide (x = y) := by
 show (x == y) = decide (x = y)
 by_cases h : x = y <;> simp [h]
theorem mget_bump (x y : Int) : ∀ m : List (Int × Int), (∀ a, mgetI x (mput (β := Int) (Ty.beq (.ti .i64)) y a m) = if x = y then some a else mgetI x m)
 | [], a => by
  show (if _ then _ else _) = _
  simp only [mgetI, mput, mget, tiBeq, decide_eq_true_eq]
 | p :: m, a => by
  have ih := mget_bump x y m a
  unfold mgetI at ih ⊢
  simp only [mput, tiBeq, decide_eq_true_eq]
  by_cases h : y = p.1
  ·rw [if_pos h]
   simp only [mget, tiBeq, decide_eq_true_eq]
   by_cases hx : x = y
   ·rw [if_pos hx, if_pos hx]
   ·rw [if_neg hx, if_neg hx, if_neg (fun e => hx (e.trans h.symm))]
  ·rw [if_neg h]
   simp only [mget, tiBeq, decide_eq_true_eq]
   by_cases hp : x = p.1
   ·rw [if_pos hp, if_pos hp, if_neg (fun e => h (e.symm.trans hp))]
   ·rw [if_neg hp, if_neg hp]
    exact ih
theorem cntM_snoc (l : List Int) (x : Int) : cntM (l ++ [x]) = bump (cntM l) x := by unfold cntM; rw [List.foldl_append]; rfl
theorem cnt_fold (y : Int) : ∀ (l : List Int) (m : List (Int × Int)), (mgetI y (l.foldl bump m)).getD 0 = (mgetI y m).getD 0 + (l.count y : Int)
 | [], m => by simp
 | x :: l, m => by
  rw [List.foldl_cons, cnt_fold y l (bump m x)]
  unfold bump
  rw [mget_bump]
  by_cases h : y = x
  ·subst h
   rw [if_pos rfl, List.count_cons_self]
   simp only [Option.getD_some]
   push_cast
   omega
  ·rw [if_neg h, List.count_cons_of_ne (fun e => h e.symm)]
theorem cntM_get (l : List Int) (y : Int) : (mgetI y (cntM l)).getD 0 = (l.count y : Int) := by
 unfold cntM
 rw [cnt_fold]
 simp [mgetI, mget]
theorem vis_next (l : List Int) (x : Int) : visS (l ++ [x]) = visS l ++ [(x, (mgetI x (cntM l)).getD 0 + 1)] := by
 rw [visS_snoc, cntM_get]
 simp
theorem h1_app {α : Type} (l m : List α) : h1 (l ++ m) = h1 l ++ h1 m := List.map_append
theorem h1_len {α : Type} (l : List α) : (h1 l).length = l.length := List.length_map _
theorem h1_take {α : Type} (l : List α) (k : Nat) : (h1 l).take k = h1 (l.take k) := (List.map_take).symm
theorem unI_h1 (l : List Int) : unI (h1 l) = l := by
 unfold unI h1
 rw [List.map_map]
 exact List.map_id l
theorem unI_app (l m : List (Int × Unit)) : unI (l ++ m) = unI l ++ unI m := List.map_append
/-! what is handed on -/
theorem gfed_on {α : Type} {go : List (α × Unit) → Bool} : ∀ {d rest : List α}, (∀ k, d.length < k → k ≤ (d ++ rest).length → go ((h1 (d ++ rest)).take k) = true) → gfed go (h1 d) (h1 rest) = h1 (d ++ rest)
 | d, [], _ => by simp [h1, gfed]
 | d, x :: r, h => by
  have e0 : h1 (x :: r) = (x, ()) :: h1 r := rfl
  have e1 : h1 d ++ [(x, ())] = h1 (d ++ [x]) := (h1_app d [x]).symm
  rw [e0, gfed, e1]
  have e2 : d ++ x :: r = (d ++ [x]) ++ r := by simp
  have hg : go (h1 (d ++ [x])) = true := by
   have := h (d.length + 1) (by omega) (by simp)
   rwa [e2, h1_take, List.take_left' (by simp)] at this
  rw [if_pos hg, gfed_on (d := d ++ [x]) (rest := r) fun k hk hk' => by rw [e2] at h; exact h k (by simp at hk; omega) hk', e2]
theorem gfed_stop {α : Type} {go : List (α × Unit) → Bool} : ∀ {d rest l : List α}, (∀ k, d.length < k → k ≤ (d ++ rest).length → k < l.length → go ((h1 (d ++ rest)).take k) = true) → (∃ m, d ++ rest = l ++ m) → d.length < l.length → go (h1 l) = false → gfed go (h1 d) (h1 rest) = h1 l
 | d, [], l, _, ⟨m, hm⟩, hl, _ => by
  have := congrArg List.length hm
  simp at this
  omega
 | d, x :: r, l, h, ⟨m, hm⟩, hl, hs => by
  have e0 : h1 (x :: r) = (x, ()) :: h1 r := rfl
  have e1 : h1 d ++ [(x, ())] = h1 (d ++ [x]) := (h1_app d [x]).symm
  rw [e0, gfed, e1]
  have e2 : d ++ x :: r = (d ++ [x]) ++ r := by simp
  by_cases hd : l.length = d.length + 1
  ·have : l = d ++ [x] := by
    have h3 : (d ++ x :: r).take l.length = l := by rw [hm]; exact List.take_left
    rw [hd, e2, List.take_left' (by simp)] at h3
    exact h3.symm
   subst this
   rw [if_neg (by rw [hs]; simp)]
  ·have hg : go (h1 (d ++ [x])) = true := by
    have := h (d.length + 1) (by omega) (by simp) (by omega)
    rwa [e2, h1_take, List.take_left' (by simp)] at this
   rw [if_pos hg]
   exact gfed_stop (d := d ++ [x]) (rest := r) (fun k hk hk' hkl => by rw [e2] at h; exact h k (by simp at hk; omega) hk' hkl) ⟨m, by rw [← e2]; exact hm⟩ (by simp; omega) hs
theorem onG_start {α : Type} (go : Lp (α × Unit)) (all : List α) : onG go all [] all := ⟨rfl, fun k h1 h2 => by simp at h2; omega⟩
theorem onG_live {α : Type} {go : Lp (α × Unit)} {all d rest : List α} (h : onG go all d rest) : live go (h1 d) := by
 by_cases hd : d = []
 ·subst hd; exact .inl rfl
 ·right
  have hl := List.length_pos_iff.2 hd
  have := h.2 d.length hl (Nat.le_refl _)
  rwa [← h.1, h1_take, List.take_left] at this
theorem onG_liveX {α : Type} {go : Lp (α × Unit)} {all d rest : List α} {x : α} (h : onG go all d (x :: rest)) (hok : ∀ k, go.ok ((h1 all).take k)) : liveX go (h1 d) (x, ()) := by
 refine ⟨onG_live h, ?_⟩
 have e1 : h1 d ++ [(x, ())] = h1 (d ++ [x]) := (h1_app d [x]).symm
 have := hok (d.length + 1)
 rw [← h.1, show d ++ x :: rest = (d ++ [x]) ++ rest by simp, h1_take, List.take_left' (by simp)] at this
 rw [e1]; exact this
theorem onG_go {α : Type} {go : Lp (α × Unit)} {all d rest : List α} {x : α} (h : onG go all d (x :: rest)) (hg : go (h1 d ++ [(x, ())]) = true) : onG go all (d ++ [x]) rest := by
 have e1 : h1 d ++ [(x, ())] = h1 (d ++ [x]) := (h1_app d [x]).symm
 rw [e1] at hg
 have e2 : d ++ x :: rest = (d ++ [x]) ++ rest := by simp
 refine ⟨by rw [← e2]; exact h.1, fun k h1' h2' => ?_⟩
 by_cases hk : k ≤ d.length
 ·exact h.2 k h1' hk
 ·have : k = (d ++ [x]).length := by simp at h2' ⊢; omega
  rw [this, ← h.1, e2, h1_take, List.take_left]
  exact hg
theorem onG_stop {α : Type} {go : Lp (α × Unit)} {all d rest : List α} {x : α} (h : onG go all d (x :: rest)) (hg : go (h1 d ++ [(x, ())]) = false) : gfed go [] (h1 all) = h1 d ++ [(x, ())] := by
 have e1 : h1 d ++ [(x, ())] = h1 (d ++ [x]) := (h1_app d [x]).symm
 rw [e1] at hg ⊢
 have e2 : d ++ x :: rest = (d ++ [x]) ++ rest := by simp
 have := gfed_stop (go := go.go) (d := []) (rest := all) (l := d ++ [x]) (fun k hk _ hkl => by
  simp only [List.nil_append]
  exact h.2 k (by simpa using hk) (by simp at hkl; omega)) ⟨rest, by rw [← e2]; simpa using h.1.symm⟩ (by simp) hg
 exact this
theorem onG_end {α : Type} {go : Lp (α × Unit)} {all d : List α} (h : onG go all d []) : gfed go [] (h1 all) = h1 d := by
 have hd : d = all := by simpa using h.1
 subst hd
 have := gfed_on (go := go.go) (d := []) (rest := d) fun k hk hk' => by
  simp only [List.nil_append] at hk' ⊢
  exact h.2 k (by simpa using hk) hk'
 exact this
theorem onG_same {α : Type} {go : Lp (α × Unit)} {all d r1 r2 : List α} (h : onG go all d r1) (e : r1 = r2) : onG go all d r2 := e ▸ h
/-! cuts -/
theorem t3Beq (x y : T3) : (Ty.tp (.ti .i64) (.tp (.ti .i64) (.ti .i64))).beq x y = decide (x = y) := by
 obtain ⟨a, b, c⟩ := x
 obtain ⟨a', b', c'⟩ := y
 show ((a == a') && ((b == b') && (c == c'))) = _
 by_cases h1 : a = a' <;> by_cases h2 : b = b' <;> by_cases h3 : c = c' <;> simp [h1, h2, h3]
theorem gseen_get (c : T3) : ∀ l : List T3, (mget (α := T3) (β := Bool) (Ty.tp (.ti .i64) (.tp (.ti .i64) (.ti .i64))).beq c (seenC l)).getD false = decide (c ∈ l)
 | [] => rfl
 | x :: l => by
  have ih := gseen_get c l
  simp only [seenC, List.map_cons, mget, t3Beq, decide_eq_true_eq] at ih ⊢
  by_cases h : c = x
  ·simp [h]
  ·rw [if_neg h, ih]; simp [h]
theorem gseen_put (c : T3) : ∀ l : List T3, c ∉ l → mput (α := T3) (β := Bool) (Ty.tp (.ti .i64) (.tp (.ti .i64) (.ti .i64))).beq c true (seenC l) = seenC (l ++ [c])
 | [], _ => rfl
 | x :: l, h => by
  have ih := gseen_put c l (fun hh => h (List.mem_cons_of_mem _ hh))
  simp only [seenC, List.map_cons, List.cons_append, mput, t3Beq, decide_eq_true_eq] at ih ⊢
  have hne : ¬ c = x := fun e => h (by rw [e]; exact List.mem_cons_self ..)
  rw [if_neg hne, ih]
theorem live_snoc {α : Type} {go : Lp α} {d : List α} {x : α} : live go (d ++ [x]) ↔ go (d ++ [x]) = true := by
 constructor
 ·intro h
  rcases h with h | h
  ·simp at h
  ·exact h
 ·exact .inr
theorem gfed_live {α : Type} {go : Lp α} : ∀ {a d : List α}, live go (gfed go.go d a) → gfed go.go d a = d ++ a
 | [], d, _ => by simp [gfed]
 | x :: a, d, h => by
  unfold gfed at h ⊢
  split at h
  ·rename_i hg
   rw [if_pos hg, gfed_live h]
   simp
  ·rename_i hg
   exact absurd (live_snoc.1 h) hg
theorem gfed_cons {α : Type} (go : List α → Bool) (d : List α) (x : α) (r : List α) : gfed go d (x :: r) = if go (d ++ [x]) = true then gfed go (d ++ [x]) r else d ++ [x] := rfl
theorem gfed_app {α : Type} {go : Lp α} : ∀ {a d b : List α}, (live go (gfed go.go d a) → gfed go.go d (a ++ b) = gfed go.go (d ++ a) b) ∧ (¬ live go (gfed go.go d a) → live go d → gfed go.go d (a ++ b) = gfed go.go d a)
 | [], d, b => ⟨fun _ => by simp, fun h h3 => absurd h3 h⟩
 | x :: a, d, b => by
  have e : d ++ [x] ++ a = d ++ x :: a := by simp
  rw [List.cons_append, gfed_cons go.go d x a, gfed_cons go.go d x (a ++ b)]
  by_cases hg : go.go (d ++ [x]) = true
  ·rw [if_pos hg, if_pos hg]
   obtain ⟨h1, h2⟩ := gfed_app (go := go) (a := a) (d := d ++ [x]) (b := b)
   rw [e] at h1
   exact ⟨h1, fun h _ => h2 h (live_snoc.2 hg)⟩
  ·rw [if_neg hg, if_neg hg]
   exact ⟨fun h => absurd (live_snoc.1 h) hg, fun _ _ => rfl⟩
theorem vis_drop (l : List Int) (x : Int) (r : List Int) : (visS (l ++ x :: r)).drop l.length = (x, (mgetI x (cntM l)).getD 0 + 1) :: (visS ((l ++ [x]) ++ r)).drop (l ++ [x]).length := by
 have e : l ++ x :: r = (l ++ [x]) ++ r := by simp
 rw [e]
 have h1 : (visS ((l ++ [x]) ++ r)).take (l ++ [x]).length = visS l ++ [(x, (mgetI x (cntM l)).getD 0 + 1)] := by rw [visS_app, vis_next]
 have h2 := List.take_append_drop (l ++ [x]).length (visS ((l ++ [x]) ++ r))
 rw [h1] at h2
 generalize hD : (visS ((l ++ [x]) ++ r)).drop (l ++ [x]).length = D at h2 ⊢
 rw [← h2, List.append_assoc, List.drop_left' (by rw [visS_len])]
 rfl
theorem vis_fed {go : Lp (Vi × Unit)} {l0 : List Int} {m : Nat} : ∀ (items d : List Int), h1 (visS (l0 ++ unI (gfed (goV go l0 m).go (h1 d) (h1 items)))) = gfed go.go (h1 (visS (l0 ++ d))) (h1 ((visS (l0 ++ d ++ items)).drop (l0 ++ d).length))
 | [], d => by
  have e : (visS (l0 ++ d ++ [])).drop (l0 ++ d).length = [] := by rw [List.append_nil]; exact List.drop_eq_nil_of_le (by rw [visS_len]; exact Nat.le_refl _)
  rw [e]
  show h1 (visS (l0 ++ unI (h1 d))) = h1 (visS (l0 ++ d))
  rw [unI_h1]
 | x :: r, d => by
  rw [vis_drop]
  have e0 : h1 (x :: r) = (x, ()) :: h1 r := rfl
  have e1 : h1 d ++ [(x, ())] = h1 (d ++ [x]) := (h1_app d [x]).symm
  have e2 : (goV go l0 m).go (h1 (d ++ [x])) = go (h1 (visS (l0 ++ d ++ [x]))) := by
   show go (h1 (visS (l0 ++ unI (h1 (d ++ [x]))))) = _
   rw [unI_h1, List.append_assoc]
  have e3 : h1 (visS (l0 ++ d)) ++ [((x, (mgetI x (cntM (l0 ++ d))).getD 0 + 1), ())] = h1 (visS (l0 ++ d ++ [x])) := by rw [vis_next, h1_app]; rfl
  have e4 : ∀ D : List Vi, h1 ((x, (mgetI x (cntM (l0 ++ d))).getD 0 + 1) :: D) = ((x, (mgetI x (cntM (l0 ++ d))).getD 0 + 1), ()) :: h1 D := fun _ => rfl
  rw [e0, e4, gfed, gfed, e1, e2, e3]
  split
  ·have := vis_fed (go := go) (l0 := l0) (m := m) r (d ++ [x])
   rw [this, ← List.append_assoc]
  ·rw [unI_h1, List.append_assoc]
theorem vis_body {go : Lp (Vi × Unit)} {l0 : List Int} {m : Nat} (hm : m ≤ 1000000) (hl : live go (h1 (visS l0))) {hist : List (Int × Unit)} {x : Int × Unit} (h : liveX (goV go l0 m) hist x) :
  InI64 ((mgetI x.1 (cntM (l0 ++ unI hist))).getD 0 + 1) ∧ liveX go (h1 (visS (l0 ++ unI hist))) ((x.1, (mgetI x.1 (cntM (l0 ++ unI hist))).getD 0 + 1), ()) ∧
  snocV (h1 (visS (l0 ++ unI hist))) ((x.1, (mgetI x.1 (cntM (l0 ++ unI hist))).getD 0 + 1), ()) = h1 (visS (l0 ++ unI (hist ++ [x]))) ∧ bump (cntM (l0 ++ unI hist)) x.1 = cntM (l0 ++ unI (hist ++ [x])) := by
 obtain ⟨h1', h2⟩ := h
 have e : l0 ++ unI (hist ++ [x]) = (l0 ++ unI hist) ++ [x.1] := by rw [unI_app, List.append_assoc]; rfl
 have hs : snocV (h1 (visS (l0 ++ unI hist))) ((x.1, (mgetI x.1 (cntM (l0 ++ unI hist))).getD 0 + 1), ()) = h1 (visS (l0 ++ unI (hist ++ [x]))) := by rw [e, vis_next, h1_app]; rfl
 have h2' : go.ok (h1 (visS (l0 ++ unI (hist ++ [x])))) ∧ (l0 ++ unI (hist ++ [x])).length ≤ m := h2
 refine ⟨?_, ⟨?_, ?_⟩, hs, by rw [e, cntM_snoc]⟩
 ·rw [cntM_get]
  have := List.count_le_length (a := x.1) (l := l0 ++ unI hist)
  have h3 := h2'.2
  rw [e, List.length_append] at h3
  unfold InI64
  omega
 ·rcases h1' with h0 | h0
  ·subst h0
   rw [show unI [] = [] from rfl, List.append_nil]; exact hl
  ·exact .inr h0
 ·have := h2'.1
  rw [← hs] at this
  exact this
theorem short_fed : ∀ (l d : List (Vi × Unit)), (live goShort (gfed goShort.go d l) ↔ (l = [] ∧ live goShort d) ∨ (l ≠ [] ∧ (d ++ l).length ≤ 20000))
 | [], d => by simp [gfed]
 | x :: l, d => by
  unfold gfed
  by_cases h : goShort.go (d ++ [x]) = true
  ·rw [if_pos h, short_fed l (d ++ [x])]
   have h' : (d ++ [x]).length ≤ 20000 := by simpa [goShort] using h
   constructor
   ·rintro (⟨rfl, _⟩ | ⟨_, h2⟩)
    ·exact .inr ⟨by simp, h'⟩
    ·exact .inr ⟨by simp, by simpa using h2⟩
   ·rintro (⟨h2, _⟩ | ⟨_, h2⟩)
    ·simp at h2
    ·by_cases hl : l = []
     ·exact .inl ⟨hl, live_snoc.2 h⟩
     ·exact .inr ⟨hl, by simpa using h2⟩
  ·rw [if_neg h]
   have h' : ¬ (d ++ [x]).length ≤ 20000 := by simpa [goShort] using h
   constructor
   ·intro h2; exact absurd (live_snoc.1 h2) h
   ·rintro (⟨h2, _⟩ | ⟨_, h2⟩)
    ·simp at h2
    ·exfalso; simp at h' h2; omega
end Go.RatLaw
