/- Plain laws on bars: when they begin, positions in them. No program in sight. -/
import Derived.Test.YtjghgdccaakfmaaMp
namespace Go.RatLaw

theorem tks_dur {n d : Int} (h : dur n d = true) : tks n d = tk n d := by unfold tks; rw [if_pos h]
theorem tks_no {n d : Int} (h : dur n d = false) : tks n d = -1 := by unfold tks; rw [if_neg (by rw [h]; simp)]
theorem tks_nonneg {n d : Int} : 0 ≤ tks n d ↔ dur n d = true := by
  cases h : dur n d with
  | true => rw [tks_dur h]; simp [(dur_spec h).2.2.2.2.2]
  | false => rw [tks_no h]; simp
theorem tk_bound {n d : Int} (h : dur n d = true) : tk n d ≤ 1680000000000 := by
  obtain ⟨v, hn, hd, e, e2, t0⟩ := dur_spec h
  have hle := vld_bd v
  have h1 : (1680 : Int).tdiv d ≤ 1680 := Int.le_of_dvd (by decide) ⟨d, by rw [Int.mul_comm]; exact e.symm⟩
  have h0 : 0 ≤ (1680 : Int).tdiv d := Int.tdiv_nonneg (by decide) (by omega)
  unfold tk
  have := Int.mul_le_mul (show n ≤ 1000000000 by omega) h1 h0 (by decide)
  omega
/-- durations: the lesser one has less 1680ths -/
theorem less_dur {a b c d : Int} (h : dur a b = true) (k : dur c d = true) : lessR a b c d = decide (tk a b < tk c d) := by
  obtain ⟨v, _, hb, _, e, _⟩ := dur_spec h
  obtain ⟨v', _, hd, _, e', _⟩ := dur_spec k
  unfold lessR compareR
  rw [v, v']
  have key : a * d < c * b ↔ tk a b < tk c d := by
    have h1 : tk a b * (b * d) = a * d * 1680 := by rw [← Int.mul_assoc, e]; grind
    have h2 : tk c d * (b * d) = c * b * 1680 := by rw [show tk c d * (b * d) = tk c d * d * b by grind, e']; grind
    have hbd : 0 < b * d := Int.mul_pos hb hd
    constructor
    · intro hl
      have : tk a b * (b * d) < tk c d * (b * d) := by omega
      exact Int.lt_of_mul_lt_mul_right this (by omega)
    · intro hl
      have := Int.mul_lt_mul_of_pos_right hl hbd
      omega
  simp only [Bool.and_true, if_true]
  unfold cmpR
  by_cases hl : a * d < c * b
  · rw [if_pos hl]; simp [key.1 hl]
  · rw [if_neg hl]
    have : ¬ tk a b < tk c d := fun q => hl (key.2 q)
    split <;> simp [this]
/-- a signed duration -/
def sdur (n d : Int) : Bool := vld n d && (1680 : Int).tmod d == 0
theorem sdur_spec {n d : Int} (h : sdur n d = true) : vld n d = true ∧ 0 < d ∧ tk n d * d = n * 1680 := by
  unfold sdur at h
  rw [Bool.and_eq_true] at h
  obtain ⟨v, h2⟩ := h
  have hb := vld_bd v
  have h3 : (1680 : Int).tmod d = 0 := by simpa using h2
  have h4 : d * (1680 : Int).tdiv d = 1680 := by have := Int.mul_tdiv_add_tmod 1680 d; omega
  refine ⟨v, hb.2.2.2, ?_⟩
  unfold tk
  rw [Int.mul_assoc, Int.mul_comm _ d, h4]
theorem dur_sdur {n d : Int} (h : dur n d = true) : sdur n d = true := by
  unfold dur at h; unfold sdur
  simp only [Bool.and_eq_true] at h ⊢
  exact ⟨h.1.1, h.2⟩
theorem tk_sign {n d : Int} (h : sdur n d = true) : (0 ≤ tk n d ↔ 0 ≤ n) ∧ (tk n d = 0 ↔ n = 0) := by
  obtain ⟨_, hd, e⟩ := sdur_spec h
  have h1 : 0 ≤ (1680 : Int).tdiv d := Int.tdiv_nonneg (by decide) (by omega)
  have h2 : (1680 : Int).tdiv d ≠ 0 := by
    intro hz
    unfold sdur at h; rw [Bool.and_eq_true] at h
    have h3 : (1680 : Int).tmod d = 0 := by simpa using h.2
    have := Int.mul_tdiv_add_tmod 1680 d
    rw [hz] at this; omega
  unfold tk
  constructor
  · constructor
    · intro h; by_cases hn : 0 ≤ n
      · exact hn
      · have := Int.mul_neg_of_neg_of_pos (show n < 0 by omega) (show 0 < (1680 : Int).tdiv d by omega); omega
    · intro h; exact Int.mul_nonneg h h1
  · constructor
    · intro h; rcases Int.mul_eq_zero.1 h with h | h
      · exact h
      · exact absurd h h2
    · intro h; rw [h, Int.zero_mul]
theorem dur01 : dur 0 1 = true := by decide
theorem tk01 : tk 0 1 = 0 := by decide
theorem ofT0 : ofT 0 = (0, 1) := by decide
theorem dur_ofT {t : Int} (h0 : 0 ≤ t) (h1 : t ≤ 806400000) : dur (ofT t).1 (ofT t).2 = true := (ofT_spec h0 h1).1
theorem tk_ofT {t : Int} (h0 : 0 ≤ t) (h1 : t ≤ 806400000) : tk (ofT t).1 (ofT t).2 = t := (ofT_spec h0 h1).2.1

/-! bars -/
theorem okBars_iff {l : List Bar} : okBars l = true ↔ 1 ≤ l.length ∧ l.length ≤ 4000 ∧ (∀ b ∈ l, okBar b = true) ∧ (ids l).Nodup := by unfold okBars; exact decide_eq_true_iff
theorem okBar_iff {b : Bar} : okBar b = true ↔ 1 ≤ b.1 ∧ b.1 ≤ 1000000 ∧ 1 ≤ tb b ∧ tb b ≤ 40320 ∧ -7 ≤ b.2.2 ∧ b.2.2 ≤ 7 := by unfold okBar; exact decide_eq_true_iff
theorem okBar_dur {b : Bar} (h : okBar b = true) : dur b.2.1.1 b.2.1.2 = true ∧ tk b.2.1.1 b.2.1.2 = tb b := by
  have := okBar_iff.1 h
  have hd : dur b.2.1.1 b.2.1.2 = true := tks_nonneg.1 (by unfold tb at this; omega)
  exact ⟨hd, (tks_dur hd).symm⟩
theorem bef_nil : bef [] = 0 := rfl
theorem bef_cons (b : Bar) (l : List Bar) : bef (b :: l) = tb b + bef l := by simp [bef]
theorem bef_append (l m : List Bar) : bef (l ++ m) = bef l + bef m := by simp [bef]
theorem bef_bound {l : List Bar} (h : ∀ b ∈ l, okBar b = true) : 0 ≤ bef l ∧ bef l ≤ 40320 * l.length := by
  induction l with
  | nil => simp [bef]
  | cons b r ih =>
    have h1 := okBar_iff.1 (h b (by simp))
    have h2 := ih fun x hx => h x (by simp [hx])
    rw [bef_cons, List.length_cons]
    omega
theorem bef_take {l : List Bar} (h : okBars l = true) (k : Nat) : 0 ≤ bef (l.take k) ∧ bef (l.take k) ≤ 161280000 ∧ bef (l.take k) ≤ bef l := by
  obtain ⟨h1, h2, h3, _⟩ := okBars_iff.1 h
  have a := bef_bound (l := l.take k) fun b hb => h3 b (List.mem_of_mem_take hb)
  have c := bef_bound (l := l.drop k) fun b hb => h3 b (List.mem_of_mem_drop hb)
  have e := bef_append (l.take k) (l.drop k)
  rw [List.take_append_drop] at e
  have : (l.take k).length ≤ 4000 := by rw [List.length_take]; omega
  omega
theorem take_at {l : List Bar} {x : Nat} (h : x < l.length) : l.take (x + 1) = l.take x ++ [l.getD x bar0] := by
  rw [List.take_add_one, List.getD_eq_getElem?_getD, List.getElem?_eq_getElem h]; rfl
theorem mem_getD {l : List Bar} {x : Nat} (h : x < l.length) : l.getD x bar0 ∈ l := by
  rw [List.getD_eq_getElem?_getD, List.getElem?_eq_getElem h]; exact List.getElem_mem h
theorem bef_succ {l : List Bar} {x : Nat} (h : x < l.length) : bef (l.take (x + 1)) = bef (l.take x) + tb (l.getD x bar0) := by
  rw [take_at h, bef_append, bef_cons, bef_nil, Int.add_zero]

/-! the items of a loop over bars -/
abbrev It3 := Int × (Int × Int) × Unit
abbrev it0 : It3 := (0, (0, 1), ())
theorem items_len : ∀ (l : List Bar) (i : Int) (t : Int × Int), (items i t l).length = l.length + 1
  | [], _, _ => rfl
  | _ :: r, i, t => by simp [items, items_len r]
theorem items_fst : ∀ (l : List Bar) (i : Int) (t : Int × Int) (k : Nat), k ≤ l.length → ((items i t l).getD k it0).1 = i + k
  | [], i, t, k, h => by
    have : k = 0 := by simpa using h
    subst this; simp [items]
  | b :: r, i, t, 0, _ => by simp [items]
  | b :: r, i, t, k + 1, h => by
    have := items_fst r (i + 1) ((addR t.1 t.2 b.2.1.1 b.2.1.2).1, (addR t.1 t.2 b.2.1.1 b.2.1.2).2.1) k (by simpa using h)
    simp only [items, List.getD_cons_succ, this]
    omega
theorem items_next : ∀ (l : List Bar) (i : Int) (t : Int × Int) (k : Nat), k < l.length →
    ((items i t l).getD (k + 1) it0).2.1 = ((addR ((items i t l).getD k it0).2.1.1 ((items i t l).getD k it0).2.1.2 (l.getD k bar0).2.1.1 (l.getD k bar0).2.1.2).1, (addR ((items i t l).getD k it0).2.1.1 ((items i t l).getD k it0).2.1.2 (l.getD k bar0).2.1.1 (l.getD k bar0).2.1.2).2.1)
  | [], _, _, _, h => by simp at h
  | b :: r, i, t, 0, _ => by cases r <;> simp [items]
  | b :: r, i, t, k + 1, h => by
    have := items_next r (i + 1) ((addR t.1 t.2 b.2.1.1 b.2.1.2).1, (addR t.1 t.2 b.2.1.1 b.2.1.2).2.1) k (by simpa using h)
    simpa only [items, List.getD_cons_succ] using this
theorem itB_eq (l : List Bar) (x : Nat) : itB l x = ((items 0 (0, 1) l).getD x it0).2.1 := by
  unfold itB
  rfl
theorem items_at (l : List Bar) {x : Nat} (h : x ≤ l.length) : (items 0 (0, 1) l)[x]? = some ((x : Int), itB l x, ()) := by
  have hl : x < (items 0 (0, 1) l).length := by rw [items_len]; omega
  have h1 := items_fst l 0 (0, 1) x h
  have h2 := itB_eq l x
  rw [List.getD_eq_getElem?_getD, List.getElem?_eq_getElem hl] at h1 h2
  rw [List.getElem?_eq_getElem hl]
  simp at h1 h2
  rw [h2, ← h1]
theorem items_take (l : List Bar) {x : Nat} (h : x ≤ l.length) : (items 0 (0, 1) l).take (x + 1) = (items 0 (0, 1) l).take x ++ [((x : Int), itB l x, ())] := by
  rw [List.take_add_one, items_at l h]; rfl
theorem itB_zero (l : List Bar) : itB l 0 = (0, 1) := by cases l <;> rfl
theorem itB_next {l : List Bar} {x : Nat} (h : x < l.length) : itB l (x + 1) = ((addR (itB l x).1 (itB l x).2 (l.getD x bar0).2.1.1 (l.getD x bar0).2.1.2).1, (addR (itB l x).1 (itB l x).2 (l.getD x bar0).2.1.1 (l.getD x bar0).2.1.2).2.1) := by
  rw [itB_eq, itB_eq]; exact items_next l 0 (0, 1) x h
theorem itB_ok {l : List Bar} (h : okBars l = true) : ∀ {x : Nat}, x ≤ l.length → itB l x = ofT (bef (l.take x))
  | 0, _ => by rw [itB_zero]; simp [bef, ofT0]
  | x + 1, hx => by
    have hx' : x < l.length := by omega
    rw [itB_next hx', itB_ok h (by omega), bef_succ hx']
    have h3 := (okBars_iff.1 h).2.2.1 _ (mem_getD hx')
    obtain ⟨d1, d2⟩ := okBar_dur h3
    have hb := bef_take h x
    have hb2 := bef_take h (x + 1)
    rw [bef_succ hx'] at hb2
    rw [add_dur (dur_ofT hb.1 (by omega)) d1 (by rw [tk_ofT hb.1 (by omega), d2]; omega), tk_ofT hb.1 (by omega), d2]

/-! what is handed on -/
theorem fed_stop {α : Type} (go : List α → Bool) : ∀ (r hist : List α) (k : Nat), k < r.length → (∀ j, j < k → go (hist ++ r.take (j + 1)) = true) → go (hist ++ r.take (k + 1)) = false → fed go hist r = hist ++ r.take (k + 1)
  | [], _, _, h, _, _ => by simp at h
  | x :: r, hist, 0, _, _, hs => by
    simp only [List.take_succ_cons, List.take_zero] at hs ⊢
    simp only [fed, hs, Bool.false_eq_true, if_false]
  | x :: r, hist, k + 1, h, hg, hs => by
    have h0 := hg 0 (by omega)
    simp only [List.take_succ_cons, List.take_zero] at h0
    simp only [fed, h0, if_true]
    rw [fed_stop go r (hist ++ [x]) k (by simpa using h) (fun j hj => by simpa using hg (j + 1) (by omega)) (by simpa using hs)]
    simp
theorem fed_all {α : Type} (go : List α → Bool) : ∀ (r hist : List α), (∀ j, j < r.length → go (hist ++ r.take (j + 1)) = true) → fed go hist r = hist ++ r
  | [], hist, _ => by simp [fed]
  | x :: r, hist, hg => by
    have h0 := hg 0 (by simp)
    simp only [List.take_succ_cons, List.take_zero] at h0
    simp only [fed, h0, if_true]
    rw [fed_all go r (hist ++ [x]) fun j hj => by simpa using hg (j + 1) (by simpa using hj)]
    simp
/-- all that goes on but perhaps the last -/
theorem fed_last {α : Type} (go : List α → Bool) : ∀ (r hist : List α) (k : Nat), k < r.length → (∀ j, j < k → go (hist ++ r.take (j + 1)) = true) → k + 1 = r.length → fed go hist r = hist ++ r
  | r, hist, k, hk, hg, hl => by
    cases h : go (hist ++ r.take (k + 1)) with
    | false =>
      have := fed_stop go r hist k hk hg h
      rw [this, hl, List.take_length]
    | true =>
      refine fed_all go r hist fun j hj => ?_
      by_cases e : j = k
      · subst e; exact h
      · exact hg j (by omega)

theorem notAt_concat (b : Int) (h : List It3) (x : It3) : notAt b (h ++ [x]) = (x.1 != b) := by unfold notAt; simp
theorem resAt_concat (b : Int) (h : List It3) (x : It3) : resAt b (h ++ [x]) = if x.1 = b then x.2.1 else (0, 0) := by unfold resAt; simp
theorem begAt_in {l : List Bar} {b : Int} (h : 0 ≤ b ∧ b ≤ l.length) : begAt l b = itB l b.toNat := by unfold begAt itB; rw [if_pos h]
theorem begAt_out {l : List Bar} {b : Int} (h : ¬(0 ≤ b ∧ b ≤ l.length)) : begAt l b = (0, 1) := by unfold begAt; rw [if_neg h]
theorem begAt_ok {l : List Bar} (hl : okBars l = true) {b : Int} (h : 0 ≤ b ∧ b ≤ l.length) : begAt l b = ofT (bef (l.take b.toNat)) := by rw [begAt_in h, itB_ok hl (by omega)]
/-- what a search for bar b is handed -/
theorem fed_beg (l : List Bar) (b : Int) : (0 ≤ b ∧ b ≤ l.length ∧ fed (notAt b) [] (items 0 (0, 1) l) = (items 0 (0, 1) l).take b.toNat ++ [(b, begAt l b, ())]) ∨
    (¬(0 ≤ b ∧ b ≤ l.length) ∧ ∃ h t, fed (notAt b) [] (items 0 (0, 1) l) = h ++ [((l.length : Int), t, ())]) := by
  have hl := items_len l 0 (0, 1)
  by_cases hb : 0 ≤ b ∧ b ≤ l.length
  · refine .inl ⟨hb.1, hb.2, ?_⟩
    have hx : b.toNat ≤ l.length := by omega
    have hcast : ((b.toNat : Nat) : Int) = b := Int.toNat_of_nonneg hb.1
    have ht := items_take l hx
    rw [hcast] at ht
    have g1 : ∀ j, j < b.toNat → notAt b ([] ++ (items 0 (0, 1) l).take (j + 1)) = true := fun j hj => by
      rw [List.nil_append, items_take l (by omega), notAt_concat]
      simp; omega
    have g2 : notAt b ([] ++ (items 0 (0, 1) l).take (b.toNat + 1)) = false := by rw [List.nil_append, ht, notAt_concat]; simp
    rw [fed_stop (notAt b) (items 0 (0, 1) l) [] b.toNat (by omega) g1 g2, List.nil_append, ht, begAt_in hb]
  · refine .inr ⟨hb, (items 0 (0, 1) l).take l.length, itB l l.length, ?_⟩
    have ht := items_take l (Nat.le_refl l.length)
    rw [show (items 0 (0, 1) l).take (l.length + 1) = items 0 (0, 1) l by rw [← hl, List.take_length]] at ht
    rw [← ht, fed_last (notAt b) (items 0 (0, 1) l) [] l.length (by omega) (fun j hj => ?_) hl.symm, List.nil_append]
    rw [List.nil_append, items_take l (by omega), notAt_concat]
    simp; omega

/-! positions -/
theorem barAt_mem {l : List Bar} {b : Int} (h0 : 0 ≤ b) (h : b < l.length) : barAt l b ∈ l := mem_getD (by omega)
theorem posS_iff {l : List Bar} {b n d : Int} : posS l b n d = true ↔ 0 ≤ b ∧ 0 ≤ tks n d ∧ ((b < l.length ∧ tks n d < tb (barAt l b)) ∨ (b = l.length ∧ tks n d = 0)) := by unfold posS; exact decide_eq_true_iff
theorem posS_ahead {l : List Bar} (hl : okBars l = true) {b n d : Int} (h : posS l b n d = true) : dur n d = true ∧ 0 ≤ b ∧ b ≤ l.length ∧ 0 ≤ tk n d ∧ tk n d ≤ 40320 ∧ 0 ≤ aheadB l b n d ∧ aheadB l b n d ≤ 161280000 + 40320 := by
  obtain ⟨h1, h2, h3⟩ := posS_iff.1 h
  have hd := tks_nonneg.1 h2
  rw [tks_dur hd] at h2 h3
  have ht := bef_take hl b.toNat
  have h4 : tk n d ≤ 40320 := by
    rcases h3 with ⟨h3, h4⟩ | ⟨h3, h4⟩
    · have := okBar_iff.1 ((okBars_iff.1 hl).2.2.1 _ (barAt_mem h1 h3)); omega
    · omega
  unfold aheadB
  refine ⟨hd, h1, by omega, h2, h4, by omega, by omega⟩
end Go.RatLaw
