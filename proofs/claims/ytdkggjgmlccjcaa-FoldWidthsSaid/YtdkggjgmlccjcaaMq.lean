/- Plain laws on bars: when they begin, positions in them. No program in sight. -/
import Derived.Test.YtdkggjgmlccjcaaMp
namespace Go.RatLaw

theorem tks_dur {n d : Int} (h : dur n d = true) : tks n d = tk n d := by unfold tks; rw [if_pos h]
theorem tks_no {n d : Int} (h : dur n d = false) : tks n d = -1 := by unfold tks; rw [if_neg (by rw [h]; simp)]
theorem tks_nonneg {n d : Int} : 0 ≤ tks n d ↔ dur n d = true := by
  cases h : dur n d with
  | true => rw [tks_dur h]; simp [(dur_spec h).2.2.2.2.2]
  | false => rw [tks_no h]; simp
theorem tk_bound {n d : Int} (h : dur n d = true) : tk n d ≤ 1680000000000 := by
  obtain ⟨v, hn, hd, e, e2, t0⟩ := dur_spec h
  have hle := vld_bd v
  have h1 : (1680 : Int).tdiv d ≤ 1680 := Int.le_of_dvd (by decide) ⟨d, by rw [Int.mul_comm]; exact e.symm⟩
  have h0 : 0 ≤ (1680 : Int).tdiv d := Int.tdiv_nonneg (by decide) (by omega)
  unfold tk
  have := Int.mul_le_mul (show n ≤ 1000000000 by omega) h1 h0 (by decide)
  omega
theorem tks_bound {n d : Int} : -1 ≤ tks n d ∧ tks n d ≤ 1680000000000 := by
  cases h : dur n d with
  | true => rw [tks_dur h]; have := tk_bound h; have := (dur_spec h).2.2.2.2.2; omega
  | false => rw [tks_no h]; omega
/-- durations: the lesser one has less 1680ths -/
theorem less_dur {a b c d : Int} (h : dur a b = true) (k : dur c d = true) : lessR a b c d = decide (tk a b < tk c d) := by
  obtain ⟨v, _, hb, _, e, _⟩ := dur_spec h
  obtain ⟨v', _, hd, _, e', _⟩ := dur_spec k
  unfold lessR compareR
  rw [v, v']
  have key : a * d < c * b ↔ tk a b < tk c d := by
    have h1 : tk a b * (b * d) = a * d * 1680 := by rw [← Int.mul_assoc, e]; grind
    have h2 : tk c d * (b * d) = c * b * 1680 := by rw [show tk c d * (b * d) = tk c d * d * b by grind, e']; grind
    have hbd : 0 < b * d := Int.mul_pos hb hd
    constructor
    · intro hl
      have : tk a b * (b * d) < tk c d * (b * d) := by omega
      exact Int.lt_of_mul_lt_mul_right this (by omega)
    · intro hl
      have := Int.mul_lt_mul_of_pos_right hl hbd
      omega
  simp only [Bool.and_true, if_true]
  unfold cmpR
  by_cases hl : a * d < c * b
  · rw [if_pos hl]; simp [key.1 hl]
  · rw [if_neg hl]
    have : ¬ tk a b < tk c d := fun q => hl (key.2 q)
    split <;> simp [this]
theorem less_dec {a b c d : Int} : decide ((compareR a b c d).1 < 0) = lessR a b c d := rfl

/-- a signed duration -/
def sdur (n d : Int) : Bool := vld n d && (1680 : Int).tmod d == 0
theorem sdur_spec {n d : Int} (h : sdur n d = true) : vld n d = true ∧ 0 < d ∧ tk n d * d = n * 1680 := by
  unfold sdur at h
  rw [Bool.and_eq_true] at h
  obtain ⟨v, h2⟩ := h
  have hb := vld_bd v
  have h3 : (1680 : Int).tmod d = 0 := by simpa using h2
  have h4 : d * (1680 : Int).tdiv d = 1680 := by have := Int.mul_tdiv_add_tmod 1680 d; omega
  refine ⟨v, hb.2.2.2, ?_⟩
  unfold tk
  rw [Int.mul_assoc, Int.mul_comm _ d, h4]
theorem dur_sdur {n d : Int} (h : dur n d = true) : sdur n d = true := by
  unfold dur at h; unfold sdur
  simp only [Bool.and_eq_true] at h ⊢
  exact ⟨h.1.1, h.2⟩
theorem sdur_dur {n d : Int} (h : sdur n d = true) (h0 : 0 ≤ n) : dur n d = true := by
  unfold sdur at h; unfold dur
  simp only [Bool.and_eq_true] at h ⊢
  exact ⟨⟨h.1, by simpa using h0⟩, h.2⟩
theorem vld_neg (n d : Int) : vld (-n) d = vld n d := by
  rw [Bool.eq_iff_iff, vld_iff, vld_iff, Int.neg_gcd]
  omega
theorem sdur_neg {n d : Int} : sdur (-n) d = sdur n d := by
  unfold sdur; rw [vld_neg]
theorem tk_neg (n d : Int) : tk (-n) d = -tk n d := by unfold tk; rw [Int.neg_mul]
theorem sadd {a b c d : Int} (h : sdur a b = true) (h' : sdur c d = true) : addR a b c d = mk (tk a b + tk c d) 1680 := by
  obtain ⟨v, hb, e⟩ := sdur_spec h
  obtain ⟨v', hd, e'⟩ := sdur_spec h'
  have hbd : b * d ≠ 0 := Int.mul_ne_zero (by omega) (by omega)
  have : addR a b c d = mk (a * d + c * b) (b * d) := by unfold addR; rw [v, v']; rfl
  rw [this, mk_congr hbd (show (1680 : Int) ≠ 0 by decide) (n' := tk a b + tk c d) ?_]
  have e1 : (a * d + c * b) * 1680 = (a * 1680) * d + (c * 1680) * b := by grind
  rw [e1, ← e, ← e']
  grind
theorem ssub {a b c d : Int} (h : sdur a b = true) (h' : sdur c d = true) : subR a b c d = mk (tk a b - tk c d) 1680 := by
  obtain ⟨v, hb, e⟩ := sdur_spec h
  obtain ⟨v', hd, e'⟩ := sdur_spec h'
  have hbd : b * d ≠ 0 := Int.mul_ne_zero (by omega) (by omega)
  have : subR a b c d = mk (a * d - c * b) (b * d) := by unfold subR; rw [v, v']; rfl
  rw [this, mk_congr hbd (show (1680 : Int) ≠ 0 by decide) (n' := tk a b - tk c d) ?_]
  have e1 : (a * d - c * b) * 1680 = (a * 1680) * d - (c * 1680) * b := by grind
  rw [e1, ← e, ← e']
  grind
theorem redD1680 (t : Int) : (1680 : Int).tmod (redD t 1680) = 0 := by
  obtain ⟨e, g⟩ := red_spec (n := t) (d := 1680) (by decide)
  have : redD t 1680 ∣ 1680 := dvd_left (b := redN t 1680) ⟨t, e⟩ g
  exact Int.tmod_eq_zero_of_dvd this
/-- a result is a signed duration of so many 1680ths -/
theorem mk_ok {t : Int} (h : (mk t 1680).2.2 = 0) : sdur (mk t 1680).1 (mk t 1680).2.1 = true ∧ tk (mk t 1680).1 (mk t 1680).2.1 = t := by
  cases hf : fits t 1680 with
  | false => rw [mk_no hf] at h; cases h
  | true =>
    rw [mk_yes hf]
    have hpos := redD_pos (n := t) (d := 1680) (by decide)
    obtain ⟨e, g⟩ := red_spec (n := t) (d := 1680) (by decide)
    have hv : vld (redN t 1680) (redD t 1680) = true := by
      unfold fits at hf
      have := of_decide_eq_true hf
      rw [vld_iff]; refine ⟨by omega, by omega, by omega, by omega, g⟩
    have hs : sdur (redN t 1680) (redD t 1680) = true := by unfold sdur; rw [hv, redD1680]; rfl
    refine ⟨hs, ?_⟩
    obtain ⟨_, h1, h2⟩ := sdur_spec hs
    have : tk (redN t 1680) (redD t 1680) * redD t 1680 = t * redD t 1680 := by rw [h2, e, Int.mul_comm]
    exact Int.eq_of_mul_eq_mul_right (by omega) this
theorem mk_cases0 (t : Int) : mk t 1680 = (0, 0, 3) ∨ (mk t 1680).2.2 = 0 := by
  rcases mk_cases t 1680 (by decide) with h | ⟨p, q, h, _⟩
  · exact .inl h
  · rw [h]; exact .inr rfl
theorem tk_sign {n d : Int} (h : sdur n d = true) : (0 ≤ tk n d ↔ 0 ≤ n) ∧ (tk n d = 0 ↔ n = 0) := by
  obtain ⟨_, hd, e⟩ := sdur_spec h
  have h1 : 0 ≤ (1680 : Int).tdiv d := Int.tdiv_nonneg (by decide) (by omega)
  have h2 : (1680 : Int).tdiv d ≠ 0 := by
    intro hz
    unfold sdur at h; rw [Bool.and_eq_true] at h
    have h3 : (1680 : Int).tmod d = 0 := by simpa using h.2
    have := Int.mul_tdiv_add_tmod 1680 d
    rw [hz] at this; omega
  unfold tk
  constructor
  · constructor
    · intro h; by_cases hn : 0 ≤ n
      · exact hn
      · have := Int.mul_neg_of_neg_of_pos (show n < 0 by omega) (show 0 < (1680 : Int).tdiv d by omega); omega
    · intro h; exact Int.mul_nonneg h h1
  · constructor
    · intro h; rcases Int.mul_eq_zero.1 h with h | h
      · exact h
      · exact absurd h h2
    · intro h; rw [h, Int.zero_mul]
theorem dur01 : dur 0 1 = true := by decide
theorem tk01 : tk 0 1 = 0 := by decide
theorem ofT0 : ofT 0 = (0, 1) := by decide
theorem dur_ofT {t : Int} (h0 : 0 ≤ t) (h1 : t ≤ 806400000) : dur (ofT t).1 (ofT t).2 = true := (ofT_spec h0 h1).1
theorem tk_ofT {t : Int} (h0 : 0 ≤ t) (h1 : t ≤ 806400000) : tk (ofT t).1 (ofT t).2 = t := (ofT_spec h0 h1).2.1

/-! bars -/
theorem okBars_iff {l : List Bar} : okBars l = true ↔ 1 ≤ l.length ∧ l.length ≤ 4000 ∧ (∀ b ∈ l, okBar b = true) ∧ (ids l).Nodup := by unfold okBars; exact decide_eq_true_iff
theorem okBar_iff {b : Bar} : okBar b = true ↔ 1 ≤ b.1 ∧ b.1 ≤ 1000000 ∧ 1 ≤ tb b ∧ tb b ≤ 40320 ∧ -7 ≤ b.2.2 ∧ b.2.2 ≤ 7 := by unfold okBar; exact decide_eq_true_iff
theorem okBar_dur {b : Bar} (h : okBar b = true) : dur b.2.1.1 b.2.1.2 = true ∧ tk b.2.1.1 b.2.1.2 = tb b := by
  have := okBar_iff.1 h
  have hd : dur b.2.1.1 b.2.1.2 = true := tks_nonneg.1 (by unfold tb at this; omega)
  exact ⟨hd, (tks_dur hd).symm⟩
theorem bef_nil : bef [] = 0 := rfl
theorem bef_cons (b : Bar) (l : List Bar) : bef (b :: l) = tb b + bef l := by simp [bef]
theorem bef_append (l m : List Bar) : bef (l ++ m) = bef l + bef m := by simp [bef]
theorem bef_bound {l : List Bar} (h : ∀ b ∈ l, okBar b = true) : 0 ≤ bef l ∧ bef l ≤ 40320 * l.length := by
  induction l with
  | nil => simp [bef]
  | cons b r ih =>
    have h1 := okBar_iff.1 (h b (by simp))
    have h2 := ih fun x hx => h x (by simp [hx])
    rw [bef_cons, List.length_cons]
    omega
theorem bef_take {l : List Bar} (h : okBars l = true) (k : Nat) : 0 ≤ bef (l.take k) ∧ bef (l.take k) ≤ 161280000 ∧ bef (l.take k) ≤ bef l := by
  obtain ⟨h1, h2, h3, _⟩ := okBars_iff.1 h
  have a := bef_bound (l := l.take k) fun b hb => h3 b (List.mem_of_mem_take hb)
  have c := bef_bound (l := l.drop k) fun b hb => h3 b (List.mem_of_mem_drop hb)
  have e := bef_append (l.take k) (l.drop k)
  rw [List.take_append_drop] at e
  have : (l.take k).length ≤ 4000 := by rw [List.length_take]; omega
  omega
theorem bef_all {l : List Bar} (h : okBars l = true) : 0 ≤ bef l ∧ bef l ≤ 161280000 := by
  have := bef_take h l.length
  rw [List.take_length] at this
  omega
theorem take_at {l : List Bar} {x : Nat} (h : x < l.length) : l.take (x + 1) = l.take x ++ [l.getD x bar0] := by
  rw [List.take_add_one, List.getD_eq_getElem?_getD, List.getElem?_eq_getElem h]; rfl
theorem mem_getD {l : List Bar} {x : Nat} (h : x < l.length) : l.getD x bar0 ∈ l := by
  rw [List.getD_eq_getElem?_getD, List.getElem?_eq_getElem h]; exact List.getElem_mem h
theorem bef_succ {l : List Bar} {x : Nat} (h : x < l.length) : bef (l.take (x + 1)) = bef (l.take x) + tb (l.getD x bar0) := by
  rw [take_at h, bef_append, bef_cons, bef_nil, Int.add_zero]

/-! the items of a loop over bars -/
abbrev It3 := Int × (Int × Int) × Unit
abbrev it0 : It3 := (0, (0, 1), ())
theorem items_len : ∀ (l : List Bar) (i : Int) (t : Int × Int), (items i t l).length = l.length + 1
  | [], _, _ => rfl
  | _ :: r, i, t => by simp [items, items_len r]
theorem items_fst : ∀ (l : List Bar) (i : Int) (t : Int × Int) (k : Nat), k ≤ l.length → ((items i t l).getD k it0).1 = i + k
  | [], i, t, k, h => by
    have : k = 0 := by simpa using h
    subst this; simp [items]
  | b :: r, i, t, 0, _ => by simp [items]
  | b :: r, i, t, k + 1, h => by
    have := items_fst r (i + 1) ((addR t.1 t.2 b.2.1.1 b.2.1.2).1, (addR t.1 t.2 b.2.1.1 b.2.1.2).2.1) k (by simpa using h)
    simp only [items, List.getD_cons_succ, this]
    omega
theorem items_next : ∀ (l : List Bar) (i : Int) (t : Int × Int) (k : Nat), k < l.length →
    ((items i t l).getD (k + 1) it0).2.1 = ((addR ((items i t l).getD k it0).2.1.1 ((items i t l).getD k it0).2.1.2 (l.getD k bar0).2.1.1 (l.getD k bar0).2.1.2).1, (addR ((items i t l).getD k it0).2.1.1 ((items i t l).getD k it0).2.1.2 (l.getD k bar0).2.1.1 (l.getD k bar0).2.1.2).2.1)
  | [], _, _, _, h => by simp at h
  | b :: r, i, t, 0, _ => by cases r <;> simp [items]
  | b :: r, i, t, k + 1, h => by
    have := items_next r (i + 1) ((addR t.1 t.2 b.2.1.1 b.2.1.2).1, (addR t.1 t.2 b.2.1.1 b.2.1.2).2.1) k (by simpa using h)
    simpa only [items, List.getD_cons_succ] using this
theorem itB_eq (l : List Bar) (x : Nat) : itB l x = ((items 0 (0, 1) l).getD x it0).2.1 := by
  unfold itB
  rfl
theorem items_at (l : List Bar) {x : Nat} (h : x ≤ l.length) : (items 0 (0, 1) l)[x]? = some ((x : Int), itB l x, ()) := by
  have hl : x < (items 0 (0, 1) l).length := by rw [items_len]; omega
  have h1 := items_fst l 0 (0, 1) x h
  have h2 := itB_eq l x
  rw [List.getD_eq_getElem?_getD, List.getElem?_eq_getElem hl] at h1 h2
  rw [List.getElem?_eq_getElem hl]
  simp at h1 h2
  rw [h2, ← h1]
theorem items_take (l : List Bar) {x : Nat} (h : x ≤ l.length) : (items 0 (0, 1) l).take (x + 1) = (items 0 (0, 1) l).take x ++ [((x : Int), itB l x, ())] := by
  rw [List.take_add_one, items_at l h]; rfl
theorem itB_zero (l : List Bar) : itB l 0 = (0, 1) := by cases l <;> rfl
theorem itB_next {l : List Bar} {x : Nat} (h : x < l.length) : itB l (x + 1) = ((addR (itB l x).1 (itB l x).2 (l.getD x bar0).2.1.1 (l.getD x bar0).2.1.2).1, (addR (itB l x).1 (itB l x).2 (l.getD x bar0).2.1.1 (l.getD x bar0).2.1.2).2.1) := by
  rw [itB_eq, itB_eq]; exact items_next l 0 (0, 1) x h
theorem itB_ok {l : List Bar} (h : okBars l = true) : ∀ {x : Nat}, x ≤ l.length → itB l x = ofT (bef (l.take x))
  | 0, _ => by rw [itB_zero]; simp [bef, ofT0]
  | x + 1, hx => by
    have hx' : x < l.length := by omega
    rw [itB_next hx', itB_ok h (by omega), bef_succ hx']
    have h3 := (okBars_iff.1 h).2.2.1 _ (mem_getD hx')
    obtain ⟨d1, d2⟩ := okBar_dur h3
    have hb := bef_take h x
    have hb2 := bef_take h (x + 1)
    rw [bef_succ hx'] at hb2
    rw [add_dur (dur_ofT hb.1 (by omega)) d1 (by rw [tk_ofT hb.1 (by omega), d2]; omega), tk_ofT hb.1 (by omega), d2]

/-! what is handed on -/
theorem fed_stop {α : Type} (go : List α → Bool) : ∀ (r hist : List α) (k : Nat), k < r.length → (∀ j, j < k → go (hist ++ r.take (j + 1)) = true) → go (hist ++ r.take (k + 1)) = false → fed go hist r = hist ++ r.take (k + 1)
  | [], _, _, h, _, _ => by simp at h
  | x :: r, hist, 0, _, _, hs => by
    simp only [List.take_succ_cons, List.take_zero] at hs ⊢
    simp only [fed, hs, Bool.false_eq_true, if_false]
  | x :: r, hist, k + 1, h, hg, hs => by
    have h0 := hg 0 (by omega)
    simp only [List.take_succ_cons, List.take_zero] at h0
    simp only [fed, h0, if_true]
    rw [fed_stop go r (hist ++ [x]) k (by simpa using h) (fun j hj => by simpa using hg (j + 1) (by omega)) (by simpa using hs)]
    simp
theorem fed_all {α : Type} (go : List α → Bool) : ∀ (r hist : List α), (∀ j, j < r.length → go (hist ++ r.take (j + 1)) = true) → fed go hist r = hist ++ r
  | [], hist, _ => by simp [fed]
  | x :: r, hist, hg => by
    have h0 := hg 0 (by simp)
    simp only [List.take_succ_cons, List.take_zero] at h0
    simp only [fed, h0, if_true]
    rw [fed_all go r (hist ++ [x]) fun j hj => by simpa using hg (j + 1) (by simpa using hj)]
    simp
/-- all that goes on but perhaps the last -/
theorem fed_last {α : Type} (go : List α → Bool) : ∀ (r hist : List α) (k : Nat), k < r.length → (∀ j, j < k → go (hist ++ r.take (j + 1)) = true) → k + 1 = r.length → fed go hist r = hist ++ r
  | r, hist, k, hk, hg, hl => by
    cases h : go (hist ++ r.take (k + 1)) with
    | false =>
      have := fed_stop go r hist k hk hg h
      rw [this, hl, List.take_length]
    | true =>
      refine fed_all go r hist fun j hj => ?_
      by_cases e : j = k
      · subst e; exact h
      · exact hg j (by omega)

theorem notAt_concat (b : Int) (h : List It3) (x : It3) : notAt b (h ++ [x]) = (x.1 != b) := by unfold notAt; simp
theorem resAt_concat (b : Int) (h : List It3) (x : It3) : resAt b (h ++ [x]) = if x.1 = b then x.2.1 else (0, 0) := by unfold resAt; simp
theorem goAt_concat (l : List Bar) (n d : Int) (h : List It3) (x : It3) : goAt l n d (h ++ [x]) = goOn l n d x := by unfold goAt; simp
theorem outAt_concat (l : List Bar) (n d : Int) (h : List It3) (x : It3) : outAt l n d (h ++ [x]) = if goOn l n d x then (0, 0, 0, 0) else stopAt l n d x := by unfold outAt; simp
theorem begAt_in {l : List Bar} {b : Int} (h : 0 ≤ b ∧ b ≤ l.length) : begAt l b = itB l b.toNat := by unfold begAt itB; rw [if_pos h]
theorem begAt_out {l : List Bar} {b : Int} (h : ¬(0 ≤ b ∧ b ≤ l.length)) : begAt l b = (0, 1) := by unfold begAt; rw [if_neg h]
theorem begAt_ok {l : List Bar} (hl : okBars l = true) {b : Int} (h : 0 ≤ b ∧ b ≤ l.length) : begAt l b = ofT (bef (l.take b.toNat)) := by rw [begAt_in h, itB_ok hl (by omega)]
/-- what a search for bar b is handed -/
theorem fed_beg (l : List Bar) (b : Int) : (0 ≤ b ∧ b ≤ l.length ∧ fed (notAt b) [] (items 0 (0, 1) l) = (items 0 (0, 1) l).take b.toNat ++ [(b, begAt l b, ())]) ∨
    (¬(0 ≤ b ∧ b ≤ l.length) ∧ ∃ h t, fed (notAt b) [] (items 0 (0, 1) l) = h ++ [((l.length : Int), t, ())]) := by
  have hl := items_len l 0 (0, 1)
  by_cases hb : 0 ≤ b ∧ b ≤ l.length
  · refine .inl ⟨hb.1, hb.2, ?_⟩
    have hx : b.toNat ≤ l.length := by omega
    have hcast : ((b.toNat : Nat) : Int) = b := Int.toNat_of_nonneg hb.1
    have ht := items_take l hx
    rw [hcast] at ht
    have g1 : ∀ j, j < b.toNat → notAt b ([] ++ (items 0 (0, 1) l).take (j + 1)) = true := fun j hj => by
      rw [List.nil_append, items_take l (by omega), notAt_concat]
      simp; omega
    have g2 : notAt b ([] ++ (items 0 (0, 1) l).take (b.toNat + 1)) = false := by rw [List.nil_append, ht, notAt_concat]; simp
    rw [fed_stop (notAt b) (items 0 (0, 1) l) [] b.toNat (by omega) g1 g2, List.nil_append, ht, begAt_in hb]
  · refine .inr ⟨hb, (items 0 (0, 1) l).take l.length, itB l l.length, ?_⟩
    have ht := items_take l (Nat.le_refl l.length)
    rw [show (items 0 (0, 1) l).take (l.length + 1) = items 0 (0, 1) l by rw [← hl, List.take_length]] at ht
    rw [← ht, fed_last (notAt b) (items 0 (0, 1) l) [] l.length (by omega) (fun j hj => ?_) hl.symm, List.nil_append]
    rw [List.nil_append, items_take l (by omega), notAt_concat]
    simp; omega

/-! positions -/
theorem barAt_mem {l : List Bar} {b : Int} (h0 : 0 ≤ b) (h : b < l.length) : barAt l b ∈ l := mem_getD (by omega)
theorem posS_iff {l : List Bar} {b n d : Int} : posS l b n d = true ↔ 0 ≤ b ∧ 0 ≤ tks n d ∧ ((b < l.length ∧ tks n d < tb (barAt l b)) ∨ (b = l.length ∧ tks n d = 0)) := by unfold posS; exact decide_eq_true_iff
theorem posS_ahead {l : List Bar} (hl : okBars l = true) {b n d : Int} (h : posS l b n d = true) : dur n d = true ∧ 0 ≤ b ∧ b ≤ l.length ∧ 0 ≤ tk n d ∧ tk n d ≤ 40320 ∧ 0 ≤ aheadB l b n d ∧ aheadB l b n d ≤ 161280000 + 40320 := by
  obtain ⟨h1, h2, h3⟩ := posS_iff.1 h
  have hd := tks_nonneg.1 h2
  rw [tks_dur hd] at h2 h3
  have ht := bef_take hl b.toNat
  have h4 : tk n d ≤ 40320 := by
    rcases h3 with ⟨h3, h4⟩ | ⟨h3, h4⟩
    · have := okBar_iff.1 ((okBars_iff.1 hl).2.2.1 _ (barAt_mem h1 h3)); omega
    · omega
  unfold aheadB
  refine ⟨hd, h1, by omega, h2, h4, by omega, by omega⟩
theorem find_skip {b : Bar} {r : List Bar} {t : Int} (h : ¬(0 ≤ t ∧ t < tb b)) : find (b :: r) t = (find r (t - tb b)).map fun x => (x.1 + 1, x.2) := by rw [find, if_neg h]
theorem atR_zero (l : List Bar) (n : Int) : atR l n 0 := by
  refine ⟨Nat.zero_le _, ?_⟩
  simp [bef]
theorem drop_at {l : List Bar} {x : Nat} (h : x < l.length) : l.drop x = l.getD x bar0 :: l.drop (x + 1) := by
  rw [List.drop_eq_getElem_cons h, List.getD_eq_getElem?_getD, List.getElem?_eq_getElem h]; rfl
theorem atR_next {l : List Bar} {n : Int} {x : Nat} (h : atR l n x) (hx : x < l.length) (hn : ¬(0 ≤ n - bef (l.take x) ∧ n - bef (l.take x) < tb (l.getD x bar0))) : atR l n (x + 1) := by
  refine ⟨hx, ?_⟩
  rw [h.2, drop_at hx, find_skip hn, bef_succ hx, Option.map_map, show n - bef (l.take x) - tb (l.getD x bar0) = n - (bef (l.take x) + tb (l.getD x bar0)) by omega]
  congr 1
  · funext r; simp; omega
theorem atR_in {l : List Bar} {n : Int} {x : Nat} (h : atR l n x) (hx : x < l.length) (hn : 0 ≤ n - bef (l.take x) ∧ n - bef (l.take x) < tb (l.getD x bar0)) : find l n = some ((x : Int), n - bef (l.take x)) := by
  rw [h.2, drop_at hx, find, if_pos hn]; simp
theorem atR_end {l : List Bar} {n : Int} (h : atR l n l.length) : find l n = if n - bef l = 0 then some ((l.length : Int), 0) else none := by
  rw [h.2, List.drop_length, List.take_length, find]
  split <;> simp
/-- where a search for a time ends -/
theorem stop_ex (l : List Bar) (t : Int) : ∀ k, k ≤ l.length → (∃ j, j < k ∧ (∀ i, i < j → bef (l.take (i + 1)) ≤ t) ∧ t < bef (l.take (j + 1))) ∨ ∀ i, i < k → bef (l.take (i + 1)) ≤ t
  | 0, _ => .inr fun i hi => by omega
  | k + 1, hk => by
    rcases stop_ex l t k (by omega) with ⟨j, h1, h2, h3⟩ | h
    · exact .inl ⟨j, by omega, h2, h3⟩
    · by_cases hs : t < bef (l.take (k + 1))
      · exact .inl ⟨k, by omega, h, hs⟩
      · refine .inr fun i hi => ?_
        by_cases e : i = k
        · subst e; omega
        · exact h i (by omega)
theorem goOn_ok {l : List Bar} (hl : okBars l = true) {n d : Int} (hd : dur n d = true) {j : Nat} (hj : j ≤ l.length) : goOn l n d ((j : Int), itB l j, ()) = decide (bef (l.take j) ≤ tk n d ∧ j < l.length ∧ bef (l.take (j + 1)) ≤ tk n d) := by
  have hb := bef_take hl j
  have hdj := dur_ofT hb.1 (by omega)
  have htj := tk_ofT hb.1 (by omega)
  unfold goOn
  simp only [itB_ok hl hj]
  rw [less_dur hd hdj, htj]
  by_cases hlt : j < l.length
  · obtain ⟨d1, d2⟩ := okBar_dur ((okBars_iff.1 hl).2.2.1 _ (mem_getD hlt))
    have hb2 := bef_take hl (j + 1)
    have hs := bef_succ hlt
    have e : barAt l (j : Int) = l.getD j bar0 := by unfold barAt; rw [Int.toNat_natCast]
    have ha := add_dur hdj d1 (by rw [htj, d2]; omega)
    rw [htj, d2, ← hs] at ha
    unfold behS
    rw [e, ha, less_dur hd (dur_ofT hb2.1 (by omega)), tk_ofT hb2.1 (by omega)]
    rw [Bool.eq_iff_iff]
    simp
  · rw [Bool.eq_iff_iff]
    simp; omega
/-- what a search for a time is handed, and its result -/
theorem fed_at {l : List Bar} (hl : okBars l = true) {n d : Int} (hd : dur n d = true) : ∃ h x, fed (goAt l n d) [] (items 0 (0, 1) l) = h ++ [x] ∧ goOn l n d x = false ∧ stopAt l n d x = posOf 3 (find l (tk n d)) := by
  have hil := items_len l 0 (0, 1)
  have h0 := (dur_spec hd).2.2.2.2.2
  have main : ∀ j, j ≤ l.length → (∀ i, i < j → bef (l.take (i + 1)) ≤ tk n d) → (j = l.length ∨ tk n d < bef (l.take (j + 1))) →
      ∃ h x, fed (goAt l n d) [] (items 0 (0, 1) l) = h ++ [x] ∧ goOn l n d x = false ∧ stopAt l n d x = posOf 3 (find l (tk n d)) := by
    intro j hj hbelow hstop
    have hge : ∀ i, i ≤ j → bef (l.take i) ≤ tk n d := by
      intro i hi
      cases i with
      | zero => rw [List.take_zero, bef_nil]; exact h0
      | succ i => exact hbelow i (by omega)
    have hat : ∀ i, i ≤ j → atR l (tk n d) i := by
      intro i
      induction i with
      | zero => intro _; exact atR_zero l _
      | succ i ih =>
        intro hi
        refine atR_next (ih (by omega)) (by omega) fun ⟨_, h2⟩ => ?_
        have h3 := hge (i + 1) hi
        rw [bef_succ (by omega)] at h3
        omega
    have hgo : goOn l n d ((j : Int), itB l j, ()) = false := by
      rw [goOn_ok hl hd hj]
      rcases hstop with hs | hs <;> simp <;> omega
    have ht := items_take l hj
    refine ⟨(items 0 (0, 1) l).take j, ((j : Int), itB l j, ()), ?_, hgo, ?_⟩
    · have g1 : ∀ i, i < j → goAt l n d ([] ++ (items 0 (0, 1) l).take (i + 1)) = true := fun i hi => by
        rw [List.nil_append, items_take l (by omega), goAt_concat, goOn_ok hl hd (by omega)]
        simp only [decide_eq_true_eq]
        exact ⟨hge i (by omega), by omega, hge (i + 1) (by omega)⟩
      have g2 : goAt l n d ([] ++ (items 0 (0, 1) l).take (j + 1)) = false := by rw [List.nil_append, ht, goAt_concat]; exact hgo
      rw [← ht, fed_stop (goAt l n d) (items 0 (0, 1) l) [] j (by omega) g1 g2, List.nil_append]
    · have hb := bef_take hl j
      have hdj := dur_ofT hb.1 (by omega)
      have htj := tk_ofT hb.1 (by omega)
      unfold stopAt
      simp only [itB_ok hl hj]
      rw [less_dur hd hdj, htj, if_neg (by simp; exact hge j (Nat.le_refl _)), ssub (dur_sdur hd) (dur_sdur hdj), htj]
      rcases hstop with hs | hs
      · subst hs
        have he := atR_end (hat l.length (Nat.le_refl _))
        rw [List.take_length]
        by_cases hz : tk n d - bef l = 0
        · rw [he, if_pos hz, hz]
          rw [if_neg (fun h => ?_)]
          · rfl
          · rcases h with ⟨_, h⟩ | h
            · exact h (by decide)
            · exact h (by decide)
        · rw [he, if_neg hz]
          rw [if_pos]
          · rfl
          · rcases mk_cases0 (tk n d - bef l) with h1 | h1
            · rw [h1]; exact .inr (by decide)
            · refine .inl ⟨rfl, fun ⟨h2, h3⟩ => hz ?_⟩
              have := (mk_ok h1).2
              rw [h2, h3] at this
              rw [← this]; rfl
      · by_cases hlt : j < l.length
        · have hs2 := bef_succ hlt
          have hob := okBar_iff.1 ((okBars_iff.1 hl).2.2.1 _ (mem_getD hlt))
          have hgj := hge j (Nat.le_refl _)
          have hi := atR_in (hat j (Nat.le_refl _)) hlt (by omega)
          obtain ⟨_, _, e3⟩ := ofT_spec (t := tk n d - bef (l.take j)) (by omega) (by omega)
          rw [hi, e3, if_neg (by simp; omega)]
          rfl
        · have : j = l.length := by omega
          subst this
          exfalso
          rw [List.take_of_length_le (by omega)] at hs
          have := hge l.length (Nat.le_refl _)
          rw [List.take_length] at this
          omega
  rcases stop_ex l (tk n d) l.length (Nat.le_refl _) with ⟨j, h1, h2, h3⟩ | h
  · exact main j (by omega) h2 (.inr h3)
  · exact main l.length (Nat.le_refl _) h (.inl rfl)
theorem posS_no {l : List Bar} {b n d : Int} (h : dur n d = false) : posS l b n d = false := by
  rw [Bool.eq_false_iff]; intro hp
  have := tks_nonneg.1 (posS_iff.1 hp).2.1
  rw [h] at this; cases this
/-- nothing lies behind the end -/
theorem find_none {l : List Bar} (h : ∀ b ∈ l, okBar b = true) {t : Int} (ht : t < 0 ∨ bef l < t) : find l t = none := by
  induction l generalizing t with
  | nil => unfold find; rw [if_neg]; simp [bef] at ht; omega
  | cons b r ih =>
    have hb := okBar_iff.1 (h b (by simp))
    have hr := bef_bound fun x hx => h x (List.mem_cons_of_mem _ hx)
    rw [bef_cons] at ht
    rw [find_skip (by omega), ih (fun x hx => h x (List.mem_cons_of_mem _ hx)) (by omega)]; rfl
end Go.RatLaw
