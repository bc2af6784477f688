/- Plain laws on times of positions and back. No program in sight. -/
import Derived.Test.YtjghgdccaakfmaaMq
namespace Go.RatLaw

theorem bef_mono {l : List Bar} (h : okBars l = true) {i j : Nat} (hij : i ≤ j) : bef (l.take i) ≤ bef (l.take j) := by
  obtain ⟨k, rfl⟩ : ∃ k, j = i + k := ⟨j - i, by omega⟩
  rw [List.take_add, bef_append]
  have := (bef_bound (l := (l.drop i).take k) fun b hb => (okBars_iff.1 h).2.2.1 b (List.mem_of_mem_drop (List.mem_of_mem_take hb))).1
  omega
theorem find_pos {l : List Bar} (hl : okBars l = true) {b n d : Int} (h : posS l b n d = true) : find l (aheadB l b n d) = some (b, tk n d) := by
  obtain ⟨hd, h1, h2, h3, h4, h5, h6⟩ := posS_ahead hl h
  obtain ⟨_, _, h7⟩ := posS_iff.1 h
  rw [tks_dur hd] at h7
  have hcast : ((b.toNat : Nat) : Int) = b := Int.toNat_of_nonneg h1
  have hat : ∀ i, i ≤ b.toNat → atR l (aheadB l b n d) i := by
    intro i
    induction i with
    | zero => intro _; exact atR_zero l _
    | succ i ih =>
      intro hi
      refine atR_next (ih (by omega)) (by omega) fun ⟨_, h9⟩ => ?_
      have := bef_mono hl (show i + 1 ≤ b.toNat from hi)
      rw [bef_succ (by omega)] at this
      unfold aheadB at h9
      omega
  have ha := hat b.toNat (Nat.le_refl _)
  have e : aheadB l b n d - bef (l.take b.toNat) = tk n d := by unfold aheadB; omega
  rcases h7 with ⟨h8, h9⟩ | ⟨h8, h9⟩
  · have := atR_in ha (by omega) (by rw [e]; exact ⟨h3, h9⟩)
    rw [this, e, hcast]
  · have hbl : b.toNat = l.length := by omega
    rw [hbl] at ha
    rw [atR_end ha]
    have e2 : aheadB l b n d - bef l = tk n d := by rw [hbl, List.take_length] at e; exact e
    rw [if_pos (by omega), h9, h8]
theorem find_some : ∀ {l : List Bar} {t i r : Int}, find l t = some (i, r) → 0 ≤ i ∧ i ≤ l.length ∧ 0 ≤ r ∧ t = bef (l.take i.toNat) + r ∧ (i < l.length → r < tb (barAt l i)) ∧ (i = l.length → r = 0)
  | [], t, i, r, h => by
    unfold find at h
    split at h
    · injection h with h; injection h with h1 h2
      subst h1 h2
      simp [bef]; omega
    · cases h
  | b :: l, t, i, r, h => by
    unfold find at h
    split at h
    · rename_i hc
      injection h with h; injection h with h1 h2
      subst h1 h2
      refine ⟨by omega, by simp; omega, hc.1, by simp [bef], fun _ => hc.2, fun h => ?_⟩
      simp at h; omega
    · obtain ⟨⟨i', r'⟩, h1, h2⟩ := Option.map_eq_some_iff.1 h
      injection h2 with h2 h3
      subst h2 h3
      obtain ⟨a1, a2, a3, a4, a5, a6⟩ := find_some h1
      have e : (i' + 1).toNat = i'.toNat + 1 := by omega
      refine ⟨by omega, by simp; omega, a3, ?_, fun hh => ?_, fun hh => a6 (by simp at hh; omega)⟩
      · rw [e, List.take_succ_cons, bef_cons]; simp only at a4 ⊢; omega
      · have := a5 (by simp at hh; omega)
        unfold barAt at this ⊢
        rw [e, List.getD_cons_succ]; exact this
theorem timeS_ok {l : List Bar} (hl : okBars l = true) {b n d : Int} (h : posS l b n d = true) : timeS l b n d = ((ofT (aheadB l b n d)).1, (ofT (aheadB l b n d)).2, 0) := by
  unfold timeS; rw [hl, h]; rfl
theorem posOf_pos {l : List Bar} (hl : okBars l = true) {b n d : Int} (h : posS l b n d = true) : posOf 3 (find l (aheadB l b n d)) = (b, n, d, 0) := by
  rw [find_pos hl h]
  have := dur_eq (posS_ahead hl h).1
  show (b, (ofT (tk n d)).1, (ofT (tk n d)).2, 0) = (b, n, d, 0)
  rw [← this]
/-- what is found is a position with this time -/
theorem posOf_ok {l : List Bar} (hl : okBars l = true) {t : Int} (h : (posOf 3 (find l t)).2.2.2 = 0) :
    posS l (posOf 3 (find l t)).1 (posOf 3 (find l t)).2.1 (posOf 3 (find l t)).2.2.1 = true ∧ aheadB l (posOf 3 (find l t)).1 (posOf 3 (find l t)).2.1 (posOf 3 (find l t)).2.2.1 = t := by
  cases hf : find l t with
  | none => rw [hf] at h; cases h
  | some y =>
    obtain ⟨i, r⟩ := y
    obtain ⟨a1, a2, a3, a4, a5, a6⟩ := find_some hf
    have hr : r ≤ 40320 := by
      by_cases hi : i < l.length
      · have := a5 hi
        have := okBar_iff.1 ((okBars_iff.1 hl).2.2.1 _ (barAt_mem a1 hi))
        omega
      · have := a6 (by omega); omega
    have hd := dur_ofT a3 (by omega)
    have ht := tk_ofT a3 (by omega)
    simp only [posOf]
    refine ⟨posS_iff.2 ⟨a1, by rw [tks_dur hd, ht]; exact a3, ?_⟩, ?_⟩
    · rw [tks_dur hd, ht]
      by_cases hi : i < l.length
      · exact .inl ⟨hi, a5 hi⟩
      · exact .inr ⟨by omega, a6 (by omega)⟩
    · unfold aheadB; rw [ht]; omega
theorem posOf_err3 {l : List Bar} {t : Int} (h : (posOf 3 (find l t)).2.2.2 ≠ 0) : posOf 3 (find l t) = (0, 0, 0, 3) := by
  cases hf : find l t with
  | none => rfl
  | some y => rw [hf] at h; exact absurd rfl h
theorem cmp_dur {a b c d : Int} (h : dur a b = true) (k : dur c d = true) : compareR a b c d = (if tk a b < tk c d then -1 else if tk a b > tk c d then 1 else 0, 0) := by
  have e1 := less_dur h k
  have e2 := less_dur k h
  have v := (dur_spec h).1
  have v' := (dur_spec k).1
  unfold lessR compareR at e1 e2
  rw [v, v'] at e1 e2
  unfold compareR
  rw [v, v']
  simp only [Bool.and_true, if_true] at e1 e2 ⊢
  have s1 : cmpR a b c d < 0 ↔ tk a b < tk c d := by rw [← decide_eq_true_iff (p := cmpR a b c d < 0), e1]; exact decide_eq_true_iff
  have s2 : cmpR c d a b < 0 ↔ tk c d < tk a b := by rw [← decide_eq_true_iff (p := cmpR c d a b < 0), e2]; exact decide_eq_true_iff
  unfold cmpR at s1 s2 ⊢
  congr 1
  by_cases h1 : a * d < c * b
  · have := s1.1 (by rw [if_pos h1]; decide)
    rw [if_pos h1, if_pos this]
  · rw [if_neg h1] at s1 ⊢
    have n1 : ¬ tk a b < tk c d := fun q => by have := s1.2 q; split at this <;> omega
    rw [if_neg n1]
    by_cases h2 : a * d > c * b
    · have := s2.1 (by rw [if_pos h2]; decide)
      rw [if_pos h2, if_pos this]
    · rw [if_neg h2]
      have n2 : ¬ tk a b > tk c d := fun q => by
        have := s2.2 q
        rw [if_neg (by omega)] at this
        split at this <;> omega
      rw [if_neg n2]
theorem sdur_or (x y : Int) : (dur x y || dur (-x) y) = sdur x y := by
  rw [Bool.eq_iff_iff, Bool.or_eq_true]
  constructor
  · rintro (h | h)
    · exact dur_sdur h
    · have := dur_sdur h; rwa [sdur_neg] at this
  · intro h
    by_cases hx : 0 ≤ x
    · exact .inl (sdur_dur h hx)
    · exact .inr (sdur_dur (by rw [sdur_neg]; exact h) (by omega))
theorem shiftS_eq {l : List Bar} (hl : okBars l = true) {b n d : Int} (h : posS l b n d = true) (x y : Int) : shiftS l b n d x y = if sdur x y then posOf 3 (find l (aheadB l b n d + tk x y)) else (0, 0, 0, 1) := by
  unfold shiftS; rw [hl, h, sdur_or]; simp
theorem add_sdur {p q x y : Int} (h : sdur p q = true) (ho : (addR p q x y).2.2 = 0) : sdur (addR p q x y).1 (addR p q x y).2.1 = sdur x y ∧ (sdur x y = true → tk (addR p q x y).1 (addR p q x y).2.1 = tk p q + tk x y) := by
  have hadd : sdur x y = true → sdur (addR p q x y).1 (addR p q x y).2.1 = true ∧ tk (addR p q x y).1 (addR p q x y).2.1 = tk p q + tk x y := by
    intro hx
    have e := sadd h hx
    rw [e] at ho ⊢
    exact mk_ok ho
  refine ⟨?_, fun hx => (hadd hx).2⟩
  rw [Bool.eq_iff_iff]
  refine ⟨fun hc => ?_, fun hx => (hadd hx).1⟩
  obtain ⟨v, hq, e1⟩ := sdur_spec h
  have vx : vld x y = true := by
    unfold addR at ho
    by_cases hv : vld x y = true
    · exact hv
    · rw [if_neg (by simp [hv])] at ho; cases ho
  have hy := (vld_bd vx).2.2.2
  have e : addR p q x y = mk (p * y + x * q) (q * y) := by unfold addR; rw [v, vx]; rfl
  rw [e] at ho hc
  rcases mk_cases (p * y + x * q) (q * y) (Int.mul_ne_zero (by omega) (by omega)) with hm | ⟨c1, c2, hm, hv, hmul⟩
  · rw [hm] at ho; cases ho
  · rw [hm] at hc
    simp only at hc
    obtain ⟨_, hc2, e3⟩ := sdur_spec hc
    have key : (x * 1680) * (q * c2) = (y * (tk c1 c2 - tk p q)) * (q * c2) := by
      have f1 : c1 * 1680 = tk c1 c2 * c2 := e3.symm
      have f2 : p * 1680 = tk p q * q := e1.symm
      have f3 : c1 * (q * y) * 1680 = c2 * (p * y + x * q) * 1680 := by rw [hmul]
      grind
    have hne : q * c2 ≠ 0 := Int.mul_ne_zero (by omega) (by omega)
    have key2 := Int.eq_of_mul_eq_mul_right hne key
    have hdvd : y ∣ 1680 := by
      refine dvd_left (b := x) ⟨tk c1 c2 - tk p q, key2⟩ (vld_iff.1 vx).2.2.2.2
    unfold sdur
    rw [vx, Int.tmod_eq_zero_of_dvd hdvd]; rfl
theorem posS_take {l : List Bar} (hl : okBars l = true) {k : Nat} (hk : k < l.length) {b n d : Int} (h : posS (l.take k) b n d = true) : posS l b n d = true ∧ aheadB (l.take k) b n d = aheadB l b n d := by
  obtain ⟨h1, h2, h3⟩ := posS_iff.1 h
  have hlen : (l.take k).length = k := by rw [List.length_take]; omega
  rw [hlen] at h3
  refine ⟨posS_iff.2 ⟨h1, h2, .inl ⟨by omega, ?_⟩⟩, ?_⟩
  · rcases h3 with ⟨h3, h4⟩ | ⟨h3, h4⟩
    · have : barAt (l.take k) b = barAt l b := by
        unfold barAt
        rw [List.getD_eq_getElem?_getD, List.getD_eq_getElem?_getD, List.getElem?_take, if_pos (by omega)]
      rw [this] at h4; exact h4
    · have := okBar_iff.1 ((okBars_iff.1 hl).2.2.1 _ (barAt_mem (l := l) h1 (by omega)))
      omega
  · unfold aheadB
    rw [List.take_take, Nat.min_eq_left (by omega)]
theorem okBars_sub {l m : List Bar} (hl : okBars l = true) (hs : m.Sublist l) (h1 : 1 ≤ m.length) : okBars m = true := by
  obtain ⟨a1, a2, a3, a4⟩ := okBars_iff.1 hl
  exact okBars_iff.2 ⟨h1, Nat.le_trans hs.length_le a2, fun b hb => a3 b (hs.subset hb), (hs.map _).nodup a4⟩
end Go.RatLaw
