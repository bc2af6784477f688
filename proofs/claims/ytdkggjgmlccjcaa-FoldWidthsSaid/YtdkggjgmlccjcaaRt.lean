/- Plain numbers: durations as numbers of 1680ths, and their sums. No program in sight. -/
import Derived.Test.YtdkggjgmlccjcaaRq
namespace Go.RatLaw

/-- a ratio that is a duration -/
def dur (n d : Int) : Bool := vld n d && decide (n ≥ 0) && (1680 : Int).tmod d == 0
/-- how many 1680ths it is -/
def tk (n d : Int) : Int := n * (1680 : Int).tdiv d
/-- the duration of so many 1680ths -/
def ofT (t : Int) : Int × Int := (redN t 1680, redD t 1680)
def ticks (l : List (Int × Int)) : Int := (l.map fun x => tk x.1 x.2).sum

theorem dur_spec {n d : Int} (h : dur n d = true) : vld n d = true ∧ 0 ≤ n ∧ 0 < d ∧ d * (1680 : Int).tdiv d = 1680 ∧ tk n d * d = n * 1680 ∧ 0 ≤ tk n d := by
  unfold dur at h
  simp only [Bool.and_eq_true, decide_eq_true_eq, beq_iff_eq] at h
  obtain ⟨⟨v, hn⟩, hm⟩ := h
  obtain ⟨_, _, _, hd⟩ := vld_bd v
  have e := Int.mul_tdiv_add_tmod 1680 d
  rw [hm, Int.add_zero] at e
  have e2 : tk n d * d = n * 1680 := by
    unfold tk
    rw [Int.mul_assoc, Int.mul_comm _ d, e]
  refine ⟨v, hn, hd, e, e2, Int.mul_nonneg hn ?_⟩
  exact Int.tdiv_nonneg (by decide) (by omega)

theorem ofT_spec {t : Int} (h0 : 0 ≤ t) (h1 : t ≤ 806400000) : dur (ofT t).1 (ofT t).2 = true ∧ tk (ofT t).1 (ofT t).2 = t ∧ mk t 1680 = ((ofT t).1, (ofT t).2, 0) := by
  obtain ⟨e, g⟩ := red_spec (n := t) (d := 1680) (by decide)
  have hp := redD_pos (n := t) (d := 1680) (by decide)
  have hN := redN_le t 1680
  have hdv : redD t 1680 ∣ 1680 := by
    have h2 : redD t 1680 ∣ 1680 * redN t 1680 := ⟨t, by rw [Int.mul_comm 1680]; exact e⟩
    have h3 := dvd_left (a := redD t 1680) (b := redN t 1680) (c := 1680) (by rw [Int.mul_comm]; exact h2) g
    exact h3
  have hle : redD t 1680 ≤ 1680 := Int.le_of_dvd (by decide) hdv
  have hn0 : 0 ≤ redN t 1680 := by
    rcases Int.lt_or_le (redN t 1680) 0 with h | h
    · exfalso
      have h4 : redN t 1680 * 1680 < 0 := by omega
      rw [e] at h4
      have h5 : 0 ≤ redD t 1680 * t := Int.mul_nonneg (by omega) h0
      omega
    · exact h
  have hnt : redN t 1680 ≤ t := by omega
  have hv : vld (redN t 1680) (redD t 1680) = true := vld_iff.2 ⟨by omega, by omega, by omega, by omega, g⟩
  have hm : (1680 : Int).tmod (redD t 1680) = 0 := Int.tmod_eq_zero_of_dvd hdv
  have hd : dur (ofT t).1 (ofT t).2 = true := by
    unfold dur ofT
    simp only [Bool.and_eq_true, decide_eq_true_eq, beq_iff_eq]
    exact ⟨⟨hv, hn0⟩, hm⟩
  refine ⟨hd, ?_, ?_⟩
  · obtain ⟨_, _, _, _, e2, _⟩ := dur_spec hd
    have h5 : tk (ofT t).1 (ofT t).2 * redD t 1680 = t * redD t 1680 := by
      have : tk (ofT t).1 (ofT t).2 * redD t 1680 = redN t 1680 * 1680 := e2
      rw [this, e, Int.mul_comm]
    exact Int.eq_of_mul_eq_mul_right (by omega) h5
  · have hf : fits t 1680 = true := by
      unfold fits
      exact decide_eq_true ⟨by omega, by omega, by omega⟩
    rw [mk_yes hf]
    rfl

/-- a duration is known by its 1680ths -/
theorem dur_eq {n d : Int} (h : dur n d = true) : (n, d) = ofT (tk n d) := by
  obtain ⟨v, _, hd, _, e, _⟩ := dur_spec h
  obtain ⟨r1, r2⟩ := red_vld v
  obtain ⟨c1, c2⟩ := red_congr (n := n) (d := d) (n' := tk n d) (d' := 1680) (by omega) (by decide) (by rw [e])
  unfold ofT
  rw [← c1, ← c2, r1, r2]

theorem add_dur {a b c d : Int} (h : dur a b = true) (h' : dur c d = true) (ht : tk a b + tk c d ≤ 806400000) :
    addR a b c d = ((ofT (tk a b + tk c d)).1, (ofT (tk a b + tk c d)).2, 0) := by
  obtain ⟨v, _, hb, _, e, t0⟩ := dur_spec h
  obtain ⟨v', _, hd, _, e', t0'⟩ := dur_spec h'
  have hbd : b * d ≠ 0 := Int.mul_ne_zero (by omega) (by omega)
  have : addR a b c d = mk (a * d + c * b) (b * d) := by unfold addR; rw [v, v']; rfl
  rw [this, mk_congr hbd (show (1680 : Int) ≠ 0 by decide) (n' := tk a b + tk c d) ?_]
  · exact (ofT_spec (by omega) ht).2.2
  · have e1 : (a * d + c * b) * 1680 = (a * 1680) * d + (c * 1680) * b := by grind
    rw [e1, ← e, ← e']
    grind

theorem ticks_nonneg {l : List (Int × Int)} (h : ∀ x ∈ l, dur x.1 x.2 = true) : 0 ≤ ticks l := by
  unfold ticks
  induction l with
  | nil => simp
  | cons x r ih =>
    simp only [List.map_cons, List.sum_cons]
    have := (dur_spec (h x (by simp))).2.2.2.2.2
    have := ih fun y hy => h y (by simp [hy])
    omega
theorem ticks_cons (x : Int × Int) (l : List (Int × Int)) : ticks (x :: l) = tk x.1 x.2 + ticks l := rfl
theorem ticks_append (l m : List (Int × Int)) : ticks (l ++ m) = ticks l + ticks m := by
  unfold ticks
  rw [List.map_append, List.sum_append]
theorem ticks_reverse (l : List (Int × Int)) : ticks l.reverse = ticks l := by
  induction l with
  | nil => rfl
  | cons x r ih => rw [List.reverse_cons, ticks_append, ih, ticks_cons]; simp only [ticks, List.map_cons, List.map_nil, List.sum_cons, List.sum_nil]; omega

theorem carr_dur : ∀ {l : List (Int × Int)} {p q : Int}, dur p q = true → (∀ x ∈ l, dur x.1 x.2 = true) → tk p q + ticks l ≤ 806400000 → carr addR (p, q) l = ((ofT (tk p q + ticks l)).1, (ofT (tk p q + ticks l)).2, 0)
  | [], p, q, h, _, _ => by
    have e := dur_eq h
    simp only [carr, ticks, List.map_nil, List.sum_nil, Int.add_zero]
    rw [← e]
  | x :: r, p, q, h, hl, ht => by
    rw [ticks_cons] at ht ⊢
    have hx := hl x (by simp)
    have hr : ∀ y ∈ r, dur y.1 y.2 = true := fun y hy => hl y (by simp [hy])
    have h0 := ticks_nonneg hr
    have hp0 := (dur_spec h).2.2.2.2.2
    have hx0 := (dur_spec hx).2.2.2.2.2
    have ha := add_dur h hx (by omega)
    obtain ⟨d1, d2, _⟩ := ofT_spec (t := tk p q + tk x.1 x.2) (by omega) (by omega)
    simp only [carr, ha, if_true]
    rw [carr_dur d1 hr (by rw [d2]; omega), d2, Int.add_assoc]

/-- durations whose sum is not too great have a sum -/
theorem sum_dur {l : List (Int × Int)} (h : ∀ x ∈ l, dur x.1 x.2 = true) (hn : l.length ≤ 20000) (ht : ticks l ≤ 806400000) : sumR l = ((ofT (ticks l)).1, (ofT (ticks l)).2, 0) := by
  unfold sumR
  rw [if_neg (by omega), if_pos (List.all_eq_true.2 fun x hx => (dur_spec (h x hx)).1)]
  have h01 : dur 0 1 = true := by decide
  have := carr_dur h01 h (by simp only [tk, Int.zero_mul, Int.zero_add]; exact ht)
  simpa only [tk, Int.zero_mul, Int.zero_add] using this
end Go.RatLaw
