/- Plain numbers: durations as numbers of 1680ths, and their sums. No program in sight. -/
import Derived.Test.YtjghgdccaakfmaaRq
namespace Go.RatLaw

/-- a ratio that is a duration -/
def dur (n d : Int) : Bool := vld n d && decide (n ≥ 0) && (1680 : Int).tmod d == 0
/-- how many 1680ths it is -/
def tk (n d : Int) : Int := n * (1680 : Int).tdiv d
/-- the duration of so many 1680ths -/
def ofT (t : Int) : Int × Int := (redN t 1680, redD t 1680)
def ticks (l : List (Int × Int)) : Int := (l.map fun x => tk x.1 x.2).sum

theorem dur_spec {n d : Int} (h : dur n d = true) : vld n d = true ∧ 0 ≤ n ∧ 0 < d ∧ d * (1680 : Int).tdiv d = 1680 ∧ tk n d * d = n * 1680 ∧ 0 ≤ tk n d := by
  unfold dur at h
  simp only [Bool.and_eq_true, decide_eq_true_eq, beq_iff_eq] at h
  obtain ⟨⟨v, hn⟩, hm⟩ := h
  obtain ⟨_, _, _, hd⟩ := vld_bd v
  have e := Int.mul_tdiv_add_tmod 1680 d
  rw [hm, Int.add_zero] at e
  have e2 : tk n d * d = n * 1680 := by
    unfold tk
    rw [Int.mul_assoc, Int.mul_comm _ d, e]
  refine ⟨v, hn, hd, e, e2, Int.mul_nonneg hn ?_⟩
  exact Int.tdiv_nonneg (by decide) (by omega)

theorem ofT_spec {t : Int} (h0 : 0 ≤ t) (h1 : t ≤ 806400000) : dur (ofT t).1 (ofT t).2 = true ∧ tk (ofT t).1 (ofT t).2 = t ∧ mk t 1680 = ((ofT t).1, (ofT t).2, 0) := by
  obtain ⟨e, g⟩ := red_spec (n := t) (d := 1680) (by decide)
  have hp := redD_pos (n := t) (d := 1680) (by decide)
  have hN := redN_le t 1680
  have hdv : redD t 1680 ∣ 1680 := by
    have h2 : redD t 1680 ∣ 1680 * redN t 1680 := ⟨t, by rw [Int.mul_comm 1680]; exact e⟩
    have h3 := dvd_left (a := redD t 1680) (b := redN t 1680) (c := 1680) (by rw [Int.mul_comm]; exact h2) g
    exact h3
  have hle : redD t 1680 ≤ 1680 := Int.le_of_dvd (by decide) hdv
  have hn0 : 0 ≤ redN t 1680 := by
    rcases Int.lt_or_le (redN t 1680) 0 with h | h
    · exfalso
      have h4 : redN t 1680 * 1680 < 0 := by omega
      rw [e] at h4
      have h5 : 0 ≤ redD t 1680 * t := Int.mul_nonneg (by omega) h0
      omega
    · exact h
  have hnt : redN t 1680 ≤ t := by omega
  have hv : vld (redN t 1680) (redD t 1680) = true := vld_iff.2 ⟨by omega, by omega, by omega, by omega, g⟩
  have hm : (1680 : Int).tmod (redD t 1680) = 0 := Int.tmod_eq_zero_of_dvd hdv
  have hd : dur (ofT t).1 (ofT t).2 = true := by
    unfold dur ofT
    simp only [Bool.and_eq_true, decide_eq_true_eq, beq_iff_eq]
    exact ⟨⟨hv, hn0⟩, hm⟩
  refine ⟨hd, ?_, ?_⟩
  · obtain ⟨_, _, _, _, e2, _⟩ := dur_spec hd
    have h5 : tk (ofT t).1 (ofT t).2 * redD t 1680 = t * redD t 1680 := by
      have : tk (ofT t).1 (ofT t).2 * redD t 1680 = redN t 1680 * 1680 := e2
      rw [this, e, Int.mul_comm]
    exact Int.eq_of_mul_eq_mul_right (by omega) h5
  · have hf : fits t 1680 = true := by
      unfold fits
      exact decide_eq_true ⟨by omega, by omega, by omega⟩
    rw [mk_yes hf]
    rfl

/-- a duration is known by its 1680ths -/
theorem dur_eq {n d : Int} (h : dur n d = true) : (n, d) = ofT (tk n d) := by
  obtain ⟨v, _, hd, _, e, _⟩ := dur_spec h
  obtain ⟨r1, r2⟩ := red_vld v
  obtain ⟨c1, c2⟩ := red_congr (n := n) (d := d) (n' := tk n d) (d' := 1680) (by omega) (by decide) (by rw [e])
  unfold ofT
  rw [← c1, ← c2, r1, r2]

theorem add_dur {a b c d : Int} (h : dur a b = true) (h' : dur c d = true) (ht : tk a b + tk c d ≤ 806400000) :
    addR a b c d = ((ofT (tk a b + tk c d)).1, (ofT (tk a b + tk c d)).2, 0) := by
  obtain ⟨v, _, hb, _, e, t0⟩ := dur_spec h
  obtain ⟨v', _, hd, _, e', t0'⟩ := dur_spec h'
  have hbd : b * d ≠ 0 := Int.mul_ne_zero (by omega) (by omega)
  have : addR a b c d = mk (a * d + c * b) (b * d) := by unfold addR; rw [v, v']; rfl
  rw [this, mk_congr hbd (show (1680 : Int) ≠ 0 by decide) (n' := tk a b + tk c d) ?_]
  · exact (ofT_spec (by omega) ht).2.2
  · have e1 : (a * d + c * b) * 1680 = (a * 1680) * d + (c * 1680) * b := by grind
    rw [e1, ← e, ← e']
    grind

end Go.RatLaw
