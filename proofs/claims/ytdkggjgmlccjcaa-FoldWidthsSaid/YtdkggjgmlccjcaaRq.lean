/- Plain numbers: a fraction's reduced form is the one and only; laws of sums, differences, products and quotients. No program in sight. -/
import Derived.Test.YtdkggjgmlccjcaaRp
namespace Go.RatLaw

theorem red_spec {n d : Int} (h : d ≠ 0) : redN n d * d = redD n d * n ∧ Int.gcd (redN n d) (redD n d) = 1 := by
  have hg := gcd_pos (n := n) h
  obtain ⟨x, hx⟩ : (Int.gcd n d : Int) ∣ n := Int.gcd_dvd_left ..
  obtain ⟨y, hy⟩ : (Int.gcd n d : Int) ∣ d := Int.gcd_dvd_right ..
  generalize hG : (Int.gcd n d : Int) = g at *
  have e1 : n / g = x := by rw [hx]; exact Int.mul_ediv_cancel_left x (by omega)
  have e2 : d / g = y := by rw [hy]; exact Int.mul_ediv_cancel_left y (by omega)
  have hxy : Int.gcd x y = 1 := by
    have h1 : Int.gcd n d = Int.gcd (g * x) (g * y) := by rw [← hx, ← hy]
    rw [Int.gcd_mul_left] at h1
    have h2 : (Int.gcd n d : Int) = g.natAbs * Int.gcd x y := by rw [h1]; simp
    rw [hG] at h2
    have h3 : (g.natAbs : Int) = g := by omega
    rw [h3] at h2
    have h4 : g * (Int.gcd x y : Int) = g * 1 := by omega
    have := Int.eq_of_mul_eq_mul_left (show g ≠ 0 by omega) h4
    omega
  unfold redN redD
  rw [hG, e1, e2]
  split
  · refine ⟨?_, by simpa [Int.gcd] using hxy⟩
    rw [hx, hy]
    grind
  · refine ⟨?_, hxy⟩
    rw [hx, hy]
    grind
theorem dvd_left {a b c : Int} (h : a ∣ b * c) (g : Int.gcd b a = 1) : a ∣ c := by
  have h1 := Int.natAbs_dvd_natAbs.2 h
  rw [Int.natAbs_mul] at h1
  have g1 : Nat.Coprime a.natAbs b.natAbs := by
    show Nat.gcd a.natAbs b.natAbs = 1
    rw [Nat.gcd_comm]; exact g
  exact Int.natAbs_dvd_natAbs.1 (Nat.Coprime.dvd_of_dvd_mul_left g1 h1)
theorem red_uniq {p q p' q' : Int} (hq : 0 < q) (hq' : 0 < q') (g : Int.gcd p q = 1) (g' : Int.gcd p' q' = 1) (h : p * q' = p' * q) : p = p' ∧ q = q' := by
  have d1 : q ∣ q' := by
    have : q ∣ p * q' := ⟨p', by rw [h, Int.mul_comm]⟩
    exact dvd_left this g
  have d2 : q' ∣ q := by
    have : q' ∣ p' * q := ⟨p, by rw [← h, Int.mul_comm]⟩
    exact dvd_left this g'
  have l1 := Int.le_of_dvd hq' d1
  have l2 := Int.le_of_dvd hq d2
  have e : q = q' := by omega
  subst e
  exact ⟨Int.eq_of_mul_eq_mul_right (show q ≠ 0 by omega) h, rfl⟩
theorem red_congr {n d n' d' : Int} (h : d ≠ 0) (h' : d' ≠ 0) (e : n * d' = n' * d) : redN n d = redN n' d' ∧ redD n d = redD n' d' := by
  obtain ⟨a1, a2⟩ := red_spec (n := n) h
  obtain ⟨b1, b2⟩ := red_spec (n := n') h'
  refine red_uniq (redD_pos h) (redD_pos h') a2 b2 ?_
  have k : (redN n d * redD n' d') * (d * d') = (redN n' d' * redD n d) * (d * d') := by
    generalize redN n d = p at *; generalize redD n d = q at *; generalize redN n' d' = p' at *; generalize redD n' d' = q' at *
    have h1 : (p * q') * (d * d') = (p * d) * (q' * d') := by grind
    have h2 : (p' * q) * (d * d') = (p' * d') * (q * d) := by grind
    rw [h1, h2, a1, b1]
    have h3 : q * n * (q' * d') = (q * q') * (n * d') := by grind
    have h4 : q' * n' * (q * d) = (q * q') * (n' * d) := by grind
    rw [h3, h4, e]
  exact Int.eq_of_mul_eq_mul_right (Int.mul_ne_zero h h') k
theorem mk_congr {n d n' d' : Int} (h : d ≠ 0) (h' : d' ≠ 0) (e : n * d' = n' * d) : mk n d = mk n' d' := by
  obtain ⟨e1, e2⟩ := red_congr h h' e
  unfold mk fits
  rw [e1, e2]
theorem red_vld {n d : Int} (v : vld n d = true) : redN n d = n ∧ redD n d = d := by
  obtain ⟨h1, h2, h3, h4, h5⟩ := vld_iff.1 v
  have := red_self (n := n) (d := d) h1
  rw [h5] at this
  simpa using this
theorem mk_vld {n d : Int} (v : vld n d = true) : mk n d = (n, d, 0) := by
  obtain ⟨e1, e2⟩ := red_vld v
  obtain ⟨h1, h2, h3, h4, h5⟩ := vld_iff.1 v
  rw [mk_yes, e1, e2]
  unfold fits
  rw [e1, e2]
  simp
  omega
theorem mk_cases (n d : Int) (h : d ≠ 0) : (mk n d = (0, 0, 3)) ∨ ∃ p q, mk n d = (p, q, 0) ∧ vld p q = true ∧ p * d = q * n := by
  cases hf : fits n d
  · exact .inl (mk_no hf)
  · refine .inr ⟨_, _, mk_yes hf, ?_, (red_spec h).1⟩
    have h1 := redD_pos (n := n) h
    have h2 := (red_spec (n := n) h).2
    unfold fits at hf
    have h3 := of_decide_eq_true hf
    exact vld_iff.2 ⟨by omega, h3.2.2, h3.2.1, h3.1, h2⟩
end Go.RatLaw
