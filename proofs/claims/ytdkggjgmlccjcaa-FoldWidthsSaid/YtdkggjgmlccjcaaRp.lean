/- Plain numbers: reduced fractions, what a ratio is, sums of ratios. No program in sight. -/
namespace Go.RatLaw

/-- the reduced numerator and denominator of n / d -/
def redN (n d : Int) : Int := if d < 0 then -(n / (Int.gcd n d : Int)) else n / (Int.gcd n d : Int)
def redD (n d : Int) : Int := if d < 0 then -(d / (Int.gcd n d : Int)) else d / (Int.gcd n d : Int)
/-- a ratio is valid -/
def vld (n d : Int) : Bool := decide (1 ≤ d ∧ d ≤ 1000000 ∧ -1000000000 ≤ n ∧ n ≤ 1000000000 ∧ Int.gcd n d = 1)
/-- whether there is a valid ratio that is n / d -/
def fits (n d : Int) : Bool := decide (redN n d ≤ 1000000000 ∧ -1000000000 ≤ redN n d ∧ redD n d ≤ 1000000)
/-- the valid ratio that is n / d, and the error -/
def mk (n d : Int) : Int × Int × Int := if fits n d then (redN n d, redD n d, 0) else (0, 0, 3)

def far (k : Int) : Bool := decide (k < -1000000000000000) || decide (k > 1000000000000000)
def make (n d : Int) : Int × Int × Int := if d = 0 ∨ far n = true ∨ far d = true then (0, 0, 1) else mk n d
def addR (a b c d : Int) : Int × Int × Int := if vld a b && vld c d then mk (a * d + c * b) (b * d) else (0, 0, 1)
def subR (a b c d : Int) : Int × Int × Int := if vld a b && vld c d then mk (a * d - c * b) (b * d) else (0, 0, 1)
def mulR (a b c d : Int) : Int × Int × Int := if vld a b && vld c d then mk (a * c) (b * d) else (0, 0, 1)
def divR (a b c d : Int) : Int × Int × Int := if vld a b && (vld c d && c != 0) then mk (a * d) (b * c) else (0, 0, 1)
def cmpR (a b c d : Int) : Int := if a * d < c * b then -1 else if a * d > c * b then 1 else 0
def compareR (a b c d : Int) : Int × Int := if vld a b && vld c d then (cmpR a b c d, 0) else (0, 1)
def floorR (a b : Int) : Int × Int := if vld a b then (a / b, 0) else (0, 1)
theorem gcd_pos {n d : Int} (h : d ≠ 0) : 0 < (Int.gcd n d : Int) := by
  have : Int.gcd n d ≠ 0 := by rw [Ne, Int.gcd_eq_zero_iff]; exact fun ⟨_, e⟩ => h e
  omega
theorem gcd_natAbs (n d : Int) : Int.gcd (n.natAbs : Int) (d.natAbs : Int) = Int.gcd n d := by simp [Int.gcd]
theorem tdiv_gcd_left (n d : Int) : n.tdiv (Int.gcd n d : Int) = n / (Int.gcd n d : Int) := Int.tdiv_eq_ediv_of_dvd (Int.gcd_dvd_left ..)
theorem tdiv_gcd_right (n d : Int) : d.tdiv (Int.gcd n d : Int) = d / (Int.gcd n d : Int) := Int.tdiv_eq_ediv_of_dvd (Int.gcd_dvd_right ..)
theorem gcd_tmod {a b : Int} (ha : 0 ≤ a) (hb : 0 ≤ b) : Int.gcd b (a.tmod b) = Int.gcd a b := by
  rw [Int.tmod_eq_emod_of_nonneg ha]
  obtain ⟨x, rfl⟩ := Int.eq_ofNat_of_zero_le ha
  obtain ⟨y, rfl⟩ := Int.eq_ofNat_of_zero_le hb
  show Nat.gcd y ((x : Int) % (y : Int)).natAbs = Nat.gcd x y
  rw [show ((x : Int) % (y : Int)).natAbs = x % y by omega, Nat.gcd_comm y, ← Nat.gcd_rec, Nat.gcd_comm]
theorem redD_pos {n d : Int} (h : d ≠ 0) : 0 < redD n d := by
  unfold redD
  have hg := gcd_pos (n := n) h
  have hdv : (Int.gcd n d : Int) ∣ d := Int.gcd_dvd_right ..
  obtain ⟨c, hc⟩ := hdv
  have e : d / (Int.gcd n d : Int) = c := by
    conv => lhs; lhs; rw [hc]
    exact Int.mul_ediv_cancel_left c (by omega)
  rw [e]
  have hc0 : c ≠ 0 := fun e0 => h (by rw [hc, e0]; simp)
  split
  · rename_i hlt
    have : c < 0 := by
      rcases Int.lt_or_le c 0 with h1 | h1
      · exact h1
      · exfalso
        have : 0 ≤ (Int.gcd n d : Int) * c := Int.mul_nonneg (by omega) h1
        omega
    omega
  · rename_i hge
    have : 0 < c := by
      rcases Int.lt_or_le 0 c with h1 | h1
      · exact h1
      · exfalso
        have : (Int.gcd n d : Int) * c ≤ 0 := Int.mul_nonpos_of_nonneg_of_nonpos (by omega) h1
        omega
    exact this
theorem natAbs_tdiv_le (n g : Int) : (n.tdiv g).natAbs ≤ n.natAbs := by
  rw [Int.natAbs_tdiv]
  exact Nat.div_le_self _ _
theorem red_neg {n d : Int} (h : d < 0) : n.tdiv (-(Int.gcd n d : Int)) = redN n d ∧ d.tdiv (-(Int.gcd n d : Int)) = redD n d := by
  rw [Int.tdiv_neg, Int.tdiv_neg, tdiv_gcd_left, tdiv_gcd_right]
  unfold redN redD
  rw [if_pos h, if_pos h]
  exact ⟨rfl, rfl⟩
theorem red_pos {n d : Int} (h : ¬ d < 0) : n.tdiv (Int.gcd n d : Int) = redN n d ∧ d.tdiv (Int.gcd n d : Int) = redD n d := by
  rw [tdiv_gcd_left, tdiv_gcd_right]
  unfold redN redD
  rw [if_neg h, if_neg h]
  exact ⟨rfl, rfl⟩
theorem gcd_le {n d : Int} (h : d ≠ 0) : (Int.gcd n d : Int) ≤ d.natAbs := by
  have := Nat.le_of_dvd (by omega) (Nat.gcd_dvd_right n.natAbs d.natAbs)
  show ((Nat.gcd n.natAbs d.natAbs : Nat) : Int) ≤ _
  omega
theorem vld_iff {n d : Int} : vld n d = true ↔ 1 ≤ d ∧ d ≤ 1000000 ∧ -1000000000 ≤ n ∧ n ≤ 1000000000 ∧ Int.gcd n d = 1 := by unfold vld; exact decide_eq_true_iff
theorem mulb {x y : Int} {A B : Nat} (hx : x.natAbs ≤ A) (hy : y.natAbs ≤ B) : (x * y).natAbs ≤ A * B := by
  rw [Int.natAbs_mul]
  exact Nat.mul_le_mul hx hy
/-- a number is reduced if its numbers have no common divisor -/
theorem red_self {n d : Int} (hd : 1 ≤ d) : (redN n d == n && redD n d == d) = decide (Int.gcd n d = 1) := by
  have hg := gcd_pos (n := n) (d := d) (by omega)
  have hgd : (Int.gcd n d : Int) ∣ d := Int.gcd_dvd_right ..
  obtain ⟨c, hc⟩ := hgd
  have e : d / (Int.gcd n d : Int) = c := by
    conv => lhs; lhs; rw [hc]
    exact Int.mul_ediv_cancel_left c (by omega)
  unfold redN redD
  rw [if_neg (by omega), if_neg (by omega), Bool.eq_iff_iff]
  simp only [Bool.and_eq_true, beq_iff_eq, decide_eq_true_eq]
  constructor
  · rintro ⟨_, h⟩
    rw [e] at h
    subst h
    have h1 : (Int.gcd n c : Int) * c = 1 * c := by omega
    have := Int.eq_of_mul_eq_mul_right (show c ≠ 0 by omega) h1
    omega
  · intro h
    rw [h]
    simp
theorem mk_no {n d : Int} (h : fits n d = false) : mk n d = (0, 0, 3) := by unfold mk; rw [if_neg (by rw [h]; simp)]
theorem mk_yes {n d : Int} (h : fits n d = true) : mk n d = (redN n d, redD n d, 0) := by unfold mk; rw [if_pos h]
theorem redN_le (n d : Int) : (redN n d).natAbs ≤ n.natAbs := by
  by_cases h : d < 0
  · rw [← (red_neg (n := n) h).1]; exact natAbs_tdiv_le ..
  · rw [← (red_pos (n := n) h).1]; exact natAbs_tdiv_le ..
theorem redN_neg (n d : Int) (h : d < 0) : (-n).tdiv (Int.gcd n d : Int) = redN n d := by
  rw [← (red_neg (n := n) h).1, Int.tdiv_neg, Int.neg_tdiv]
theorem redD_neg (n d : Int) (h : d < 0) : (-d).tdiv (Int.gcd n d : Int) = redD n d := by
  rw [← (red_neg (n := n) h).2, Int.tdiv_neg, Int.neg_tdiv]
theorem gcd_natAbs_left (n d : Int) : Int.gcd (n.natAbs : Int) d = Int.gcd n d := by simp [Int.gcd]
theorem gcd_neg_both (n d : Int) : Int.gcd ((-n).natAbs : Int) (-d) = Int.gcd n d := by simp [Int.gcd]
/-- what a fraction of two valid ratios is at most -/
theorem vld_bd {n d : Int} (h : vld n d = true) : n.natAbs ≤ 1000000000 ∧ d.natAbs ≤ 1000000 ∧ d ≠ 0 ∧ 0 < d := by
  have := vld_iff.1 h
  omega
theorem floor_eq {a b : Int} (hb : 0 < b) : a / b = if a.tdiv b * b > a then a.tdiv b - 1 else a.tdiv b := by
  have h1 := Int.mul_tdiv_add_tmod a b
  have h2 := Int.mul_ediv_add_emod a b
  have h3 := Int.emod_nonneg a (show b ≠ 0 by omega)
  have h4 := Int.emod_lt_of_pos a hb
  have h5 : -b < a.tmod b ∧ a.tmod b < b := by
    have := Int.natAbs_tmod a b
    have h6 : a.natAbs % b.natAbs < b.natAbs := Nat.mod_lt _ (by omega)
    omega
  rw [Int.mul_comm] at h1
  have key : ∀ x y : Int, x * b + y = a → -b < y → y < b → 0 ≤ a - b * (a / b) ∧ a - b * (a / b) < b → (x * b > a → a / b = x - 1) ∧ (¬ x * b > a → a / b = x) := by
    intro x y hxy hy1 hy2 hr
    have e : ∀ z : Int, b * (a / b) = b * z + (b * (a / b) - b * z) := fun z => by omega
    constructor
    · intro hgt
      have hlt : y < 0 := by omega
      have : a = b * (x - 1) + (b + y) := by rw [Int.mul_sub, Int.mul_one, Int.mul_comm b x]; omega
      have := (Int.ediv_emod_unique (a := a) (b := b) (q := x - 1) (r := b + y) hb).2 ⟨by omega, by omega, by omega⟩
      exact this.1
    · intro hle
      have := (Int.ediv_emod_unique (a := a) (b := b) (q := x) (r := y) hb).2 ⟨by rw [Int.mul_comm]; omega, by omega, by omega⟩
      exact this.1
  obtain ⟨k1, k2⟩ := key _ _ h1 h5.1 h5.2 ⟨by omega, by omega⟩
  split
  · exact k1 ‹_›
  · exact k2 ‹_›

/-- carries a value through a list, until there is an error -/
def carr (f : Int → Int → Int → Int → Int × Int × Int) : Int × Int → List (Int × Int) → Int × Int × Int
  | v, [] => (v.1, v.2, 0)
  | v, x :: r => let m := f v.1 v.2 x.1 x.2; if m.2.2 = 0 then carr f (m.1, m.2.1) r else (0, 0, m.2.2)
def sumR (l : List (Int × Int)) : Int × Int × Int :=
  if l.length > 20000 then (0, 0, 2) else if l.all (fun x => vld x.1 x.2) = true then carr addR (0, 1) l else (0, 0, 1)
end Go.RatLaw
