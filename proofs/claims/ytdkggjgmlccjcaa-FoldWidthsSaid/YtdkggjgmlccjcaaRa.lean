/- The ratio package's functions in this program meet their contracts. -/
import Derived.Test.YtdkggjgmlccjcaaLay
import Derived.Test.YtdkggjgmlccjcaaRp
namespace Go.Proofs.Ytdkggjgmlccjcaa
open Go.Sy Go.RatLaw
abbrev I (n : Int) : TV := .one (.d (.lit (.int .i64 n)))
abbrev B (b : Bool) : TV := .one (.d (.lit (.bool b)))
abbrev Q (n d : Int) : TV := .agg [li .i64 n, li .i64 d]
abbrev big (n : Int) : Prop := -1000000000000000000 ≤ n ∧ n ≤ 1000000000000000000
def cAbs : PCon
  | [.one (.d (.lit (.int .i64 n)))] => some ([big n], .t (I n.natAbs))
  | _ => none
def cFar : PCon
  | [.one (.d (.lit (.int .i64 k)))] => some ([], .t (B (decide (k < -1000000000000000) || decide (k > 1000000000000000))))
  | _ => none
def cRatOf : PCon
  | [.one (.d (.lit (.int .i64 n))), .one (.d (.lit (.int .i64 d)))] => some ([], .t (Q n d))
  | _ => none
def cGcd : PCon
  | [.one (.d (.lit (.int .i64 a))), .one (.d (.lit (.int .i64 b)))] => some ([0 ≤ a, 0 ≤ b], .t (I (Int.gcd a b)))
  | _ => none
def cRed : PCon
  | [.agg [.d (.lit (.int .i64 n)), .d (.lit (.int .i64 d))]] => some ([d ≠ 0, big n, big d], .t (Q (redN n d) (redD n d)))
  | _ => none
/-- the recursive closure: it is handed its own variable -/
def cCommon (k : Int) : Con
  | [.one (.d (.lit (.int .i64 a))), .one (.d (.lit (.int .i64 b))), .one (.ptr p 0)], hp, _ => match hp p with
    | some (.cells [.clo 47 [] [(q, 0)]]) => if q = p then some ([0 ≤ a, 0 ≤ b, b ≤ k], .t (I (Int.gcd a b)), []) else none
    | _ => none
  | _, _, _ => none
abbrev res (m : Int × Int × Int) : AV := .tup [Q m.1 m.2.1, I m.2.2]
def cMk : PCon
  | [.agg [.d (.lit (.int .i64 n)), .d (.lit (.int .i64 d))]] => some ([d ≠ 0, big n, big d], res (mk n d))
  | _ => none
def cVld : PCon
  | [.agg [.d (.lit (.int .i64 n)), .d (.lit (.int .i64 d))]] => some ([], .t (B (vld n d)))
  | _ => none
def cMake : PCon
  | [.one (.d (.lit (.int .i64 n))), .one (.d (.lit (.int .i64 d)))] => some ([], res (make n d))
  | _ => none
/-- a function of two ratios -/
def cBin (f : Int → Int → Int → Int → Int × Int × Int) : PCon
  | [.agg [.d (.lit (.int .i64 a)), .d (.lit (.int .i64 b))], .agg [.d (.lit (.int .i64 c)), .d (.lit (.int .i64 d))]] => some ([], res (f a b c d))
  | _ => none
/-- a fraction made of two ratios in blocks p, q -/
def cFrac (f : Int → Int → Int → Int → Int × Int) : Con
  | [.one (.ptr p 0), .one (.ptr q 0)], hp, _ => match hp p, hp q with
    | some (.cells [.d (.lit (.int .i64 a)), .d (.lit (.int .i64 b))]), some (.cells [.d (.lit (.int .i64 c)), .d (.lit (.int .i64 d))]) =>
      if p = q then none else some ([vld a b = true, vld c d = true], .t (Q (f a b c d).1 (f a b c d).2), [])
    | _, _ => none
  | _, _, _ => none
/-- two ratios, and a closure (function k) over blocks that hold them -/
def cJoin (k : Nat) (f : Int → Int → Int → Int → Int × Int) : Con
  | [.agg [.d (.lit (.int .i64 a)), .d (.lit (.int .i64 b))], .agg [.d (.lit (.int .i64 c)), .d (.lit (.int .i64 d))], .one (.clo k' [] [(p, 0), (q, 0)])], hp, _ => match hp p, hp q with
    | some (.cells [.d (.lit (.int .i64 a')), .d (.lit (.int .i64 b'))]), some (.cells [.d (.lit (.int .i64 c')), .d (.lit (.int .i64 d'))]) =>
      if p = q then none else if k' = k then some ([a' = a, b' = b, c' = c, d' = d, vld a b = true → vld c d = true → (f a b c d).2 ≠ 0 ∧ big (f a b c d).1 ∧ big (f a b c d).2], res (if vld a b && vld c d then mk (f a b c d).1 (f a b c d).2 else (0, 0, 1)), []) else none
    | _, _ => none
  | _, _, _ => none
def fAdd (a b c d : Int) : Int × Int := (a * d + c * b, b * d)
def fSub (a b c d : Int) : Int × Int := (a * d - c * b, b * d)
def fMul (a b c d : Int) : Int × Int := (a * c, b * d)
def fDiv (a b c d : Int) : Int × Int := (a * d, b * c)
def cCmp : PCon
  | [.agg [.d (.lit (.int .i64 a)), .d (.lit (.int .i64 b))], .agg [.d (.lit (.int .i64 c)), .d (.lit (.int .i64 d))]] => some ([], .tup [I (compareR a b c d).1, I (compareR a b c d).2])
  | _ => none
def cFloor : PCon
  | [.agg [.d (.lit (.int .i64 a)), .d (.lit (.int .i64 b))]] => some ([], .tup [I (floorR a b).1, I (floorR a b).2])
  | _ => none
abbrev Qt : Ty := .tp (.ti .i64) (.ti .i64)
/-- a list of ratios -/
abbrev QL (l : List (Int × Int)) : TV := .one (.d (.sl Qt l))
def cSum : PCon
  | [.one (.d (.sl (.tp (.ti .i64) (.ti .i64)) l))] => some ([], res (sumR l))
  | _ => none
/-- a list, a first value, a function (number k) of two ratios -/
def cCarried (k : Nat) (f : Int → Int → Int → Int → Int × Int × Int) : PCon
  | [.one (.d (.sl (.tp (.ti .i64) (.ti .i64)) l)), .agg [.d (.lit (.int .i64 a)), .d (.lit (.int .i64 b))], .one (.clo k' [] [])] =>
    if k' = k then some ([], res (carr f (a, b) l)) else none
  | _ => none
theorem ok48 : FnOk Try.prog 48 (CE.pu cAbs).con := fnPu [] cAbs L_ok trivial mixed Try.func48 (by kernel_rfl) (by kernel_rfl) fun args cs r h hcs => by
  unfold cAbs at h
  split at h
  · rename_i n
    injection h with h; injection h with h1 h2; subst h1 h2
    have hb : big n := hcs _ (List.mem_singleton.2 rfl)
    refine ⟨[0, 2], fun _ _ => none, rfl, rfl, rfl, castH (p := (if negW n > n then negW n else n) = ↑n.natAbs) (by kernel_rfl) ?_⟩
    rw [negW_eq (by unfold InI64 big at *; omega)]
    split <;> omega
  · cases h
theorem ok45 : FnOk Try.prog 45 (CE.pu cGcd).con := fnPu [] cGcd L_ok trivial mixed Try.func45 (by kernel_rfl) (by kernel_rfl) fun args cs r h hcs => by
  unfold cGcd at h
  split at h
  · rename_i n d
    injection h with h; injection h with h1 h2; subst h1 h2
    have h0 : 0 ≤ n := hcs _ (by simp)
    have h1 : 0 ≤ d := hcs (0 ≤ d) (by simp)
    refine ⟨[0, 1, 4, 5, 7], fun _ _ => some { X := Int × Int, inv := fun x => 0 ≤ x.1 ∧ 0 ≤ x.2 ∧ Int.gcd x.1 x.2 = Int.gcd n d, m := fun x => x.2.toNat, s := fun x => [(0, .t (I x.1)), (1, .t (I x.2))] }, rfl, rfl, rfl,
      castH (p := (∃ x : Int × Int, (0 ≤ x.1 ∧ 0 ≤ x.2 ∧ Int.gcd x.1 x.2 = Int.gcd n d) ∧ n = x.1 ∧ d = x.2) ∧
        ∀ x : Int × Int, (0 ≤ x.1 ∧ 0 ≤ x.2 ∧ Int.gcd x.1 x.2 = Int.gcd n d) → ((x.2 != 0) = true → x.2 ≠ 0 ∧
          ∃ y : Int × Int, (0 ≤ y.1 ∧ 0 ≤ y.2 ∧ Int.gcd y.1 y.2 = Int.gcd n d) ∧ y.2.toNat < x.2.toNat ∧ x.2 = y.1 ∧ x.1.tmod x.2 = y.2 ∧ (0 : Int) = 0) ∧ ((x.2 != 0) = false → x.1 = ↑(Int.gcd n d))) (by kernel_rfl) ?_⟩
    refine ⟨⟨(n, d), ⟨h0, h1, rfl⟩, rfl, rfl⟩, fun ⟨a, b⟩ ⟨ha, hb, hg⟩ => ⟨fun hne => ?_, fun he => ?_⟩⟩
    · simp only at ha hb hg hne ⊢
      have hne' : b ≠ 0 := by simpa using hne
      have e := Int.tmod_eq_emod_of_nonneg (b := b) ha
      have l1 := Int.emod_nonneg a hne'
      have l2 := Int.emod_lt_of_pos a (show 0 < b by omega)
      exact ⟨hne', (b, a.tmod b), ⟨hb, by simp only; omega, by rw [← hg]; exact gcd_tmod ha hb⟩, by simp only; omega, rfl, rfl, trivial⟩
    · simp only at ha hb hg he ⊢
      have : b = 0 := by simpa using he
      subst this
      rw [← hg]
      simp
      omega
  · cases h
abbrev t46 (k : Int) : Tab := [(47, .gen (cCommon k))]
theorem vc46 (a b k : Int) : (vcH L (ΓT (t46 (k - 1))) (fnOf L (t46 (k - 1)) Try.f47 [0, 1, 2, 5, 7] (fun _ _ => none)) Try.f47.results.toList (Try.f47.body.getD .skip) [I a, I b, .one (.ptr 2000 0)] [(2000, .cells [.clo 47 [] [(2000, 0)]])] (.t (I (Int.gcd a b)))
    [(2000, .cells [.clo 47 [] [(2000, 0)]])]).holds = (((b == 0) = true → a = ↑(a.gcd b) ∧ LV.clo 47 [] [(2000, 0)] = LV.clo 47 [] [(2000, 0)]) ∧
    ((b == 0) = false → b ≠ 0 ∧ 0 ≤ b ∧ 0 ≤ a.tmod b ∧ a.tmod b ≤ k - 1 ∧ ↑(b.gcd (a.tmod b)) = (↑(a.gcd b) : Int) ∧ LV.clo 47 [] [(2000, 0)] = LV.clo 47 [] [(2000, 0)])) := by kernel_rfl
/-- one level more of the recursion -/
theorem ok47_succ (k : Int) (hT : TOk Try.prog (t46 (k - 1))) : FnOk Try.prog 47 (CE.gen (cCommon k)).con := by
  refine fnGen (t46 (k - 1)) (cCommon k) L_ok hT mixed Try.func47 (by kernel_rfl) (by kernel_rfl) fun args hp fr cs r up h hcs => ?_
  unfold cCommon at h
  split at h
  · rename_i a b p
    split at h
    · rename_i q hq
      split at h
      · rename_i hqp
        subst hqp
        injection h with h; injection h with h1 h2; injection h2 with h2 h3; subst h1 h2 h3
        have h0 : 0 ≤ a := hcs _ (by simp)
        have h1 : 0 ≤ b := hcs (0 ≤ b) (by simp)
        have h2 : b ≤ k := hcs (b ≤ k) (by simp)
        refine ⟨[0, 1, 2, 5, 7], fun _ _ => none, [(2000, q)], [], [I a, I b, .one (.ptr 2000 0)], [(2000, .cells [.clo 47 [] [(2000, 0)]])], .t (I (Int.gcd a b)), [(2000, .cells [.clo 47 [] [(2000, 0)]])],
          Meets.reads1 q [I a, I b, .one (.ptr 2000 0)] (.cells [.clo 47 [] [(2000, 0)]]) (.t (I (Int.gcd a b))) hq rfl rfl rfl rfl rfl rfl (castH (vc46 a b k) ⟨fun hb => ?_, fun hb => ?_⟩)⟩
        · have : b = 0 := by simpa using hb
          subst this
          refine ⟨?_, rfl⟩
          simp
          omega
        · have hb' : b ≠ 0 := by simpa using hb
          have e := Int.tmod_eq_emod_of_nonneg (b := b) h0
          have l1 := Int.emod_nonneg a hb'
          have l2 := Int.emod_lt_of_pos a (show 0 < b by omega)
          exact ⟨hb', h1, by omega, by omega, by rw [gcd_tmod h0 h1], rfl⟩
      · cases h
    · cases h
  · cases h
/-- no level at all: nothing meets the condition -/
theorem ok47_none (k : Int) (hk : k < 0) : FnOk Try.prog 47 (CE.gen (cCommon k)).con :=
  fnGen [] (cCommon k) L_ok trivial mixed Try.func47 (by kernel_rfl) (by kernel_rfl) fun args hp fr cs r up h hcs => by
    exfalso
    unfold cCommon at h
    split at h
    · rename_i a b p
      split at h
      · rename_i q hq
        split at h
        · injection h with h; injection h with h1 h2; subst h1
          have h1 : 0 ≤ b := hcs (0 ≤ b) (by simp)
          have h2 : b ≤ k := hcs (b ≤ k) (by simp)
          omega
        · cases h
      · cases h
    · cases h
theorem ok47_all (k : Nat) : FnOk Try.prog 47 (CE.gen (cCommon k)).con := by
  induction k with
  | zero => exact ok47_succ 0 ⟨ok47_none _ (by omega), trivial⟩
  | succ k ih => exact ok47_succ _ ⟨by rw [show ((k + 1 : Nat) : Int) - 1 = k by omega]; exact ih, trivial⟩
theorem ok47 : FnOk Try.prog 47 (CE.gen (cCommon 1000000000000000000)).con := ok47_all 1000000000000000000
abbrev T1 : Tab := [(47, .gen (cCommon 1000000000000000000)), (48, .pu cAbs), (45, .pu cGcd), ]
theorem T1_ok : TOk Try.prog T1 := ⟨ok47, ok48, ok45, trivial⟩
theorem inI64_of {x : Int} (h : x.natAbs ≤ 1000000000000000000) : InI64 x := by unfold InI64; omega
theorem ok46 : FnOk Try.prog 46 (CE.pu cRed).con := fnPu T1 cRed L_ok T1_ok mixed Try.func46 (by kernel_rfl) (by kernel_rfl) fun args cs r h hcs => by
  unfold cRed at h
  split at h
  · rename_i n d
    injection h with h; injection h with h1 h2; subst h1 h2
    have h0 : d ≠ 0 := hcs _ (by simp)
    have h1 : big n := hcs (big n) (by simp)
    have h2 : big d := hcs (big d) (by simp)
    refine ⟨[0, 1, 2, 3, 4, 5, 16, 27], fun _ _ => none, rfl, rfl, rfl, castH (p := big n ∧ big d ∧ 0 ≤ (↑n.natAbs : Int) ∧ 0 ≤ (↑d.natAbs : Int) ∧ (↑d.natAbs : Int) ≤ 1000000000000000000 ∧
      (decide (d < 0) = true → negW ↑(Int.gcd ↑n.natAbs ↑d.natAbs) ≠ 0 ∧ InI64 (n.tdiv (negW ↑(Int.gcd ↑n.natAbs ↑d.natAbs))) ∧ negW ↑(Int.gcd ↑n.natAbs ↑d.natAbs) ≠ 0 ∧
        InI64 (d.tdiv (negW ↑(Int.gcd ↑n.natAbs ↑d.natAbs))) ∧ n.tdiv (negW ↑(Int.gcd ↑n.natAbs ↑d.natAbs)) = redN n d ∧ d.tdiv (negW ↑(Int.gcd ↑n.natAbs ↑d.natAbs)) = redD n d) ∧
      (decide (d < 0) = false → (↑(Int.gcd ↑n.natAbs ↑d.natAbs) : Int) ≠ 0 ∧ InI64 (n.tdiv ↑(Int.gcd ↑n.natAbs ↑d.natAbs)) ∧ (↑(Int.gcd ↑n.natAbs ↑d.natAbs) : Int) ≠ 0 ∧ InI64 (d.tdiv ↑(Int.gcd ↑n.natAbs ↑d.natAbs)) ∧
        n.tdiv ↑(Int.gcd ↑n.natAbs ↑d.natAbs) = redN n d ∧ d.tdiv ↑(Int.gcd ↑n.natAbs ↑d.natAbs) = redD n d)) (by kernel_rfl) ?_⟩
    have hg := gcd_pos (n := n) h0
    have hgl := gcd_le (n := n) h0
    rw [gcd_natAbs, negW_eq (inI64_of (by omega))]
    have hn1 : ∀ g, (n.tdiv g).natAbs ≤ 1000000000000000000 := fun g => Nat.le_trans (natAbs_tdiv_le n g) (by omega)
    have hd1 : ∀ g, (d.tdiv g).natAbs ≤ 1000000000000000000 := fun g => Nat.le_trans (natAbs_tdiv_le d g) (by omega)
    refine ⟨h1, h2, by omega, by omega, by omega, fun hd => ?_, fun hd => ?_⟩
    · obtain ⟨e1, e2⟩ := red_neg (n := n) (of_decide_eq_true hd)
      exact ⟨by omega, inI64_of (hn1 _), by omega, inI64_of (hd1 _), e1, e2⟩
    · obtain ⟨e1, e2⟩ := red_pos (n := n) (of_decide_eq_false hd)
      exact ⟨by omega, inI64_of (hn1 _), by omega, inI64_of (hd1 _), e1, e2⟩
  · cases h
abbrev E3 (x y z : Int) (m : Int × Int × Int) : Prop := x = m.1 ∧ y = m.2.1 ∧ z = m.2.2
abbrev E2 (x y : Int) (m : Int × Int) : Prop := x = m.1 ∧ y = m.2
theorem E3.of {x y z : Int} {m : Int × Int × Int} (h : m = (x, y, z)) : E3 x y z m := by subst h; exact ⟨rfl, rfl, rfl⟩
theorem E2.of {x y : Int} {m : Int × Int} (h : m = (x, y)) : E2 x y m := by subst h; exact ⟨rfl, rfl⟩
abbrev out (n d : Int) : Bool := decide (d < 1) || decide (d > 1000000) || decide (n < -1000000000) || decide (n > 1000000000)
theorem out_yes {n d : Int} (h : out n d = true) : false = vld n d := by
  unfold out at h
  simp only [Bool.or_eq_true, decide_eq_true_eq] at h
  symm
  cases hv : vld n d
  · rfl
  · have := vld_iff.1 hv; omega
theorem out_no {n d : Int} (h : out n d = false) : 1 ≤ d ∧ d ≤ 1000000 ∧ -1000000000 ≤ n ∧ n ≤ 1000000000 ∧ vld n d = decide (Int.gcd n d = 1) := by
  unfold out at h
  simp only [Bool.or_eq_false_iff, decide_eq_false_iff_not] at h
  refine ⟨by omega, by omega, by omega, by omega, ?_⟩
  rw [Bool.eq_iff_iff, vld_iff, decide_eq_true_eq]
  omega
abbrev T2 : Tab := (46, .pu cRed) :: T1
theorem T2_ok : TOk Try.prog T2 := ⟨ok46, T1_ok⟩
theorem ok44 : FnOk Try.prog 44 (CE.pu cVld).con := fnPu T2 cVld L_ok T2_ok mixed Try.func44 (by kernel_rfl) (by kernel_rfl) fun args cs r h hcs => by
  unfold cVld at h
  split at h
  · rename_i n d
    injection h with h; injection h with h1 h2; subst h1 h2
    refine ⟨[0, 1, 2, 20], fun _ _ => none, rfl, rfl, rfl, castH (p := (out n d = true → false = vld n d) ∧ (out n d = false → d ≠ 0 ∧ big n ∧ big d ∧ (redN n d == n && redD n d == d) = vld n d)) (by kernel_rfl) ?_⟩
    refine ⟨out_yes, fun h => ?_⟩
    obtain ⟨h1, h2, h3, h4, h5⟩ := out_no h
    unfold big
    exact ⟨by omega, by omega, by omega, by rw [red_self h1, h5]⟩
  · cases h
theorem fits_iff {n d : Int} : fits n d = true ↔ redN n d ≤ 1000000000 ∧ -1000000000 ≤ redN n d ∧ redD n d ≤ 1000000 := by unfold fits; exact decide_eq_true_iff
theorem mk_of {n d : Int} {b : Bool} (h : b = !fits n d) : (b = true → E3 0 0 3 (mk n d)) ∧ (b = false → E3 (redN n d) (redD n d) 0 (mk n d)) := by
  subst h
  refine ⟨fun h => E3.of (mk_no (by simpa using h)), fun h => E3.of (mk_yes (by simpa using h))⟩
theorem fits_not (n d : Int) : (decide ((↑(redN n d).natAbs : Int) > 1000000000) || decide (redD n d > 1000000)) = !fits n d := by
  rw [Bool.eq_iff_iff, Bool.not_eq_true', ← Bool.not_eq_true, fits_iff]
  simp only [Bool.or_eq_true, decide_eq_true_eq]
  omega
theorem fits_not' (n d : Int) : (decide (redD n d > 1000000) || decide ((↑(redN n d).natAbs : Int) > 1000000000)) = !fits n d := by rw [Bool.or_comm, fits_not]
abbrev T3 : Tab := (44, .pu cVld) :: T2
theorem T3_ok : TOk Try.prog T3 := ⟨ok44, T2_ok⟩
abbrev bad (n d : Int) : Bool := d == 0 || (decide (n < -1000000000000000) || decide (n > 1000000000000000)) || (decide (d < -1000000000000000) || decide (d > 1000000000000000))
theorem bad_yes {n d : Int} (h : bad n d = true) : make n d = (0, 0, 1) := by
  unfold bad at h
  unfold make far
  rw [if_pos]
  rw [Bool.or_eq_true, Bool.or_eq_true, beq_iff_eq] at h
  rcases h with (h | h) | h
  · exact .inl h
  · exact .inr (.inl h)
  · exact .inr (.inr h)
theorem bad_no {n d : Int} (h : bad n d = false) : d ≠ 0 ∧ big n ∧ big d ∧ make n d = mk n d := by
  unfold bad at h
  unfold make far
  have h' := h
  simp only [Bool.or_eq_false_iff, decide_eq_false_iff_not, beq_eq_false_iff_ne] at h'
  unfold big
  refine ⟨by omega, by omega, by omega, ?_⟩
  rw [if_neg]
  rw [Bool.or_eq_false_iff, Bool.or_eq_false_iff, beq_eq_false_iff_ne] at h
  rw [h.1.2, h.2]
  simp [h.1.1]
theorem E3.self (m : Int × Int × Int) : E3 m.1 m.2.1 m.2.2 m := ⟨rfl, rfl, rfl⟩
theorem prods {a b c d : Int} (h1 : vld a b = true) (h2 : vld c d = true) : (a * c).natAbs ≤ 1000000000 * 1000000000 ∧ (a * d).natAbs ≤ 1000000000 * 1000000 ∧ (c * b).natAbs ≤ 1000000000 * 1000000 ∧ (b * d).natAbs ≤ 1000000 * 1000000 ∧ (b * c).natAbs ≤ 1000000 * 1000000000 := by
  have v1 := vld_bd h1
  have v2 := vld_bd h2
  exact ⟨mulb v1.1 v2.1, mulb v1.1 v2.2.1, mulb v2.1 v1.2.1, mulb v1.2.1 v2.2.1, mulb v1.2.1 v2.1⟩
abbrev J (f : Int → Int → Int → Int → Int × Int) (a b c d : Int) : Int × Int × Int := if vld a b && vld c d then mk (f a b c d).1 (f a b c d).2 else (0, 0, 1)
theorem nand {x y : Bool} (h : (!x || !y) = true) : (x && y) = false := by cases x <;> cases y <;> simp_all
theorem nand' {x y : Bool} (h : (!x || !y) = false) : x = true ∧ y = true := by cases x <;> cases y <;> simp_all
theorem J_no {f : Int → Int → Int → Int → Int × Int} {a b c d : Int} (h : (!vld a b || !vld c d) = true) : J f a b c d = (0, 0, 1) := by unfold J; rw [nand h]; rfl
theorem J_yes {f : Int → Int → Int → Int → Int × Int} {a b c d : Int} (h1 : vld a b = true) (h2 : vld c d = true) : J f a b c d = mk (f a b c d).1 (f a b c d).2 := by unfold J; rw [h1, h2]; rfl
theorem bfs {a b c d : Int} (h1 : vld a b = true) (h2 : vld c d = true) : b * d ≠ 0 := Int.mul_ne_zero (vld_bd h1).2.2.1 (vld_bd h2).2.2.1
theorem f_add (a b c d : Int) : vld a b = true → vld c d = true → (fAdd a b c d).2 ≠ 0 ∧ big (fAdd a b c d).1 ∧ big (fAdd a b c d).2 := fun h1 h2 => by
  have hm := prods h1 h2
  unfold fAdd big
  exact ⟨bfs h1 h2, by simp only; omega, by simp only; omega⟩
theorem f_sub (a b c d : Int) : vld a b = true → vld c d = true → (fSub a b c d).2 ≠ 0 ∧ big (fSub a b c d).1 ∧ big (fSub a b c d).2 := fun h1 h2 => by
  have hm := prods h1 h2
  unfold fSub big
  exact ⟨bfs h1 h2, by simp only; omega, by simp only; omega⟩
theorem f_mul (a b c d : Int) : vld a b = true → vld c d = true → (fMul a b c d).2 ≠ 0 ∧ big (fMul a b c d).1 ∧ big (fMul a b c d).2 := fun h1 h2 => by
  have hm := prods h1 h2
  unfold fMul big
  exact ⟨bfs h1 h2, by simp only; omega, by simp only; omega⟩
theorem f_div (a b c d : Int) (h0 : c ≠ 0) : vld a b = true → vld c d = true → (fDiv a b c d).2 ≠ 0 ∧ big (fDiv a b c d).1 ∧ big (fDiv a b c d).2 := fun h1 h2 => by
  have hm := prods h1 h2
  unfold fDiv big
  exact ⟨Int.mul_ne_zero (vld_bd h1).2.2.1 h0, by simp only; omega, by simp only; omega⟩
abbrev T4 : Tab := T3
theorem T4_ok : TOk Try.prog T4 := T3_ok
end Go.Proofs.Ytdkggjgmlccjcaa
