/- The ratio package's functions in this program meet their contracts. -/
import Derived.Test.YtjghgdccaakfmaaLay
import Derived.Test.YtjghgdccaakfmaaRq
import Derived.Test.YtjghgdccaakfmaaRt
namespace Go.Proofs.Ytjghgdccaakfmaa
open Go.Sy Go.RatLaw
abbrev I (n : Int) : TV := .one (.d (.lit (.int .i64 n)))
abbrev B (b : Bool) : TV := .one (.d (.lit (.bool b)))
abbrev Q (n d : Int) : TV := .agg [li .i64 n, li .i64 d]
abbrev big (n : Int) : Prop := -1000000000000000000 ≤ n ∧ n ≤ 1000000000000000000
def cAbs : PCon
  | [.one (.d (.lit (.int .i64 n)))] => some ([big n], .t (I n.natAbs))
  | _ => none
def cFar : PCon
  | [.one (.d (.lit (.int .i64 k)))] => some ([], .t (B (decide (k < -1000000000000000) || decide (k > 1000000000000000))))
  | _ => none
def cRatOf : PCon
  | [.one (.d (.lit (.int .i64 n))), .one (.d (.lit (.int .i64 d)))] => some ([], .t (Q n d))
  | _ => none
def cGcd : PCon
  | [.one (.d (.lit (.int .i64 a))), .one (.d (.lit (.int .i64 b)))] => some ([0 ≤ a, 0 ≤ b], .t (I (Int.gcd a b)))
  | _ => none
def cRed : PCon
  | [.agg [.d (.lit (.int .i64 n)), .d (.lit (.int .i64 d))]] => some ([d ≠ 0, big n, big d], .t (Q (redN n d) (redD n d)))
  | _ => none
/-- the recursive closure: it is handed its own variable -/
def cCommon (k : Int) : Con
  | [.one (.d (.lit (.int .i64 a))), .one (.d (.lit (.int .i64 b))), .one (.ptr p 0)], hp, _ => match hp p with
    | some (.cells [.clo 101 [] [(q, 0)]]) => if q = p then some ([0 ≤ a, 0 ≤ b, b ≤ k], .t (I (Int.gcd a b)), []) else none
    | _ => none
  | _, _, _ => none
abbrev res (m : Int × Int × Int) : AV := .tup [Q m.1 m.2.1, I m.2.2]
def cMk : PCon
  | [.agg [.d (.lit (.int .i64 n)), .d (.lit (.int .i64 d))]] => some ([d ≠ 0, big n, big d], res (mk n d))
  | _ => none
def cVld : PCon
  | [.agg [.d (.lit (.int .i64 n)), .d (.lit (.int .i64 d))]] => some ([], .t (B (vld n d)))
  | _ => none
def cMake : PCon
  | [.one (.d (.lit (.int .i64 n))), .one (.d (.lit (.int .i64 d)))] => some ([], res (make n d))
  | _ => none
/-- a function of two ratios -/
def cBin (f : Int → Int → Int → Int → Int × Int × Int) : PCon
  | [.agg [.d (.lit (.int .i64 a)), .d (.lit (.int .i64 b))], .agg [.d (.lit (.int .i64 c)), .d (.lit (.int .i64 d))]] => some ([], res (f a b c d))
  | _ => none
/-- a fraction made of two ratios in blocks p, q -/
def cFrac (f : Int → Int → Int → Int → Int × Int) : Con
  | [.one (.ptr p 0), .one (.ptr q 0)], hp, _ => match hp p, hp q with
    | some (.cells [.d (.lit (.int .i64 a)), .d (.lit (.int .i64 b))]), some (.cells [.d (.lit (.int .i64 c)), .d (.lit (.int .i64 d))]) =>
      if p = q then none else some ([vld a b = true, vld c d = true], .t (Q (f a b c d).1 (f a b c d).2), [])
    | _, _ => none
  | _, _, _ => none
/-- two ratios, and a closure (function k) over blocks that hold them -/
def cJoin (k : Nat) (f : Int → Int → Int → Int → Int × Int) : Con
  | [.agg [.d (.lit (.int .i64 a)), .d (.lit (.int .i64 b))], .agg [.d (.lit (.int .i64 c)), .d (.lit (.int .i64 d))], .one (.clo k' [] [(p, 0), (q, 0)])], hp, _ => match hp p, hp q with
    | some (.cells [.d (.lit (.int .i64 a')), .d (.lit (.int .i64 b'))]), some (.cells [.d (.lit (.int .i64 c')), .d (.lit (.int .i64 d'))]) =>
      if p = q then none else if k' = k then some ([a' = a, b' = b, c' = c, d' = d, vld a b = true → vld c d = true → (f a b c d).2 ≠ 0 ∧ big (f a b c d).1 ∧ big (f a b c d).2], res (if vld a b && vld c d then mk (f a b c d).1 (f a b c d).2 else (0, 0, 1)), []) else none
    | _, _ => none
  | _, _, _ => none
def fAdd (a b c d : Int) : Int × Int := (a * d + c * b, b * d)
def cCmp : PCon
  | [.agg [.d (.lit (.int .i64 a)), .d (.lit (.int .i64 b))], .agg [.d (.lit (.int .i64 c)), .d (.lit (.int .i64 d))]] => some ([], .tup [I (compareR a b c d).1, I (compareR a b c d).2])
  | _ => none
def cSum : PCon
  | [.one (.d (.sl (.tp (.ti .i64) (.ti .i64)) l))] => some ([], res (sumR l))
  | _ => none
/-- a list, a first value, a function (number k) of two ratios -/
def cCarried (k : Nat) (f : Int → Int → Int → Int → Int × Int × Int) : PCon
  | [.one (.d (.sl (.tp (.ti .i64) (.ti .i64)) l)), .agg [.d (.lit (.int .i64 a)), .d (.lit (.int .i64 b))], .one (.clo k' [] [])] =>
    if k' = k then some ([], res (carr f (a, b) l)) else none
  | _ => none
theorem ok91 : FnOk Try.prog 91 (CE.pu cAbs).con := fnPu [] cAbs L_ok trivial mixed Try.func91 (by kernel_rfl) (by kernel_rfl) fun args cs r h hcs => by
  unfold cAbs at h
  split at h
  · rename_i n
    injection h with h; injection h with h1 h2; subst h1 h2
    have hb : big n := hcs _ (List.mem_singleton.2 rfl)
    refine ⟨[0, 2], fun _ _ => none, rfl, rfl, rfl, castH (p := (if negW n > n then negW n else n) = ↑n.natAbs) (by kernel_rfl) ?_⟩
    rw [negW_eq (by unfold InI64 big at *; omega)]
    split <;> omega
  · cases h
theorem ok48 : FnOk Try.prog 48 (CE.pu cAbs).con := fnPu [] cAbs L_ok trivial mixed Try.func48 (by kernel_rfl) (by kernel_rfl) fun args cs r h hcs => by
  unfold cAbs at h
  split at h
  · rename_i n
    injection h with h; injection h with h1 h2; subst h1 h2
    have hb : big n := hcs _ (List.mem_singleton.2 rfl)
    refine ⟨[0, 2, 4], fun _ _ => none, rfl, rfl, rfl, castH (p := (decide (n < 0) = true → negW n = ↑n.natAbs) ∧ (decide (n < 0) = false → n = ↑n.natAbs)) (by kernel_rfl) ?_⟩
    rw [negW_eq (by unfold InI64 big at *; omega)]
    simp only [decide_eq_true_eq, decide_eq_false_iff_not]
    omega
  · cases h
theorem ok84 : FnOk Try.prog 84 (CE.pu cFar).con := fnPu [] cFar L_ok trivial mixed Try.func84 (by kernel_rfl) (by kernel_rfl) fun args cs r h hcs => by
  unfold cFar at h
  split at h
  · rename_i k
    injection h with h; injection h with h1 h2; subst h1 h2
    exact ⟨[0, 2], fun _ _ => none, rfl, rfl, rfl, castH (p := (decide (k < -1000000000000000) || decide (k > 1000000000000000)) = (decide (k < -1000000000000000) || decide (k > 1000000000000000))) (by kernel_rfl) rfl⟩
  · cases h
theorem ok21 : FnOk Try.prog 21 (CE.pu cRatOf).con := fnPu [] cRatOf L_ok trivial mixed Try.func21 (by kernel_rfl) (by kernel_rfl) fun args cs r h hcs => by
  unfold cRatOf at h
  split at h
  · rename_i n d
    injection h with h; injection h with h1 h2; subst h1 h2
    exact ⟨[0, 1, 4, 7], fun _ _ => none, rfl, rfl, rfl, castH (p := n = n ∧ d = d) (by kernel_rfl) ⟨rfl, rfl⟩⟩
  · cases h
theorem ok47 : FnOk Try.prog 47 (CE.pu cGcd).con := fnPu [] cGcd L_ok trivial mixed Try.func47 (by kernel_rfl) (by kernel_rfl) fun args cs r h hcs => by
  unfold cGcd at h
  split at h
  · rename_i n d
    injection h with h; injection h with h1 h2; subst h1 h2
    have h0 : 0 ≤ n := hcs _ (by simp)
    have h1 : 0 ≤ d := hcs (0 ≤ d) (by simp)
    refine ⟨[0, 1, 4, 5, 7], fun _ _ => some { X := Int × Int, inv := fun x => 0 ≤ x.1 ∧ 0 ≤ x.2 ∧ Int.gcd x.1 x.2 = Int.gcd n d, m := fun x => x.2.toNat, s := fun x => [(0, .t (I x.1)), (1, .t (I x.2))] }, rfl, rfl, rfl,
      castH (p := (∃ x : Int × Int, (0 ≤ x.1 ∧ 0 ≤ x.2 ∧ Int.gcd x.1 x.2 = Int.gcd n d) ∧ n = x.1 ∧ d = x.2) ∧
        ∀ x : Int × Int, (0 ≤ x.1 ∧ 0 ≤ x.2 ∧ Int.gcd x.1 x.2 = Int.gcd n d) → ((x.2 != 0) = true → x.2 ≠ 0 ∧
          ∃ y : Int × Int, (0 ≤ y.1 ∧ 0 ≤ y.2 ∧ Int.gcd y.1 y.2 = Int.gcd n d) ∧ y.2.toNat < x.2.toNat ∧ x.2 = y.1 ∧ x.1.tmod x.2 = y.2 ∧ (0 : Int) = 0) ∧ ((x.2 != 0) = false → x.1 = ↑(Int.gcd n d))) (by kernel_rfl) ?_⟩
    refine ⟨⟨(n, d), ⟨h0, h1, rfl⟩, rfl, rfl⟩, fun ⟨a, b⟩ ⟨ha, hb, hg⟩ => ⟨fun hne => ?_, fun he => ?_⟩⟩
    · simp only at ha hb hg hne ⊢
      have hne' : b ≠ 0 := by simpa using hne
      have e := Int.tmod_eq_emod_of_nonneg (b := b) ha
      have l1 := Int.emod_nonneg a hne'
      have l2 := Int.emod_lt_of_pos a (show 0 < b by omega)
      exact ⟨hne', (b, a.tmod b), ⟨hb, by simp only; omega, by rw [← hg]; exact gcd_tmod ha hb⟩, by simp only; omega, rfl, rfl, trivial⟩
    · simp only at ha hb hg he ⊢
      have : b = 0 := by simpa using he
      subst this
      rw [← hg]
      simp
      omega
  · cases h
theorem ok66 : FnOk Try.prog 66 (CE.pu cGcd).con := fnPu [] cGcd L_ok trivial mixed Try.func66 (by kernel_rfl) (by kernel_rfl) fun args cs r h hcs => by
  unfold cGcd at h
  split at h
  · rename_i n d
    injection h with h; injection h with h1 h2; subst h1 h2
    have h0 : 0 ≤ n := hcs _ (by simp)
    have h1 : 0 ≤ d := hcs (0 ≤ d) (by simp)
    refine ⟨[0, 1, 4, 5, 7], fun _ _ => some { X := Int × Int, inv := fun x => 0 ≤ x.1 ∧ 0 ≤ x.2 ∧ Int.gcd x.1 x.2 = Int.gcd n d, m := fun x => x.2.toNat, s := fun x => [(0, .t (I x.1)), (1, .t (I x.2))] }, rfl, rfl, rfl,
      castH (p := (∃ x : Int × Int, (0 ≤ x.1 ∧ 0 ≤ x.2 ∧ Int.gcd x.1 x.2 = Int.gcd n d) ∧ n = x.1 ∧ d = x.2) ∧
        ∀ x : Int × Int, (0 ≤ x.1 ∧ 0 ≤ x.2 ∧ Int.gcd x.1 x.2 = Int.gcd n d) → ((x.2 != 0) = true → x.2 ≠ 0 ∧
          ∃ y : Int × Int, (0 ≤ y.1 ∧ 0 ≤ y.2 ∧ Int.gcd y.1 y.2 = Int.gcd n d) ∧ y.2.toNat < x.2.toNat ∧ x.2 = y.1 ∧ x.1.tmod x.2 = y.2 ∧ (0 : Int) = 0) ∧ ((x.2 != 0) = false → x.1 = ↑(Int.gcd n d))) (by kernel_rfl) ?_⟩
    refine ⟨⟨(n, d), ⟨h0, h1, rfl⟩, rfl, rfl⟩, fun ⟨a, b⟩ ⟨ha, hb, hg⟩ => ⟨fun hne => ?_, fun he => ?_⟩⟩
    · simp only at ha hb hg hne ⊢
      have hne' : b ≠ 0 := by simpa using hne
      have e := Int.tmod_eq_emod_of_nonneg (b := b) ha
      have l1 := Int.emod_nonneg a hne'
      have l2 := Int.emod_lt_of_pos a (show 0 < b by omega)
      exact ⟨hne', (b, a.tmod b), ⟨hb, by simp only; omega, by rw [← hg]; exact gcd_tmod ha hb⟩, by simp only; omega, rfl, rfl, trivial⟩
    · simp only at ha hb hg he ⊢
      have : b = 0 := by simpa using he
      subst this
      rw [← hg]
      simp
      omega
  · cases h
abbrev t46 (k : Int) : Tab := [(101, .gen (cCommon k))]
theorem vc46 (a b k : Int) : (vcH L (ΓT (t46 (k - 1))) (fnOf L (t46 (k - 1)) Try.f101 [0, 1, 2, 5, 7] (fun _ _ => none)) Try.f101.results.toList (Try.f101.body.getD .skip) [I a, I b, .one (.ptr 2000 0)] [(2000, .cells [.clo 101 [] [(2000, 0)]])] (.t (I (Int.gcd a b)))
    [(2000, .cells [.clo 101 [] [(2000, 0)]])]).holds = (((b == 0) = true → a = ↑(a.gcd b) ∧ LV.clo 101 [] [(2000, 0)] = LV.clo 101 [] [(2000, 0)]) ∧
    ((b == 0) = false → b ≠ 0 ∧ 0 ≤ b ∧ 0 ≤ a.tmod b ∧ a.tmod b ≤ k - 1 ∧ ↑(b.gcd (a.tmod b)) = (↑(a.gcd b) : Int) ∧ LV.clo 101 [] [(2000, 0)] = LV.clo 101 [] [(2000, 0)])) := by kernel_rfl
/-- one level more of the recursion -/
theorem ok101_succ (k : Int) (hT : TOk Try.prog (t46 (k - 1))) : FnOk Try.prog 101 (CE.gen (cCommon k)).con := by
  refine fnGen (t46 (k - 1)) (cCommon k) L_ok hT mixed Try.func101 (by kernel_rfl) (by kernel_rfl) fun args hp fr cs r up h hcs => ?_
  unfold cCommon at h
  split at h
  · rename_i a b p
    split at h
    · rename_i q hq
      split at h
      · rename_i hqp
        subst hqp
        injection h with h; injection h with h1 h2; injection h2 with h2 h3; subst h1 h2 h3
        have h0 : 0 ≤ a := hcs _ (by simp)
        have h1 : 0 ≤ b := hcs (0 ≤ b) (by simp)
        have h2 : b ≤ k := hcs (b ≤ k) (by simp)
        refine ⟨[0, 1, 2, 5, 7], fun _ _ => none, [(2000, q)], [], [I a, I b, .one (.ptr 2000 0)], [(2000, .cells [.clo 101 [] [(2000, 0)]])], .t (I (Int.gcd a b)), [(2000, .cells [.clo 101 [] [(2000, 0)]])],
          Meets.reads1 q [I a, I b, .one (.ptr 2000 0)] (.cells [.clo 101 [] [(2000, 0)]]) (.t (I (Int.gcd a b))) hq rfl rfl rfl rfl rfl rfl (castH (vc46 a b k) ⟨fun hb => ?_, fun hb => ?_⟩)⟩
        · have : b = 0 := by simpa using hb
          subst this
          refine ⟨?_, rfl⟩
          simp
          omega
        · have hb' : b ≠ 0 := by simpa using hb
          have e := Int.tmod_eq_emod_of_nonneg (b := b) h0
          have l1 := Int.emod_nonneg a hb'
          have l2 := Int.emod_lt_of_pos a (show 0 < b by omega)
          exact ⟨hb', h1, by omega, by omega, by rw [gcd_tmod h0 h1], rfl⟩
      · cases h
    · cases h
  · cases h
/-- no level at all: nothing meets the condition -/
theorem ok101_none (k : Int) (hk : k < 0) : FnOk Try.prog 101 (CE.gen (cCommon k)).con :=
  fnGen [] (cCommon k) L_ok trivial mixed Try.func101 (by kernel_rfl) (by kernel_rfl) fun args hp fr cs r up h hcs => by
    exfalso
    unfold cCommon at h
    split at h
    · rename_i a b p
      split at h
      · rename_i q hq
        split at h
        · injection h with h; injection h with h1 h2; subst h1
          have h1 : 0 ≤ b := hcs (0 ≤ b) (by simp)
          have h2 : b ≤ k := hcs (b ≤ k) (by simp)
          omega
        · cases h
      · cases h
    · cases h
theorem ok101_all (k : Nat) : FnOk Try.prog 101 (CE.gen (cCommon k)).con := by
  induction k with
  | zero => exact ok101_succ 0 ⟨ok101_none _ (by omega), trivial⟩
  | succ k ih => exact ok101_succ _ ⟨by rw [show ((k + 1 : Nat) : Int) - 1 = k by omega]; exact ih, trivial⟩
theorem ok101 : FnOk Try.prog 101 (CE.gen (cCommon 1000000000000000000)).con := ok101_all 1000000000000000000
abbrev Tb1 : Tab := [(101, .gen (cCommon 1000000000000000000)), (91, .pu cAbs), (84, .pu cFar), (48, .pu cAbs), (47, .pu cGcd), (21, .pu cRatOf)]
theorem Tb1_ok : TOk Try.prog Tb1 := ⟨ok101, ok91, ok84, ok48, ok47, ok21, trivial⟩
theorem inI64_of {x : Int} (h : x.natAbs ≤ 1000000000000000000) : InI64 x := by unfold InI64; omega
theorem ok83 : FnOk Try.prog 83 (CE.pu cRed).con := fnPu Tb1 cRed L_ok Tb1_ok mixed Try.func83 (by kernel_rfl) (by kernel_rfl) fun args cs r h hcs => by
  unfold cRed at h
  split at h
  · rename_i n d
    injection h with h; injection h with h1 h2; subst h1 h2
    have h0 : d ≠ 0 := hcs _ (by simp)
    have h1 : big n := hcs (big n) (by simp)
    have h2 : big d := hcs (big d) (by simp)
    refine ⟨[0, 1, 2, 3, 4, 5, 16, 27], fun _ _ => none, rfl, rfl, rfl, castH (p := big n ∧ big d ∧ 0 ≤ (↑n.natAbs : Int) ∧ 0 ≤ (↑d.natAbs : Int) ∧ (↑d.natAbs : Int) ≤ 1000000000000000000 ∧
      (decide (d < 0) = true → negW ↑(Int.gcd ↑n.natAbs ↑d.natAbs) ≠ 0 ∧ InI64 (n.tdiv (negW ↑(Int.gcd ↑n.natAbs ↑d.natAbs))) ∧ negW ↑(Int.gcd ↑n.natAbs ↑d.natAbs) ≠ 0 ∧
        InI64 (d.tdiv (negW ↑(Int.gcd ↑n.natAbs ↑d.natAbs))) ∧ n.tdiv (negW ↑(Int.gcd ↑n.natAbs ↑d.natAbs)) = redN n d ∧ d.tdiv (negW ↑(Int.gcd ↑n.natAbs ↑d.natAbs)) = redD n d) ∧
      (decide (d < 0) = false → (↑(Int.gcd ↑n.natAbs ↑d.natAbs) : Int) ≠ 0 ∧ InI64 (n.tdiv ↑(Int.gcd ↑n.natAbs ↑d.natAbs)) ∧ (↑(Int.gcd ↑n.natAbs ↑d.natAbs) : Int) ≠ 0 ∧ InI64 (d.tdiv ↑(Int.gcd ↑n.natAbs ↑d.natAbs)) ∧
        n.tdiv ↑(Int.gcd ↑n.natAbs ↑d.natAbs) = redN n d ∧ d.tdiv ↑(Int.gcd ↑n.natAbs ↑d.natAbs) = redD n d)) (by kernel_rfl) ?_⟩
    have hg := gcd_pos (n := n) h0
    have hgl := gcd_le (n := n) h0
    rw [gcd_natAbs, negW_eq (inI64_of (by omega))]
    have hn1 : ∀ g, (n.tdiv g).natAbs ≤ 1000000000000000000 := fun g => Nat.le_trans (natAbs_tdiv_le n g) (by omega)
    have hd1 : ∀ g, (d.tdiv g).natAbs ≤ 1000000000000000000 := fun g => Nat.le_trans (natAbs_tdiv_le d g) (by omega)
    refine ⟨h1, h2, by omega, by omega, by omega, fun hd => ?_, fun hd => ?_⟩
    · obtain ⟨e1, e2⟩ := red_neg (n := n) (of_decide_eq_true hd)
      exact ⟨by omega, inI64_of (hn1 _), by omega, inI64_of (hd1 _), e1, e2⟩
    · obtain ⟨e1, e2⟩ := red_pos (n := n) (of_decide_eq_false hd)
      exact ⟨by omega, inI64_of (hn1 _), by omega, inI64_of (hd1 _), e1, e2⟩
  · cases h
abbrev E3 (x y z : Int) (m : Int × Int × Int) : Prop := x = m.1 ∧ y = m.2.1 ∧ z = m.2.2
abbrev E2 (x y : Int) (m : Int × Int) : Prop := x = m.1 ∧ y = m.2
theorem E3.of {x y z : Int} {m : Int × Int × Int} (h : m = (x, y, z)) : E3 x y z m := by subst h; exact ⟨rfl, rfl, rfl⟩
theorem E2.of {x y : Int} {m : Int × Int} (h : m = (x, y)) : E2 x y m := by subst h; exact ⟨rfl, rfl⟩
abbrev out (n d : Int) : Bool := decide (d < 1) || decide (d > 1000000) || decide (n < -1000000000) || decide (n > 1000000000)
theorem out_yes {n d : Int} (h : out n d = true) : false = vld n d := by
  unfold out at h
  simp only [Bool.or_eq_true, decide_eq_true_eq] at h
  symm
  cases hv : vld n d
  · rfl
  · have := vld_iff.1 hv; omega
theorem out_no {n d : Int} (h : out n d = false) : 1 ≤ d ∧ d ≤ 1000000 ∧ -1000000000 ≤ n ∧ n ≤ 1000000000 ∧ vld n d = decide (Int.gcd n d = 1) := by
  unfold out at h
  simp only [Bool.or_eq_false_iff, decide_eq_false_iff_not] at h
  refine ⟨by omega, by omega, by omega, by omega, ?_⟩
  rw [Bool.eq_iff_iff, vld_iff, decide_eq_true_eq]
  omega
abbrev Tb2 : Tab := (83, .pu cRed) :: Tb1
theorem Tb2_ok : TOk Try.prog Tb2 := ⟨ok83, Tb1_ok⟩
theorem ok57 : FnOk Try.prog 57 (CE.pu cVld).con := fnPu Tb2 cVld L_ok Tb2_ok mixed Try.func57 (by kernel_rfl) (by kernel_rfl) fun args cs r h hcs => by
  unfold cVld at h
  split at h
  · rename_i n d
    injection h with h; injection h with h1 h2; subst h1 h2
    refine ⟨[0, 1, 2, 20], fun _ _ => none, rfl, rfl, rfl, castH (p := (out n d = true → false = vld n d) ∧ (out n d = false → d ≠ 0 ∧ big n ∧ big d ∧ (redN n d == n && redD n d == d) = vld n d)) (by kernel_rfl) ?_⟩
    refine ⟨out_yes, fun h => ?_⟩
    obtain ⟨h1, h2, h3, h4, h5⟩ := out_no h
    unfold big
    exact ⟨by omega, by omega, by omega, by rw [red_self h1, h5]⟩
  · cases h
theorem ok23 : FnOk Try.prog 23 (CE.pu cVld).con := fnPu Tb2 cVld L_ok Tb2_ok mixed Try.func23 (by kernel_rfl) (by kernel_rfl) fun args cs r h hcs => by
  unfold cVld at h
  split at h
  · rename_i n d
    injection h with h; injection h with h1 h2; subst h1 h2
    refine ⟨[0, 1, 2, 20], fun _ _ => none, rfl, rfl, rfl, castH (p := (out n d = true → false = vld n d) ∧ (out n d = false → big n ∧ 0 ≤ (↑n.natAbs : Int) ∧ 0 ≤ d ∧ ((↑(Int.gcd ↑n.natAbs d) : Int) == 1) = vld n d)) (by kernel_rfl) ?_⟩
    refine ⟨out_yes, fun h => ?_⟩
    obtain ⟨h1, h2, h3, h4, h5⟩ := out_no h
    unfold big
    refine ⟨by omega, by omega, by omega, ?_⟩
    rw [h5, gcd_natAbs_left, Bool.eq_iff_iff, beq_iff_eq, decide_eq_true_eq]
    omega
  · cases h
theorem fits_iff {n d : Int} : fits n d = true ↔ redN n d ≤ 1000000000 ∧ -1000000000 ≤ redN n d ∧ redD n d ≤ 1000000 := by unfold fits; exact decide_eq_true_iff
theorem mk_of {n d : Int} {b : Bool} (h : b = !fits n d) : (b = true → E3 0 0 3 (mk n d)) ∧ (b = false → E3 (redN n d) (redD n d) 0 (mk n d)) := by
  subst h
  refine ⟨fun h => E3.of (mk_no (by simpa using h)), fun h => E3.of (mk_yes (by simpa using h))⟩
theorem fits_not (n d : Int) : (decide ((↑(redN n d).natAbs : Int) > 1000000000) || decide (redD n d > 1000000)) = !fits n d := by
  rw [Bool.eq_iff_iff, Bool.not_eq_true', ← Bool.not_eq_true, fits_iff]
  simp only [Bool.or_eq_true, decide_eq_true_eq]
  omega
theorem ok71 : FnOk Try.prog 71 (CE.pu cMk).con := fnPu Tb2 cMk L_ok Tb2_ok mixed Try.func71 (by kernel_rfl) (by kernel_rfl) fun args cs r h hcs => by
  unfold cMk at h
  split at h
  · rename_i n d
    injection h with h; injection h with h1 h2; subst h1 h2
    have h0 : d ≠ 0 := hcs _ (by simp)
    have h1 : big n := hcs (big n) (by simp)
    have h2 : big d := hcs (big d) (by simp)
    refine ⟨[0, 1, 2, 3, 4, 15], fun _ _ => none, rfl, rfl, rfl, castH (p := d ≠ 0 ∧ big n ∧ big d ∧ big (redN n d) ∧
      ((decide ((↑(redN n d).natAbs : Int) > 1000000000) || decide (redD n d > 1000000)) = true → E3 0 0 3 (mk n d)) ∧
      ((decide ((↑(redN n d).natAbs : Int) > 1000000000) || decide (redD n d > 1000000)) = false → E3 (redN n d) (redD n d) 0 (mk n d))) (by kernel_rfl) ?_⟩
    have := redN_le n d
    unfold big at *
    exact ⟨h0, h1, h2, by omega, mk_of (fits_not n d)⟩
  · cases h
abbrev Tb3 : Tab := (71, .pu cMk) :: (57, .pu cVld) :: (23, .pu cVld) :: Tb2
theorem Tb3_ok : TOk Try.prog Tb3 := ⟨ok71, ok57, ok23, Tb2_ok⟩
abbrev bad (n d : Int) : Bool := d == 0 || (decide (n < -1000000000000000) || decide (n > 1000000000000000)) || (decide (d < -1000000000000000) || decide (d > 1000000000000000))
theorem bad_yes {n d : Int} (h : bad n d = true) : make n d = (0, 0, 1) := by
  unfold bad at h
  unfold make far
  rw [if_pos]
  rw [Bool.or_eq_true, Bool.or_eq_true, beq_iff_eq] at h
  rcases h with (h | h) | h
  · exact .inl h
  · exact .inr (.inl h)
  · exact .inr (.inr h)
theorem bad_no {n d : Int} (h : bad n d = false) : d ≠ 0 ∧ big n ∧ big d ∧ make n d = mk n d := by
  unfold bad at h
  unfold make far
  have h' := h
  simp only [Bool.or_eq_false_iff, decide_eq_false_iff_not, beq_eq_false_iff_ne] at h'
  unfold big
  refine ⟨by omega, by omega, by omega, ?_⟩
  rw [if_neg]
  rw [Bool.or_eq_false_iff, Bool.or_eq_false_iff, beq_eq_false_iff_ne] at h
  rw [h.1.2, h.2]
  simp [h.1.1]
theorem E3.self (m : Int × Int × Int) : E3 m.1 m.2.1 m.2.2 m := ⟨rfl, rfl, rfl⟩
theorem ok65 : FnOk Try.prog 65 (CE.pu cMake).con := fnPu Tb3 cMake L_ok Tb3_ok mixed Try.func65 (by kernel_rfl) (by kernel_rfl) fun args cs r h hcs => by
  unfold cMake at h
  split at h
  · rename_i n d
    injection h with h; injection h with h1 h2; subst h1 h2
    refine ⟨[0, 1, 4, 5, 6, 18], fun _ _ => none, rfl, rfl, rfl, castH (p := (bad n d = true → E3 0 0 1 (make n d)) ∧ (bad n d = false → d ≠ 0 ∧ big n ∧ big d ∧ E3 (mk n d).1 (mk n d).2.1 (mk n d).2.2 (make n d))) (by kernel_rfl) ?_⟩
    refine ⟨fun h => E3.of (bad_yes h), fun h => ?_⟩
    obtain ⟨h1, h2, h3, h4⟩ := bad_no h
    rw [h4]
    exact ⟨h1, h2, h3, E3.self _⟩
  · cases h
theorem prods {a b c d : Int} (h1 : vld a b = true) (h2 : vld c d = true) : (a * c).natAbs ≤ 1000000000 * 1000000000 ∧ (a * d).natAbs ≤ 1000000000 * 1000000 ∧ (c * b).natAbs ≤ 1000000000 * 1000000 ∧ (b * d).natAbs ≤ 1000000 * 1000000 ∧ (b * c).natAbs ≤ 1000000 * 1000000000 := by
  have v1 := vld_bd h1
  have v2 := vld_bd h2
  exact ⟨mulb v1.1 v2.1, mulb v1.1 v2.2.1, mulb v2.1 v1.2.1, mulb v1.2.1 v2.2.1, mulb v1.2.1 v2.1⟩
theorem ok46 : FnOk Try.prog 46 (CE.gen (cFrac fAdd)).con := by
  refine fnGen Tb3 (cFrac fAdd) L_ok Tb3_ok mixed Try.func46 (by kernel_rfl) (by kernel_rfl) fun args hp fr cs r up h hcs => ?_
  unfold cFrac at h
  split at h
  · rename_i p q
    split at h
    · rename_i a b c d hp1 hp2
      split at h
      · cases h
      · rename_i hpq
        injection h with h; injection h with h1 h2; injection h2 with h2 h3; subst h1 h2 h3
        have h1 : vld a b = true := hcs _ (by simp)
        have h2 : vld c d = true := hcs (vld c d = true) (by simp)
        have hm := prods h1 h2
        refine ⟨[0, 1, 2, 19], fun _ _ => none, [(2000, p), (2001, q)], [], [.one (.ptr 2000 0), .one (.ptr 2001 0)], [(2000, .cells [li .i64 a, li .i64 b]), (2001, .cells [li .i64 c, li .i64 d])], .t (Q (fAdd a b c d).1 (fAdd a b c d).2), [(2000, .cells [li .i64 a, li .i64 b]), (2001, .cells [li .i64 c, li .i64 d])],
          Meets.reads2 p q hpq [.one (.ptr 2000 0), .one (.ptr 2001 0)] (.cells [li .i64 a, li .i64 b]) (.cells [li .i64 c, li .i64 d]) (.t (Q (fAdd a b c d).1 (fAdd a b c d).2)) hp1 hp2 rfl rfl rfl rfl rfl rfl
            (castH (p := InI64 (a * d) ∧ InI64 (c * b) ∧ InI64 (a * d + c * b) ∧ InI64 (b * d) ∧ a * d + c * b = (fAdd a b c d).1 ∧ b * d = (fAdd a b c d).2 ∧ a = a ∧ b = b ∧ c = c ∧ d = d) (by kernel_rfl) ?_)⟩
        unfold InI64
        exact ⟨by omega, by omega, by omega, by omega, rfl, rfl, rfl, rfl, rfl, rfl⟩
    · cases h
  · cases h
abbrev J (f : Int → Int → Int → Int → Int × Int) (a b c d : Int) : Int × Int × Int := if vld a b && vld c d then mk (f a b c d).1 (f a b c d).2 else (0, 0, 1)
theorem nand {x y : Bool} (h : (!x || !y) = true) : (x && y) = false := by cases x <;> cases y <;> simp_all
theorem nand' {x y : Bool} (h : (!x || !y) = false) : x = true ∧ y = true := by cases x <;> cases y <;> simp_all
theorem J_no {f : Int → Int → Int → Int → Int × Int} {a b c d : Int} (h : (!vld a b || !vld c d) = true) : J f a b c d = (0, 0, 1) := by unfold J; rw [nand h]; rfl
theorem J_yes {f : Int → Int → Int → Int → Int × Int} {a b c d : Int} (h1 : vld a b = true) (h2 : vld c d = true) : J f a b c d = mk (f a b c d).1 (f a b c d).2 := by unfold J; rw [h1, h2]; rfl
theorem ok45_46 : FnOk Try.prog 45 (CE.gen (cJoin 46 fAdd)).con := by
  refine fnGen ((46, .gen (cFrac fAdd)) :: Tb3) (cJoin 46 fAdd) L_ok ⟨ok46, Tb3_ok⟩ mixed Try.func45 (by kernel_rfl) (by kernel_rfl) fun args hp fr cs r up h hcs => ?_
  unfold cJoin at h
  split at h
  · rename_i a b c d k' p q
    split at h
    · rename_i a' b' c' d' hp1 hp2
      split at h
      · cases h
      · rename_i hpq
        split at h
        · rename_i hk
          subst hk
          injection h with h; injection h with h1 h2; injection h2 with h2 h3; subst h1 h2 h3
          have ea : a' = a := hcs _ (by simp)
          have eb : b' = b := hcs (b' = b) (by simp)
          have ec : c' = c := hcs (c' = c) (by simp)
          have ed : d' = d := hcs (d' = d) (by simp)
          have hf : vld a b = true → vld c d = true → (fAdd a b c d).2 ≠ 0 ∧ big (fAdd a b c d).1 ∧ big (fAdd a b c d).2 := hcs _ (by simp)
          subst ea eb ec ed
          refine ⟨[0, 1, 2, 3, 4, 6, 7, 15], fun _ _ => none, [(2000, p), (2001, q)], [], [Q a' b', Q c' d', .one (.clo 46 [] [(2000, 0), (2001, 0)])], [(2000, .cells [li .i64 a', li .i64 b']), (2001, .cells [li .i64 c', li .i64 d'])], res (J fAdd a' b' c' d'), [(2000, .cells [li .i64 a', li .i64 b']), (2001, .cells [li .i64 c', li .i64 d'])],
            Meets.reads2 p q hpq [Q a' b', Q c' d', .one (.clo 46 [] [(2000, 0), (2001, 0)])] (.cells [li .i64 a', li .i64 b']) (.cells [li .i64 c', li .i64 d']) (res (J fAdd a' b' c' d')) hp1 hp2 rfl rfl rfl rfl rfl rfl
              (castH (p := ((!vld a' b' || !vld c' d') = true → 0 = (J fAdd a' b' c' d').1 ∧ 0 = (J fAdd a' b' c' d').2.1 ∧ 1 = (J fAdd a' b' c' d').2.2 ∧ a' = a' ∧ b' = b' ∧ c' = c' ∧ d' = d') ∧
                ((!vld a' b' || !vld c' d') = false → vld a' b' = true ∧ vld c' d' = true ∧ (fAdd a' b' c' d').2 ≠ 0 ∧ big (fAdd a' b' c' d').1 ∧ big (fAdd a' b' c' d').2 ∧
                  (mk (fAdd a' b' c' d').1 (fAdd a' b' c' d').2).1 = (J fAdd a' b' c' d').1 ∧ (mk (fAdd a' b' c' d').1 (fAdd a' b' c' d').2).2.1 = (J fAdd a' b' c' d').2.1 ∧
                  (mk (fAdd a' b' c' d').1 (fAdd a' b' c' d').2).2.2 = (J fAdd a' b' c' d').2.2 ∧ a' = a' ∧ b' = b' ∧ c' = c' ∧ d' = d')) (by kernel_rfl) ⟨fun hn => ?_, fun hn => ?_⟩)⟩
          · rw [J_no hn]
            exact ⟨rfl, rfl, rfl, rfl, rfl, rfl, rfl⟩
          · obtain ⟨v1, v2⟩ := nand' hn
            obtain ⟨f1, f2, f3⟩ := hf v1 v2
            rw [J_yes v1 v2]
            exact ⟨v1, v2, f1, f2, f3, rfl, rfl, rfl, rfl, rfl, rfl, rfl⟩
        · cases h
    · cases h
  · cases h
theorem bfs {a b c d : Int} (h1 : vld a b = true) (h2 : vld c d = true) : b * d ≠ 0 := Int.mul_ne_zero (vld_bd h1).2.2.1 (vld_bd h2).2.2.1
theorem f_add (a b c d : Int) : vld a b = true → vld c d = true → (fAdd a b c d).2 ≠ 0 ∧ big (fAdd a b c d).1 ∧ big (fAdd a b c d).2 := fun h1 h2 => by
  have hm := prods h1 h2
  unfold fAdd big
  exact ⟨bfs h1 h2, by simp only; omega, by simp only; omega⟩
theorem ok22 : FnOk Try.prog 22 (CE.pu (cBin addR)).con := fnPu ((45, .gen (cJoin 46 fAdd)) :: Tb3) (cBin addR) L_ok ⟨ok45_46, Tb3_ok⟩ mixed Try.func22 (by kernel_rfl) (by kernel_rfl) fun args cs r h hcs => by
  unfold cBin at h
  split at h
  · rename_i a b c d
    injection h with h; injection h with h1 h2; subst h1 h2
    refine ⟨[0, 1, 2, 3, 4, 5], fun _ _ => none, rfl, rfl, rfl, castH (p := a = a ∧ b = b ∧ c = c ∧ d = d ∧ (vld a b = true → vld c d = true → (fAdd a b c d).2 ≠ 0 ∧ big (fAdd a b c d).1 ∧ big (fAdd a b c d).2) ∧ E3 (J fAdd a b c d).1 (J fAdd a b c d).2.1 (J fAdd a b c d).2.2 (addR a b c d)) (by kernel_rfl) ?_⟩
    exact ⟨rfl, rfl, rfl, rfl, f_add a b c d, E3.self _⟩
  · cases h
theorem ok63 : FnOk Try.prog 63 (CE.pu cCmp).con := fnPu Tb3 cCmp L_ok Tb3_ok mixed Try.func63 (by kernel_rfl) (by kernel_rfl) fun args cs r h hcs => by
  unfold cCmp at h
  split at h
  · rename_i a b c d
    injection h with h; injection h with h1 h2; subst h1 h2
    refine ⟨[0, 1, 2, 3, 4, 5, 6, 7, 15, 26, 30], fun _ _ => none, rfl, rfl, rfl, castH (p := ((!vld a b || !vld c d) = true → E2 0 1 (compareR a b c d)) ∧ ((!vld a b || !vld c d) = false → InI64 (a * d) ∧ InI64 (c * b) ∧ (decide (a * d < c * b) = true → E2 (-1) 0 (compareR a b c d)) ∧
      (decide (a * d < c * b) = false → (decide (a * d > c * b) = true → E2 1 0 (compareR a b c d)) ∧ (decide (a * d > c * b) = false → E2 0 0 (compareR a b c d))))) (by kernel_rfl) ?_⟩
    refine ⟨fun h => E2.of ?_, fun h => ?_⟩
    · unfold compareR; rw [nand h]; rfl
    · obtain ⟨v1, v2⟩ := nand' h
      have hm := prods v1 v2
      have e : compareR a b c d = (cmpR a b c d, 0) := by unfold compareR; rw [v1, v2]; rfl
      rw [e]
      unfold InI64 cmpR
      refine ⟨by omega, by omega, fun h => E2.of ?_, fun h => ⟨fun h' => E2.of ?_, fun h' => E2.of ?_⟩⟩
      · rw [if_pos (of_decide_eq_true h)]
      · rw [if_neg (of_decide_eq_false h), if_pos (of_decide_eq_true h')]
      · rw [if_neg (of_decide_eq_false h), if_neg (of_decide_eq_false h')]
  · cases h
abbrev at_ (l : List (Int × Int)) (i : Nat) : Int × Int := l.getD ((i : Int)).toNat (0, 0)
theorem at_drop {l : List (Int × Int)} {i : Nat} (h : i < l.length) : l.drop i = at_ l i :: l.drop (i + 1) := by
  rw [at_, Int.toNat_natCast, List.getD_eq_getElem?_getD, List.getElem?_eq_getElem h, List.drop_eq_getElem_cons h]
  rfl
theorem at_take {l : List (Int × Int)} {i : Nat} (h : i < l.length) : l.take (i + 1) = l.take i ++ [at_ l i] := by
  rw [at_, Int.toNat_natCast, List.getD_eq_getElem?_getD, List.getElem?_eq_getElem h, List.take_succ_eq_append_getElem h]
  rfl
abbrev invC (l : List (Int × Int)) (a b : Int) (x : Int × Int × Nat) : Prop := x.2.2 ≤ l.length ∧ carr addR (x.1, x.2.1) (l.drop x.2.2) = carr addR (a, b) l
abbrev step (l : List (Int × Int)) (x : Int × Int × Nat) : Int × Int × Int := addR x.1 x.2.1 (at_ l x.2.2).1 (at_ l x.2.2).2
def P39 (l : List (Int × Int)) (a b : Int) : Prop :=
  (l.length : Int) ≤ 9223372036854775807 → (∃ x : Int × Int × Nat, invC l a b x ∧ 0 = (x.2.2 : Int) ∧ a = x.1 ∧ b = x.2.1) ∧
    ∀ x : Int × Int × Nat, invC l a b x → (decide ((x.2.2 : Int) < l.length) = true → 0 ≤ (x.2.2 : Int) ∧ (x.2.2 : Int) < l.length ∧
      (((step l x).2.2 != 0) = true → 0 = (carr addR (a, b) l).1 ∧ 0 = (carr addR (a, b) l).2.1 ∧ (step l x).2.2 = (carr addR (a, b) l).2.2) ∧
      (((step l x).2.2 != 0) = false → InI64 ((x.2.2 : Int) + 1) ∧ ∃ y : Int × Int × Nat, invC l a b y ∧ l.length - y.2.2 < l.length - x.2.2 ∧ (x.2.2 : Int) + 1 = (y.2.2 : Int) ∧ (l.length : Int) = l.length ∧
        l = l ∧ l = l ∧ a = a ∧ b = b ∧ LV.clo 22 [] [] = LV.clo 22 [] [] ∧ (step l x).1 = y.1 ∧ (step l x).2.1 = y.2.1 ∧ (0 : Int) = 0 ∧ (0 : Int) = 0)) ∧
      (decide ((x.2.2 : Int) < l.length) = false → E3 x.1 x.2.1 0 (carr addR (a, b) l))
theorem p39 (l : List (Int × Int)) (a b : Int) : P39 l a b := by
  intro hl
  refine ⟨⟨(a, b, 0), ⟨Nat.zero_le _, rfl⟩, rfl, rfl, rfl⟩, fun ⟨c, d, i⟩ ⟨hi, hinv⟩ => ?_⟩
  simp only at hi hinv
  refine ⟨fun hlt => ?_, fun hge => ?_⟩
  · have hlt' : i < l.length := by have := of_decide_eq_true hlt; simp only at this; omega
    have e : carr addR (c, d) (l.drop i) = if (step l (c, d, i)).2.2 = 0 then carr addR ((step l (c, d, i)).1, (step l (c, d, i)).2.1) (l.drop (i + 1)) else (0, 0, (step l (c, d, i)).2.2) := by
      conv => lhs; rw [at_drop hlt']
      rfl
    rw [e] at hinv
    refine ⟨by simp only; omega, by simp only; omega, fun hne => ?_, fun heq => ⟨by unfold InI64; simp only; omega, ((step l (c, d, i)).1, (step l (c, d, i)).2.1, i + 1), ⟨by simp only; omega, ?_⟩, by simp only; omega, by simp only; omega, rfl, rfl, rfl, rfl, rfl, rfl, rfl, rfl, rfl, rfl⟩⟩
    · rw [if_neg (by simpa using hne)] at hinv
      rw [← hinv]
      exact ⟨rfl, rfl, rfl⟩
    · rw [if_pos (by simpa using heq)] at hinv
      exact hinv
  · have hge' : i = l.length := by have := of_decide_eq_false hge; simp only at this; omega
    subst hge'
    rw [List.drop_length] at hinv
    exact E3.of hinv.symm
theorem ok58 : FnOk Try.prog 58 (CE.pu (cCarried 22 addR)).con := fnPu ((22, .pu (cBin addR)) :: []) (cCarried 22 addR) L_ok ⟨ok22, trivial⟩ mixed Try.func58 (by kernel_rfl) (by kernel_rfl) fun args cs r h hcs => by
  unfold cCarried at h
  split at h
  · rename_i l a b k'
    split at h
    · rename_i hk
      subst hk
      injection h with h; injection h with h1 h2; subst h1 h2
      exact ⟨[0, 1, 2, 4, 6, 7, 9, 10, 11, 12, 13, 14, 15, 16, 27, 30],
        fun _ _ => some { X := Int × Int × Nat, inv := invC l a b, m := fun x => l.length - x.2.2, s := fun x => [(15, .t (I x.2.2))], h := fun x => [(4, .cells [li .i64 x.1, li .i64 x.2.1])] }, rfl, rfl, rfl,
        castH (p := P39 l a b) (by kernel_rfl) (p39 l a b)⟩
    · cases h
  · cases h
abbrev invV (l : List (Int × Int)) (x : Nat) : Prop := x ≤ l.length ∧ (l.take x).all (fun y => vld y.1 y.2) = true
def P19 (l : List (Int × Int)) : Prop :=
  (l.length : Int) ≤ 9223372036854775807 → (decide ((l.length : Int) > 20000) = true → E3 0 0 2 (sumR l)) ∧ (decide ((l.length : Int) > 20000) = false → (l.length : Int) ≤ 9223372036854775807 →
    (∃ x : Nat, invV l x ∧ 0 = (x : Int)) ∧ ∀ x : Nat, invV l x → (decide ((x : Int) < l.length) = true → 0 ≤ (x : Int) ∧ (x : Int) < l.length ∧
      ((!vld (at_ l x).1 (at_ l x).2) = true → E3 0 0 1 (sumR l)) ∧ ((!vld (at_ l x).1 (at_ l x).2) = false → InI64 ((x : Int) + 1) ∧ ∃ y : Nat, invV l y ∧ l.length - y < l.length - x ∧ (x : Int) + 1 = (y : Int) ∧ (l.length : Int) = l.length ∧
        l = l ∧ decide ((l.length : Int) > 20000) = decide ((l.length : Int) > 20000) ∧ l = l ∧ (0 : Int) = 0 ∧ (0 : Int) = 0)) ∧
      (decide ((x : Int) < l.length) = false → E3 (carr addR (0, 1) l).1 (carr addR (0, 1) l).2.1 (carr addR (0, 1) l).2.2 (sumR l)))
theorem p19 (l : List (Int × Int)) : P19 l := by
  intro hl
  refine ⟨fun h => E3.of ?_, fun h _ => ⟨⟨0, ⟨Nat.zero_le _, rfl⟩, rfl⟩, fun x ⟨hx, hinv⟩ => ⟨fun hlt => ?_, fun hge => ?_⟩⟩⟩
  · unfold sumR
    rw [if_pos (by have := of_decide_eq_true h; omega)]
  · have hlt' : x < l.length := by have := of_decide_eq_true hlt; omega
    have hn : ¬ l.length > 20000 := by have := of_decide_eq_false h; omega
    refine ⟨by omega, by omega, fun hv => E3.of ?_, fun hv => ⟨by unfold InI64; omega, x + 1, ⟨hlt', ?_⟩, by omega, by omega, rfl, rfl, rfl, rfl, rfl, rfl⟩⟩
    · unfold sumR
      rw [if_neg hn, if_neg]
      intro hall
      have hm := List.all_eq_true.1 hall (at_ l x) (by
        have : at_ l x ∈ l.drop x := by rw [at_drop hlt']; exact List.mem_cons_self ..
        exact List.mem_of_mem_drop this)
      rw [hm] at hv
      cases hv
    · rw [at_take hlt', List.all_append, hinv]
      simpa using hv
  · have hge' : x = l.length := by have := of_decide_eq_false hge; omega
    subst hge'
    have hn : ¬ l.length > 20000 := by have := of_decide_eq_false h; omega
    rw [List.take_length] at hinv
    unfold sumR
    rw [if_neg hn, if_pos hinv]
    exact ⟨rfl, rfl, rfl⟩
theorem ok29 : FnOk Try.prog 29 (CE.pu cSum).con := fnPu ((58, .pu (cCarried 22 addR)) :: (57, .pu cVld) :: []) cSum L_ok ⟨ok58, ok57, trivial⟩ mixed Try.func29 (by kernel_rfl) (by kernel_rfl) fun args cs r h hcs => by
  unfold cSum at h
  split at h
  · rename_i l
    injection h with h; injection h with h1 h2; subst h1 h2
    exact ⟨[0, 2, 3, 5, 8, 10, 11, 12, 13, 18], fun _ _ => some { X := Nat, inv := invV l, m := fun x => l.length - x, s := fun x => [(12, .t (I x))] }, rfl, rfl, rfl, castH (p := P19 l) (by kernel_rfl) (p19 l)⟩
  · cases h
abbrev R1 : Tab := (23, .pu cVld) :: Tb1
abbrev R2 : Tab := R1
abbrev R3 : Tab := R2
end Go.Proofs.Ytjghgdccaakfmaa
