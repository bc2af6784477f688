/- The ratio package's functions meet their contracts, first part. -/
import Derived.Test.YtommmlhllifonaaCons
import Derived.Test.YtommmlhllifonaaLay
namespace Go.Proofs.Ytommmlhllifonaa
open Go.Sy Go.RatLaw

theorem ok45 : FnOk Try.prog 45 (CE.pu cAbs).con := fnPu [] cAbs L_ok trivial mixed Try.func45 (by kernel_rfl) (by kernel_rfl) fun args cs r h hcs => by
  unfold cAbs at h
  split at h
  · rename_i n
    injection h with h; injection h with h1 h2; subst h1 h2
    have hb : big n := hcs _ (List.mem_singleton.2 rfl)
    refine ⟨[0, 2], fun _ => none, rfl, rfl, rfl, castH (p := InI64 (-n) ∧ (if -n > n then -n else n) = ↑n.natAbs) (by kernel_rfl) ?_⟩
    unfold InI64 big at *
    refine ⟨by omega, ?_⟩
    split <;> omega
  · cases h

theorem ok32 : FnOk Try.prog 32 (CE.pu cAbs).con := fnPu [] cAbs L_ok trivial mixed Try.func32 (by kernel_rfl) (by kernel_rfl) fun args cs r h hcs => by
  unfold cAbs at h
  split at h
  · rename_i n
    injection h with h; injection h with h1 h2; subst h1 h2
    have hb : big n := hcs _ (List.mem_singleton.2 rfl)
    refine ⟨[0, 2, 4], fun _ => none, rfl, rfl, rfl, castH (p := (decide (n < 0) = true → InI64 (-n) ∧ -n = ↑n.natAbs) ∧ (decide (n < 0) = false → n = ↑n.natAbs)) (by kernel_rfl) ?_⟩
    unfold InI64 big at *
    simp only [decide_eq_true_eq, decide_eq_false_iff_not]
    omega
  · cases h

theorem ok33 : FnOk Try.prog 33 (CE.pu cFar).con := fnPu [] cFar L_ok trivial mixed Try.func33 (by kernel_rfl) (by kernel_rfl) fun args cs r h hcs => by
  unfold cFar at h
  split at h
  · rename_i k
    injection h with h; injection h with h1 h2; subst h1 h2
    exact ⟨[0, 2], fun _ => none, rfl, rfl, rfl, castH (p := (decide (k < -1000000000000000) || decide (k > 1000000000000000)) = (decide (k < -1000000000000000) || decide (k > 1000000000000000))) (by kernel_rfl) rfl⟩
  · cases h

theorem ok14 : FnOk Try.prog 14 (CE.pu cRatOf).con := fnPu [] cRatOf L_ok trivial mixed Try.func14 (by kernel_rfl) (by kernel_rfl) fun args cs r h hcs => by
  unfold cRatOf at h
  split at h
  · rename_i n d
    injection h with h; injection h with h1 h2; subst h1 h2
    exact ⟨[0, 1, 4, 7], fun _ => none, rfl, rfl, rfl, castH (p := n = n ∧ d = d) (by kernel_rfl) ⟨rfl, rfl⟩⟩
  · cases h

theorem ok31 : FnOk Try.prog 31 (CE.pu cGcd).con := fnPu [] cGcd L_ok trivial mixed Try.func31 (by kernel_rfl) (by kernel_rfl) fun args cs r h hcs => by
  unfold cGcd at h
  split at h
  · rename_i n d
    injection h with h; injection h with h1 h2; subst h1 h2
    have h0 : 0 ≤ n := hcs _ (by simp)
    have h1 : 0 ≤ d := hcs (0 ≤ d) (by simp)
    refine ⟨[0, 1, 4, 5, 7], fun _ => some { X := Int × Int, inv := fun x => 0 ≤ x.1 ∧ 0 ≤ x.2 ∧ Int.gcd x.1 x.2 = Int.gcd n d, m := fun x => x.2.toNat, s := fun x => [(0, .t (I x.1)), (1, .t (I x.2))] }, rfl, rfl, rfl,
      castH (p := (∃ x : Int × Int, (0 ≤ x.1 ∧ 0 ≤ x.2 ∧ Int.gcd x.1 x.2 = Int.gcd n d) ∧ n = x.1 ∧ d = x.2) ∧
        ∀ x : Int × Int, (0 ≤ x.1 ∧ 0 ≤ x.2 ∧ Int.gcd x.1 x.2 = Int.gcd n d) → ((x.2 != 0) = true → x.2 ≠ 0 ∧
          ∃ y : Int × Int, (0 ≤ y.1 ∧ 0 ≤ y.2 ∧ Int.gcd y.1 y.2 = Int.gcd n d) ∧ y.2.toNat < x.2.toNat ∧ x.2 = y.1 ∧ x.1.tmod x.2 = y.2 ∧ (0 : Int) = 0) ∧ ((x.2 != 0) = false → x.1 = ↑(Int.gcd n d))) (by kernel_rfl) ?_⟩
    refine ⟨⟨(n, d), ⟨h0, h1, rfl⟩, rfl, rfl⟩, fun ⟨a, b⟩ ⟨ha, hb, hg⟩ => ⟨fun hne => ?_, fun he => ?_⟩⟩
    · simp only at ha hb hg hne ⊢
      have hne' : b ≠ 0 := by simpa using hne
      have e := Int.tmod_eq_emod_of_nonneg (b := b) ha
      have l1 := Int.emod_nonneg a hne'
      have l2 := Int.emod_lt_of_pos a (show 0 < b by omega)
      exact ⟨hne', (b, a.tmod b), ⟨hb, by simp only; omega, by rw [← hg]; exact gcd_tmod ha hb⟩, by simp only; omega, rfl, rfl, trivial⟩
    · simp only at ha hb hg he ⊢
      have : b = 0 := by simpa using he
      subst this
      rw [← hg]
      simp
      omega
  · cases h

abbrev t46 (k : Int) : Tab := [(46, .gen (cCommon k))]
theorem vc46 (a b k : Int) : (vcH L (ΓT (t46 (k - 1))) (fnOf L (t46 (k - 1)) Try.f46 [0, 1, 2, 5, 7] (fun _ => none)) Try.f46.results.toList (Try.f46.body.getD .skip) [I a, I b, .one (.ptr 2000 0)] [(2000, .cells [.clo 46 [] [(2000, 0)]])] (.t (I (Int.gcd a b)))
    [(2000, .cells [.clo 46 [] [(2000, 0)]])]).holds = (((b == 0) = true → a = ↑(a.gcd b) ∧ LV.clo 46 [] [(2000, 0)] = LV.clo 46 [] [(2000, 0)]) ∧
    ((b == 0) = false → b ≠ 0 ∧ 0 ≤ b ∧ 0 ≤ a.tmod b ∧ a.tmod b ≤ k - 1 ∧ ↑(b.gcd (a.tmod b)) = (↑(a.gcd b) : Int) ∧ LV.clo 46 [] [(2000, 0)] = LV.clo 46 [] [(2000, 0)])) := by kernel_rfl

/-- one level more of the recursion -/
theorem ok46_succ (k : Int) (hT : TOk Try.prog (t46 (k - 1))) : FnOk Try.prog 46 (CE.gen (cCommon k)).con := by
  refine fnGen (t46 (k - 1)) (cCommon k) L_ok hT mixed Try.func46 (by kernel_rfl) (by kernel_rfl) fun args hp fr cs r up h hcs => ?_
  unfold cCommon at h
  split at h
  · rename_i a b p
    split at h
    · rename_i q hq
      split at h
      · rename_i hqp
        subst hqp
        injection h with h; injection h with h1 h2; injection h2 with h2 h3; subst h1 h2 h3
        have h0 : 0 ≤ a := hcs _ (by simp)
        have h1 : 0 ≤ b := hcs (0 ≤ b) (by simp)
        have h2 : b ≤ k := hcs (b ≤ k) (by simp)
        refine ⟨[0, 1, 2, 5, 7], fun _ => none, [(2000, q)], [], [I a, I b, .one (.ptr 2000 0)], [(2000, .cells [.clo 46 [] [(2000, 0)]])], .t (I (Int.gcd a b)), [(2000, .cells [.clo 46 [] [(2000, 0)]])],
          Meets.reads1 q [I a, I b, .one (.ptr 2000 0)] (.cells [.clo 46 [] [(2000, 0)]]) (.t (I (Int.gcd a b))) hq rfl rfl rfl rfl rfl rfl (castH (vc46 a b k) ⟨fun hb => ?_, fun hb => ?_⟩)⟩
        · have : b = 0 := by simpa using hb
          subst this
          refine ⟨?_, rfl⟩
          simp
          omega
        · have hb' : b ≠ 0 := by simpa using hb
          have e := Int.tmod_eq_emod_of_nonneg (b := b) h0
          have l1 := Int.emod_nonneg a hb'
          have l2 := Int.emod_lt_of_pos a (show 0 < b by omega)
          exact ⟨hb', h1, by omega, by omega, by rw [gcd_tmod h0 h1], rfl⟩
      · cases h
    · cases h
  · cases h
/-- no level at all: nothing meets the condition -/
theorem ok46_none (k : Int) (hk : k < 0) : FnOk Try.prog 46 (CE.gen (cCommon k)).con :=
  fnGen [] (cCommon k) L_ok trivial mixed Try.func46 (by kernel_rfl) (by kernel_rfl) fun args hp fr cs r up h hcs => by
    exfalso
    unfold cCommon at h
    split at h
    · rename_i a b p
      split at h
      · rename_i q hq
        split at h
        · injection h with h; injection h with h1 h2; subst h1
          have h1 : 0 ≤ b := hcs (0 ≤ b) (by simp)
          have h2 : b ≤ k := hcs (b ≤ k) (by simp)
          omega
        · cases h
      · cases h
    · cases h
theorem ok46_all (k : Nat) : FnOk Try.prog 46 (CE.gen (cCommon k)).con := by
  induction k with
  | zero => exact ok46_succ 0 ⟨ok46_none _ (by omega), trivial⟩
  | succ k ih => exact ok46_succ _ ⟨by rw [show ((k + 1 : Nat) : Int) - 1 = k by omega]; exact ih, trivial⟩
theorem ok46 : FnOk Try.prog 46 (CE.gen (cCommon 1000000000000000000)).con := ok46_all 1000000000000000000

abbrev T1 : Tab := [(46, .gen (cCommon 1000000000000000000)), (45, .pu cAbs), (33, .pu cFar), (32, .pu cAbs), (31, .pu cGcd), (14, .pu cRatOf)]
theorem T1_ok : TOk Try.prog T1 := ⟨ok46, ok45, ok33, ok32, ok31, ok14, trivial⟩

theorem inI64_of {x : Int} (h : x.natAbs ≤ 1000000000000000000) : InI64 x := by unfold InI64; omega

theorem ok42 : FnOk Try.prog 42 (CE.pu cRed).con := fnPu T1 cRed L_ok T1_ok mixed Try.func42 (by kernel_rfl) (by kernel_rfl) fun args cs r h hcs => by
  unfold cRed at h
  split at h
  · rename_i n d
    injection h with h; injection h with h1 h2; subst h1 h2
    have h0 : d ≠ 0 := hcs _ (by simp)
    have h1 : big n := hcs (big n) (by simp)
    have h2 : big d := hcs (big d) (by simp)
    refine ⟨[0, 1, 2, 3, 4, 5, 16, 27], fun _ => none, rfl, rfl, rfl, castH (p := big n ∧ big d ∧ 0 ≤ (↑n.natAbs : Int) ∧ 0 ≤ (↑d.natAbs : Int) ∧ (↑d.natAbs : Int) ≤ 1000000000000000000 ∧
      (decide (d < 0) = true → InI64 (-↑(Int.gcd ↑n.natAbs ↑d.natAbs)) ∧ -(↑(Int.gcd ↑n.natAbs ↑d.natAbs) : Int) ≠ 0 ∧ InI64 (n.tdiv (-↑(Int.gcd ↑n.natAbs ↑d.natAbs))) ∧ -(↑(Int.gcd ↑n.natAbs ↑d.natAbs) : Int) ≠ 0 ∧
        InI64 (d.tdiv (-↑(Int.gcd ↑n.natAbs ↑d.natAbs))) ∧ n.tdiv (-↑(Int.gcd ↑n.natAbs ↑d.natAbs)) = redN n d ∧ d.tdiv (-↑(Int.gcd ↑n.natAbs ↑d.natAbs)) = redD n d) ∧
      (decide (d < 0) = false → (↑(Int.gcd ↑n.natAbs ↑d.natAbs) : Int) ≠ 0 ∧ InI64 (n.tdiv ↑(Int.gcd ↑n.natAbs ↑d.natAbs)) ∧ (↑(Int.gcd ↑n.natAbs ↑d.natAbs) : Int) ≠ 0 ∧ InI64 (d.tdiv ↑(Int.gcd ↑n.natAbs ↑d.natAbs)) ∧
        n.tdiv ↑(Int.gcd ↑n.natAbs ↑d.natAbs) = redN n d ∧ d.tdiv ↑(Int.gcd ↑n.natAbs ↑d.natAbs) = redD n d)) (by kernel_rfl) ?_⟩
    have hg := gcd_pos (n := n) h0
    have hgl := gcd_le (n := n) h0
    rw [gcd_natAbs]
    have hn1 : ∀ g, (n.tdiv g).natAbs ≤ 1000000000000000000 := fun g => Nat.le_trans (natAbs_tdiv_le n g) (by omega)
    have hd1 : ∀ g, (d.tdiv g).natAbs ≤ 1000000000000000000 := fun g => Nat.le_trans (natAbs_tdiv_le d g) (by omega)
    refine ⟨h1, h2, by omega, by omega, by omega, fun hd => ?_, fun hd => ?_⟩
    · obtain ⟨e1, e2⟩ := red_neg (n := n) (of_decide_eq_true hd)
      exact ⟨inI64_of (by omega), by omega, inI64_of (hn1 _), by omega, inI64_of (hd1 _), e1, e2⟩
    · obtain ⟨e1, e2⟩ := red_pos (n := n) (of_decide_eq_false hd)
      exact ⟨by omega, inI64_of (hn1 _), by omega, inI64_of (hd1 _), e1, e2⟩
  · cases h
end Go.Proofs.Ytommmlhllifonaa
