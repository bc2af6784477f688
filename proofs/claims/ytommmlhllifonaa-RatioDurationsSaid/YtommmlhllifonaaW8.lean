/- The reference's functions meet their contracts: Valid is met by W2; here reduce, Make, Add, Sub, Mul, Div, Compare, Floor, Duration. -/
import Derived.Test.YtommmlhllifonaaW4
namespace Go.Proofs.Ytommmlhllifonaa
open Go.Sy Go.RatLaw

def cMk2 : PCon
  | [.one (.d (.lit (.int .i64 n))), .one (.d (.lit (.int .i64 d)))] => some ([d ≠ 0, big n, big d], res (mk n d))
  | _ => none
def cBoth : PCon
  | [.agg [.d (.lit (.int .i64 a)), .d (.lit (.int .i64 b))], .agg [.d (.lit (.int .i64 c)), .d (.lit (.int .i64 d))]] => some ([], .t (B (vld a b && vld c d)))
  | _ => none
def cCmp2 : PCon
  | [.agg [.d (.lit (.int .i64 a)), .d (.lit (.int .i64 b))], .agg [.d (.lit (.int .i64 c)), .d (.lit (.int .i64 d))]] => some ([vld a b = true, vld c d = true], .t (I (cmpR a b c d)))
  | _ => none
def durB (n d : Int) : Bool := vld n d && decide (n ≥ 0) && (1680 : Int).tmod d == 0
def cDur : PCon
  | [.agg [.d (.lit (.int .i64 n)), .d (.lit (.int .i64 d))]] => some ([], .t (B (durB n d)))
  | _ => none

/-- reduced by a number without its sign -/
def P41a (n d g x y : Int) (N D : Int) : Prop := g ≠ 0 ∧ InI64 x ∧ g ≠ 0 ∧ InI64 y ∧ (decide (y > 1000000) = false → big x) ∧
  ((decide (y > 1000000) || decide ((↑x.natAbs : Int) > 1000000000)) = true → E3 0 0 3 (mk n d)) ∧ ((decide (y > 1000000) || decide ((↑x.natAbs : Int) > 1000000000)) = false → E3 N D 0 (mk n d))
def P41 (n d : Int) : Prop :=
  (decide (d < 0) = true → InI64 (-n) ∧ InI64 (-d) ∧ big (-n) ∧ 0 ≤ (↑(-n).natAbs : Int) ∧ 0 ≤ -d ∧
    P41a n d (Int.gcd (↑(-n).natAbs) (-d) : Nat) ((-n).tdiv (Int.gcd (↑(-n).natAbs) (-d) : Nat)) ((-d).tdiv (Int.gcd (↑(-n).natAbs) (-d) : Nat)) ((-n).tdiv (Int.gcd (↑(-n).natAbs) (-d) : Nat)) ((-d).tdiv (Int.gcd (↑(-n).natAbs) (-d) : Nat))) ∧
  (decide (d < 0) = false → big n ∧ 0 ≤ (↑n.natAbs : Int) ∧ 0 ≤ d ∧
    P41a n d (Int.gcd (↑n.natAbs) d : Nat) (n.tdiv (Int.gcd (↑n.natAbs) d : Nat)) (d.tdiv (Int.gcd (↑n.natAbs) d : Nat)) (n.tdiv (Int.gcd (↑n.natAbs) d : Nat)) (d.tdiv (Int.gcd (↑n.natAbs) d : Nat)))
theorem p41a {n d g x y : Int} (hn : big n) (hd : big d) (h0 : g ≠ 0) (hx : x = redN n d) (hy : y = redD n d) (hyb : y.natAbs ≤ d.natAbs) : P41a n d g x y x y := by
  subst hx hy
  have h1 := redN_le n d
  unfold big at *
  refine ⟨h0, inI64_of (by omega), h0, inI64_of (by omega), fun _ => by omega, ?_⟩
  exact mk_of (fits_not' n d)
theorem p41 {n d : Int} (h0 : d ≠ 0) (hn : big n) (hd : big d) : P41 n d := by
  have hg := gcd_pos (n := n) h0
  have hb := hn
  have hb' := hd
  unfold big at hb hb'
  refine ⟨fun h => ?_, fun h => ?_⟩
  · have h := of_decide_eq_true h
    rw [gcd_neg_both]
    exact ⟨by unfold InI64; omega, by unfold InI64; omega, by omega, by omega, by omega, p41a hn hd (by omega) (redN_neg n d h) (redD_neg n d h) (by have := natAbs_tdiv_le (-d) (Int.gcd n d); omega)⟩
  · have h := of_decide_eq_false h
    rw [gcd_natAbs_left]
    exact ⟨hn, by omega, by omega, p41a hn hd (by omega) (red_pos h).1 (red_pos h).2 (natAbs_tdiv_le ..)⟩
theorem notb {x : Bool} (h : (!x) = true) : x = false := by cases x <;> simp_all
theorem ok41 : FnOk Try.prog 41 (CE.pu cMk2).con := fnPu T1 cMk2 L_ok T1_ok mixed Try.func41 (by kernel_rfl) (by kernel_rfl) fun args cs r h hcs => by
  unfold cMk2 at h
  split at h
  · rename_i n d
    injection h with h; injection h with h1 h2; subst h1 h2
    have h0 : d ≠ 0 := hcs _ (by simp)
    have h1 : big n := hcs (big n) (by simp)
    have h2 : big d := hcs (big d) (by simp)
    exact ⟨[0, 1, 4, 5, 6, 7, 9, 33], fun _ => none, rfl, rfl, rfl, castH (p := P41 n d) (by kernel_rfl) (p41 h0 h1 h2)⟩
  · cases h
abbrev R1 : Tab := (41, .pu cMk2) :: (11, .pu cVld) :: T1
theorem R1_ok : TOk Try.prog R1 := ⟨ok41, ok11, T1_ok⟩
theorem ok43 : FnOk Try.prog 43 (CE.pu cBoth).con := fnPu R1 cBoth L_ok R1_ok mixed Try.func43 (by kernel_rfl) (by kernel_rfl) fun args cs r h hcs => by
  unfold cBoth at h
  split at h
  · rename_i a b c d
    injection h with h; injection h with h1 h2; subst h1 h2
    exact ⟨[0, 1, 2, 3, 4, 5, 6], fun _ => none, rfl, rfl, rfl, castH (p := (vld a b && vld c d) = (vld a b && vld c d)) (by kernel_rfl) rfl⟩
  · cases h
abbrev bad5 (n d : Int) : Bool := d == 0 || decide (n < -1000000000000000) || decide (n > 1000000000000000) || decide (d < -1000000000000000) || decide (d > 1000000000000000)
theorem bad5_eq (n d : Int) : bad5 n d = bad n d := by unfold bad5 bad; simp only [Bool.or_assoc]
theorem ok21 : FnOk Try.prog 21 (CE.pu cMake).con := fnPu R1 cMake L_ok R1_ok mixed Try.func21 (by kernel_rfl) (by kernel_rfl) fun args cs r h hcs => by
  unfold cMake at h
  split at h
  · rename_i n d
    injection h with h; injection h with h1 h2; subst h1 h2
    refine ⟨[0, 1, 4, 5, 6, 7, 8, 32], fun _ => none, rfl, rfl, rfl, castH (p := ((d == 0) = false → InI64 (-1000000000000000)) ∧ ((d == 0 || decide (n < -1000000000000000) || decide (n > 1000000000000000)) = false → InI64 (-1000000000000000)) ∧
      (bad5 n d = true → E3 0 0 1 (make n d)) ∧ (bad5 n d = false → d ≠ 0 ∧ big n ∧ big d ∧ E3 (mk n d).1 (mk n d).2.1 (mk n d).2.2 (make n d))) (by kernel_rfl) ?_⟩
    rw [bad5_eq]
    refine ⟨fun _ => by unfold InI64; omega, fun _ => by unfold InI64; omega, fun h => E3.of (bad_yes h), fun h => ?_⟩
    obtain ⟨h1, h2, h3, h4⟩ := bad_no h
    rw [h4]
    exact ⟨h1, h2, h3, E3.self _⟩
  · cases h
abbrev R2 : Tab := (43, .pu cBoth) :: R1
theorem R2_ok : TOk Try.prog R2 := ⟨ok43, R1_ok⟩
theorem ok23 : FnOk Try.prog 23 (CE.pu (cBin addR)).con := fnPu R2 (cBin addR) L_ok R2_ok mixed Try.func23 (by kernel_rfl) (by kernel_rfl) fun args cs r h hcs => by
  unfold cBin at h
  split at h
  · rename_i a b c d
    injection h with h; injection h with h1 h2; subst h1 h2
    refine ⟨[0, 1, 2, 3, 4, 5, 6, 7, 11], fun _ => none, rfl, rfl, rfl, castH (p := ((!(vld a b && vld c d)) = true → E3 0 0 1 (addR a b c d)) ∧ ((!(vld a b && vld c d)) = false → InI64 (a * d) ∧ InI64 (c * b) ∧ InI64 (a * d + c * b) ∧ InI64 (b * d) ∧ b * d ≠ 0 ∧ big (a * d + c * b) ∧ big (b * d) ∧ E3 (mk (a * d + c * b) (b * d)).1 (mk (a * d + c * b) (b * d)).2.1 (mk (a * d + c * b) (b * d)).2.2 (addR a b c d))) (by kernel_rfl) ?_⟩
    refine ⟨fun h => E3.of ?_, fun h => ?_⟩
    · unfold addR; rw [notb h]; rfl
    · have hv : (vld a b && vld c d) = true := by simpa using h
      have e : addR a b c d = mk (a * d + c * b) (b * d) := by unfold addR; rw [hv]; rfl
      rw [Bool.and_eq_true] at hv
      have hm := prods hv.1 hv.2
      rw [e]
      unfold InI64 big
      exact ⟨by omega, by omega, by omega, by omega, bfs hv.1 hv.2, by omega, by omega, E3.self _⟩
  · cases h
theorem ok24 : FnOk Try.prog 24 (CE.pu (cBin subR)).con := fnPu R2 (cBin subR) L_ok R2_ok mixed Try.func24 (by kernel_rfl) (by kernel_rfl) fun args cs r h hcs => by
  unfold cBin at h
  split at h
  · rename_i a b c d
    injection h with h; injection h with h1 h2; subst h1 h2
    refine ⟨[0, 1, 2, 3, 4, 5, 6, 7, 11], fun _ => none, rfl, rfl, rfl, castH (p := ((!(vld a b && vld c d)) = true → E3 0 0 1 (subR a b c d)) ∧ ((!(vld a b && vld c d)) = false → InI64 (a * d) ∧ InI64 (c * b) ∧ InI64 (a * d - c * b) ∧ InI64 (b * d) ∧ b * d ≠ 0 ∧ big (a * d - c * b) ∧ big (b * d) ∧ E3 (mk (a * d - c * b) (b * d)).1 (mk (a * d - c * b) (b * d)).2.1 (mk (a * d - c * b) (b * d)).2.2 (subR a b c d))) (by kernel_rfl) ?_⟩
    refine ⟨fun h => E3.of ?_, fun h => ?_⟩
    · unfold subR; rw [notb h]; rfl
    · have hv : (vld a b && vld c d) = true := by simpa using h
      have e : subR a b c d = mk (a * d - c * b) (b * d) := by unfold subR; rw [hv]; rfl
      rw [Bool.and_eq_true] at hv
      have hm := prods hv.1 hv.2
      rw [e]
      unfold InI64 big
      exact ⟨by omega, by omega, by omega, by omega, bfs hv.1 hv.2, by omega, by omega, E3.self _⟩
  · cases h
theorem ok25 : FnOk Try.prog 25 (CE.pu (cBin mulR)).con := fnPu R2 (cBin mulR) L_ok R2_ok mixed Try.func25 (by kernel_rfl) (by kernel_rfl) fun args cs r h hcs => by
  unfold cBin at h
  split at h
  · rename_i a b c d
    injection h with h; injection h with h1 h2; subst h1 h2
    refine ⟨[0, 1, 2, 3, 4, 5, 6, 7, 11], fun _ => none, rfl, rfl, rfl, castH (p := ((!(vld a b && vld c d)) = true → E3 0 0 1 (mulR a b c d)) ∧ ((!(vld a b && vld c d)) = false → InI64 (a * c) ∧ InI64 (b * d) ∧ b * d ≠ 0 ∧ big (a * c) ∧ big (b * d) ∧ E3 (mk (a * c) (b * d)).1 (mk (a * c) (b * d)).2.1 (mk (a * c) (b * d)).2.2 (mulR a b c d))) (by kernel_rfl) ?_⟩
    refine ⟨fun h => E3.of ?_, fun h => ?_⟩
    · unfold mulR; rw [notb h]; rfl
    · have hv : (vld a b && vld c d) = true := by simpa using h
      have e : mulR a b c d = mk (a * c) (b * d) := by unfold mulR; rw [hv]; rfl
      rw [Bool.and_eq_true] at hv
      have hm := prods hv.1 hv.2
      rw [e]
      unfold InI64 big
      exact ⟨by omega, by omega, bfs hv.1 hv.2, by omega, by omega, E3.self _⟩
  · cases h
theorem ok26 : FnOk Try.prog 26 (CE.pu (cBin divR)).con := fnPu R2 (cBin divR) L_ok R2_ok mixed Try.func26 (by kernel_rfl) (by kernel_rfl) fun args cs r h hcs => by
  unfold cBin at h
  split at h
  · rename_i a b c d
    injection h with h; injection h with h1 h2; subst h1 h2
    refine ⟨[0, 1, 2, 3, 4, 5, 6, 7, 16], fun _ => none, rfl, rfl, rfl, castH (p := ((!(vld a b && vld c d) || c == 0) = true → E3 0 0 1 (divR a b c d)) ∧ ((!(vld a b && vld c d) || c == 0) = false → InI64 (a * d) ∧ InI64 (b * c) ∧ b * c ≠ 0 ∧ big (a * d) ∧ big (b * c) ∧
      E3 (mk (a * d) (b * c)).1 (mk (a * d) (b * c)).2.1 (mk (a * d) (b * c)).2.2 (divR a b c d))) (by kernel_rfl) ?_⟩
    refine ⟨fun h => E3.of ?_, fun h => ?_⟩
    · unfold divR
      rw [if_neg]
      intro h'
      cases h1 : vld a b <;> cases h2 : vld c d <;> simp_all
    · have hv : vld a b = true ∧ vld c d = true ∧ c ≠ 0 := by
        cases h1 : vld a b <;> cases h2 : vld c d <;> simp_all
      obtain ⟨v1, v2, hc⟩ := hv
      have e : divR a b c d = mk (a * d) (b * c) := by
        unfold divR
        rw [v1, v2, show (c != 0) = true by simpa using hc]
        rfl
      have hm := prods v1 v2
      rw [e]
      unfold InI64 big
      exact ⟨by omega, by omega, Int.mul_ne_zero (vld_bd v1).2.2.1 hc, by omega, by omega, E3.self _⟩
  · cases h
theorem ok44 : FnOk Try.prog 44 (CE.pu cCmp2).con := fnPu R2 cCmp2 L_ok R2_ok mixed Try.func44 (by kernel_rfl) (by kernel_rfl) fun args cs r h hcs => by
  unfold cCmp2 at h
  split at h
  · rename_i a b c d
    injection h with h; injection h with h1 h2; subst h1 h2
    have v1 : vld a b = true := hcs _ (by simp)
    have v2 : vld c d = true := hcs (vld c d = true) (by simp)
    refine ⟨[0, 1, 2, 3, 4, 5, 6, 19, 22], fun _ => none, rfl, rfl, rfl, castH (p := InI64 (a * d) ∧ InI64 (c * b) ∧ (decide (a * d < c * b) = true → -1 = cmpR a b c d) ∧ (decide (a * d < c * b) = false → (decide (a * d > c * b) = true → 1 = cmpR a b c d) ∧ (decide (a * d > c * b) = false → 0 = cmpR a b c d))) (by kernel_rfl) ?_⟩
    have hm := prods v1 v2
    unfold InI64 cmpR
    refine ⟨by omega, by omega, fun h => ?_, fun h => ⟨fun h' => ?_, fun h' => ?_⟩⟩
    · rw [if_pos (of_decide_eq_true h)]
    · rw [if_neg (of_decide_eq_false h), if_pos (of_decide_eq_true h')]
    · rw [if_neg (of_decide_eq_false h), if_neg (of_decide_eq_false h')]
  · cases h
abbrev R3 : Tab := (44, .pu cCmp2) :: R2
theorem R3_ok : TOk Try.prog R3 := ⟨ok44, R2_ok⟩
theorem ok29 : FnOk Try.prog 29 (CE.pu cCmp).con := fnPu R3 cCmp L_ok R3_ok mixed Try.func29 (by kernel_rfl) (by kernel_rfl) fun args cs r h hcs => by
  unfold cCmp at h
  split at h
  · rename_i a b c d
    injection h with h; injection h with h1 h2; subst h1 h2
    refine ⟨[0, 1, 2, 3, 4, 5, 9], fun _ => none, rfl, rfl, rfl, castH (p := ((!(vld a b && vld c d)) = true → E2 0 1 (compareR a b c d)) ∧ ((!(vld a b && vld c d)) = false → vld a b = true ∧ vld c d = true ∧ E2 (cmpR a b c d) 0 (compareR a b c d))) (by kernel_rfl) ?_⟩
    refine ⟨fun h => E2.of ?_, fun h => ?_⟩
    · unfold compareR; rw [notb h]; rfl
    · have hv : (vld a b && vld c d) = true := by simpa using h
      have e : compareR a b c d = (cmpR a b c d, 0) := by unfold compareR; rw [hv]; rfl
      rw [Bool.and_eq_true] at hv
      rw [e]
      exact ⟨hv.1, hv.2, E2.of rfl⟩
  · cases h
theorem floor_eq2 {a b : Int} (hb : 0 < b) : a / b = if a.tmod b < 0 then a.tdiv b - 1 else a.tdiv b := by
  rw [floor_eq hb]
  have h1 := Int.mul_tdiv_add_tmod a b
  rw [Int.mul_comm] at h1
  split <;> split <;> omega
theorem ok30 : FnOk Try.prog 30 (CE.pu cFloor).con := fnPu R3 cFloor L_ok R3_ok mixed Try.func30 (by kernel_rfl) (by kernel_rfl) fun args cs r h hcs => by
  unfold cFloor at h
  split at h
  · rename_i a b
    injection h with h; injection h with h1 h2; subst h1 h2
    refine ⟨[0, 1, 2, 3, 4, 5, 9, 20], fun _ => none, rfl, rfl, rfl, castH (p := ((!vld a b) = true → E2 0 1 (floorR a b)) ∧ ((!vld a b) = false → b ≠ 0 ∧ InI64 (a.tdiv b) ∧ b ≠ 0 ∧
      (decide (a.tmod b < 0) = true → InI64 (a.tdiv b - 1) ∧ E2 (a.tdiv b - 1) 0 (floorR a b)) ∧ (decide (a.tmod b < 0) = false → E2 (a.tdiv b) 0 (floorR a b)))) (by kernel_rfl) ?_⟩
    refine ⟨fun h => E2.of ?_, fun h => ?_⟩
    · unfold floorR; rw [show vld a b = false by simpa using h]; rfl
    · have v1 : vld a b = true := by simpa using h
      have hb := vld_bd v1
      have e : floorR a b = (a / b, 0) := by unfold floorR; rw [v1]; rfl
      have hf := floor_eq2 (a := a) hb.2.2.2
      have hq := natAbs_tdiv_le a b
      rw [e]
      unfold InI64
      refine ⟨hb.2.2.1, by omega, hb.2.2.1, fun h => ⟨by omega, E2.of ?_⟩, fun h => E2.of ?_⟩
      · rw [hf, if_pos (of_decide_eq_true h)]
      · rw [hf, if_neg (of_decide_eq_false h)]
  · cases h
theorem ok18 : FnOk Try.prog 18 (CE.pu cDur).con := fnPu R3 cDur L_ok R3_ok mixed Try.func18 (by kernel_rfl) (by kernel_rfl) fun args cs r h hcs => by
  unfold cDur at h
  split at h
  · rename_i a b
    injection h with h; injection h with h1 h2; subst h1 h2
    refine ⟨[0, 1, 2, 3], fun _ => none, rfl, rfl, rfl, castH (p := ((vld a b && decide (a ≥ 0)) = true → b ≠ 0) ∧ durB a b = durB a b) (by kernel_rfl) ?_⟩
    refine ⟨fun h => ?_, rfl⟩
    rw [Bool.and_eq_true] at h
    exact (vld_bd h.1).2.2.1
  · cases h
end Go.Proofs.Ytommmlhllifonaa
