/- The ratio package's functions meet their contracts, second part: Valid, Make, Add, Sub, Mul, Div, Compare, Floor. -/
import Derived.Test.YtommmlhllifonaaW1
namespace Go.Proofs.Ytommmlhllifonaa
open Go.Sy Go.RatLaw

abbrev E3 (x y z : Int) (m : Int × Int × Int) : Prop := x = m.1 ∧ y = m.2.1 ∧ z = m.2.2
abbrev E2 (x y : Int) (m : Int × Int) : Prop := x = m.1 ∧ y = m.2
theorem E3.of {x y z : Int} {m : Int × Int × Int} (h : m = (x, y, z)) : E3 x y z m := by subst h; exact ⟨rfl, rfl, rfl⟩
theorem E2.of {x y : Int} {m : Int × Int} (h : m = (x, y)) : E2 x y m := by subst h; exact ⟨rfl, rfl⟩
abbrev out (n d : Int) : Bool := decide (d < 1) || decide (d > 1000000) || decide (n < -1000000000) || decide (n > 1000000000)
theorem out_yes {n d : Int} (h : out n d = true) : false = vld n d := by
  unfold out at h
  simp only [Bool.or_eq_true, decide_eq_true_eq] at h
  symm
  cases hv : vld n d
  · rfl
  · have := vld_iff.1 hv; omega
theorem out_no {n d : Int} (h : out n d = false) : 1 ≤ d ∧ d ≤ 1000000 ∧ -1000000000 ≤ n ∧ n ≤ 1000000000 ∧ vld n d = decide (Int.gcd n d = 1) := by
  unfold out at h
  simp only [Bool.or_eq_false_iff, decide_eq_false_iff_not] at h
  refine ⟨by omega, by omega, by omega, by omega, ?_⟩
  rw [Bool.eq_iff_iff, vld_iff, decide_eq_true_eq]
  omega

abbrev T2 : Tab := (42, .pu cRed) :: T1
theorem T2_ok : TOk Try.prog T2 := ⟨ok42, T1_ok⟩

theorem ok22 : FnOk Try.prog 22 (CE.pu cVld).con := fnPu T2 cVld L_ok T2_ok mixed Try.func22 (by kernel_rfl) (by kernel_rfl) fun args cs r h hcs => by
  unfold cVld at h
  split at h
  · rename_i n d
    injection h with h; injection h with h1 h2; subst h1 h2
    refine ⟨[0, 1, 2, 20], fun _ => none, rfl, rfl, rfl, castH (p := (out n d = true → false = vld n d) ∧ (out n d = false → d ≠ 0 ∧ big n ∧ big d ∧ (redN n d == n && redD n d == d) = vld n d)) (by kernel_rfl) ?_⟩
    refine ⟨out_yes, fun h => ?_⟩
    obtain ⟨h1, h2, h3, h4, h5⟩ := out_no h
    unfold big
    exact ⟨by omega, by omega, by omega, by rw [red_self h1, h5]⟩
  · cases h
theorem ok11 : FnOk Try.prog 11 (CE.pu cVld).con := fnPu T2 cVld L_ok T2_ok mixed Try.func11 (by kernel_rfl) (by kernel_rfl) fun args cs r h hcs => by
  unfold cVld at h
  split at h
  · rename_i n d
    injection h with h; injection h with h1 h2; subst h1 h2
    refine ⟨[0, 1, 2, 20], fun _ => none, rfl, rfl, rfl, castH (p := (out n d = true → false = vld n d) ∧ (out n d = false → big n ∧ 0 ≤ (↑n.natAbs : Int) ∧ 0 ≤ d ∧ ((↑(Int.gcd ↑n.natAbs d) : Int) == 1) = vld n d)) (by kernel_rfl) ?_⟩
    refine ⟨out_yes, fun h => ?_⟩
    obtain ⟨h1, h2, h3, h4, h5⟩ := out_no h
    unfold big
    refine ⟨by omega, by omega, by omega, ?_⟩
    rw [h5, gcd_natAbs_left, Bool.eq_iff_iff, beq_iff_eq, decide_eq_true_eq]
    omega
  · cases h
theorem fits_iff {n d : Int} : fits n d = true ↔ redN n d ≤ 1000000000 ∧ -1000000000 ≤ redN n d ∧ redD n d ≤ 1000000 := by unfold fits; exact decide_eq_true_iff
theorem mk_of {n d : Int} {b : Bool} (h : b = !fits n d) : (b = true → E3 0 0 3 (mk n d)) ∧ (b = false → E3 (redN n d) (redD n d) 0 (mk n d)) := by
  subst h
  refine ⟨fun h => E3.of (mk_no (by simpa using h)), fun h => E3.of (mk_yes (by simpa using h))⟩
theorem fits_not (n d : Int) : (decide ((↑(redN n d).natAbs : Int) > 1000000000) || decide (redD n d > 1000000)) = !fits n d := by
  rw [Bool.eq_iff_iff, Bool.not_eq_true', ← Bool.not_eq_true, fits_iff]
  simp only [Bool.or_eq_true, decide_eq_true_eq]
  omega
theorem fits_not' (n d : Int) : (decide (redD n d > 1000000) || decide ((↑(redN n d).natAbs : Int) > 1000000000)) = !fits n d := by rw [Bool.or_comm, fits_not]
theorem ok34 : FnOk Try.prog 34 (CE.pu cMk).con := fnPu T2 cMk L_ok T2_ok mixed Try.func34 (by kernel_rfl) (by kernel_rfl) fun args cs r h hcs => by
  unfold cMk at h
  split at h
  · rename_i n d
    injection h with h; injection h with h1 h2; subst h1 h2
    have h0 : d ≠ 0 := hcs _ (by simp)
    have h1 : big n := hcs (big n) (by simp)
    have h2 : big d := hcs (big d) (by simp)
    refine ⟨[0, 1, 2, 3, 4, 15], fun _ => none, rfl, rfl, rfl, castH (p := d ≠ 0 ∧ big n ∧ big d ∧ big (redN n d) ∧
      ((decide ((↑(redN n d).natAbs : Int) > 1000000000) || decide (redD n d > 1000000)) = true → E3 0 0 3 (mk n d)) ∧
      ((decide ((↑(redN n d).natAbs : Int) > 1000000000) || decide (redD n d > 1000000)) = false → E3 (redN n d) (redD n d) 0 (mk n d))) (by kernel_rfl) ?_⟩
    have := redN_le n d
    unfold big at *
    exact ⟨h0, h1, h2, by omega, mk_of (fits_not n d)⟩
  · cases h
abbrev T3 : Tab := (34, .pu cMk) :: (22, .pu cVld) :: (11, .pu cVld) :: T2
theorem T3_ok : TOk Try.prog T3 := ⟨ok34, ok22, ok11, T2_ok⟩

abbrev bad (n d : Int) : Bool := d == 0 || (decide (n < -1000000000000000) || decide (n > 1000000000000000)) || (decide (d < -1000000000000000) || decide (d > 1000000000000000))
theorem bad_yes {n d : Int} (h : bad n d = true) : make n d = (0, 0, 1) := by
  unfold bad at h
  unfold make far
  rw [if_pos]
  rw [Bool.or_eq_true, Bool.or_eq_true, beq_iff_eq] at h
  rcases h with (h | h) | h
  · exact .inl h
  · exact .inr (.inl h)
  · exact .inr (.inr h)
theorem bad_no {n d : Int} (h : bad n d = false) : d ≠ 0 ∧ big n ∧ big d ∧ make n d = mk n d := by
  unfold bad at h
  unfold make far
  have h' := h
  simp only [Bool.or_eq_false_iff, decide_eq_false_iff_not, beq_eq_false_iff_ne] at h'
  unfold big
  refine ⟨by omega, by omega, by omega, ?_⟩
  rw [if_neg]
  rw [Bool.or_eq_false_iff, Bool.or_eq_false_iff, beq_eq_false_iff_ne] at h
  rw [h.1.2, h.2]
  simp [h.1.1]
theorem E3.self (m : Int × Int × Int) : E3 m.1 m.2.1 m.2.2 m := ⟨rfl, rfl, rfl⟩
theorem ok12 : FnOk Try.prog 12 (CE.pu cMake).con := fnPu T3 cMake L_ok T3_ok mixed Try.func12 (by kernel_rfl) (by kernel_rfl) fun args cs r h hcs => by
  unfold cMake at h
  split at h
  · rename_i n d
    injection h with h; injection h with h1 h2; subst h1 h2
    refine ⟨[0, 1, 4, 5, 6, 18], fun _ => none, rfl, rfl, rfl, castH (p := (bad n d = true → E3 0 0 1 (make n d)) ∧ (bad n d = false → d ≠ 0 ∧ big n ∧ big d ∧ E3 (mk n d).1 (mk n d).2.1 (mk n d).2.2 (make n d))) (by kernel_rfl) ?_⟩
    refine ⟨fun h => E3.of (bad_yes h), fun h => ?_⟩
    obtain ⟨h1, h2, h3, h4⟩ := bad_no h
    rw [h4]
    exact ⟨h1, h2, h3, E3.self _⟩
  · cases h

theorem prods {a b c d : Int} (h1 : vld a b = true) (h2 : vld c d = true) : (a * c).natAbs ≤ 1000000000 * 1000000000 ∧ (a * d).natAbs ≤ 1000000000 * 1000000 ∧ (c * b).natAbs ≤ 1000000000 * 1000000 ∧ (b * d).natAbs ≤ 1000000 * 1000000 ∧ (b * c).natAbs ≤ 1000000 * 1000000000 := by
  have v1 := vld_bd h1
  have v2 := vld_bd h2
  exact ⟨mulb v1.1 v2.1, mulb v1.1 v2.2.1, mulb v2.1 v1.2.1, mulb v1.2.1 v2.2.1, mulb v1.2.1 v2.1⟩
theorem ok36 : FnOk Try.prog 36 (CE.gen (cFrac fMul)).con := by
  refine fnGen T3 (cFrac fMul) L_ok T3_ok mixed Try.func36 (by kernel_rfl) (by kernel_rfl) fun args hp fr cs r up h hcs => ?_
  unfold cFrac at h
  split at h
  · rename_i p q
    split at h
    · rename_i a b c d hp1 hp2
      split at h
      · cases h
      · rename_i hpq
        injection h with h; injection h with h1 h2; injection h2 with h2 h3; subst h1 h2 h3
        have h1 : vld a b = true := hcs _ (by simp)
        have h2 : vld c d = true := hcs (vld c d = true) (by simp)
        have hm := prods h1 h2
        refine ⟨[0, 1, 2, 13], fun _ => none, [(2000, p), (2001, q)], [], [.one (.ptr 2000 0), .one (.ptr 2001 0)], [(2000, .cells [li .i64 a, li .i64 b]), (2001, .cells [li .i64 c, li .i64 d])], .t (Q (fMul a b c d).1 (fMul a b c d).2), [(2000, .cells [li .i64 a, li .i64 b]), (2001, .cells [li .i64 c, li .i64 d])],
          Meets.reads2 p q hpq [.one (.ptr 2000 0), .one (.ptr 2001 0)] (.cells [li .i64 a, li .i64 b]) (.cells [li .i64 c, li .i64 d]) (.t (Q (fMul a b c d).1 (fMul a b c d).2)) hp1 hp2 rfl rfl rfl rfl rfl rfl
            (castH (p := InI64 (a * c) ∧ InI64 (b * d) ∧ a * c = (fMul a b c d).1 ∧ b * d = (fMul a b c d).2 ∧ a = a ∧ b = b ∧ c = c ∧ d = d) (by kernel_rfl) ?_)⟩
        unfold InI64
        exact ⟨by omega, by omega, rfl, rfl, rfl, rfl, rfl, rfl⟩
    · cases h
  · cases h
theorem ok37 : FnOk Try.prog 37 (CE.gen (cFrac fDiv)).con := by
  refine fnGen T3 (cFrac fDiv) L_ok T3_ok mixed Try.func37 (by kernel_rfl) (by kernel_rfl) fun args hp fr cs r up h hcs => ?_
  unfold cFrac at h
  split at h
  · rename_i p q
    split at h
    · rename_i a b c d hp1 hp2
      split at h
      · cases h
      · rename_i hpq
        injection h with h; injection h with h1 h2; injection h2 with h2 h3; subst h1 h2 h3
        have h1 : vld a b = true := hcs _ (by simp)
        have h2 : vld c d = true := hcs (vld c d = true) (by simp)
        have hm := prods h1 h2
        refine ⟨[0, 1, 2, 13], fun _ => none, [(2000, p), (2001, q)], [], [.one (.ptr 2000 0), .one (.ptr 2001 0)], [(2000, .cells [li .i64 a, li .i64 b]), (2001, .cells [li .i64 c, li .i64 d])], .t (Q (fDiv a b c d).1 (fDiv a b c d).2), [(2000, .cells [li .i64 a, li .i64 b]), (2001, .cells [li .i64 c, li .i64 d])],
          Meets.reads2 p q hpq [.one (.ptr 2000 0), .one (.ptr 2001 0)] (.cells [li .i64 a, li .i64 b]) (.cells [li .i64 c, li .i64 d]) (.t (Q (fDiv a b c d).1 (fDiv a b c d).2)) hp1 hp2 rfl rfl rfl rfl rfl rfl
            (castH (p := InI64 (a * d) ∧ InI64 (b * c) ∧ a * d = (fDiv a b c d).1 ∧ b * c = (fDiv a b c d).2 ∧ a = a ∧ b = b ∧ c = c ∧ d = d) (by kernel_rfl) ?_)⟩
        unfold InI64
        exact ⟨by omega, by omega, rfl, rfl, rfl, rfl, rfl, rfl⟩
    · cases h
  · cases h
theorem ok38 : FnOk Try.prog 38 (CE.gen (cFrac fAdd)).con := by
  refine fnGen T3 (cFrac fAdd) L_ok T3_ok mixed Try.func38 (by kernel_rfl) (by kernel_rfl) fun args hp fr cs r up h hcs => ?_
  unfold cFrac at h
  split at h
  · rename_i p q
    split at h
    · rename_i a b c d hp1 hp2
      split at h
      · cases h
      · rename_i hpq
        injection h with h; injection h with h1 h2; injection h2 with h2 h3; subst h1 h2 h3
        have h1 : vld a b = true := hcs _ (by simp)
        have h2 : vld c d = true := hcs (vld c d = true) (by simp)
        have hm := prods h1 h2
        refine ⟨[0, 1, 2, 19], fun _ => none, [(2000, p), (2001, q)], [], [.one (.ptr 2000 0), .one (.ptr 2001 0)], [(2000, .cells [li .i64 a, li .i64 b]), (2001, .cells [li .i64 c, li .i64 d])], .t (Q (fAdd a b c d).1 (fAdd a b c d).2), [(2000, .cells [li .i64 a, li .i64 b]), (2001, .cells [li .i64 c, li .i64 d])],
          Meets.reads2 p q hpq [.one (.ptr 2000 0), .one (.ptr 2001 0)] (.cells [li .i64 a, li .i64 b]) (.cells [li .i64 c, li .i64 d]) (.t (Q (fAdd a b c d).1 (fAdd a b c d).2)) hp1 hp2 rfl rfl rfl rfl rfl rfl
            (castH (p := InI64 (a * d) ∧ InI64 (c * b) ∧ InI64 (a * d + c * b) ∧ InI64 (b * d) ∧ a * d + c * b = (fAdd a b c d).1 ∧ b * d = (fAdd a b c d).2 ∧ a = a ∧ b = b ∧ c = c ∧ d = d) (by kernel_rfl) ?_)⟩
        unfold InI64
        exact ⟨by omega, by omega, by omega, by omega, rfl, rfl, rfl, rfl, rfl, rfl⟩
    · cases h
  · cases h
theorem ok40 : FnOk Try.prog 40 (CE.gen (cFrac fSub)).con := by
  refine fnGen T3 (cFrac fSub) L_ok T3_ok mixed Try.func40 (by kernel_rfl) (by kernel_rfl) fun args hp fr cs r up h hcs => ?_
  unfold cFrac at h
  split at h
  · rename_i p q
    split at h
    · rename_i a b c d hp1 hp2
      split at h
      · cases h
      · rename_i hpq
        injection h with h; injection h with h1 h2; injection h2 with h2 h3; subst h1 h2 h3
        have h1 : vld a b = true := hcs _ (by simp)
        have h2 : vld c d = true := hcs (vld c d = true) (by simp)
        have hm := prods h1 h2
        refine ⟨[0, 1, 2, 19], fun _ => none, [(2000, p), (2001, q)], [], [.one (.ptr 2000 0), .one (.ptr 2001 0)], [(2000, .cells [li .i64 a, li .i64 b]), (2001, .cells [li .i64 c, li .i64 d])], .t (Q (fSub a b c d).1 (fSub a b c d).2), [(2000, .cells [li .i64 a, li .i64 b]), (2001, .cells [li .i64 c, li .i64 d])],
          Meets.reads2 p q hpq [.one (.ptr 2000 0), .one (.ptr 2001 0)] (.cells [li .i64 a, li .i64 b]) (.cells [li .i64 c, li .i64 d]) (.t (Q (fSub a b c d).1 (fSub a b c d).2)) hp1 hp2 rfl rfl rfl rfl rfl rfl
            (castH (p := InI64 (a * d) ∧ InI64 (c * b) ∧ InI64 (a * d - c * b) ∧ InI64 (b * d) ∧ a * d - c * b = (fSub a b c d).1 ∧ b * d = (fSub a b c d).2 ∧ a = a ∧ b = b ∧ c = c ∧ d = d) (by kernel_rfl) ?_)⟩
        unfold InI64
        exact ⟨by omega, by omega, by omega, by omega, rfl, rfl, rfl, rfl, rfl, rfl⟩
    · cases h
  · cases h

abbrev J (f : Int → Int → Int → Int → Int × Int) (a b c d : Int) : Int × Int × Int := if vld a b && vld c d then mk (f a b c d).1 (f a b c d).2 else (0, 0, 1)
theorem nand {x y : Bool} (h : (!x || !y) = true) : (x && y) = false := by cases x <;> cases y <;> simp_all
theorem nand' {x y : Bool} (h : (!x || !y) = false) : x = true ∧ y = true := by cases x <;> cases y <;> simp_all
theorem J_no {f : Int → Int → Int → Int → Int × Int} {a b c d : Int} (h : (!vld a b || !vld c d) = true) : J f a b c d = (0, 0, 1) := by unfold J; rw [nand h]; rfl
theorem J_yes {f : Int → Int → Int → Int → Int × Int} {a b c d : Int} (h1 : vld a b = true) (h2 : vld c d = true) : J f a b c d = mk (f a b c d).1 (f a b c d).2 := by unfold J; rw [h1, h2]; rfl
theorem ok35_36 : FnOk Try.prog 35 (CE.gen (cJoin 36 fMul)).con := by
  refine fnGen ((36, .gen (cFrac fMul)) :: T3) (cJoin 36 fMul) L_ok ⟨ok36, T3_ok⟩ mixed Try.func35 (by kernel_rfl) (by kernel_rfl) fun args hp fr cs r up h hcs => ?_
  unfold cJoin at h
  split at h
  · rename_i a b c d k' p q
    split at h
    · rename_i a' b' c' d' hp1 hp2
      split at h
      · cases h
      · rename_i hpq
        split at h
        · rename_i hk
          subst hk
          injection h with h; injection h with h1 h2; injection h2 with h2 h3; subst h1 h2 h3
          have ea : a' = a := hcs _ (by simp)
          have eb : b' = b := hcs (b' = b) (by simp)
          have ec : c' = c := hcs (c' = c) (by simp)
          have ed : d' = d := hcs (d' = d) (by simp)
          have hf : vld a b = true → vld c d = true → (fMul a b c d).2 ≠ 0 ∧ big (fMul a b c d).1 ∧ big (fMul a b c d).2 := hcs _ (by simp)
          subst ea eb ec ed
          refine ⟨[0, 1, 2, 3, 4, 6, 7, 15], fun _ => none, [(2000, p), (2001, q)], [], [Q a' b', Q c' d', .one (.clo 36 [] [(2000, 0), (2001, 0)])], [(2000, .cells [li .i64 a', li .i64 b']), (2001, .cells [li .i64 c', li .i64 d'])], res (J fMul a' b' c' d'), [(2000, .cells [li .i64 a', li .i64 b']), (2001, .cells [li .i64 c', li .i64 d'])],
            Meets.reads2 p q hpq [Q a' b', Q c' d', .one (.clo 36 [] [(2000, 0), (2001, 0)])] (.cells [li .i64 a', li .i64 b']) (.cells [li .i64 c', li .i64 d']) (res (J fMul a' b' c' d')) hp1 hp2 rfl rfl rfl rfl rfl rfl
              (castH (p := ((!vld a' b' || !vld c' d') = true → 0 = (J fMul a' b' c' d').1 ∧ 0 = (J fMul a' b' c' d').2.1 ∧ 1 = (J fMul a' b' c' d').2.2 ∧ a' = a' ∧ b' = b' ∧ c' = c' ∧ d' = d') ∧
                ((!vld a' b' || !vld c' d') = false → vld a' b' = true ∧ vld c' d' = true ∧ (fMul a' b' c' d').2 ≠ 0 ∧ big (fMul a' b' c' d').1 ∧ big (fMul a' b' c' d').2 ∧
                  (mk (fMul a' b' c' d').1 (fMul a' b' c' d').2).1 = (J fMul a' b' c' d').1 ∧ (mk (fMul a' b' c' d').1 (fMul a' b' c' d').2).2.1 = (J fMul a' b' c' d').2.1 ∧
                  (mk (fMul a' b' c' d').1 (fMul a' b' c' d').2).2.2 = (J fMul a' b' c' d').2.2 ∧ a' = a' ∧ b' = b' ∧ c' = c' ∧ d' = d')) (by kernel_rfl) ⟨fun hn => ?_, fun hn => ?_⟩)⟩
          · rw [J_no hn]
            exact ⟨rfl, rfl, rfl, rfl, rfl, rfl, rfl⟩
          · obtain ⟨v1, v2⟩ := nand' hn
            obtain ⟨f1, f2, f3⟩ := hf v1 v2
            rw [J_yes v1 v2]
            exact ⟨v1, v2, f1, f2, f3, rfl, rfl, rfl, rfl, rfl, rfl, rfl⟩
        · cases h
    · cases h
  · cases h
theorem ok35_37 : FnOk Try.prog 35 (CE.gen (cJoin 37 fDiv)).con := by
  refine fnGen ((37, .gen (cFrac fDiv)) :: T3) (cJoin 37 fDiv) L_ok ⟨ok37, T3_ok⟩ mixed Try.func35 (by kernel_rfl) (by kernel_rfl) fun args hp fr cs r up h hcs => ?_
  unfold cJoin at h
  split at h
  · rename_i a b c d k' p q
    split at h
    · rename_i a' b' c' d' hp1 hp2
      split at h
      · cases h
      · rename_i hpq
        split at h
        · rename_i hk
          subst hk
          injection h with h; injection h with h1 h2; injection h2 with h2 h3; subst h1 h2 h3
          have ea : a' = a := hcs _ (by simp)
          have eb : b' = b := hcs (b' = b) (by simp)
          have ec : c' = c := hcs (c' = c) (by simp)
          have ed : d' = d := hcs (d' = d) (by simp)
          have hf : vld a b = true → vld c d = true → (fDiv a b c d).2 ≠ 0 ∧ big (fDiv a b c d).1 ∧ big (fDiv a b c d).2 := hcs _ (by simp)
          subst ea eb ec ed
          refine ⟨[0, 1, 2, 3, 4, 6, 7, 15], fun _ => none, [(2000, p), (2001, q)], [], [Q a' b', Q c' d', .one (.clo 37 [] [(2000, 0), (2001, 0)])], [(2000, .cells [li .i64 a', li .i64 b']), (2001, .cells [li .i64 c', li .i64 d'])], res (J fDiv a' b' c' d'), [(2000, .cells [li .i64 a', li .i64 b']), (2001, .cells [li .i64 c', li .i64 d'])],
            Meets.reads2 p q hpq [Q a' b', Q c' d', .one (.clo 37 [] [(2000, 0), (2001, 0)])] (.cells [li .i64 a', li .i64 b']) (.cells [li .i64 c', li .i64 d']) (res (J fDiv a' b' c' d')) hp1 hp2 rfl rfl rfl rfl rfl rfl
              (castH (p := ((!vld a' b' || !vld c' d') = true → 0 = (J fDiv a' b' c' d').1 ∧ 0 = (J fDiv a' b' c' d').2.1 ∧ 1 = (J fDiv a' b' c' d').2.2 ∧ a' = a' ∧ b' = b' ∧ c' = c' ∧ d' = d') ∧
                ((!vld a' b' || !vld c' d') = false → vld a' b' = true ∧ vld c' d' = true ∧ (fDiv a' b' c' d').2 ≠ 0 ∧ big (fDiv a' b' c' d').1 ∧ big (fDiv a' b' c' d').2 ∧
                  (mk (fDiv a' b' c' d').1 (fDiv a' b' c' d').2).1 = (J fDiv a' b' c' d').1 ∧ (mk (fDiv a' b' c' d').1 (fDiv a' b' c' d').2).2.1 = (J fDiv a' b' c' d').2.1 ∧
                  (mk (fDiv a' b' c' d').1 (fDiv a' b' c' d').2).2.2 = (J fDiv a' b' c' d').2.2 ∧ a' = a' ∧ b' = b' ∧ c' = c' ∧ d' = d')) (by kernel_rfl) ⟨fun hn => ?_, fun hn => ?_⟩)⟩
          · rw [J_no hn]
            exact ⟨rfl, rfl, rfl, rfl, rfl, rfl, rfl⟩
          · obtain ⟨v1, v2⟩ := nand' hn
            obtain ⟨f1, f2, f3⟩ := hf v1 v2
            rw [J_yes v1 v2]
            exact ⟨v1, v2, f1, f2, f3, rfl, rfl, rfl, rfl, rfl, rfl, rfl⟩
        · cases h
    · cases h
  · cases h
theorem ok35_38 : FnOk Try.prog 35 (CE.gen (cJoin 38 fAdd)).con := by
  refine fnGen ((38, .gen (cFrac fAdd)) :: T3) (cJoin 38 fAdd) L_ok ⟨ok38, T3_ok⟩ mixed Try.func35 (by kernel_rfl) (by kernel_rfl) fun args hp fr cs r up h hcs => ?_
  unfold cJoin at h
  split at h
  · rename_i a b c d k' p q
    split at h
    · rename_i a' b' c' d' hp1 hp2
      split at h
      · cases h
      · rename_i hpq
        split at h
        · rename_i hk
          subst hk
          injection h with h; injection h with h1 h2; injection h2 with h2 h3; subst h1 h2 h3
          have ea : a' = a := hcs _ (by simp)
          have eb : b' = b := hcs (b' = b) (by simp)
          have ec : c' = c := hcs (c' = c) (by simp)
          have ed : d' = d := hcs (d' = d) (by simp)
          have hf : vld a b = true → vld c d = true → (fAdd a b c d).2 ≠ 0 ∧ big (fAdd a b c d).1 ∧ big (fAdd a b c d).2 := hcs _ (by simp)
          subst ea eb ec ed
          refine ⟨[0, 1, 2, 3, 4, 6, 7, 15], fun _ => none, [(2000, p), (2001, q)], [], [Q a' b', Q c' d', .one (.clo 38 [] [(2000, 0), (2001, 0)])], [(2000, .cells [li .i64 a', li .i64 b']), (2001, .cells [li .i64 c', li .i64 d'])], res (J fAdd a' b' c' d'), [(2000, .cells [li .i64 a', li .i64 b']), (2001, .cells [li .i64 c', li .i64 d'])],
            Meets.reads2 p q hpq [Q a' b', Q c' d', .one (.clo 38 [] [(2000, 0), (2001, 0)])] (.cells [li .i64 a', li .i64 b']) (.cells [li .i64 c', li .i64 d']) (res (J fAdd a' b' c' d')) hp1 hp2 rfl rfl rfl rfl rfl rfl
              (castH (p := ((!vld a' b' || !vld c' d') = true → 0 = (J fAdd a' b' c' d').1 ∧ 0 = (J fAdd a' b' c' d').2.1 ∧ 1 = (J fAdd a' b' c' d').2.2 ∧ a' = a' ∧ b' = b' ∧ c' = c' ∧ d' = d') ∧
                ((!vld a' b' || !vld c' d') = false → vld a' b' = true ∧ vld c' d' = true ∧ (fAdd a' b' c' d').2 ≠ 0 ∧ big (fAdd a' b' c' d').1 ∧ big (fAdd a' b' c' d').2 ∧
                  (mk (fAdd a' b' c' d').1 (fAdd a' b' c' d').2).1 = (J fAdd a' b' c' d').1 ∧ (mk (fAdd a' b' c' d').1 (fAdd a' b' c' d').2).2.1 = (J fAdd a' b' c' d').2.1 ∧
                  (mk (fAdd a' b' c' d').1 (fAdd a' b' c' d').2).2.2 = (J fAdd a' b' c' d').2.2 ∧ a' = a' ∧ b' = b' ∧ c' = c' ∧ d' = d')) (by kernel_rfl) ⟨fun hn => ?_, fun hn => ?_⟩)⟩
          · rw [J_no hn]
            exact ⟨rfl, rfl, rfl, rfl, rfl, rfl, rfl⟩
          · obtain ⟨v1, v2⟩ := nand' hn
            obtain ⟨f1, f2, f3⟩ := hf v1 v2
            rw [J_yes v1 v2]
            exact ⟨v1, v2, f1, f2, f3, rfl, rfl, rfl, rfl, rfl, rfl, rfl⟩
        · cases h
    · cases h
  · cases h
theorem ok35_40 : FnOk Try.prog 35 (CE.gen (cJoin 40 fSub)).con := by
  refine fnGen ((40, .gen (cFrac fSub)) :: T3) (cJoin 40 fSub) L_ok ⟨ok40, T3_ok⟩ mixed Try.func35 (by kernel_rfl) (by kernel_rfl) fun args hp fr cs r up h hcs => ?_
  unfold cJoin at h
  split at h
  · rename_i a b c d k' p q
    split at h
    · rename_i a' b' c' d' hp1 hp2
      split at h
      · cases h
      · rename_i hpq
        split at h
        · rename_i hk
          subst hk
          injection h with h; injection h with h1 h2; injection h2 with h2 h3; subst h1 h2 h3
          have ea : a' = a := hcs _ (by simp)
          have eb : b' = b := hcs (b' = b) (by simp)
          have ec : c' = c := hcs (c' = c) (by simp)
          have ed : d' = d := hcs (d' = d) (by simp)
          have hf : vld a b = true → vld c d = true → (fSub a b c d).2 ≠ 0 ∧ big (fSub a b c d).1 ∧ big (fSub a b c d).2 := hcs _ (by simp)
          subst ea eb ec ed
          refine ⟨[0, 1, 2, 3, 4, 6, 7, 15], fun _ => none, [(2000, p), (2001, q)], [], [Q a' b', Q c' d', .one (.clo 40 [] [(2000, 0), (2001, 0)])], [(2000, .cells [li .i64 a', li .i64 b']), (2001, .cells [li .i64 c', li .i64 d'])], res (J fSub a' b' c' d'), [(2000, .cells [li .i64 a', li .i64 b']), (2001, .cells [li .i64 c', li .i64 d'])],
            Meets.reads2 p q hpq [Q a' b', Q c' d', .one (.clo 40 [] [(2000, 0), (2001, 0)])] (.cells [li .i64 a', li .i64 b']) (.cells [li .i64 c', li .i64 d']) (res (J fSub a' b' c' d')) hp1 hp2 rfl rfl rfl rfl rfl rfl
              (castH (p := ((!vld a' b' || !vld c' d') = true → 0 = (J fSub a' b' c' d').1 ∧ 0 = (J fSub a' b' c' d').2.1 ∧ 1 = (J fSub a' b' c' d').2.2 ∧ a' = a' ∧ b' = b' ∧ c' = c' ∧ d' = d') ∧
                ((!vld a' b' || !vld c' d') = false → vld a' b' = true ∧ vld c' d' = true ∧ (fSub a' b' c' d').2 ≠ 0 ∧ big (fSub a' b' c' d').1 ∧ big (fSub a' b' c' d').2 ∧
                  (mk (fSub a' b' c' d').1 (fSub a' b' c' d').2).1 = (J fSub a' b' c' d').1 ∧ (mk (fSub a' b' c' d').1 (fSub a' b' c' d').2).2.1 = (J fSub a' b' c' d').2.1 ∧
                  (mk (fSub a' b' c' d').1 (fSub a' b' c' d').2).2.2 = (J fSub a' b' c' d').2.2 ∧ a' = a' ∧ b' = b' ∧ c' = c' ∧ d' = d')) (by kernel_rfl) ⟨fun hn => ?_, fun hn => ?_⟩)⟩
          · rw [J_no hn]
            exact ⟨rfl, rfl, rfl, rfl, rfl, rfl, rfl⟩
          · obtain ⟨v1, v2⟩ := nand' hn
            obtain ⟨f1, f2, f3⟩ := hf v1 v2
            rw [J_yes v1 v2]
            exact ⟨v1, v2, f1, f2, f3, rfl, rfl, rfl, rfl, rfl, rfl, rfl⟩
        · cases h
    · cases h
  · cases h

theorem bfs {a b c d : Int} (h1 : vld a b = true) (h2 : vld c d = true) : b * d ≠ 0 := Int.mul_ne_zero (vld_bd h1).2.2.1 (vld_bd h2).2.2.1
theorem f_add (a b c d : Int) : vld a b = true → vld c d = true → (fAdd a b c d).2 ≠ 0 ∧ big (fAdd a b c d).1 ∧ big (fAdd a b c d).2 := fun h1 h2 => by
  have hm := prods h1 h2
  unfold fAdd big
  exact ⟨bfs h1 h2, by simp only; omega, by simp only; omega⟩
theorem f_sub (a b c d : Int) : vld a b = true → vld c d = true → (fSub a b c d).2 ≠ 0 ∧ big (fSub a b c d).1 ∧ big (fSub a b c d).2 := fun h1 h2 => by
  have hm := prods h1 h2
  unfold fSub big
  exact ⟨bfs h1 h2, by simp only; omega, by simp only; omega⟩
theorem f_mul (a b c d : Int) : vld a b = true → vld c d = true → (fMul a b c d).2 ≠ 0 ∧ big (fMul a b c d).1 ∧ big (fMul a b c d).2 := fun h1 h2 => by
  have hm := prods h1 h2
  unfold fMul big
  exact ⟨bfs h1 h2, by simp only; omega, by simp only; omega⟩
theorem f_div (a b c d : Int) (h0 : c ≠ 0) : vld a b = true → vld c d = true → (fDiv a b c d).2 ≠ 0 ∧ big (fDiv a b c d).1 ∧ big (fDiv a b c d).2 := fun h1 h2 => by
  have hm := prods h1 h2
  unfold fDiv big
  exact ⟨Int.mul_ne_zero (vld_bd h1).2.2.1 h0, by simp only; omega, by simp only; omega⟩
theorem ok16 : FnOk Try.prog 16 (CE.pu (cBin addR)).con := fnPu ((35, .gen (cJoin 38 fAdd)) :: T3) (cBin addR) L_ok ⟨ok35_38, T3_ok⟩ mixed Try.func16 (by kernel_rfl) (by kernel_rfl) fun args cs r h hcs => by
  unfold cBin at h
  split at h
  · rename_i a b c d
    injection h with h; injection h with h1 h2; subst h1 h2
    refine ⟨[0, 1, 2, 3, 4, 5], fun _ => none, rfl, rfl, rfl, castH (p := a = a ∧ b = b ∧ c = c ∧ d = d ∧ (vld a b = true → vld c d = true → (fAdd a b c d).2 ≠ 0 ∧ big (fAdd a b c d).1 ∧ big (fAdd a b c d).2) ∧ E3 (J fAdd a b c d).1 (J fAdd a b c d).2.1 (J fAdd a b c d).2.2 (addR a b c d)) (by kernel_rfl) ?_⟩
    exact ⟨rfl, rfl, rfl, rfl, f_add a b c d, E3.self _⟩
  · cases h
theorem ok20 : FnOk Try.prog 20 (CE.pu (cBin subR)).con := fnPu ((35, .gen (cJoin 40 fSub)) :: T3) (cBin subR) L_ok ⟨ok35_40, T3_ok⟩ mixed Try.func20 (by kernel_rfl) (by kernel_rfl) fun args cs r h hcs => by
  unfold cBin at h
  split at h
  · rename_i a b c d
    injection h with h; injection h with h1 h2; subst h1 h2
    refine ⟨[0, 1, 2, 3, 4, 5], fun _ => none, rfl, rfl, rfl, castH (p := a = a ∧ b = b ∧ c = c ∧ d = d ∧ (vld a b = true → vld c d = true → (fSub a b c d).2 ≠ 0 ∧ big (fSub a b c d).1 ∧ big (fSub a b c d).2) ∧ E3 (J fSub a b c d).1 (J fSub a b c d).2.1 (J fSub a b c d).2.2 (subR a b c d)) (by kernel_rfl) ?_⟩
    exact ⟨rfl, rfl, rfl, rfl, f_sub a b c d, E3.self _⟩
  · cases h
theorem ok13 : FnOk Try.prog 13 (CE.pu (cBin mulR)).con := fnPu ((35, .gen (cJoin 36 fMul)) :: T3) (cBin mulR) L_ok ⟨ok35_36, T3_ok⟩ mixed Try.func13 (by kernel_rfl) (by kernel_rfl) fun args cs r h hcs => by
  unfold cBin at h
  split at h
  · rename_i a b c d
    injection h with h; injection h with h1 h2; subst h1 h2
    refine ⟨[0, 1, 2, 3, 4, 5], fun _ => none, rfl, rfl, rfl, castH (p := a = a ∧ b = b ∧ c = c ∧ d = d ∧ (vld a b = true → vld c d = true → (fMul a b c d).2 ≠ 0 ∧ big (fMul a b c d).1 ∧ big (fMul a b c d).2) ∧ E3 (J fMul a b c d).1 (J fMul a b c d).2.1 (J fMul a b c d).2.2 (mulR a b c d)) (by kernel_rfl) ?_⟩
    exact ⟨rfl, rfl, rfl, rfl, f_mul a b c d, E3.self _⟩
  · cases h
theorem ok15 : FnOk Try.prog 15 (CE.pu (cBin divR)).con := fnPu ((35, .gen (cJoin 37 fDiv)) :: T3) (cBin divR) L_ok ⟨ok35_37, T3_ok⟩ mixed Try.func15 (by kernel_rfl) (by kernel_rfl) fun args cs r h hcs => by
  unfold cBin at h
  split at h
  · rename_i a b c d
    injection h with h; injection h with h1 h2; subst h1 h2
    refine ⟨[0, 1, 2, 3, 4, 5, 8], fun _ => none, rfl, rfl, rfl, castH (p := ((c == 0) = true → E3 0 0 1 (divR a b c d)) ∧ ((c == 0) = false → a = a ∧ b = b ∧ c = c ∧ d = d ∧ (vld a b = true → vld c d = true → (fDiv a b c d).2 ≠ 0 ∧ big (fDiv a b c d).1 ∧ big (fDiv a b c d).2) ∧ E3 (J fDiv a b c d).1 (J fDiv a b c d).2.1 (J fDiv a b c d).2.2 (divR a b c d))) (by kernel_rfl) ?_⟩
    refine ⟨fun h => E3.of ?_, fun h => ?_⟩
    · have : c = 0 := by simpa using h
      subst this
      unfold divR
      simp
    · have hc : c ≠ 0 := by simpa using h
      refine ⟨rfl, rfl, rfl, rfl, f_div a b c d hc, ?_⟩
      have e : divR a b c d = J fDiv a b c d := by
        unfold divR J
        rw [show (c != 0) = true by simpa using hc, Bool.and_true]
        rfl
      rw [e]
      exact E3.self _
  · cases h
theorem ok28 : FnOk Try.prog 28 (CE.pu cCmp).con := fnPu T3 cCmp L_ok T3_ok mixed Try.func28 (by kernel_rfl) (by kernel_rfl) fun args cs r h hcs => by
  unfold cCmp at h
  split at h
  · rename_i a b c d
    injection h with h; injection h with h1 h2; subst h1 h2
    refine ⟨[0, 1, 2, 3, 4, 5, 6, 7, 15, 26, 30], fun _ => none, rfl, rfl, rfl, castH (p := ((!vld a b || !vld c d) = true → E2 0 1 (compareR a b c d)) ∧ ((!vld a b || !vld c d) = false → InI64 (a * d) ∧ InI64 (c * b) ∧ (decide (a * d < c * b) = true → E2 (-1) 0 (compareR a b c d)) ∧
      (decide (a * d < c * b) = false → (decide (a * d > c * b) = true → E2 1 0 (compareR a b c d)) ∧ (decide (a * d > c * b) = false → E2 0 0 (compareR a b c d))))) (by kernel_rfl) ?_⟩
    refine ⟨fun h => E2.of ?_, fun h => ?_⟩
    · unfold compareR; rw [nand h]; rfl
    · obtain ⟨v1, v2⟩ := nand' h
      have hm := prods v1 v2
      have e : compareR a b c d = (cmpR a b c d, 0) := by unfold compareR; rw [v1, v2]; rfl
      rw [e]
      unfold InI64 cmpR
      refine ⟨by omega, by omega, fun h => E2.of ?_, fun h => ⟨fun h' => E2.of ?_, fun h' => E2.of ?_⟩⟩
      · rw [if_pos (of_decide_eq_true h)]
      · rw [if_neg (of_decide_eq_false h), if_pos (of_decide_eq_true h')]
      · rw [if_neg (of_decide_eq_false h), if_neg (of_decide_eq_false h')]
  · cases h
theorem ok17 : FnOk Try.prog 17 (CE.pu cFloor).con := fnPu T3 cFloor L_ok T3_ok mixed Try.func17 (by kernel_rfl) (by kernel_rfl) fun args cs r h hcs => by
  unfold cFloor at h
  split at h
  · rename_i a b
    injection h with h; injection h with h1 h2; subst h1 h2
    refine ⟨[0, 1, 2, 3, 4, 7, 19], fun _ => none, rfl, rfl, rfl, castH (p := ((!vld a b) = true → E2 0 1 (floorR a b)) ∧ ((!vld a b) = false → b ≠ 0 ∧ InI64 (a.tdiv b) ∧ InI64 (a.tdiv b * b) ∧
      (decide (a.tdiv b * b > a) = true → InI64 (a.tdiv b - 1) ∧ E2 (a.tdiv b - 1) 0 (floorR a b)) ∧ (decide (a.tdiv b * b > a) = false → E2 (a.tdiv b) 0 (floorR a b)))) (by kernel_rfl) ?_⟩
    refine ⟨fun h => E2.of ?_, fun h => ?_⟩
    · unfold floorR; rw [show vld a b = false by simpa using h]; rfl
    · have v1 : vld a b = true := by simpa using h
      have hb := vld_bd v1
      have e : floorR a b = (a / b, 0) := by unfold floorR; rw [v1]; rfl
      have hf := floor_eq (a := a) hb.2.2.2
      have hq := natAbs_tdiv_le a b
      have hp := mulb (x := a.tdiv b) (y := b) (A := 1000000000) (B := 1000000) (by omega) hb.2.1
      rw [e]
      unfold InI64
      refine ⟨hb.2.2.1, by omega, by omega, fun h => ⟨by omega, E2.of ?_⟩, fun h => E2.of ?_⟩
      · rw [hf, if_pos (of_decide_eq_true h)]
      · rw [hf, if_neg (of_decide_eq_false h)]
  · cases h
abbrev T4 : Tab := (28, .pu cCmp) :: (20, .pu (cBin subR)) :: (17, .pu cFloor) :: (16, .pu (cBin addR)) :: (15, .pu (cBin divR)) :: (13, .pu (cBin mulR)) :: (12, .pu cMake) :: T3
theorem T4_ok : TOk Try.prog T4 := ⟨ok28, ok20, ok17, ok16, ok15, ok13, ok12, T3_ok⟩
end Go.Proofs.Ytommmlhllifonaa
