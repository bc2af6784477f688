/- The plain proofs. Written by a program (wip/tools/gen.py). -/
import Derived.Test.YthnboahemgmfnaaMeterlp
import Derived.Test.YthnboahemgmfnaaMr
namespace Go.Proofs.Ythnboahemgmfnaa
open Go.Sy Go.RatLaw
set_option linter.unusedVariables false
theorem p_example : P_example := ⟨rfl, rfl⟩
theorem p_head : P_head := by
  unfold P_head InI64
  decide +kernel
theorem len60 (l : List Bar) : decide ((l.length : Int) ≤ 60) = decide (l.length ≤ 60) := by rw [decide_eq_decide]; omega
theorem p_usable (l : List Bar) : P_usable l := by
  intro _
  rw [len60]
theorem p_Matches (l : List Bar) (b n d p q x y : Int) (hx : InI64 x) : P_Matches l b n d p q x y := ⟨fun _ => rfl, fun _ => ⟨hx, hx, by simp only [beq_self_eq_true, Bool.and_true]⟩⟩
theorem usable_ok {l : List Bar} (h : (!(decide (l.length ≤ 60) && okBars l)) = false) : okBars l = true ∧ l.length ≤ 60 := by simp at h; exact ⟨h.2, h.1⟩
theorem whereS_ok {l : List Bar} (hl : okBars l = true) {p q : Int} (h : (whereS l p q).2.2.2 = 0) : timeS l (whereS l p q).1 (whereS l p q).2.1 (whereS l p q).2.2.1 = (p, q, 0) := by
  cases hd : dur p q with
  | false => unfold whereS at h; rw [hl, hd] at h; cases h
  | true =>
    have e : whereS l p q = posOf 3 (find l (tk p q)) := by unfold whereS; rw [hl, hd]; rfl
    rw [e] at h ⊢
    obtain ⟨h1, h2⟩ := posOf_ok hl h
    rw [timeS_ok hl h1, h2, ← dur_eq hd]
theorem whereS_err {l : List Bar} (hl : okBars l = true) {p q : Int} (h : (whereS l p q).2.2.2 ≠ 0) : whereS l p q = (0, 0, 0, 1) ∨ whereS l p q = (0, 0, 0, 3) := by
  cases hd : dur p q with
  | false => left; unfold whereS; rw [hl, hd]; rfl
  | true =>
    right
    have e : whereS l p q = posOf 3 (find l (tk p q)) := by unfold whereS; rw [hl, hd]; rfl
    rw [e] at h ⊢
    exact posOf_err3 h
theorem back_pos {l : List Bar} (hl : okBars l = true) {b n d : Int} (h : posS l b n d = true) : whereS l (timeS l b n d).1 (timeS l b n d).2.1 = (b, n, d, 0) := by
  obtain ⟨_, _, _, _, _, h7, h8⟩ := posS_ahead hl h
  rw [timeS_ok hl h]
  unfold whereS
  rw [hl, dur_ofT h7 (by omega), tk_ofT h7 (by omega)]
  exact posOf_pos hl h
theorem p_Back (l : List Bar) (b n d p q : Int) : P_Back l b n d p q := by
  refine ⟨fun _ => rfl, fun h => ?_⟩
  obtain ⟨hl, _⟩ := usable_ok h
  have hbad : (whereS l p q).2.2.2 ≠ 0 → (((whereS l p q).2.2.2 == 1 || (whereS l p q).2.2.2 == 3) && ((whereS l p q).1 == 0 && ((whereS l p q).2.1 == 0 && (whereS l p q).2.2.1 == 0))) = true := by
    intro hw
    rcases whereS_err hl hw with e | e <;> rw [e] <;> rfl
  have hgood : (whereS l p q).2.2.2 = 0 → ((timeS l (whereS l p q).1 (whereS l p q).2.1 (whereS l p q).2.2.1).2.2 == 0 && ((timeS l (whereS l p q).1 (whereS l p q).2.1 (whereS l p q).2.2.1).1 == p && (timeS l (whereS l p q).1 (whereS l p q).2.1 (whereS l p q).2.2.1).2.1 == q)) = true := by
    intro hw
    rw [whereS_ok hl hw]; simp
  refine ⟨fun hp => ?_, fun _ => ⟨fun hw => ?_, fun hw => ?_⟩⟩
  · have e1 := back_pos hl hp
    have e2 : (timeS l b n d).2.2 = 0 := by rw [timeS_ok hl hp]
    rw [e1, e2]
    refine ⟨fun hw => ?_, fun hw => ?_⟩
    · have := hbad (by simpa using hw)
      simp only [Bool.and_assoc, this, beq_self_eq_true, Bool.and_true]
    · have := hgood (by simpa using hw)
      simp only [Bool.and_assoc, this, beq_self_eq_true, Bool.and_true]
  · have := hbad (by simpa using hw)
    simpa only [Bool.and_assoc, Bool.true_and] using this
  · have := hgood (by simpa using hw)
    simpa only [Bool.and_assoc, Bool.true_and] using this
theorem p_Order (l : List Bar) (b n d c p q : Int) : P_Order l b n d c p q := by
  refine ⟨fun _ => rfl, fun h => ?_⟩
  simp only [Bool.or_eq_false_iff, Bool.not_eq_false', Bool.and_eq_true] at h
  obtain ⟨⟨⟨_, hl⟩, h1⟩, h2⟩ := h
  obtain ⟨d1, a1, a2, a3, a4, a5, a6⟩ := posS_ahead hl h1
  obtain ⟨d2, b1, b2, b3, b4, b5, b6⟩ := posS_ahead hl h2
  rw [timeS_ok hl h1, timeS_ok hl h2]
  have ec := cmp_dur (dur_ofT a5 (by omega)) (dur_ofT b5 (by omega))
  rw [tk_ofT a5 (by omega), tk_ofT b5 (by omega)] at ec
  have ed := cmp_dur d1 d2
  simp only
  rw [ec, ed]
  obtain ⟨_, _, c1⟩ := posS_iff.1 h1
  obtain ⟨_, _, c2⟩ := posS_iff.1 h2
  rw [tks_dur d1] at c1
  rw [tks_dur d2] at c2
  have lt : ∀ {b n d c p q : Int}, posS l b n d = true → posS l c p q = true → b < c → aheadB l b n d < aheadB l c p q := by
    intro b n d c p q h1 h2 hbc
    obtain ⟨d1, a1, a2, a3, a4, a5, a6⟩ := posS_ahead hl h1
    obtain ⟨d2, b1, b2, b3, b4, b5, b6⟩ := posS_ahead hl h2
    obtain ⟨_, _, c1⟩ := posS_iff.1 h1
    rw [tks_dur d1] at c1
    have hbl : b.toNat < l.length := by omega
    have hs := bef_succ hbl
    have hm := bef_mono hl (show b.toNat + 1 ≤ c.toNat by omega)
    have : barAt l b = l.getD b.toNat bar0 := rfl
    unfold aheadB
    rw [← this] at hs
    omega
  refine ⟨fun h => by simp at h, fun _ => ⟨fun hbc => ⟨fun hcb => ?_, fun _ => ?_⟩, fun hbc => ⟨fun hcb => ?_, fun hcb => ?_⟩⟩⟩
  · have := of_decide_eq_true hbc; have := of_decide_eq_true hcb; omega
  · rw [if_pos (lt h1 h2 (of_decide_eq_true hbc))]; rfl
  · have := lt h2 h1 (of_decide_eq_true hcb)
    rw [if_neg (by omega), if_pos this]; rfl
  · have hbe : b = c := by have := of_decide_eq_false hbc; have := of_decide_eq_false hcb; omega
    subst hbe
    have e : ∀ x y : Int, (aheadB l b n d < aheadB l b p q ↔ tk n d < tk p q) ∧ (aheadB l b n d > aheadB l b p q ↔ tk n d > tk p q) := by intro _ _; unfold aheadB; omega
    simp only [(e 0 0).1, (e 0 0).2, beq_self_eq_true, Bool.and_true]
theorem posS_beg {l : List Bar} (hl : okBars l = true) {x : Nat} (hx : x ≤ l.length) : posS l x 0 1 = true := by
  rw [posS_iff, tks_dur dur01, tk01]
  refine ⟨by omega, by omega, ?_⟩
  by_cases h : x < l.length
  · have := okBar_iff.1 ((okBars_iff.1 hl).2.2.1 _ (barAt_mem (l := l) (b := (x : Int)) (by omega) (by omega)))
    exact .inl ⟨by omega, by omega⟩
  · exact .inr ⟨by omega, rfl⟩
theorem p_Bars (l : List Bar) : P_Bars l := by
  refine ⟨fun _ => rfl, fun h => ?_⟩
  obtain ⟨hl, h60⟩ := usable_ok h
  refine ⟨⟨0, ⟨by omega, by omega⟩, rfl, rfl, by rw [Nat.zero_min, itB_zero], by rw [Nat.zero_min, itB_zero]⟩, fun x ⟨hx, hx61⟩ _ => ⟨fun hle => ⟨fun hb => ?_, fun _ _ => ⟨fun hlt => ?_, fun hge => ?_⟩⟩, fun hgt => ?_⟩⟩
  · have hle' : x ≤ l.length := by have := of_decide_eq_true hle; omega
    have e : timeS l x 0 1 = ((itB l x).1, (itB l x).2, 0) := by
      rw [timeS_ok hl (posS_beg hl hle'), itB_ok hl hle']
      have : aheadB l x 0 1 = bef (l.take x) := by unfold aheadB; rw [tk01, Int.toNat_natCast]; omega
      rw [this]
    rw [e, Nat.min_eq_left hle'] at hb
    simp at hb
  · have hlt' : x < l.length := by have := of_decide_eq_true hlt; omega
    rw [Nat.min_eq_left (by omega), d0B, toNat_cast]
    have hn := itB_next hlt'
    have ha : addR (itB l x).1 (itB l x).2 (l.getD x bar0).2.1.1 (l.getD x bar0).2.1.2 = ((itB l (x + 1)).1, (itB l (x + 1)).2, 0) := by
      rw [itB_ok hl (by omega), itB_ok hl (by omega), bef_succ hlt']
      obtain ⟨d1, d2⟩ := okBar_dur ((okBars_iff.1 hl).2.2.1 _ (mem_getD hlt'))
      have hb := bef_take hl x
      have hb2 := bef_take hl (x + 1)
      rw [bef_succ hlt'] at hb2
      rw [add_dur (dur_ofT hb.1 (by omega)) d1 (by rw [tk_ofT hb.1 (by omega), d2]; omega), tk_ofT hb.1 (by omega), d2]
    rw [ha]
    exact ⟨by omega, by omega, by unfold InI64; omega, x + 1, ⟨by omega, by omega⟩, by omega, by omega, rfl, rfl, rfl, by rw [Nat.min_eq_left (by omega)], by rw [Nat.min_eq_left (by omega)]⟩
  · have hx' : x = l.length := by have := of_decide_eq_false hge; have := of_decide_eq_true hle; omega
    subst hx'
    exact ⟨by unfold InI64; omega, l.length + 1, ⟨by omega, by omega⟩, by omega, by omega, rfl, rfl, rfl, by rw [Nat.min_self, Nat.min_eq_right (by omega)], by rw [Nat.min_self, Nat.min_eq_right (by omega)]⟩
  · have hx' : l.length < x := by have := of_decide_eq_false hgt; omega
    rw [Nat.min_eq_right (by omega), itB_ok hl (Nat.le_refl _), List.take_length]
    have e : totS l = ((ofT (bef l)).1, (ofT (bef l)).2, 0) := by unfold totS; rw [hl]; rfl
    rw [e]; simp
theorem p_Parts (l : List Bar) (u b n d : Int) (h0 : 0 ≤ u) (h1 : u ≤ 255) : P_Parts l u b n d := by
  intro _
  refine ⟨fun _ => rfl, fun h => ⟨by unfold InI64; omega, fun _ => ?_⟩⟩
  simp only [Bool.or_eq_false_iff, decide_eq_false_iff_not] at h
  obtain ⟨hu, h2⟩ := h
  obtain ⟨hl, h60⟩ := usable_ok hu
  have e1 := Int.tmod_eq_emod_of_nonneg (b := (l.length : Int) - 1) h0
  have l1 := Int.emod_nonneg u (show (l.length : Int) - 1 ≠ 0 by omega)
  have l2 := Int.emod_lt_of_pos u (show 0 < (l.length : Int) - 1 by omega)
  obtain ⟨k, hk⟩ : ∃ k : Nat, 1 + u.tmod ((l.length : Int) - 1) = k := ⟨(1 + u.tmod ((l.length : Int) - 1)).toNat, by omega⟩
  rw [hk]
  have hk1 : 1 ≤ k ∧ k < l.length := by omega
  simp only [Int.toNat_natCast, Int.toNat_zero, List.drop_zero, List.take_length]
  have o1 : okBars (l.take k) = true := okBars_sub hl (List.take_sublist k l) (by rw [List.length_take]; omega)
  have o2 : okBars (l.drop k) = true := okBars_sub hl (List.drop_sublist k l) (by rw [List.length_drop]; omega)
  have t1 : totS (l.take k) = ((ofT (bef (l.take k))).1, (ofT (bef (l.take k))).2, 0) := by unfold totS; rw [o1]; rfl
  have t2 : totS (l.drop k) = ((ofT (bef (l.drop k))).1, (ofT (bef (l.drop k))).2, 0) := by unfold totS; rw [o2]; rfl
  have t3 : totS l = ((ofT (bef l)).1, (ofT (bef l)).2, 0) := by unfold totS; rw [hl]; rfl
  have b1 := bef_all o1
  have b2 := bef_all o2
  have b3 := bef_append (l.take k) (l.drop k)
  rw [List.take_append_drop] at b3
  have ha := add_dur (dur_ofT b1.1 (by omega)) (dur_ofT b2.1 (by omega)) (by rw [tk_ofT b1.1 (by omega), tk_ofT b2.1 (by omega)]; omega)
  rw [tk_ofT b1.1 (by omega), tk_ofT b2.1 (by omega), ← b3] at ha
  rw [t1, t2, t3, ha]
  refine ⟨by unfold InI64; omega, by omega, by unfold InI64; omega, by omega, by omega, by omega, by omega, by omega, by omega, by omega, by omega, by omega, fun _ => by simp, fun hp => ⟨by omega, by omega, by omega, ?_⟩⟩
  have hp : posS (l.take k) b n d = true := by simpa using hp
  obtain ⟨q1, q2⟩ := posS_take hl hk1.2 hp
  rw [timeS_ok o1 hp, timeS_ok hl q1, q2]
  simp
theorem p_Shifts (l : List Bar) (b n d p q x y : Int) (hp : InI64 p) (hx : InI64 x) : P_Shifts l b n d p q x y := by
  refine ⟨fun _ => rfl, fun h => ?_⟩
  simp only [Bool.or_eq_false_iff, Bool.not_eq_false'] at h
  obtain ⟨hu, hpos⟩ := h
  have hl : okBars l = true := by rw [Bool.and_eq_true] at hu; exact hu.2
  have hN : InI64 (negW p) := by
    by_cases e : p = -9223372036854775808
    · subst e; unfold InI64; decide
    · rw [negW_eq (by unfold InI64 at *; omega)]; unfold InI64 at *; omega
  refine ⟨hp, fun he => ?_, fun he => ⟨hN, hx, ?_⟩⟩
  · have he : (shiftS l b n d p q).2.2.2 ≠ 0 := by simpa using he
    rw [shiftS_eq hl hpos] at he ⊢
    split at he
    · rename_i hs; rw [if_pos hs, posOf_err3 he]; rfl
    · rename_i hs; rw [if_neg hs]; rfl
  · have he : (shiftS l b n d p q).2.2.2 = 0 := by simpa using he
    have hs : sdur p q = true := by
      rw [shiftS_eq hl hpos] at he
      split at he
      · assumption
      · cases he
    have es : shiftS l b n d p q = posOf 3 (find l (aheadB l b n d + tk p q)) := by rw [shiftS_eq hl hpos, if_pos hs]
    rw [es] at he ⊢
    obtain ⟨g1, g2⟩ := posOf_ok hl he
    generalize posOf 3 (find l (aheadB l b n d + tk p q)) = r at *
    have hpn : negW p = -p := by
      have := (vld_iff.1 (sdur_spec hs).1)
      exact negW_eq (by unfold InI64; omega)
    have eb : shiftS l r.1 r.2.1 r.2.2.1 (negW p) q = (b, n, d, 0) := by
      rw [hpn, shiftS_eq hl g1, sdur_neg, if_pos hs, g2, tk_neg, show aheadB l b n d + tk p q + -tk p q = aheadB l b n d by omega]
      exact posOf_pos hl hpos
    rw [eb]
    refine ⟨fun hh => by simp at hh, fun _ => ⟨fun _ => rfl, fun ho => ?_⟩⟩
    have ho : (addR p q x y).2.2 = 0 := by simpa using ho
    obtain ⟨q1, q2⟩ := add_sdur hs ho
    have hb : InI64 (addR p q x y).1 := by
      have hv : addR p q x y = (0, 0, 3) ∨ vld (addR p q x y).1 (addR p q x y).2.1 = true := by
        have vp := (sdur_spec hs).1
        by_cases vx : vld x y = true
        · have e : addR p q x y = mk (p * y + x * q) (q * y) := by unfold addR; rw [vp, vx]; rfl
          rw [e]
          rcases mk_cases (p * y + x * q) (q * y) (Int.mul_ne_zero (by have := vld_bd vp; omega) (by have := vld_bd vx; omega)) with hm | ⟨c1, c2, hm, hv, _⟩
          · exact .inl hm
          · rw [hm]; exact .inr hv
        · exfalso
          unfold addR at ho; rw [if_neg (by simp [vx])] at ho; cases ho
      rcases hv with e | hv
      · rw [e]; unfold InI64; decide
      · have := vld_iff.1 hv; unfold InI64; omega
    refine ⟨hb, ?_⟩
    rw [shiftS_eq hl g1, shiftS_eq hl hpos, q1, g2]
    by_cases hs2 : sdur x y = true
    · rw [if_pos hs2, if_pos hs2, q2 hs2, Int.add_assoc]; simp
    · rw [if_neg hs2, if_neg hs2]; rfl

end Go.Proofs.Ythnboahemgmfnaa
