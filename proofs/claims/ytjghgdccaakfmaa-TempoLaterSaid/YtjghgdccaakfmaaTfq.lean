/- The plain proofs. Written by a program (wip/tools/gen.py). -/
import Derived.Test.YtjghgdccaakfmaaTfp
import Derived.Test.YtjghgdccaakfmaaTr
namespace Go.Proofs.Ytjghgdccaakfmaa
open Go.Sy Go.RatLaw
set_option linter.unusedVariables false
set_option linter.unusedSimpArgs false
theorem usT {bars : List Bar} {l : List T3} (h : (!usableT bars l) = false) : okTm bars l = true := by
  unfold usableT at h
  simp only [Bool.not_eq_false', Bool.and_eq_true] at h
  exact h.2
theorem tmAtS_ok {bars : List Bar} {l : List T3} (h : okTm bars l = true) {x : Nat} (hx : x < bars.length) : tmAtS bars l x = ((tmAt l x).1, (tmAt l x).2, 0) := by
  unfold tmAtS
  rw [if_pos (by rw [h, decide_eq_true (show (0 : Int) ≤ x by omega), decide_eq_true (show (x : Int) < bars.length by omega)]; rfl)]
theorem p_TLater (bars : List Bar) (l : List T3) (w a d pb pn pd : Int) (hw0 : 0 ≤ w) (hw1 : w ≤ 255) : P_TLater bars l w a d pb pn pd := by
  refine ⟨fun _ => rfl, fun h => ?_⟩
  simp only [Bool.or_eq_false_iff] at h
  obtain ⟨hu, hp⟩ := h
  rw [Bool.not_eq_false'] at hp
  have ho := usT hu
  have hk := okTm_ok ho
  have hpos := hk.pos
  have hle := hk.le
  have hr := hk.rise
  have hbl := (okBars_iff.1 hk.okb).2.1
  have hk0 := Int.tmod_nonneg (b := (l.length : Int)) (a := w) hw0
  have hk1 := Int.tmod_lt_of_pos w (b := (l.length : Int)) (by omega)
  have e2 : E_TLater_2 l w = l.take ((w.tmod (l.length : Int)).toNat + 1) := by
    show [] ++ List.drop (Int.toNat 0) (List.take (w.tmod (l.length : Int) + 1).toNat l) = _
    rw [List.nil_append, show (w.tmod (l.length : Int) + 1).toNat = (w.tmod (l.length : Int)).toNat + 1 by omega]; rfl
  have e7 : E_TLater_7 l w = E_TLater_2 l w := by
    show List.drop (Int.toNat 0) (List.take (w.tmod (l.length : Int) + 1).toNat l) = [] ++ _
    rw [List.nil_append]
  have hx : (w.tmod (l.length : Int)).toNat < l.length := by omega
  have e1 : E_TLater_1 l w a d = otherT l (w.tmod (l.length : Int)).toNat a d := by
    show (E_TLater_2 l w).set (w.tmod (l.length : Int)).toNat (((E_TLater_2 l w).getD (w.tmod (l.length : Int)).toNat t30).1, (a, d)) = _
    rw [e2]
    unfold otherT
    rw [List.getD_eq_getElem?_getD, List.getElem?_take, if_pos (by omega)]; rfl
  have e5 : E_TLater_5 bars l w a d pb pn pd = secS bars (otherT l (w.tmod (l.length : Int)).toNat a d) 0 0 1 pb pn pd := by
    show secS bars (E_TLater_1 l w a d) 0 0 1 pb pn pd = _
    rw [e1]
  have l2 : (E_TLater_2 l w).length = (w.tmod (l.length : Int)).toNat + 1 := by rw [e2, List.length_take]; omega
  have l7 : (E_TLater_7 l w).length = (w.tmod (l.length : Int)).toNat + 1 := by rw [e7, l2]
  have lo := other_len (a := a) (d := d) hx
  rw [e1, e5]
  have hstart : posS bars 0 0 1 = true := pos_bar hk.okb (by omega) (by omega)
  have hfst : 0 ≤ (l.getD (w.tmod (l.length : Int)).toNat t30).1 := (hk.mem _ (memG t30 hx)).1
  refine ⟨by unfold InI64; omega, fun _ => ⟨by omega, by unfold InI64; omega, by omega, by omega, by omega, rfl, by rw [l7]; omega, hk0, by rw [l2]; omega, by rw [l7, l2]; omega, rfl, by rw [l2]; omega, rfl, by rw [l2]; omega, by rw [l7, lo]; omega, fun _ => rfl, fun hoo => ?_⟩⟩
  rw [Bool.not_eq_false'] at hoo
  have hko := okTm_ok hoo
  have hv : vld a d = true := by
    have := (hko.mem _ (memG t30 (show (w.tmod (l.length : Int)).toNat < (otherT l (w.tmod (l.length : Int)).toNat a d).length by omega))).2.2
    rw [other_get hx (Nat.le_refl _), if_pos rfl] at this
    exact (isTm_iff.1 this).1
  refine ⟨by rw [l7, lo]; omega, hk0, hk1, fun _ => ⟨hk0, hk1⟩, fun hc hb => ⟨⟨0, Nat.zero_le _, rfl, ?_⟩, fun x hx' => ?_⟩, fun hc hb => ⟨⟨0, Nat.zero_le _, rfl, rfl⟩, fun x hx' => ?_⟩⟩
  · have hc' : pb < (l.getD (w.tmod (l.length : Int)).toNat t30).1 ∨ (pb = (l.getD (w.tmod (l.length : Int)).toNat t30).1 ∧ pn = 0) := by
      have : (decide (pb < (l.getD (w.tmod (l.length : Int)).toNat t30).1) || pb == (l.getD (w.tmod (l.length : Int)).toNat t30).1 && pn == 0) = true := by
        exact hc
      simpa using this
    have hp0 := (pos_dur hp).2.2.1
    have e : secS bars (otherT l (w.tmod (l.length : Int)).toNat a d) 0 0 1 pb pn pd = secS bars l 0 0 1 pb pn pd := by
      rw [sec_form hoo hstart hp, sec_form ho hstart hp, other_up hk hx hp0 hc', other_up hk hx (Int.le_refl _) (by omega)]
    rw [e]; simp
  all_goals
    refine ⟨fun hlt => ⟨by omega, by omega, fun _ => ⟨⟨0, Nat.zero_le _, rfl, ?_⟩, fun k hk' => ⟨fun hlt2 => ⟨by omega, by have := of_decide_eq_true hlt2; omega, fun hle => ⟨fun hkw => ⟨by unfold InI64; omega, k + 1, by have := of_decide_eq_true hlt2; omega, by have := of_decide_eq_true hlt2; omega, by omega, ?_⟩, fun hkw => ⟨by unfold InI64; omega, k + 1, by have := of_decide_eq_true hlt2; omega, by have := of_decide_eq_true hlt2; omega, by omega, ?_⟩⟩, fun hle => ⟨by unfold InI64; omega, k + 1, by have := of_decide_eq_true hlt2; omega, by have := of_decide_eq_true hlt2; omega, by omega, ?_⟩⟩, fun hge => ⟨by rw [l7, lo]; omega, by unfold InI64; omega, x + 1, by have := of_decide_eq_true hlt; omega, by have := of_decide_eq_true hlt; omega, by omega, ?_⟩⟩⟩⟩, fun _ => by rw [hv]; rfl⟩
    · rw [want_zero, last_zero]; (repeat' (first | rfl | trivial | apply And.intro))
    · have hlt3 : k < l.length := by have := of_decide_eq_true hlt2; omega
      simp only [tnG, d0T] at hle ⊢
      have hle' := of_decide_eq_true hle
      have hkw' : k < (w.tmod (l.length : Int)).toNat := by have := of_decide_eq_true hkw; omega
      rw [want_step hr hlt3, last_step hr hlt3, if_pos hle', if_pos hle', if_pos hkw']
      (repeat' (first | rfl | trivial | apply And.intro))
    · have hlt3 : k < l.length := by have := of_decide_eq_true hlt2; omega
      simp only [tnG, d0T] at hle ⊢
      have hle' := of_decide_eq_true hle
      have hkw' : ¬ k < (w.tmod (l.length : Int)).toNat := by have := of_decide_eq_false hkw; omega
      rw [want_step hr hlt3, last_step hr hlt3, if_pos hle', if_pos hle', if_neg hkw']
      (repeat' (first | rfl | trivial | apply And.intro))
    · have hlt3 : k < l.length := by have := of_decide_eq_true hlt2; omega
      simp only [tnG, d0T] at hle ⊢
      have hle' := of_decide_eq_false hle
      rw [want_step hr hlt3, last_step hr hlt3, if_neg hle', if_neg hle']
      (repeat' (first | rfl | trivial | apply And.intro))
    · have hk2 : k = l.length := by have := of_decide_eq_false hge; omega
      have hx2 : x < bars.length := by have := of_decide_eq_true hlt; omega
      rw [hk2, want_all, last_all hk hx (by omega), tmAtS_ok ho hx2, tmAtS_ok hoo hx2]
      refine ⟨by simp, ?_⟩
      (repeat' (first | rfl | trivial | apply And.intro))

end Go.Proofs.Ytjghgdccaakfmaa
