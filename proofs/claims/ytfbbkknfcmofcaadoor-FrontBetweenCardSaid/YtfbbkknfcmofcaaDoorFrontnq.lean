/- The plain proofs. Written by a program (wip/tools/gen.py). -/
import Derived.Test.YtfbbkknfcmofcaaDoorFrontnp
import Derived.Test.YtfbbkknfcmofcaaDoorVs
namespace Go.Proofs.YtfbbkknfcmofcaaDoor
open Go.Sy Go.RatLaw
set_option linter.unusedVariables false
set_option linter.unusedSimpArgs false
theorem p_FBetween (s : Int) (l : List En) (h n : Int) (hs : InI64 s) (hi : inE l) : P_FBetween s l h n := by
  refine ⟨fun _ => ⟨hs, hi⟩, fun _ => rfl, fun hc => ?_⟩
  simp only [Bool.or_eq_false_iff, Bool.not_eq_false', decide_eq_false_iff_not] at hc
  obtain ⟨⟨⟨f1, hv⟩, n0⟩, n1⟩ := hc
  have h60 := of_decide_eq_true f1
  have hE := (log_ents hv).2.2.1
  have ha := at_valid (n := n) hv (by omega) (by omega)
  have hch := ch_valid hv
  obtain ⟨i1, i2, i3, i4⟩ := rst_inv hE l.length (Nat.le_refl _)
  have hle := rst_len (l := l) l.length
  have hW := want_end hE n
  have hat : ∀ x, x < (rst l l.length).1.length → atS s l h ((rst l l.length).1.getD x 0) = (laidAt l ((rst l l.length).1.getD x 0), 0) ∧ 0 ≤ (rst l l.length).1.getD x 0 ∧ (rst l l.length).1.getD x 0 ≤ 1000000000 := fun x hx => by
    obtain ⟨j, hj, e⟩ := i1 x hx
    have ht := tm_in hE hj
    rw [e]
    exact ⟨at_valid hv ht.1 ht.2, ht⟩
  have hch1 : (chS s l h).1 = (rst l l.length).1 := by rw [hch]
  have hch2 : (chS s l h).2 = 0 := by rw [hch]
  unfold P_FBetween at *
  rw [hch1, hch2, ha]
  clear hch hch1 hch2 i4
  generalize (rst l l.length).1 = tl at *
  refine ⟨hs, hi, hs, hi, fun q => by simp at q, fun _ hl => ⟨⟨0, by omega, rfl, rfl, rfl, rfl, rfl, rfl⟩, fun x hx => ⟨fun hlt => ?_, fun hge => ?_⟩⟩⟩
  · have hlt' : x < tl.length := by have := of_decide_eq_true hlt; omega
    obtain ⟨h1, h2, h3⟩ := hat x hlt'
    have hw : wantG l tl n (x + 1) = if tl.getD x 0 ≤ n then laidAt l (tl.getD x 0) else wantG l tl n x := rfl
    rw [tnG]
    refine ⟨by omega, by omega, fun _ => by unfold InI64; omega, fun q => by have := of_decide_eq_true q; omega, fun q => ?_, fun _ => ⟨hs, hi, fun q => ?_, fun _ => ⟨fun hp => ⟨by show InI64 (tl.getD x 0 - 1); unfold InI64; omega, hs, hi, fun hn => ?_, fun hn => ?_⟩, fun hp => ⟨fun hn => ?_, fun hn => ?_⟩⟩⟩⟩
    · exfalso
      rw [Bool.or_eq_true, Bool.and_eq_true] at q
      rcases q with ⟨q1, q2⟩ | q
      · have q1 := of_decide_eq_true q1
        have q2 : tl.getD x 0 ≤ tl.getD ((x : Int) - 1).toNat 0 := of_decide_eq_true q2
        rw [show ((x : Int) - 1).toNat = x - 1 by omega] at q2
        have := i2 (x - 1) (by omega)
        rw [show x - 1 + 1 = x by omega] at this
        omega
      · have q : tl.getD x 0 < 0 := of_decide_eq_true q
        omega
    · exfalso
      have q : ((atS s l h (tl.getD x 0)).2 != 0) = true := q
      rw [h1] at q; simp at q
    all_goals
      have h1' : atS s l h (tl.getD x ((Ty.ti IntKind.i64).d0)) = (laidAt l (tl.getD x 0), 0) := h1
    · have hp : 0 < tl.getD x 0 := of_decide_eq_true hp
      have hn : tl.getD x 0 ≤ n := of_decide_eq_true hn
      rw [if_pos hn] at hw
      have hb : atS s l h (tl.getD x ((Ty.ti IntKind.i64).d0) - 1) = (laidAt l (tl.getD x 0 - 1), 0) := at_valid hv (by show 0 ≤ tl.getD x 0 - 1; omega) (by show tl.getD x 0 - 1 ≤ 1000000000; omega)
      have hne : sameF (laidAt l (tl.getD x 0 - 1)) (laidAt l (tl.getD x 0)) = false := decide_eq_false (i3 x hlt')
      refine ⟨by unfold InI64; omega, x + 1, by omega, by omega, by omega, ?_, ?_⟩
      · rw [hb, h1']
        have hne' : sameF ((laidAt l (tl.getD x 0 - 1)).1, (laidAt l (tl.getD x 0 - 1)).2.1, (laidAt l (tl.getD x 0 - 1)).2.2.1, (laidAt l (tl.getD x 0 - 1)).2.2.2) ((laidAt l (tl.getD x 0)).1, (laidAt l (tl.getD x 0)).2.1, (laidAt l (tl.getD x 0)).2.2.1, (laidAt l (tl.getD x 0)).2.2.2) = false := hne
        rw [hne']; rfl
      · rw [h1', hw]; (repeat' (first | rfl | trivial | apply And.intro))
    · have hp : 0 < tl.getD x 0 := of_decide_eq_true hp
      have hn : ¬ tl.getD x 0 ≤ n := of_decide_eq_false hn
      rw [if_neg hn] at hw
      have hb : atS s l h (tl.getD x ((Ty.ti IntKind.i64).d0) - 1) = (laidAt l (tl.getD x 0 - 1), 0) := at_valid hv (by show 0 ≤ tl.getD x 0 - 1; omega) (by show tl.getD x 0 - 1 ≤ 1000000000; omega)
      have hne : sameF (laidAt l (tl.getD x 0 - 1)) (laidAt l (tl.getD x 0)) = false := decide_eq_false (i3 x hlt')
      refine ⟨by unfold InI64; omega, x + 1, by omega, by omega, by omega, ?_, ?_⟩
      · rw [hb, h1']
        have hne' : sameF ((laidAt l (tl.getD x 0 - 1)).1, (laidAt l (tl.getD x 0 - 1)).2.1, (laidAt l (tl.getD x 0 - 1)).2.2.1, (laidAt l (tl.getD x 0 - 1)).2.2.2) ((laidAt l (tl.getD x 0)).1, (laidAt l (tl.getD x 0)).2.1, (laidAt l (tl.getD x 0)).2.2.1, (laidAt l (tl.getD x 0)).2.2.2) = false := hne
        rw [hne']; rfl
      · rw [hw]; (repeat' (first | rfl | trivial | apply And.intro))
    · have hn : tl.getD x 0 ≤ n := of_decide_eq_true hn
      rw [if_pos hn] at hw
      refine ⟨by unfold InI64; omega, x + 1, by omega, by omega, by omega, ?_⟩
      rw [h1', hw]; (repeat' (first | rfl | trivial | apply And.intro))
    · have hn : ¬ tl.getD x 0 ≤ n := of_decide_eq_false hn
      rw [if_neg hn] at hw
      refine ⟨by unfold InI64; omega, x + 1, by omega, by omega, by omega, ?_⟩
      rw [hw]; (repeat' (first | rfl | trivial | apply And.intro))
  · have hge' : x = tl.length := by have := of_decide_eq_false hge; omega
    rw [hge', hW]
    have e1 := same_refl (laidAt l n)
    rw [Bool.true_and]
    exact e1

end Go.Proofs.YtfbbkknfcmofcaaDoor
