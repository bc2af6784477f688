/- The plain proofs. Written by a program (wip/tools/gen.py). -/
import Derived.Test.YtfbbkknfcmofcaaDoorFrontqp
import Derived.Test.YtfbbkknfcmofcaaDoorVs
namespace Go.Proofs.YtfbbkknfcmofcaaDoor
open Go.Sy Go.RatLaw
set_option linter.unusedVariables false
set_option linter.unusedSimpArgs false
theorem p_FLast (s : Int) (l : List En) (h : Int) (hs : InI64 s) (hi : inE l) : P_FLast s l h := by
  refine ⟨fun _ => rfl, fun hc => ⟨hs, hi, fun he => ⟨fun _ => ⟨hs, hi⟩, ?_⟩, fun he hl => ?_⟩⟩
  · cases hv : logB s l h with
    | false => rfl
    | true => rw [at_valid hv (by omega) (by omega)] at he; simp at he
  · rw [Bool.not_eq_false'] at hc
    have h60 := of_decide_eq_true hc
    have hv : logB s l h = true := by
      cases hq : logB s l h with
      | true => rfl
      | false =>
        have : atS s l h 1000000000 = (f0, 1) := at_no (by rw [hq]; rfl)
        rw [this] at he; simp at he
    have hE := (log_ents hv).2.2.1
    have ha := at_valid (n := 1000000000) hv (by omega) (by omega)
    have hL : laidAt l 1000000000 = laidF l := laidAt_all fun e he => (ent_time' (ents_mem hE e he)).2
    have hS := last_F (l := l) fun e he h1 => ent_show (ents_mem hE e he) h1
    have hK := know_eq l
    rw [hL] at ha
    rw [ha]
    refine ⟨by unfold InI64; omega, ⟨l.length, Nat.le_refl _, rfl, by rw [List.drop_length]; rfl, by rw [List.drop_length]; rfl, rfl, rfl⟩, fun x hx => ⟨fun hlt => ?_, fun hge _ => ⟨⟨0, by omega, rfl, ?_, ?_, rfl, rfl⟩, fun y hy => ⟨fun hlt => ?_, fun hge2 => ?_⟩⟩⟩⟩
    · have hx0 : 0 < x := by have := of_decide_eq_true hlt; omega
      have et : ((x : Int) - 1).toNat = x - 1 := by omega
      have hd : l.drop (x - 1) = l.getD (x - 1) en0 :: l.drop x := by
        have := dropG en0 (show x - 1 < l.length by omega)
        rwa [show x - 1 + 1 = x by omega] at this
      have hc : lastS (l.drop (x - 1)) = if (l.getD (x - 1) en0).2.1 = 1 ∧ (lastS (l.drop x)).1 = 0 then ((l.getD (x - 1) en0).2.2.1, (l.getD (x - 1) en0).2.2.2.1) else lastS (l.drop x) := by rw [hd, last_cons]
      rw [et]
      refine ⟨by omega, by omega, fun hq => ⟨by unfold InI64; omega, x - 1, by omega, by omega, by omega, ?_⟩, fun hq => ⟨by unfold InI64; omega, x - 1, by omega, by omega, by omega, ?_⟩⟩
      · rw [Bool.and_eq_true] at hq
        have : (l.getD (x - 1) en0).2.1 = 1 ∧ (lastS (l.drop x)).1 = 0 := ⟨eq_of_beq hq.1, eq_of_beq hq.2⟩
        rw [if_pos this] at hc
        rw [hc]; (repeat' (first | rfl | trivial | apply And.intro))
      · have : ¬ ((l.getD (x - 1) en0).2.1 = 1 ∧ (lastS (l.drop x)).1 = 0) := fun q => by
          have q1 : ((l.getD (x - 1) en0).2.1 == 1) = true := beq_iff_eq.2 q.1
          have q2 : ((lastS (l.drop x)).1 == 0) = true := beq_iff_eq.2 q.2
          have hq' : ((l.getD (x - 1) en0).2.1 == 1 && (lastS (l.drop x)).1 == 0) = false := hq
          rw [q1, q2] at hq'; cases hq'
        rw [if_neg this] at hc
        rw [hc]; (repeat' (first | rfl | trivial | apply And.intro))
    · have : x = 0 := by have := of_decide_eq_false hge; omega
      subst this; rfl
    · have : x = 0 := by have := of_decide_eq_false hge; omega
      subst this; rfl
    · have hlt' : y < l.length := by have := of_decide_eq_true hlt; omega
      have hk := know_snoc hlt'
      rw [tnG]
      refine ⟨by omega, by omega, fun hq => ⟨by unfold InI64; omega, y + 1, by omega, by omega, by omega, ?_⟩, fun hq => ⟨by unfold InI64; omega, y + 1, by omega, by omega, by omega, ?_⟩⟩
      · have : (l.getD y en0).2.1 = 3 := eq_of_beq hq
        rw [if_pos this] at hk
        rw [hk]; (repeat' (first | rfl | trivial | apply And.intro))
      · have : (l.getD y en0).2.1 ≠ 3 := beq_eq_false_iff_ne.1 hq
        rw [if_neg this] at hk
        rw [hk]; (repeat' (first | rfl | trivial | apply And.intro))
    · have : y = l.length := by have := of_decide_eq_false hge2; omega
      subst this
      rw [List.take_length, ← hS, ← hK]
      exact same_refl _

end Go.Proofs.YtfbbkknfcmofcaaDoor
