/- The plain proofs. Written by a program (wip/tools/gen.py). -/
import Derived.Test.YtfbbkknfcmofcaaDoorFrontp
import Derived.Test.YtfbbkknfcmofcaaDoorVq
namespace Go.Proofs.YtfbbkknfcmofcaaDoor
open Go.Sy Go.RatLaw
set_option linter.unusedVariables false
set_option linter.unusedSimpArgs false
theorem p_cmpNan (a : Int) : P_cmpNan a := by unfold P_cmpNan; simp
theorem p_cmpLess (a b : Int) : P_cmpLess a b := by unfold P_cmpLess; simp
theorem p_slNan (a : Int) : P_slNan a := by unfold P_slNan; simp
theorem half_u {z : Int} (h0 : 0 ≤ z) (h1 : z < 9223372036854775808) : shrW .u64 (IntKind.u64.wrap z) 1 = z / 2 := by
  rw [wrap_u64, Int.emod_eq_of_lt h0 (by omega)]
  unfold shrW
  rw [show (2 : Int) ^ (min (1 : Int).toNat IntKind.u64.bits) = 2 from rfl, Int.fdiv_eq_ediv_of_nonneg _ (by omega)]
theorem p_bsI (l : List Int) (n : Int) (hr : rise l) (hl : l.length ≤ 1000000) : P_bsI l n := by
  intro _
  refine ⟨⟨(0, l.length), ⟨Nat.zero_le _, Nat.le_refl _, Nat.zero_le _, below_le n l⟩, rfl, rfl⟩, fun ⟨i, j⟩ ⟨h1, h2, h3, h4⟩ => ⟨fun hlt => ?_, fun hge => ?_⟩⟩
  · simp only at h1 h2 h3 h4 hlt ⊢
    have hlt' : i < j := by have := of_decide_eq_true hlt; omega
    rw [half_u (z := (i : Int) + j) (by omega) (by omega)]
    obtain ⟨m, hm⟩ : ∃ m : Nat, ((i : Int) + j) / 2 = m := ⟨(i + j) / 2, by omega⟩
    rw [hm, tnG]
    have hmi : i ≤ m ∧ m < j := by omega
    have hml : m < l.length := by omega
    refine ⟨by unfold InI64; omega, by omega, by unfold InI64; omega, by omega, by omega, fun hc => ⟨by unfold InI64; omega, (m + 1, j), ⟨by omega, h2, ?_, h4⟩, by omega, by omega, (by first | rfl | trivial), (by first | rfl | trivial), (by first | rfl | trivial), (by first | rfl | trivial), (by first | rfl | trivial), (by first | rfl | trivial)⟩, fun hc => ⟨(i, m), ⟨by omega, by omega, h3, ?_⟩, by omega, (by first | rfl | trivial), (by first | rfl | trivial), (by first | rfl | trivial), (by first | rfl | trivial), (by first | rfl | trivial), (by first | rfl | trivial), (by first | rfl | trivial)⟩⟩
    · show m + 1 ≤ RatLaw.below l n
      apply Nat.lt_of_not_le
      intro hb
      have h5 := below_ge hr hb hml
      have h6 : l.getD m 0 < n := of_decide_eq_true hc
      omega
    · show RatLaw.below l n ≤ m
      apply Nat.le_of_not_lt
      intro hb
      have h5 := below_lt hb
      have h6 : ¬ l.getD m 0 < n := of_decide_eq_false hc
      omega
  · simp only at h1 h2 h3 h4 hge ⊢
    have hge' : i = RatLaw.below l n := by have := of_decide_eq_false hge; omega
    refine ⟨fun q => by have := of_decide_eq_true q; omega, fun q => by have := of_decide_eq_true q.2; omega, by rw [hge'], ?_⟩
    rw [tnG, hge', Bool.eq_iff_iff, has_below hr]
    simp only [Bool.and_eq_true, Bool.or_eq_true, decide_eq_true_iff, Bool.false_and, Bool.false_eq_true, or_false]
    constructor
    · intro ⟨a, b⟩
      exact ⟨by omega, eq_of_beq b⟩
    · intro ⟨a, b⟩
      exact ⟨by omega, beq_iff_eq.2 b⟩
theorem eqIs_no {l m : List Int} (h : l ≠ m) : false = eqIs l m := by unfold eqIs; rw [decide_eq_false h]
theorem p_eqI (l m : List Int) : P_eqI l m := by
  intro _ _
  refine ⟨fun h => eqIs_no (fun e => by subst e; simp at h), fun h _ => ?_⟩
  have hl : l.length = m.length := by simp at h; omega
  refine ⟨⟨0, ⟨by omega, rfl⟩, rfl⟩, fun x ⟨hx, he⟩ => ⟨fun hlt => ?_, fun hge => ?_⟩⟩
  · have hlt' : x < l.length := by have := of_decide_eq_true hlt; omega
    rw [tnG]
    refine ⟨by omega, by omega, by omega, by omega, fun hc => eqIs_no (fun e => by subst e; simp at hc), fun hc => ⟨by unfold InI64; omega, x + 1, ⟨by omega, ?_⟩, by omega, by omega, by (repeat' (first | rfl | trivial | apply And.intro))⟩⟩
    have hc' : l.getD x 0 = m.getD x 0 := bne_eq_false_iff_eq.1 hc
    rw [takeG (0 : Int) hlt', takeG (0 : Int) (by omega), he, hc']
  · have hge' : x = l.length := by have := of_decide_eq_false hge; omega
    subst hge'
    have : l = m := by rw [List.take_length, hl, List.take_length] at he; exact he
    unfold eqIs; rw [decide_eq_true this]
theorem p_rSameI (l m : List Int) : P_rSameI l m := by
  intro _ _
  refine ⟨fun h => eqIs_no (fun e => by subst e; simp at h), fun h => ?_⟩
  have hl : l.length = m.length := by simp at h; omega
  refine ⟨⟨0, ⟨by omega, rfl⟩, rfl⟩, fun x ⟨hx, he⟩ _ => ⟨fun hlt => ?_, fun hge => ?_⟩⟩
  · have hlt' : x < l.length := by have := of_decide_eq_true hlt; omega
    rw [tnG]
    refine ⟨by omega, by omega, by omega, by omega, fun hc => eqIs_no (fun e => by subst e; simp at hc), fun hc => ⟨by unfold InI64; omega, x + 1, ⟨by omega, ?_⟩, by omega, by omega, by (repeat' (first | rfl | trivial | apply And.intro))⟩⟩
    have hc' : l.getD x 0 = m.getD x 0 := bne_eq_false_iff_eq.1 hc
    rw [takeG (0 : Int) hlt', takeG (0 : Int) (by omega), he, hc']
  · have hge' : x = l.length := by have := of_decide_eq_false hge; omega
    subst hge'
    have : l = m := by rw [List.take_length, hl, List.take_length] at he; exact he
    unfold eqIs; rw [decide_eq_true this]
theorem p_clI1 : P_clI1 := ⟨fun _ => ⟨rfl, rfl⟩, (fun h => by cases h)⟩
theorem p_clI2 (l : List Int) (h : l.length ≤ 5000) : P_clI2 l := ⟨(fun h => by cases h), fun _ => ⟨rfl, by omega, by omega, rfl⟩⟩
theorem p_stShow (v e k : Int) (sh : List Int) (t kd a b c g : Int) : P_stShow v e k sh t kd a b c g := ⟨rfl, rfl, rfl, rfl⟩
theorem p_stKnow (v e k : Int) (sh : List Int) (t kd a b c g : Int) : P_stKnow v e k sh t kd a b c g := ⟨rfl, rfl, rfl, rfl⟩
theorem p_stLay (v e k : Int) (sh : List Int) (t kd a b c g : Int) (hr : rise sh) (hl : sh.length ≤ 5000) : P_stLay v e k sh t kd a b c g := by
  have hb := below_le a sh
  refine ⟨hr, by omega, fun h => ⟨hl, rfl, rfl, rfl, by omega, by omega, by omega, rfl, rfl, rfl, ?_⟩, fun h => ⟨rfl, rfl, rfl, ?_⟩⟩
  · rw [Bool.not_eq_true'] at h
    rw [tnG, ← ins_put hr h]; rfl
  · rw [Bool.not_eq_false'] at h
    exact (put_has hr h).symm
theorem p_deeds (v e k : Int) : P_deeds v e k := ⟨by decide, by decide, by decide, by (repeat' (first | rfl | trivial | apply And.intro))⟩
theorem p_at2 (t : Int) : P_at2 t := trivial
theorem p_at1 (t kd a b c g n : Int) : P_at1 t kd a b c g n := ⟨rfl, rfl⟩
theorem p_ixN (l : List En) (n : Int) : P_ixN l n := by
  intro _
  refine ⟨⟨0, ⟨by omega, fun i hi => by omega⟩, rfl⟩, fun x ⟨hx, hn⟩ => ⟨fun hlt => ?_, fun hge => ?_⟩⟩
  · have hlt' : x < l.length := by have := of_decide_eq_true hlt; omega
    rw [tnG]
    refine ⟨by omega, by omega, fun hc => ⟨(gidx_some en0 hlt' hn hc).symm, rfl⟩, fun hc => ⟨by unfold InI64; omega, x + 1, ⟨by omega, fun i hi => ?_⟩, by omega, by omega, by (repeat' (first | rfl | trivial | apply And.intro))⟩⟩
    by_cases hi' : i < x
    · exact hn i hi'
    · have : i = x := by omega
      subst this
      exact hc
  · have hge' : x = l.length := by have := of_decide_eq_false hge; omega
    subst hge'
    exact ⟨(gidx_none en0 hn).symm, rfl⟩
theorem p_chg1 (t pv pe pk : Int) (ps : List Int) (v e k : Int) (sh o : List Int) (n : Nat) (hn : n = o.length) (h8 : (n + 1) * 8 ≤ 140737488355328) : P_chg1 t pv pe pk ps v e k sh o n := by
  unfold P_chg1 sameF stepC
  refine ⟨fun h => ?_, fun h => ?_⟩
  · have hc : ¬ ((pv, (pe, (pk, ps))) = ((v, (e, (k, sh))) : Fr)) := fun q => by rw [decide_eq_true q] at h; cases h
    simp only
    rw [if_neg hc]
    refine ⟨by omega, by omega, ?_⟩
    simp [hn]
  · have hc : ((pv, (pe, (pk, ps))) = ((v, (e, (k, sh))) : Fr)) := by
      rw [Bool.not_eq_false'] at h; exact of_decide_eq_true h
    simp only
    rw [if_pos hc]
    simp [hn]
theorem same_eq (v e k : Int) (sh : List Int) (v' e' k' : Int) (sh' : List Int) : (v == v' && e == e' && k == k' && eqIs sh sh') = sameF (v, (e, (k, sh))) (v', (e', (k', sh'))) := by
  unfold sameF eqIs
  rw [Bool.eq_iff_iff]
  simp only [Bool.and_eq_true, beq_iff_eq, decide_eq_true_iff, Prod.mk.injEq, and_assoc]
theorem p_fsame (v e k : Int) (sh : List Int) (v' e' k' : Int) (sh' : List Int) : P_fsame v e k sh v' e' k' sh' := same_eq ..
theorem p_rSameF (v e k : Int) (sh : List Int) (v' e' k' : Int) (sh' : List Int) : P_rSameF v e k sh v' e' k' sh' := same_eq ..
theorem playA_tail {x n : Nat} {c : Bool} {Q : Nat → Prop} (hx : x < n) (hn : n ≤ 5000) (h : Q (x + 1)) :
    InI64 ((x : Int) + 1) ∧ (((x : Int) + 1 == (n : Int)) = false → InI64 ((x : Int) + 1)) ∧ (((x : Int) + 1 == (n : Int)) = false → 0 ≤ (x : Int) + 1 ∧ (x : Int) + 1 < n) ∧
      ((n : Int) ≤ 9223372036854775807 → (c = true → InI64 ((x : Int) + 1) ∧ ∃ x' : Nat, x' ≤ n ∧ n - x' < n - x ∧ (x : Int) + 1 = x' ∧ Q x') ∧ (c = false → InI64 ((x : Int) + 1) ∧ ∃ x' : Nat, x' ≤ n ∧ n - x' < n - x ∧ (x : Int) + 1 = x' ∧ Q x')) := by
  have hI : InI64 ((x : Int) + 1) := by unfold InI64; omega
  refine ⟨hI, fun _ => hI, fun q => ?_, fun _ => ⟨fun _ => ⟨hI, x + 1, by omega, by omega, by omega, h⟩, fun _ => ⟨hI, x + 1, by omega, by omega, by omega, h⟩⟩⟩
  have : ¬ ((x : Int) + 1 = n) := by simpa using q
  omega
theorem p_playA (v e k : Int) (l : List En) (hl : l.length ≤ 5000) : P_playA v e k l := by
  intro _
  refine ⟨⟨0, by omega, rfl, rfl, rfl, rfl, rfl⟩, fun x hx => ⟨fun hlt => ?_, fun hge => ?_⟩⟩
  · have hlt' : x < l.length := by have := of_decide_eq_true hlt; omega
    have hF := laid_take (v, (e, (k, []))) hlt'
    have hr : rise (laidG (v, (e, (k, []))) (l.take x)).2.2.2 := laid_rise trivial
    have hs := laid_len (f := (v, (e, (k, [])))) (l := l.take x)
    rw [List.length_take] at hs
    have hs' : (laidG (v, (e, (k, []))) (l.take x)).2.2.2.length ≤ 5000 := by simp only [List.length_nil] at hs; omega
    rw [tnG]
    refine ⟨by omega, by omega, fun h1 => ⟨fun _ => ?_, fun q => by cases q⟩, fun h1 => ⟨fun h2 => ⟨fun _ => ⟨hr, hs', ?_⟩, fun q => by cases q⟩, fun h2 => ⟨fun h3 => ⟨fun _ => ?_, fun q => by cases q⟩, fun h3 => ⟨h1, h2, h3, (fun q => by cases q), fun _ => ?_⟩⟩⟩⟩
    · replace hF := hF.trans (do1 h1)
      refine playA_tail hlt' hl ⟨rfl, rfl, rfl, rfl, ?_, ?_, ?_, ?_, by (repeat' (first | rfl | trivial | apply And.intro))⟩ <;> first | (rw [hF]; done) | (rw [hF]; rfl)
    · replace hF := hF.trans (do2 h1 h2)
      refine playA_tail hlt' hl ⟨rfl, rfl, rfl, rfl, ?_, ?_, ?_, ?_, by (repeat' (first | rfl | trivial | apply And.intro))⟩ <;> first | (rw [hF]; done) | (rw [hF]; rfl)
    · replace hF := hF.trans (do3 h1 h2 h3)
      refine playA_tail hlt' hl ⟨rfl, rfl, rfl, rfl, ?_, ?_, ?_, ?_, by (repeat' (first | rfl | trivial | apply And.intro))⟩ <;> first | (rw [hF]; done) | (rw [hF]; rfl)
    · replace hF := hF.trans (do4 h1 h2 h3)
      refine playA_tail hlt' hl ⟨rfl, rfl, rfl, rfl, ?_, ?_, ?_, ?_, by (repeat' (first | rfl | trivial | apply And.intro))⟩ <;> first | (rw [hF]; done) | (rw [hF]; rfl)
  · have hge' : x = l.length := by have := of_decide_eq_false hge; omega
    subst hge'
    rw [List.take_length]
    exact ⟨rfl, rfl, rfl, rfl⟩
theorem playC_tail {x n : Nat} {c : Bool} {A1 A2 : Prop} {Q1 Q2 : Nat → Prop} (hx : x < n) (hn : n ≤ 5000) (h1 : c = true → A1 ∧ A2 ∧ Q1 (x + 1)) (h2 : c = false → Q2 (x + 1)) :
    InI64 ((x : Int) + 1) ∧ (((x : Int) + 1 == (n : Int)) = false → InI64 ((x : Int) + 1)) ∧ (((x : Int) + 1 == (n : Int)) = false → 0 ≤ (x : Int) + 1 ∧ (x : Int) + 1 < n) ∧
      ((n : Int) ≤ 9223372036854775807 → (c = true → A1 ∧ A2 ∧ InI64 ((x : Int) + 1) ∧ ∃ x' : Nat, x' ≤ n ∧ n - x' < n - x ∧ (x : Int) + 1 = x' ∧ Q1 x') ∧ (c = false → InI64 ((x : Int) + 1) ∧ ∃ x' : Nat, x' ≤ n ∧ n - x' < n - x ∧ (x : Int) + 1 = x' ∧ Q2 x')) := by
  have hI : InI64 ((x : Int) + 1) := by unfold InI64; omega
  refine ⟨hI, fun _ => hI, fun q => ?_, fun _ => ⟨fun q => ⟨(h1 q).1, (h1 q).2.1, hI, x + 1, by omega, by omega, by omega, (h1 q).2.2⟩, fun q => ⟨hI, x + 1, by omega, by omega, by omega, h2 q⟩⟩⟩
  have : ¬ ((x : Int) + 1 = n) := by simpa using q
  omega
theorem pst_yes {l : List En} {f : Fr} {s : List Int × Fr} {x : Nat} {G : Fr} (hc : ((x : Int) + 1 == (l.length : Int) || decide ((l.getD ((x : Int) + 1).toNat en0).1 > (l.getD x en0).1)) = true) (hF : laidG f (l.take (x + 1)) = G) :
    pst l f s (x + 1) = stepC (pst l f s x) (l.getD x en0).1 G := by
  show (if _ then _ else _) = _
  rw [if_pos, hF]; rfl
  rw [Bool.or_eq_true, beq_iff_eq, decide_eq_true_iff, show ((x : Int) + 1).toNat = x + 1 by omega] at hc
  exact hc.imp (fun h => by omega) id
theorem pst_no {l : List En} {f : Fr} {s : List Int × Fr} {x : Nat} (hc : ((x : Int) + 1 == (l.length : Int) || decide ((l.getD ((x : Int) + 1).toNat en0).1 > (l.getD x en0).1)) = false) :
    pst l f s (x + 1) = pst l f s x := by
  show (if _ then _ else _) = _
  rw [if_neg]
  rw [Bool.or_eq_false_iff, beq_eq_false_iff_ne, decide_eq_false_iff_not, show ((x : Int) + 1).toNat = x + 1 by omega] at hc
  exact fun h => h.elim (fun h => hc.1 (by omega)) hc.2
theorem p_playC (v e k : Int) (l : List En) (pv pe pk : Int) (o : List Int) (n : Nat) (hl : l.length ≤ 5000) (hn : n = o.length) (ho : o.length ≤ 5000) : P_playC v e k l pv pe pk o n := by
  intro _
  refine ⟨⟨0, by omega, rfl, rfl, rfl, rfl, rfl, rfl, rfl, rfl, rfl, rfl, hn⟩, fun x hx => ⟨fun hlt => ?_, fun hge => ?_⟩⟩
  · have hlt' : x < l.length := by have := of_decide_eq_true hlt; omega
    have hF := laid_take (v, (e, (k, []))) hlt'
    have hr : rise (laidG (v, (e, (k, []))) (l.take x)).2.2.2 := laid_rise trivial
    have hs := laid_len (f := (v, (e, (k, [])))) (l := l.take x)
    rw [List.length_take] at hs
    have hs' : (laidG (v, (e, (k, []))) (l.take x)).2.2.2.length ≤ 5000 := by simp only [List.length_nil] at hs; omega
    have hq := pst_len (l := l) (f := (v, (e, (k, [])))) (x := (o, (pv, (pe, (pk, []))))) x
    simp only at hq
    have h8 : ((pst l (v, (e, (k, []))) (o, (pv, (pe, (pk, [])))) x).1.length + 1) * 8 ≤ 140737488355328 := by omega
    rw [tnG]
    refine ⟨by omega, by omega, fun h1 => ⟨fun _ => ?_, fun q => by cases q⟩, fun h1 => ⟨fun h2 => ⟨fun _ => ⟨hr, hs', ?_⟩, fun q => by cases q⟩, fun h2 => ⟨fun h3 => ⟨fun _ => ?_, fun q => by cases q⟩, fun h3 => ⟨h1, h2, h3, (fun q => by cases q), fun _ => ?_⟩⟩⟩⟩
    · replace hF := hF.trans (do1 h1)
      refine playC_tail hlt' hl (fun hc => ⟨rfl, h8, ?_⟩) (fun hc => ?_)
      · have hP := pst_yes (s := (o, (pv, (pe, (pk, []))))) hc hF
        refine ⟨rfl, rfl, rfl, rfl, ?_, ?_, ?_, ?_, ?_, ?_, ?_, ?_, ?_, ?_, by (repeat' (first | rfl | trivial | apply And.intro))⟩ <;> first | (rw [hF]; done) | (rw [hF]; rfl) | (rw [hP]; done) | (rw [hP]; rfl)
      · have hP := pst_no (f := (v, (e, (k, [])))) (s := (o, (pv, (pe, (pk, []))))) hc
        refine ⟨rfl, rfl, rfl, rfl, ?_, ?_, ?_, ?_, ?_, ?_, ?_, ?_, ?_, ?_, by (repeat' (first | rfl | trivial | apply And.intro))⟩ <;> first | (rw [hF]; done) | (rw [hF]; rfl) | (rw [hP]; done) | (rw [hP]; rfl)
    · replace hF := hF.trans (do2 h1 h2)
      refine playC_tail hlt' hl (fun hc => ⟨rfl, h8, ?_⟩) (fun hc => ?_)
      · have hP := pst_yes (s := (o, (pv, (pe, (pk, []))))) hc hF
        refine ⟨rfl, rfl, rfl, rfl, ?_, ?_, ?_, ?_, ?_, ?_, ?_, ?_, ?_, ?_, by (repeat' (first | rfl | trivial | apply And.intro))⟩ <;> first | (rw [hF]; done) | (rw [hF]; rfl) | (rw [hP]; done) | (rw [hP]; rfl)
      · have hP := pst_no (f := (v, (e, (k, [])))) (s := (o, (pv, (pe, (pk, []))))) hc
        refine ⟨rfl, rfl, rfl, rfl, ?_, ?_, ?_, ?_, ?_, ?_, ?_, ?_, ?_, ?_, by (repeat' (first | rfl | trivial | apply And.intro))⟩ <;> first | (rw [hF]; done) | (rw [hF]; rfl) | (rw [hP]; done) | (rw [hP]; rfl)
    · replace hF := hF.trans (do3 h1 h2 h3)
      refine playC_tail hlt' hl (fun hc => ⟨rfl, h8, ?_⟩) (fun hc => ?_)
      · have hP := pst_yes (s := (o, (pv, (pe, (pk, []))))) hc hF
        refine ⟨rfl, rfl, rfl, rfl, ?_, ?_, ?_, ?_, ?_, ?_, ?_, ?_, ?_, ?_, by (repeat' (first | rfl | trivial | apply And.intro))⟩ <;> first | (rw [hF]; done) | (rw [hF]; rfl) | (rw [hP]; done) | (rw [hP]; rfl)
      · have hP := pst_no (f := (v, (e, (k, [])))) (s := (o, (pv, (pe, (pk, []))))) hc
        refine ⟨rfl, rfl, rfl, rfl, ?_, ?_, ?_, ?_, ?_, ?_, ?_, ?_, ?_, ?_, by (repeat' (first | rfl | trivial | apply And.intro))⟩ <;> first | (rw [hF]; done) | (rw [hF]; rfl) | (rw [hP]; done) | (rw [hP]; rfl)
    · replace hF := hF.trans (do4 h1 h2 h3)
      refine playC_tail hlt' hl (fun hc => ⟨rfl, h8, ?_⟩) (fun hc => ?_)
      · have hP := pst_yes (s := (o, (pv, (pe, (pk, []))))) hc hF
        refine ⟨rfl, rfl, rfl, rfl, ?_, ?_, ?_, ?_, ?_, ?_, ?_, ?_, ?_, ?_, by (repeat' (first | rfl | trivial | apply And.intro))⟩ <;> first | (rw [hF]; done) | (rw [hF]; rfl) | (rw [hP]; done) | (rw [hP]; rfl)
      · have hP := pst_no (f := (v, (e, (k, [])))) (s := (o, (pv, (pe, (pk, []))))) hc
        refine ⟨rfl, rfl, rfl, rfl, ?_, ?_, ?_, ?_, ?_, ?_, ?_, ?_, ?_, ?_, by (repeat' (first | rfl | trivial | apply And.intro))⟩ <;> first | (rw [hF]; done) | (rw [hF]; rfl) | (rw [hP]; done) | (rw [hP]; rfl)
  · have hge' : x = l.length := by have := of_decide_eq_false hge; omega
    subst hge'
    rw [List.take_length]
    (repeat' (first | rfl | trivial | apply And.intro))
theorem at_no {s : Int} {l : List En} {h n : Int} (e : (!logB s l h || decide (n < 0) || decide (n > 1000000000)) = true) : atS s l h n = (f0, 1) := by
  unfold atS
  rw [if_neg]
  intro q
  rw [Bool.and_eq_true] at q
  have hn := rngB_i q.2
  simp only [q.1, Bool.not_true, Bool.false_or, Bool.or_eq_true, decide_eq_true_iff] at e
  omega
theorem at_yes {s : Int} {l : List En} {h n : Int} (e : (!logB s l h || decide (n < 0) || decide (n > 1000000000)) = false) : logB s l h = true ∧ atS s l h n = (laidAt l n, 0) := by
  simp only [Bool.or_eq_false_iff, Bool.not_eq_false', decide_eq_false_iff_not] at e
  refine ⟨e.1.1, ?_⟩
  unfold atS
  rw [if_pos]
  unfold rngB
  rw [e.1.1, decide_eq_true (show (0 : Int) ≤ n by omega), decide_eq_true (show n ≤ 1000000000 by omega)]; rfl
theorem p_fAt (s : Int) (l : List En) (h n : Int) (hs : InI64 s) (hi : inE l) : P_fAt s l h n := by
  refine ⟨hs, hi, fun e => by rw [at_no e]; exact ⟨rfl, rfl, rfl, rfl, rfl⟩, fun e => ?_⟩
  obtain ⟨hv, ha⟩ := at_yes e
  obtain ⟨_, h5, he, _⟩ := log_ents hv
  have hc := cut_le n l
  have hg := gidx_cut (n := n) l
  have hL := laidAt_cut (n := n) he
  rw [ha]
  refine ⟨fun q _ => ?_, fun q => ?_⟩
  · have q := of_decide_eq_true q
    have hcl : cutN n l = l.length := by
      rw [hg] at q
      split at q
      · assumption
      · omega
    have hd : List.drop (Int.toNat 0) (List.take ((l.length : Int)).toNat l) = l := by rw [tnG, List.take_length]; rfl
    rw [hcl, List.take_length] at hL
    rw [hd]
    have hL' : laidG (0, 0, 0, []) l = laidAt l n := hL.symm
    rw [hL']
    exact ⟨by omega, by omega, by omega, h5, rfl, rfl, rfl, rfl, rfl⟩
  · have q := of_decide_eq_false q
    have hcl : gidx (laterB n) l = (cutN n l : Int) := by
      rw [hg] at q ⊢
      split at q
      · omega
      · rename_i z; rw [if_neg z]
    rw [hcl]
    have hd : List.drop (Int.toNat 0) (List.take ((cutN n l : Int)).toNat l) = l.take (cutN n l) := by rw [tnG]; rfl
    rw [hd]
    have hL' : laidG (0, 0, 0, []) (l.take (cutN n l)) = laidAt l n := hL.symm
    rw [hL']
    exact ⟨by omega, by omega, by omega, by rw [List.length_take]; omega, rfl, rfl, rfl, rfl, rfl⟩
theorem p_fChanges (s : Int) (l : List En) (h : Int) (hs : InI64 s) (hi : inE l) : P_fChanges s l h := by
  refine ⟨hs, hi, fun e => ?_, fun e => ?_⟩
  · rw [Bool.not_eq_true'] at e
    unfold chS
    rw [if_neg (by rw [e]; simp)]
    exact ⟨rfl, rfl⟩
  · rw [Bool.not_eq_false'] at e
    obtain ⟨_, h5, he, _⟩ := log_ents e
    unfold chS
    rw [if_pos e, ← pst_all he]
    exact ⟨h5, rfl, by omega, rfl, rfl⟩
theorem p_rPut (l : List Int) (n : Int) (hr : rise l) (hl : l.length ≤ 100000) : P_rPut l n := by
  refine ⟨⟨0, ⟨by omega, rfl⟩, rfl, rfl, rfl, rfl⟩, fun x ⟨hx, hn⟩ _ => ⟨fun hlt => ?_, fun hge => ?_⟩⟩
  · have hlt' : x < l.length := by have := of_decide_eq_true hlt; omega
    have hp := putSt_snoc (n := n) hlt'
    have hlen := putSt_len (n := n) (l := l.take x)
    rw [List.length_take] at hlen
    rw [tnG]
    refine ⟨by omega, by omega, fun hc => ?_, fun hc => ⟨fun _ => ⟨by omega, by omega⟩, fun hq => ?_, fun hq => ?_⟩⟩
    · have : l.getD x 0 = n := eq_of_beq hc
      exact (put_has hr (has_mem.2 (this ▸ memG 0 hlt'))).symm
    · have hc' : l.getD x 0 ≠ n := fun e => by have := beq_eq_false_iff_ne.1 hc; exact this e
      rw [Bool.and_eq_true, Bool.not_eq_true'] at hq
      have hF : putSt n (l.take (x + 1)) = ((putSt n (l.take x)).1 ++ [n] ++ [l.getD x 0], true) := by
        rw [hp]; unfold putF; rw [if_pos ⟨hq.1, of_decide_eq_true hq.2⟩]
      refine ⟨rfl, by omega, by omega, by omega, by simp, by omega, by unfold InI64; omega, x + 1, ⟨by omega, has_take hlt' hn hc'⟩, by omega, by omega, by rw [hF], by rw [hF]; rfl, rfl, rfl, by rw [hF]; simp, rfl⟩
    · have hc' : l.getD x 0 ≠ n := fun e => by have := beq_eq_false_iff_ne.1 hc; exact this e
      have hF : putSt n (l.take (x + 1)) = ((putSt n (l.take x)).1 ++ [l.getD x 0], (putSt n (l.take x)).2) := by
        rw [hp]; unfold putF; rw [if_neg]
        intro z
        rw [z.1, Bool.not_false, Bool.true_and] at hq
        exact of_decide_eq_false hq z.2
      refine ⟨by omega, by omega, rfl, by omega, by unfold InI64; omega, x + 1, ⟨by omega, has_take hlt' hn hc'⟩, by omega, by omega, by rw [hF], by rw [hF]; rfl, rfl, rfl, by rw [hF]; simp, rfl⟩
  · have hge' : x = l.length := by have := of_decide_eq_false hge; omega
    subst hge'
    rw [List.take_length] at hn ⊢
    have he := putSt_end hn
    have hlen := putSt_len (n := n) (l := l)
    refine ⟨fun q => ⟨rfl, by omega, ?_⟩, fun q => ?_⟩
    · rw [Bool.not_eq_true'] at q
      rw [q] at he; exact he
    · rw [Bool.not_eq_false'] at q
      rw [q] at he; simpa using he
theorem p_rLaid (s : Int) (l : List En) (h n : Int) (hl : l.length ≤ 5000) : P_rLaid s l h n := by
  refine ⟨⟨0, by omega, rfl, rfl, rfl, rfl, rfl⟩, fun x hx _ => ⟨fun hlt => ?_, fun hge => ?_⟩⟩
  · have hlt' : x < l.length := by have := of_decide_eq_true hlt; omega
    have hF := laidAt_snoc (n := n) hlt'
    have hI : InI64 ((x : Int) + 1) := by unfold InI64; omega
    have hle := laidAt_len (l := l.take x) (n := n)
    rw [List.length_take] at hle
    rw [tnG]
    refine ⟨by omega, by omega, fun hc => ?_, fun hc => ⟨fun h1 => ?_, fun h1 => ⟨fun h2 => ⟨laidAt_rise, by omega, ?_⟩, fun h2 => ⟨fun h3 => ?_, fun h3 => ?_⟩⟩⟩⟩
    · have hc : ¬ tmE l x ≤ n := by have : (l.getD x en0).1 > n := of_decide_eq_true hc; unfold tmE; omega
      rw [if_neg hc] at hF
      refine ⟨hI, x + 1, by omega, by omega, by omega, ?_⟩
      rw [hF]; (repeat' (first | rfl | trivial | apply And.intro))
    all_goals
      have hc : tmE l x ≤ n := by have : ¬ (l.getD x en0).1 > n := of_decide_eq_false hc; unfold tmE; omega
      rw [if_pos hc] at hF
    · have h1 : (l.getD x en0).2.1 = 1 := eq_of_beq h1
      replace hF := hF.trans (do1 h1)
      refine ⟨hI, x + 1, by omega, by omega, by omega, ?_⟩
      rw [hF]; (repeat' (first | rfl | trivial | apply And.intro))
    all_goals have h1 : (l.getD x en0).2.1 ≠ 1 := beq_eq_false_iff_ne.1 h1
    · have h2 : (l.getD x en0).2.1 = 2 := eq_of_beq h2
      replace hF := hF.trans (do2 h1 h2)
      refine ⟨hI, x + 1, by omega, by omega, by omega, ?_⟩
      rw [hF]; (repeat' (first | rfl | trivial | apply And.intro))
    all_goals have h2 : (l.getD x en0).2.1 ≠ 2 := beq_eq_false_iff_ne.1 h2
    · have h3 : (l.getD x en0).2.1 = 3 := eq_of_beq h3
      replace hF := hF.trans (do3 h1 h2 h3)
      refine ⟨hI, x + 1, by omega, by omega, by omega, ?_⟩
      rw [hF]; (repeat' (first | rfl | trivial | apply And.intro))
    · have h3 : (l.getD x en0).2.1 ≠ 3 := beq_eq_false_iff_ne.1 h3
      replace hF := hF.trans (do4 h1 h2 h3)
      refine ⟨hI, x + 1, by omega, by omega, by omega, ?_⟩
      rw [hF]; (repeat' (first | rfl | trivial | apply And.intro))
  · have hge' : x = l.length := by have := of_decide_eq_false hge; omega
    subst hge'
    rw [List.take_length]
    exact ⟨rfl, rfl, rfl, rfl⟩
theorem p_rAt (s : Int) (l : List En) (h n : Int) (hs : InI64 s) (hi : inE l) : P_rAt s l h n := by
  refine ⟨hs, hi, fun e => by rw [at_no e]; exact ⟨rfl, rfl, rfl, rfl, rfl⟩, fun e => ?_⟩
  obtain ⟨hv, ha⟩ := at_yes e
  rw [ha]
  exact ⟨(log_ents hv).2.1, rfl, rfl, rfl, rfl, rfl⟩
theorem p_rChanges (s : Int) (l : List En) (h : Int) (hs : InI64 s) (hi : inE l) : P_rChanges s l h := by
  refine ⟨hs, hi, fun e => ?_, fun e => ⟨⟨0, by omega, rfl, rfl, rfl, rfl, rfl, rfl, rfl⟩, fun x hx _ => ⟨fun hlt => ?_, fun hge => ?_⟩⟩⟩
  · rw [Bool.not_eq_true'] at e
    unfold chS
    rw [if_neg (by rw [e]; simp)]
    exact ⟨rfl, rfl⟩
  · have hlt' : x < l.length := by have := of_decide_eq_true hlt; omega
    rw [Bool.not_eq_false'] at e
    have h5 := (log_ents e).2.1
    have hI : InI64 ((x : Int) + 1) := by unfold InI64; omega
    have hle := rst_len (l := l) x
    have hS : rst l (x + 1) = stepC (rst l x) (tmE l x) (laidAt l (tmE l x)) := rfl
    rw [tnG]
    refine ⟨by omega, by omega, h5, fun hc => ?_, fun hc => ?_⟩
    · have hc : ¬ ((rst l x).2 = laidAt l (tmE l x)) := by
        intro q
        rw [Bool.not_eq_true'] at hc
        exact of_decide_eq_false hc q
      unfold stepC at hS
      rw [if_neg hc] at hS
      refine ⟨by omega, by omega, rfl, by omega, hI, x + 1, by omega, by omega, by omega, ?_⟩
      rw [hS]
      (repeat' (first | rfl | trivial | apply And.intro))
      simp
    · have hc : ((rst l x).2 = laidAt l (tmE l x)) := by
        rw [Bool.not_eq_false'] at hc
        exact of_decide_eq_true hc
      unfold stepC at hS
      rw [if_pos hc] at hS
      refine ⟨hI, x + 1, by omega, by omega, by omega, ?_⟩
      rw [hS]; (repeat' (first | rfl | trivial | apply And.intro))
  · have hge' : x = l.length := by have := of_decide_eq_false hge; omega
    subst hge'
    rw [Bool.not_eq_false'] at e
    unfold chS
    rw [if_pos e]
    exact ⟨rfl, rfl⟩

end Go.Proofs.YtfbbkknfcmofcaaDoor
