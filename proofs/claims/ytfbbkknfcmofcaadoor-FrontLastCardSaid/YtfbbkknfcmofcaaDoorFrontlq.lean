/- The plain proofs. Written by a program (wip/tools/gen.py). -/
import Derived.Test.YtfbbkknfcmofcaaDoorFrontlp
import Derived.Test.YtfbbkknfcmofcaaDoorSv
namespace Go.Proofs.YtfbbkknfcmofcaaDoor
open Go.Sy Go.RatLaw
set_option linter.unusedVariables false
set_option linter.unusedSimpArgs false
theorem p_fhas (l : List Int) (n : Int) : P_fhas l n := by
  refine ⟨⟨0, ⟨by omega, rfl⟩, rfl⟩, fun x ⟨hx, hn⟩ _ => ⟨fun hlt => ?_, fun hge => ?_⟩⟩
  · have hlt' : x < l.length := by have := of_decide_eq_true hlt; omega
    rw [tnG]
    refine ⟨by omega, by omega, fun hc => ?_, fun hc => ⟨by unfold InI64; omega, x + 1, ⟨by omega, ?_⟩, by omega, by omega, by (repeat' (first | rfl | trivial | apply And.intro))⟩⟩
    · have : l.getD x 0 = n := eq_of_beq hc
      exact (has_mem.2 (this ▸ memG 0 hlt')).symm
    · exact has_take hlt' hn (beq_eq_false_iff_ne.1 hc)
  · have hge' : x = l.length := by have := of_decide_eq_false hge; omega
    subst hge'
    rw [List.take_length] at hn
    exact hn.symm
theorem head_ents (x : Nat) (hx : x ≤ 5) : entsFrom 0 (hE.take x) = true ∧ (hE.take x).length = x := by
  have key : ∀ x ∈ List.range 6, entsFrom 0 (hE.take x) = true ∧ (hE.take x).length = x := by decide
  exact key x (by simp; omega)
theorem head_log (x : Nat) (hx : x ≤ 5) : logB 1 (hE.take x) (chainE 1 (hE.take x)) = true := log_mk (by decide) (by have := (head_ents x hx).2; omega) (head_ents x hx).1 rfl
theorem head_in : inE hE := fun e he => by
  have : ∀ e ∈ hE, (0 ≤ e.1 ∧ e.1 ≤ 9) ∧ (0 ≤ e.2.1 ∧ e.2.1 ≤ 9) ∧ (0 ≤ e.2.2.1 ∧ e.2.2.1 ≤ 9) ∧ (0 ≤ e.2.2.2.1 ∧ e.2.2.2.1 ≤ 9) ∧ (0 ≤ e.2.2.2.2.1 ∧ e.2.2.2.2.1 ≤ 9) ∧ (0 ≤ e.2.2.2.2.2 ∧ e.2.2.2.2.2 ≤ 9) := by decide
  have := this e he
  unfold InI64; omega
theorem head_step (x : Nat) (hx : x < 5) : appS 1 (hE.take x) (chainE 1 (hE.take x)) (hE.getD x en0) = ((1, (hE.take (x + 1), chainE 1 (hE.take (x + 1)))), 0) := by
  have h1 := head_log x (by omega)
  have h2 := (head_ents x (by omega)).2
  have key : ∀ x ∈ List.range 5, entB (hE.getD x en0) = true ∧ lastE (hE.take x) x ≤ (hE.getD x en0).1 := by decide
  obtain ⟨k1, k2⟩ := key x (by simp; omega)
  have ht := takeG en0 (show x < hE.length from hx)
  have := app_ok (t := (hE.getD x en0).1) (k := (hE.getD x en0).2.1) (a := (hE.getD x en0).2.2.1) (b := (hE.getD x en0).2.2.2.1) (c := (hE.getD x en0).2.2.2.2.1) (g := (hE.getD x en0).2.2.2.2.2) h1 (by omega) k1 (by rw [h2]; omega)
  rw [ht]
  exact this
theorem head_round (x : Nat) (hx : x < 5) (e : En) (he : e = hE.getD x en0) : 0 ≤ (x : Int) ∧ (x : Int) < 5 ∧ InI64 1 ∧ inE (hE.take x) ∧ InI64 e.1 ∧ (0 ≤ e.2.2.2.2.2 ∧ e.2.2.2.2.2 < 18446744073709551616) ∧
    (((appS 1 (hE.take x) (chainE 1 (hE.take x)) e).2 != 0) = true → false = true) ∧
    (((appS 1 (hE.take x) (chainE 1 (hE.take x)) e).2 != 0) = false → InI64 ((x : Int) + 1) ∧ ∃ x' : Nat, x' ≤ 5 ∧ 5 - x' < 5 - x ∧ (x : Int) + 1 = x' ∧ (5 : Int) = 5 ∧ hE = hE ∧ (appS 1 (hE.take x) (chainE 1 (hE.take x)) e).1.1 = 1 ∧ (appS 1 (hE.take x) (chainE 1 (hE.take x)) e).1.2.1 = hE.take x' ∧ (appS 1 (hE.take x) (chainE 1 (hE.take x)) e).1.2.2 = chainE 1 (hE.take x') ∧ 5 = 5) := by
  have hm := head_in _ (memG en0 (show x < hE.length from hx))
  rw [← he] at hm
  rw [he, head_step x hx, ← he]
  have hI : InI64 ((x : Int) + 1) := by unfold InI64; omega
  have hI1 : InI64 1 := by unfold InI64; omega
  refine ⟨by omega, by omega, hI1, inE_take head_in, hm.1, hm.2.2.2.2.2, fun h => ?_, fun _ => ⟨hI, x + 1, by omega, by omega, by omega, rfl, rfl, ?_, ?_, ?_, rfl⟩⟩
  · simp at h
  all_goals simp only
theorem head_at (n : Int) (hn : rngB n 0 1000000000 = true) : atS 1 hE (chainE 1 hE) n = (laidAt hE n, 0) := by
  have h := head_log 5 (by omega)
  unfold atS
  rw [if_pos (by rw [show logB 1 hE (chainE 1 hE) = true from h, hn]; rfl)]
theorem head_end : ((atS 1 hE (chainE 1 hE) 5).2 == 0 && (atS 1 hE (chainE 1 hE) 8).2 == 0 && (atS 1 hE (chainE 1 hE) 2).2 == 0 && (chS 1 hE (chainE 1 hE)).2 == 0 && (atS 1 hE (chainE 1 hE) (-1)).2 == 1 && (chS 0 [] 0).2 == 1 &&
    sameF (atS 1 hE (chainE 1 hE) 5).1 (1, 2, 0, [7, 9]) && sameF (atS 1 hE (chainE 1 hE) 8).1 (2, 2, 2, []) && sameF (atS 1 hE (chainE 1 hE) 2).1 (0, 0, 0, []) && eqIs (chS 1 hE (chainE 1 hE)).1 [3, 4, 6, 8]) = true := by
  have h : logB 1 hE (chainE 1 hE) = true := head_log 5 (by omega)
  have hc : chS 1 hE (chainE 1 hE) = ([3, 4, 6, 8], 0) := by
    unfold chS
    rw [if_pos h]
    rw [show (rst hE hE.length).1 = [3, 4, 6, 8] by decide +kernel]
  have h5 : laidAt hE 5 = (1, 2, 0, [7, 9]) := by decide +kernel
  have h8 : laidAt hE 8 = (2, 2, 2, []) := by decide +kernel
  have h2 : laidAt hE 2 = (0, 0, 0, []) := by decide +kernel
  have hm : atS 1 hE (chainE 1 hE) (-1) = (f0, 1) := at_no (by simp)
  have h0 : chS 0 [] 0 = ([], 1) := by decide
  rw [head_at 5 (by decide), head_at 8 (by decide), head_at 2 (by decide), hc, hm, h0, h5, h8, h2]
  decide
theorem p_fhead : P_fhead := by
  intro _
  refine ⟨⟨0, by omega, rfl, rfl, rfl, rfl⟩, fun x hx => ⟨fun hlt => ?_, fun hge => ?_⟩⟩
  · have hlt' : x < 5 := by have := of_decide_eq_true hlt; omega
    rw [tnG]
    exact head_round x hlt' _ rfl
  · have hge' : x = 5 := by have := of_decide_eq_false hge; omega
    subst hge'
    have hI : InI64 1 := by unfold InI64; omega
    have hh : inE (hE.take 5) := head_in
    exact ⟨hI, hh, hI, hh, hI, hh, hI, hh, hI, hh, by unfold InI64; omega, fun e h => (by cases h), head_end⟩

end Go.Proofs.YtfbbkknfcmofcaaDoor
