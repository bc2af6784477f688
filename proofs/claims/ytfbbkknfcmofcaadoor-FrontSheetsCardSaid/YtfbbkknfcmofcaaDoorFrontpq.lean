/- The plain proofs. Written by a program (wip/tools/gen.py). -/
import Derived.Test.YtfbbkknfcmofcaaDoorFrontpp
import Derived.Test.YtfbbkknfcmofcaaDoorVs
namespace Go.Proofs.YtfbbkknfcmofcaaDoor
open Go.Sy Go.RatLaw
set_option linter.unusedVariables false
set_option linter.unusedSimpArgs false
/-- the second loop, and the end -/
theorem sheets_end {s : Int} {l : List En} {h n z : Int} {x : Nat} (hv : atS s l h n = (laidAt l n, 0)) (hL : laidAt l n = laidF (l.take x)) : hasI (laidAt l n).2.2.2 z = liesB z (l.take x) := by
  rw [hL, lies_eq]
theorem p_FSheets (s : Int) (l : List En) (h n z : Int) (hs : InI64 s) (hi : inE l) : P_FSheets s l h n z := by
  refine ⟨fun _ => rfl, fun hc => ⟨hs, hi, fun he => ?_, fun he hl => ?_⟩⟩
  · have : atS s l h n = (f0, 1) := by
      unfold atS at he ⊢
      split at he
      · simp at he
      · rename_i q; rw [if_neg q]
    rw [this]; decide
  · rw [Bool.not_eq_false'] at hc
    have h60 := of_decide_eq_true hc
    have hq : logB s l h = true ∧ atS s l h n = (laidAt l n, 0) := by
      unfold atS at he ⊢
      split at he
      · rename_i q
        rw [Bool.and_eq_true] at q
        refine ⟨q.1, ?_⟩
        rw [if_pos (by rw [q.1, q.2]; rfl)]
      · simp at he
    obtain ⟨hv, ha⟩ := hq
    have hE := (log_ents hv).2.2.1
    have hr : rise (laidAt l n).2.2.2 := laidAt_rise
    have hlen : (laidAt l n).2.2.2.length ≤ 60 := Nat.le_trans laidAt_len h60
    rw [ha]
    refine ⟨⟨0, ⟨by omega, fun i hi => by omega⟩, rfl, rfl⟩, fun x ⟨hx, hn⟩ => ⟨fun hlt => ?_, fun hge => ?_⟩⟩
    · have hlt' : x < l.length := by have := of_decide_eq_true hlt; omega
      rw [tnG]
      refine ⟨by omega, by omega, fun hb => ⟨⟨1, ⟨by omega, by omega⟩, rfl, rfl⟩, fun y ⟨hy1, hy2⟩ _ => ⟨fun hy => ?_, fun hy => ?_⟩⟩, fun hb => ?_⟩
      · have hy' : y < (laidAt l n).2.2.2.length := by have h2 : (y : Int) < ((laidAt l n).2.2.2.length : Int) := of_decide_eq_true hy; omega
        have hyi : (y : Int) < ((laidAt l n).2.2.2.length : Int) := by omega
        have hyj : (y : Int) - 1 < ((laidAt l n).2.2.2.length : Int) := by omega
        refine ⟨fun _ => by unfold InI64; omega, fun _ => ⟨by omega, hyj⟩, fun _ => ⟨by omega, hyi⟩, by unfold InI64; omega, y + 1, ⟨by omega, by omega⟩, by omega, by omega, ?_, by (repeat' (first | rfl | trivial | apply And.intro))⟩
        rw [tnG, show ((y : Int) - 1).toNat = y - 1 by omega, Bool.true_and]
        exact decide_eq_true (rise_get hr (by omega) hy')
      · have hb' : n < tmE l x := of_decide_eq_true hb
        have := sheets_end (z := z) ha (laidAt_is hE (by omega) hn (fun _ => hb'))
        rw [Bool.true_and, beq_iff_eq]
        exact this
      · have hb' : ¬ n < tmE l x := of_decide_eq_false hb
        refine ⟨by unfold InI64; omega, x + 1, ⟨by omega, fun i hi => ?_⟩, by omega, by omega, (lies_snoc hlt').symm, by (repeat' (first | rfl | trivial | apply And.intro))⟩
        by_cases hix : i < x
        · exact hn i hix
        · have : i = x := by omega
          subst this; omega
    · have hge' : x = l.length := by have := of_decide_eq_false hge; omega
      refine ⟨⟨1, ⟨by omega, by omega⟩, rfl, rfl⟩, fun y ⟨hy1, hy2⟩ _ => ⟨fun hy => ?_, fun hy => ?_⟩⟩
      · have hy' : y < (laidAt l n).2.2.2.length := by have h2 : (y : Int) < ((laidAt l n).2.2.2.length : Int) := of_decide_eq_true hy; omega
        have hyi : (y : Int) < ((laidAt l n).2.2.2.length : Int) := by omega
        have hyj : (y : Int) - 1 < ((laidAt l n).2.2.2.length : Int) := by omega
        refine ⟨fun _ => by unfold InI64; omega, fun _ => ⟨by omega, hyj⟩, fun _ => ⟨by omega, hyi⟩, by unfold InI64; omega, y + 1, ⟨by omega, by omega⟩, by omega, by omega, ?_, by (repeat' (first | rfl | trivial | apply And.intro))⟩
        rw [tnG, show ((y : Int) - 1).toNat = y - 1 by omega, Bool.true_and]
        exact decide_eq_true (rise_get hr (by omega) hy')
      · have := sheets_end (z := z) ha (laidAt_is hE hx hn (fun q => by omega))
        rw [Bool.true_and, beq_iff_eq]
        exact this

end Go.Proofs.YtfbbkknfcmofcaaDoor
