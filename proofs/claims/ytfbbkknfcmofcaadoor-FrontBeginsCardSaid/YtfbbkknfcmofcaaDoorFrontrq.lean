/- The plain proofs. Written by a program (wip/tools/gen.py). -/
import Derived.Test.YtfbbkknfcmofcaaDoorFrontrp
import Derived.Test.YtfbbkknfcmofcaaDoorVs
namespace Go.Proofs.YtfbbkknfcmofcaaDoor
open Go.Sy Go.RatLaw
set_option linter.unusedVariables false
set_option linter.unusedSimpArgs false
theorem p_FBegins (s : Int) (l : List En) (h w n : Int) (hs : InI64 s) (hi : inE l) (hw : 0 ≤ w ∧ w ≤ 255) : P_FBegins s l h w n := by
  refine ⟨fun _ => ⟨hs, hi⟩, fun _ => ⟨fun _ => rfl, fun hc => ⟨by unfold InI64; omega, fun hl => ?_⟩⟩⟩
  simp only [Bool.or_eq_false_iff, Bool.not_eq_false'] at hc
  obtain ⟨⟨f1, hv⟩, f0⟩ := hc
  have h60 := of_decide_eq_true f1
  have hne : (l.length : Int) ≠ 0 := beq_eq_false_iff_ne.1 f0
  have hE := (log_ents hv).2.2.1
  have hK0 : 0 ≤ Int.tmod w l.length := Int.tmod_nonneg _ hw.1
  have hK1 : Int.tmod w l.length < l.length := Int.tmod_lt_of_pos _ (by omega)
  generalize Int.tmod w l.length = K at hK0 hK1
  refine ⟨hne, ⟨0, by omega, rfl, rfl, rfl, rfl⟩, fun x hx => ⟨fun hlt => ?_, fun hge => ?_⟩⟩
  · have hlt' : (x : Int) < K := of_decide_eq_true hlt
    have hxl : x < l.length := by omega
    have hm := hi _ (memG en0 hxl)
    have hn : appS s (l.take x) (chainE s (l.take x)) ((l.getD x en0).1, (l.getD x en0).2.1, (l.getD x en0).2.2.1, (l.getD x en0).2.2.2.1, (l.getD x en0).2.2.2.2.1, (l.getD x en0).2.2.2.2.2) = ((s, (l.take (x + 1), chainE s (l.take (x + 1)))), 0) := app_next hv hxl h60
    rw [tnG]
    refine ⟨by omega, by omega, hs, inE_take hi, hm.1, hm.2.2.2.2.2, fun q => ?_, fun _ => ⟨by unfold InI64; omega, x + 1, by omega, by omega, by omega, ?_⟩⟩
    · simp only [E6d0] at q
      rw [hn] at q
      simp at q
    · simp only [E6d0]
      rw [hn]
      (repeat' (first | rfl | trivial | apply And.intro))
  · have hge' : (x : Int) = K := by have := of_decide_eq_false hge; omega
    have hvt := log_take (k := x) hv
    rw [beg_yes' hvt hv, starts_take]
    refine ⟨hs, inE_take hi, hs, hi, fun q => by simp at q, fun _ => ⟨fun _ => ⟨hK0, hK1⟩, fun _ => rfl, fun q => ⟨hs, inE_take hi, hs, hi, ?_⟩⟩⟩
    simp only [Bool.or_eq_false_iff, decide_eq_false_iff_not] at q
    have hKt : K.toNat = x := by omega
    rw [hKt] at q
    have hn1 : ¬ n ≥ tmE l x := q.2
    have hxl : x < l.length := by omega
    have ht := tm_in hE hxl
    rw [at_valid hvt (by omega) (by omega), at_valid hv (by omega) (by omega), laidAt_front hE hxl (by omega)]
    have e1 := same_refl (laidAt l n)
    rw [Bool.and_eq_true]
    exact ⟨rfl, e1⟩

end Go.Proofs.YtfbbkknfcmofcaaDoor
