/- The plain proofs. Written by a program (wip/tools/gen.py). -/
import Derived.Test.YtiplcokpckkopaaDoorPaperop
import Derived.Test.YtiplcokpckkopaaDoorPr
import Derived.Test.YtiplcokpckkopaaDoorPaperlq
namespace Go.Proofs.YtiplcokpckkopaaDoor
open Go.Sy Go.RatLaw
set_option linter.unusedVariables false
set_option linter.unusedSimpArgs false
theorem p_PAlone (p : Int) (ms : List Ms) (l : List Bk) (f u wh bar : Int) (more : List Wr) (hp : InI64 p) (hw : wfM ms) (hf : InI64 f) (hu : InI64 u) (w0 : 0 ≤ wh) (w1 : wh ≤ 255) (hbar : InI64 bar) (hin : (Ty.tl tyW).In more) (hbd : (Ty.tl tyW).Bd 140737488355328 more) : P_PAlone p ms l f u wh bar more := by
 intro _ _
 refine ⟨fun _ => rfl, fun h => ?_⟩
 have h' : (!few27 ms l [] || !blocksB ms l || (ms.length : Int) == 0 || decide ((more.length : Int) > 10)) = false := h
 simp only [Bool.or_eq_false_iff, Bool.not_eq_false', beq_eq_false_iff_ne, ne_eq, decide_eq_false_iff_not] at h'
 obtain ⟨⟨⟨hfew, hbl⟩, hne⟩, hmore⟩ := h'
 obtain ⟨hms, hl⟩ := few_lens hfew
 have k0 : 0 ≤ wh.tmod (ms.length : Int) := Int.tmod_nonneg _ w0
 have k1 : wh.tmod (ms.length : Int) < ms.length := Int.tmod_lt_of_pos _ (by omega)
 have e1l : (E_PAlone_1 ms wh bar).length = ms.length := by unfold E_PAlone_1; simp
 have e2 : E_PAlone_2 ms wh bar more = ms.set (wh.tmod (ms.length : Int)).toNat (bar, ((atM ms (wh.tmod (ms.length : Int))).2.1, ((atM ms (wh.tmod (ms.length : Int))).2.2.1, more))) := by
  unfold E_PAlone_2 E_PAlone_1
  exact set_two (ms := ms) (show (wh.tmod (ms.length : Int)).toNat < ms.length by omega) more
 have e2l : (E_PAlone_2 ms wh bar more).length = ms.length := by rw [e2, List.length_set]
 refine ⟨by unfold InI64; omega, fun _ => ⟨by omega, fun _ => ⟨⟨0, ⟨by omega, fun i hi => by omega⟩, rfl⟩, fun x ⟨hx, hn⟩ => ⟨fun hlt => ?_, fun hge => ?_⟩⟩⟩⟩
 ·have hlt' : x < l.length := by have := of_decide_eq_true hlt; omega
  refine ⟨by omega, by omega, fun _ => rfl, fun hc => ⟨by unfold InI64; omega, x + 1, ⟨by omega, fun i hi => ?_⟩, by omega, by omega, by (repeat' (first | rfl | trivial | apply And.intro))⟩⟩
  by_cases hi' : i < x
  ·exact hn i hi'
  ·have : i = x := by omega
   subst this
   rintro ⟨a1, a2, a3⟩
   have hc' : (decide ((i : Int) ≥ f) && decide ((i : Int) < u) && (l.getD i bk0).1 == wh.tmod (ms.length : Int)) = false := hc
   rw [decide_eq_true (show (i : Int) ≥ f from a1), decide_eq_true a2, a3] at hc'
   simp at hc'
 ·have hx' : x = l.length := by have := of_decide_eq_false hge; omega
  subst hx'
  rw [List.nil_append, e1l, e2l]
  refine ⟨rfl, by omega, k0, k1, by omega, rfl, by omega, rfl, by omega, k0, k1, by omega, rfl, by omega, rfl, by omega, by omega, fun _ => by omega, fun _ => rfl, fun hc => ?_⟩
  simp only [Bool.or_eq_false_iff, Bool.not_eq_false'] at hc
  have hb' := hc.2
  rw [e2] at hb' ⊢
  have hm : atM ms (wh.tmod (ms.length : Int)) ∈ ms := atM_mem k0 k1
  obtain ⟨g1, g2⟩ := hw
  have i1 := g1 _ hm
  refine ⟨⟨g1, g2⟩, hp, by omega, wfM_set ⟨g1, g2⟩ ⟨wfI_of hbar, i1.2.1, i1.2.2.1, hin⟩ ⟨trivial, trivial, ⟨trivial, trivial⟩, hbd⟩, hp, ?_⟩
  rw [dig_alone0 (k := (wh.tmod (ms.length : Int)).toNat) hbl hb' fun i hi => by
   have := hn i hi
   rwa [Int.toNat_of_nonneg k0]]
  simp

end Go.Proofs.YtiplcokpckkopaaDoor
