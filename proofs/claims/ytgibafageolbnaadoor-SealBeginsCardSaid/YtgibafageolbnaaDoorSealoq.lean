/- The plain proofs. Written by a program (wip/tools/gen.py). -/
import Derived.Test.YtgibafageolbnaaDoorSealop
import Derived.Test.YtgibafageolbnaaDoorSr
namespace Go.Proofs.YtgibafageolbnaaDoor
open Go.Sy Go.RatLaw
set_option linter.unusedVariables false
set_option linter.unusedSimpArgs false
theorem p_SBegins (s1 : Int) (l1 : List En) (h1 s2 : Int) (l2 : List En) (h2 s3 : Int) (l3 : List En) (h3 : Int) (n : Int) (i1 : InI64 s1) (e1 : inE l1) (i2 : InI64 s2) (e2 : inE l2) (i3 : InI64 s3) (e3 : inE l3) (hn : 0 ≤ n ∧ n ≤ 255) : P_SBegins s1 l1 h1 s2 l2 h2 s3 l3 h3 n := by
  refine ⟨fun _ => ⟨i1, e1⟩, fun _ => ⟨i2, e2⟩, fun _ => ⟨i3, e3⟩, fun _ => rfl, fun hc => ?_⟩
  simp only [Bool.or_eq_false_iff, Bool.not_eq_false'] at hc
  obtain ⟨⟨⟨⟨⟨f1, f2⟩, f3⟩, v1⟩, v2⟩, v3⟩ := hc
  have f1 := of_decide_eq_true f1
  rw [beg_yes' v1 v1, beg_yes' v1 v2, beg_yes' v2 v1, beg_yes' v2 v3, beg_yes' v1 v3, starts_self]
  refine ⟨i1, e1, i1, e1, i1, e1, i2, e2, i2, e2, i1, e1, i2, e2, i3, e3, i1, e1, i3, e3, fun h => by simp at h, fun _ => ⟨fun h => ?_, fun _ => ⟨by unfold InI64; omega, fun hl => ?_⟩⟩⟩
  · exfalso
    simp only [Bool.or_eq_true, Bool.and_eq_true, Bool.not_eq_true'] at h
    rcases h with ⟨⟨a, b⟩, c⟩ | ⟨⟨a, b⟩, c⟩
    · obtain ⟨q1, q2⟩ := starts_anti a b
      subst q1 q2
      rw [(log_open v1).2.2.2, (log_open v2).2.2.2, same_self] at c
      cases c
    · rw [starts_trans a b] at c; cases c
  · have hp : (0 : Int) < (l1.length : Int) + 1 := by omega
    have hlt : Int.tmod n ((l1.length : Int) + 1) < (l1.length : Int) + 1 := Int.tmod_lt_of_pos _ hp
    have hge : 0 ≤ Int.tmod n ((l1.length : Int) + 1) := Int.tmod_nonneg _ hn.1
    generalize Int.tmod n ((l1.length : Int) + 1) = m at hlt hge
    rw [show List.drop (Int.toNat 0) (List.take m.toNat l1) = List.take m.toNat l1 from rfl]
    have vt := log_take (k := m.toNat) v1
    rw [beg_yes' vt v1, starts_take]
    exact ⟨by unfold InI64; omega, by omega, by omega, hge, by omega, by omega, hge, by omega, i1, inE_take e1, by rw [List.length_take]; omega, i1, inE_take e1, i1, e1, rfl⟩

end Go.Proofs.YtgibafageolbnaaDoor
