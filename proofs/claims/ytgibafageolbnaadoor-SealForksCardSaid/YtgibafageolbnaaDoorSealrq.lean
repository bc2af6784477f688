/- The plain proofs. Written by a program (wip/tools/gen.py). -/
import Derived.Test.YtgibafageolbnaaDoorSealrp
import Derived.Test.YtgibafageolbnaaDoorSr
namespace Go.Proofs.YtgibafageolbnaaDoor
open Go.Sy Go.RatLaw
set_option linter.unusedVariables false
set_option linter.unusedSimpArgs false
theorem eq6' (e f : En) : (e.1 == f.1 && (e.2.1 == f.2.1 && (e.2.2.1 == f.2.2.1 && (e.2.2.2.1 == f.2.2.2.1 && (e.2.2.2.2.1 == f.2.2.2.2.1 && e.2.2.2.2.2 == f.2.2.2.2.2))))) = decide (e = f) := eq6 e f
theorem forks_end {s : Int} {l : List En} {x z : En} {ch ch' : Int} (h : x ≠ z) (hc : ch ≠ ch') (v1 : logB s (l ++ [x]) ch = true) (v2 : logB s (l ++ [z]) ch' = true) :
    (true && (begS s (l ++ [x]) ch s (l ++ [z]) ch').2 == 0 && (begS s (l ++ [z]) ch' s (l ++ [x]) ch).2 == 0 && !(begS s (l ++ [x]) ch s (l ++ [z]) ch').1 && !(begS s (l ++ [z]) ch' s (l ++ [x]) ch).1 && ch != ch') = true := by
  have hne : ∀ {u v : En}, u ≠ v → startsB s (l ++ [u]) s (l ++ [v]) = false := fun {u v} huv => by
    rw [Bool.eq_false_iff]
    intro q
    have := starts_len q (by simp)
    exact huv (by simpa using this)
  rw [beg_yes' v1 v2, beg_yes' v2 v1, hne h, hne (Ne.symm h), bne_iff_ne.2 hc]
  rfl
theorem p_SForks (s : Int) (l : List En) (h t k a b c g w y : Int) (hs : InI64 s) (hi : inE l) (hit : InI64 t ∧ InI64 k ∧ InI64 a ∧ InI64 b ∧ InI64 c) (hg : 0 ≤ g ∧ g < 18446744073709551616) (hw : 0 ≤ w ∧ w ≤ 255) (hy : 0 ≤ y ∧ y ≤ 255) : P_SForks s l h t k a b c g w y := by
  intro hl
  refine ⟨fun _ => ⟨hs, hi⟩, fun _ => rfl, fun hc => ?_⟩
  simp only [Bool.or_eq_false_iff, decide_eq_false_iff_not, Bool.not_eq_false'] at hc
  obtain ⟨hn, hv⟩ := hc
  have hn' : l.length < 5000 := by omega
  have hin := chg_in (w := w) (y := y) hit hg hy.1 _ (List.mem_singleton.2 rfl)
  have hx := fun he : entryB t k a b c g = true => chg_ints (w := w) (y := y) he hg hy.1
  revert hin hx
  unfold P_SForks at *
  generalize chgE (t, k, a, b, c, g) w y = z
  intro hin hx
  obtain ⟨zt, zk, za, zb, zc, zg⟩ := z
  refine ⟨hit, hg, hw, hy.1, hy.2, hs, hi, hit.1, hg, hs, hi, hin.1, hin.2.2.2.2.2, fun _ => rfl, fun hc => ?_⟩
  simp only [Bool.or_eq_false_iff] at hc
  obtain ⟨⟨e1, e2⟩, e3⟩ := hc
  have e1 : (appS s l h (t, k, a, b, c, g)).2 = 0 := by simpa using e1
  have e2 : (appS s l h (zt, zk, za, zb, zc, zg)).2 = 0 := by simpa using e2
  obtain ⟨x1, q1, r1, v1⟩ := app_got hv hn' e1
  obtain ⟨x2, q2, r2, v2⟩ := app_got hv hn' e2
  have hE1 := inE_app hi x1 hg
  have hE2 := inE_app hi x2 hin.2.2.2.2.2
  have hne : ((t, k, a, b, c, g) : En) ≠ (zt, zk, za, zb, zc, zg) := by
    have := eq6' (t, k, a, b, c, g) (zt, zk, za, zb, zc, zg)
    rw [show _ = false from e3] at this
    exact of_decide_eq_false this.symm
  have hch : chainE s (l ++ [(t, k, a, b, c, g)]) ≠ chainE s (l ++ [(zt, zk, za, zb, zc, zg)]) := by
    rw [chain_more, chain_more]
    rcases hx x1 with q | q
    · exact absurd q.symm hne
    · exact turned_next _ 7 q
  rw [r1, r2]
  exact ⟨hs, hE1, hs, hE2, hs, hE2, hs, hE1, forks_end hne hch v1 v2⟩

end Go.Proofs.YtgibafageolbnaaDoor
