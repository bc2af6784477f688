/- The plain proofs. Written by a program (wip/tools/gen.py). -/
import Derived.Test.YtcklbglladijlaaDeciderp
import Derived.Test.YtcklbglladijlaaEs
namespace Go.Proofs.Ytcklbglladijlaa
open Go.Sy Go.RatLaw
set_option linter.unusedVariables false
set_option linter.unusedSimpArgs false
theorem ord_max : ∀ {d : List De} {i : Nat} {last : Int}, ordFrom i last d = true → ∀ y ∈ d, y.2.1 ≤ 1000000000
 | [], _, _, _, y, hy => by cases hy
 | x :: d, i, last, h, y, hy => by
  obtain ⟨⟨_, _, h3⟩, h4⟩ := ord_cons.1 h
  rcases List.mem_cons.1 hy with e | hy
  ·unfold isTimeB at h3
   simp only [Bool.and_eq_true, decide_eq_true_eq] at h3
   rw [e]; exact h3.2
  ·exact ord_max h4 y hy
theorem push_version {ws : List Wk} {ds : List De} {w : Wk} (hv : validD ws ds = true) (hl : ds.length ≤ 29) (hm : w ∈ ws) :
  pushS ws ds ((ds.length : Int) + 1, (1000000000, (1, (w.1.1, (0, 0))))) = (ds ++ [((ds.length : Int) + 1, (1000000000, (1, (w.1.1, (0, 0)))))], 0) ∧
  atD ws (ds ++ [((ds.length : Int) + 1, (1000000000, (1, (w.1.1, (0, 0)))))]) ((ds ++ [((ds.length : Int) + 1, (1000000000, (1, (w.1.1, (0, 0)))))]).length : Int) 1000000000 = ((w.1.1, (w.2.1, [])), 0) := by
 obtain ⟨ho, hr⟩ := valid_ord hv
 obtain ⟨hw, _, hf⟩ := ord_works ho
 obtain ⟨g1, g2, g3⟩ := find_ver hw hm
 have hd : ∀ r : Rm, doS ws r ((ds.length : Int) + 1, (1000000000, (1, (w.1.1, (0, 0))))) = ((w.1.1, (w.2.1, [])), 0) := fun r => by
  rw [do_1 rfl]
  unfold versionS
  rw [if_neg (by simp)]
  show (if gidx (isVer (verW w)) ws < 0 then (r, 4) else (takeW (ws.getD (gidx (isVer (verW w)) ws).toNat wk0), 0)) = _
  rw [if_neg (by omega), g3]
  rfl
 have hp : pushS ws ds ((ds.length : Int) + 1, (1000000000, (1, (w.1.1, (0, 0))))) = (ds ++ [((ds.length : Int) + 1, (1000000000, (1, (w.1.1, (0, 0)))))], 0) := by
  refine push_5 (pb_make hv (show (1 : Int) ≤ 1 by decide) (show (1 : Int) ≤ 5 by decide) rfl (show isTimeB 1000000000 = true by decide)) ?_ (by omega) (by rw [hd])
  rintro ⟨q1, q2⟩
  have := ord_max hf _ (memG de0 (show ds.length - 1 < ds.length by omega))
  have q2 : (1000000000 : Int) < (ds.getD (ds.length - 1) de0).2.1 := q2
  omega
 have h0 : (pushS ws ds ((ds.length : Int) + 1, (1000000000, (1, (w.1.1, (0, 0)))))).2 = 0 := by rw [hp]
 have ha := (at_after h0 (tm := 1000000000) (Int.le_refl _) (by decide)).1
 rw [hd] at ha
 exact ⟨hp, ha⟩
theorem p_QVersions (ws : List Wk) (ds : List De) (u : Int) (hu0 : 0 ≤ u) (hu1 : u ≤ 255) : P_QVersions ws ds u := by
 intro _
 refine ⟨fun _ => rfl, fun h => ?_⟩
 simp only [Bool.or_eq_false_iff, Bool.not_eq_false', decide_eq_false_iff_not] at h
 obtain ⟨hv, _⟩ := usable_parts h.1
 have hl : ds.length ≤ 29 := by omega
 obtain ⟨ho, hr⟩ := valid_ord hv
 obtain ⟨hw, _, hf⟩ := ord_works ho
 obtain ⟨w1, w2, _⟩ := works_mem hw
 obtain ⟨m1, m2⟩ := tmod_in hu0 (show (0 : Int) < (ws.length : Int) by omega)
 have hm : ws.getD (u.tmod (ws.length : Int)).toNat wk0 ∈ ws := memG wk0 (by omega)
 refine ⟨by unfold InI64; omega, fun _ => ⟨by omega, m1, m2, fun _ => ⟨by unfold InI64; omega, fun _ => ?_⟩⟩⟩
 rw [d0W]
 generalize ws.getD (u.tmod (ws.length : Int)).toNat wk0 = w at hm ⊢
 obtain ⟨e1, e2⟩ := push_version hv hl hm
 rw [e1]
 dsimp only
 rw [e2]
 dsimp only
 rw [sameR_self]; rfl

end Go.Proofs.Ytcklbglladijlaa
