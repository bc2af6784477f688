/- The plain proofs. Written by a program (wip/tools/gen.py). -/
import Derived.Test.YtcklbglladijlaaDecidep
import Derived.Test.YtcklbglladijlaaFormk
import Derived.Test.YtcklbglladijlaaEq
import Derived.Test.YtcklbglladijlaaGr
namespace Go.Proofs.Ytcklbglladijlaa
open Go.Sy Go.RatLaw
set_option linter.unusedVariables false
set_option linter.unusedSimpArgs false
theorem p_openR (b : Int) (r e : List T3) (j t n : Int) (c : List T3) (x y z : Int) : P_openR b r e j t n c x y z := by
 refine ⟨fun h => ?_, fun h => ⟨fun h2 => ?_, fun h2 => ?_⟩⟩
 ·unfold openS; rw [if_pos h]; exact ⟨rfl, rfl, rfl, rfl, rfl, rfl, rfl, rfl⟩
 ·have h2 := of_decide_eq_true h2
  unfold openS; rw [if_neg (by rw [h]; simp), if_pos h2]; exact ⟨rfl, rfl, rfl, rfl, rfl, rfl, rfl, rfl⟩
 ·have h2 := of_decide_eq_false h2
  have hv := not_false_ h
  obtain ⟨l1, l2, l3⟩ := valid_lens hv
  simp only at l1 l2 l3
  obtain ⟨g1, _, _⟩ := gidx_spec t30 (p := isC (x, (y, z))) (l := c) (by omega)
  unfold openS; rw [if_neg (by rw [h]; simp), if_neg h2]
  exact ⟨l1, l2, l3, by unfold InI64; omega, rfl, by omega, by omega, rfl, rfl, rfl, rfl, rfl, rfl, rfl, rfl, rfl, rfl, rfl, rfl⟩
theorem p_cmpNan (a : Int) : P_cmpNan a := by unfold P_cmpNan; simp
theorem p_cmpLess (a b : Int) : P_cmpLess a b := by unfold P_cmpLess; simp
theorem p_slNan (a : Int) : P_slNan a := by unfold P_slNan; simp
theorem half_u {z : Int} (h0 : 0 ≤ z) (h1 : z < 9223372036854775808) : shrW .u64 (IntKind.u64.wrap z) 1 = z / 2 := by
 rw [wrap_u64, Int.emod_eq_of_lt h0 (by omega)]
 unfold shrW
 rw [show (2 : Int) ^ (min (1 : Int).toNat IntKind.u64.bits) = 2 from rfl, Int.fdiv_eq_ediv_of_nonneg _ (by omega)]
theorem p_bsI (l : List Int) (n : Int) (hr : rise l) (hl : l.length ≤ 1000000) : P_bsI l n := by
 intro _
 refine ⟨⟨(0, l.length), ⟨Nat.zero_le _, Nat.le_refl _, Nat.zero_le _, below_le n l⟩, rfl, rfl⟩, fun ⟨i, j⟩ ⟨h1, h2, h3, h4⟩ => ⟨fun hlt => ?_, fun hge => ?_⟩⟩
 ·simp only at h1 h2 h3 h4 hlt ⊢
  have hlt' : i < j := by have := of_decide_eq_true hlt; omega
  rw [half_u (z := (i : Int) + j) (by omega) (by omega)]
  obtain ⟨m, hm⟩ : ∃ m : Nat, ((i : Int) + j) / 2 = m := ⟨(i + j) / 2, by omega⟩
  rw [hm, tnG]
  have hmi : i ≤ m ∧ m < j := by omega
  have hml : m < l.length := by omega
  refine ⟨by unfold InI64; omega, by omega, by unfold InI64; omega, by omega, by omega, fun hc => ⟨by unfold InI64; omega, (m + 1, j), ⟨by omega, h2, ?_, h4⟩, by omega, by omega, (by first | rfl | trivial), (by first | rfl | trivial), (by first | rfl | trivial), (by first | rfl | trivial), (by first | rfl | trivial), (by first | rfl | trivial)⟩, fun hc => ⟨(i, m), ⟨by omega, by omega, h3, ?_⟩, by omega, (by first | rfl | trivial), (by first | rfl | trivial), (by first | rfl | trivial), (by first | rfl | trivial), (by first | rfl | trivial), (by first | rfl | trivial), (by first | rfl | trivial)⟩⟩
  ·show m + 1 ≤ RatLaw.below l n
   apply Nat.lt_of_not_le
   intro hb
   have h5 := below_ge hr hb hml
   have h6 : l.getD m 0 < n := of_decide_eq_true hc
   omega
  ·show RatLaw.below l n ≤ m
   apply Nat.le_of_not_lt
   intro hb
   have h5 := below_lt hb
   have h6 : ¬ l.getD m 0 < n := of_decide_eq_false hc
   omega
 ·simp only at h1 h2 h3 h4 hge ⊢
  have hge' : i = RatLaw.below l n := by have := of_decide_eq_false hge; omega
  refine ⟨fun q => by have := of_decide_eq_true q; omega, fun q => by have := of_decide_eq_true q.2; omega, by rw [hge'], ?_⟩
  rw [tnG, hge', Bool.eq_iff_iff, has_below hr]
  simp only [Bool.and_eq_true, Bool.or_eq_true, decide_eq_true_iff, Bool.false_and, Bool.false_eq_true, or_false]
  constructor
  ·intro ⟨a, b⟩
   exact ⟨by omega, eq_of_beq b⟩
  ·intro ⟨a, b⟩
   exact ⟨by omega, beq_iff_eq.2 b⟩
theorem eqIs_no {l m : List Int} (h : l ≠ m) : false = eqIs l m := by unfold eqIs; rw [decide_eq_false h]
theorem d0W : (WTT.d0 : WTT.T) = wk0 := rfl
theorem d0D : (DTT.d0 : DTT.T) = de0 := rfl
theorem p_clI1 : P_clI1 := ⟨fun _ => ⟨rfl, rfl⟩, (fun h => by cases h)⟩
theorem p_clI2 (l : List Int) (h : l.length ≤ 5000) : P_clI2 l := ⟨(fun h => by cases h), fun _ => ⟨rfl, by omega, by omega, rfl⟩⟩
theorem p_clD1 : P_clD1 := ⟨fun _ => ⟨rfl, rfl⟩, (fun h => by cases h)⟩
theorem p_clD2 (l : List De) (h : l.length ≤ 5000) : P_clD2 l := ⟨(fun h => by cases h), fun _ => ⟨rfl, by omega, by omega, rfl⟩⟩
theorem works_bad {ws : List Wk} (h : worksFrom 0 ws = false) : worksB ws = false := by unfold worksB; rw [h]; rfl
theorem workBad_eq (last : Int) (w : Wk) : (decide (w.1.1 ≤ last) || decide (w.1.1 > 1000000) || (w.2.1.1 != (w.1.2.1.length : Int)) || !validF w.2.1) = workBad last w := by
 unfold workBad verW formW
 have : (w.2.1.1 != (w.1.2.1.length : Int)) = decide (w.2.1.1 ≠ w.1.2.1.length) := by by_cases h : w.2.1.1 = (w.1.2.1.length : Int) <;> simp [h]
 rw [this]
theorem workBad_eq2 (last : Int) (w : Wk) : (decide (w.1.1 ≤ last) || decide (w.1.1 > 1000000) || !validF w.2.1 || (w.2.1.1 != (w.1.2.1.length : Int))) = workBad last w := by
 rw [← workBad_eq, Bool.or_assoc _ (!validF w.2.1), Bool.or_comm (!validF w.2.1), ← Bool.or_assoc]
theorem p_areWorks (ws : List Wk) : P_areWorks ws := by
 unfold P_areWorks E_areWorks_1
 intro hlen
 refine ⟨⟨0, ⟨Nat.zero_le _, rfl⟩, rfl, rfl⟩, fun x ⟨hx, hi⟩ => ⟨fun hlt => ?_, fun hge => ?_⟩⟩
 ·have hlt' : x < ws.length := by have := of_decide_eq_true hlt; omega
  have hs := works_step hlt'
  rw [← workBad_eq] at hs
  simp only [d0W, tnG]
  refine ⟨by omega, by omega, fun hl => ⟨fun h => ?_, fun h => ⟨by unfold InI64; omega, x + 1, ⟨hlt', ?_⟩, by omega, (by first | rfl | trivial), lastW_succ.symm, by (repeat' (first | rfl | trivial | apply And.intro))⟩⟩⟩
  ·rw [hs] at hi
   exact (works_bad (hi.trans (by rw [show _ = true from h]; rfl))).symm
  ·rw [hi, hs, show _ = false from h]; rfl
 ·have hx' : ¬ x < ws.length := by have := of_decide_eq_false hge; omega
  unfold worksB
  rw [hi, works_end hx', Bool.true_and]
  intros
  rfl
theorem p_stTake (v : Int) (br : List Br) (pt : List PT) (nt : List NT) (b : Int) (r e : List T3) (j t n : Int) (c tm : List T3) (y0 y1 y2 y3 y4 y5 y6 y7 y8 : DV) (ws : List Wk) (h1 : r.length ≤ 100) (h2 : e.length ≤ 100) (h3 : c.length ≤ 100) : P_stTake v br pt nt b r e j t n c tm y0 y1 y2 y3 y4 y5 y6 y7 y8 ws :=
 ⟨h1, h2, h3, by (repeat' (first | rfl | trivial | apply And.intro))⟩
theorem p_newState (ws : List Wk) (hw : worksB ws = true) : P_newState ws := by
 unfold P_newState E_newState_1
 have hl := works_mem hw
 have hm : ws.getD 0 wk0 ∈ ws := memG wk0 (by omega)
 obtain ⟨a1, a2, a3⟩ := works_lens hw hm
 exact ⟨by omega, by omega, a1, a2, a3, by (repeat' (first | rfl | trivial | apply And.intro))⟩
theorem p_ver1 (v : Int) (br : List Br) (pt : List PT) (nt : List NT) (b : Int) (r e : List T3) (j t n : Int) (c tm : List T3) (x1 x2 x3 x4 x5 x6 : Int) : P_ver1 v br pt nt b r e j t n c tm x1 x2 x3 x4 x5 x6 := by
 refine ⟨?_, by (repeat' (first | rfl | trivial | apply And.intro))⟩
 unfold isVer verW
 by_cases h : v = x4 <;> simp [h]
theorem p_ixW (ws : List Wk) (x1 x2 x3 x4 x5 x6 : Int) : P_ixW ws x1 x2 x3 x4 x5 x6 := by
 unfold P_ixW E_ixW_1
 intro _
 refine ⟨⟨0, ⟨by omega, fun i hi => by omega⟩, rfl⟩, fun x ⟨hx, hn⟩ => ⟨fun hlt => ?_, fun hge => ?_⟩⟩
 ·have hlt' : x < ws.length := by have := of_decide_eq_true hlt; omega
  rw [tnG]
  refine ⟨by omega, by omega, fun hc => ⟨(gidx_some wk0 hlt' hn hc).symm, by (repeat' (first | rfl | trivial | apply And.intro))⟩, fun hc => ⟨by unfold InI64; omega, x + 1, ⟨by omega, fun i hi => ?_⟩, by omega, by omega, by (repeat' (first | rfl | trivial | apply And.intro))⟩⟩
  by_cases hi' : i < x
  ·exact hn i hi'
  ·have : i = x := by omega
   subst this
   exact hc
 ·have hge' : x = ws.length := by have := of_decide_eq_false hge; omega
  subst hge'
  exact ⟨(gidx_none wk0 hn).symm, by (repeat' (first | rfl | trivial | apply And.intro))⟩
theorem ne_or {a b : Int} : ((a != 0 || b != 0) = true ↔ (a ≠ 0 ∨ b ≠ 0)) := by simp
theorem ne_or' {a b : Int} : ((a != 0 || b != 0) = false ↔ ¬ (a ≠ 0 ∨ b ≠ 0)) := by rw [← ne_or]; simp
theorem p_version (v b : Int) (r e : List T3) (j t n : Int) (c : List T3) (o : List Int) (ws : List Wk) (x1 x2 x3 x4 x5 x6 : Int) (hw : worksB ws = true) : P_version v b r e j t n c o ws x1 x2 x3 x4 x5 x6 := by
 unfold P_version E_version_2 E_version_1
 refine ⟨fun h => ?_, fun h => ⟨fun h2 => ?_, fun h2 => ?_⟩⟩
 ·have h := ne_or.1 h
  unfold versionS; rw [if_pos h]; (repeat' (first | rfl | trivial | apply And.intro))
 ·have h := ne_or'.1 h
  have h2 := of_decide_eq_true h2
  unfold versionS; rw [if_neg h, if_pos h2]; (repeat' (first | rfl | trivial | apply And.intro))
 ·have h := ne_or'.1 h
  have h2 := of_decide_eq_false h2
  obtain ⟨g1, g2, g3⟩ := gidx_spec wk0 (p := isVer x4) (l := ws) (by omega)
  obtain ⟨a1, a2, a3⟩ := works_lens hw (memG wk0 g1)
  unfold versionS; rw [if_neg h, if_neg h2]
  exact ⟨by omega, by omega, a1, a2, a3, by (repeat' (first | rfl | trivial | apply And.intro))⟩
theorem p_reform (v b : Int) (r e : List T3) (j t n : Int) (c : List T3) (o : List Int) (ws : List Wk) (b' : Int) (r' e' : List T3) (j' t' n' : Int) (c' : List T3) (q : Int) : P_reform v b r e j t n c o ws b' r' e' j' t' n' c' q := by
 unfold P_reform E_reform_1
 refine ⟨fun h => ?_, fun h => ?_⟩
 ·have h : q = 0 := by simpa using h
  unfold reformS; rw [if_pos h]; (repeat' (first | rfl | trivial | apply And.intro))
 ·have h : ¬ q = 0 := by simpa using h
  unfold reformS; rw [if_neg h]; (repeat' (first | rfl | trivial | apply And.intro))
theorem beq_dec (p : Bool) (x : Int) : (p == (x == 1)) = decide (p = decide (x = 1)) := by
 by_cases h : x = 1 <;> cases p <;> simp [h]
theorem p_ossia (v b : Int) (r e : List T3) (j t n : Int) (c : List T3) (o : List Int) (ws : List Wk) (x1 x2 x3 x4 x5 x6 : Int) (hr : rise o) (hl : o.length ≤ 100) : P_ossia v b r e j t n c o ws x1 x2 x3 x4 x5 x6 := by
 unfold P_ossia E_ossia_1
 have hb := below_le x4 o
 have hbad := ossBad_iff (x := (x1, (x2, (x3, (x4, (x5, x6))))))
 refine ⟨fun h => ?_, fun h => ⟨hr, by omega, fun h2 => ?_, fun h2 => ⟨fun h3 => ?_, fun h3 => ?_⟩⟩⟩
 ·have h := hbad.trans h
  unfold ossiaS; rw [if_pos h]; (repeat' (first | rfl | trivial | apply And.intro))
 ·have h := hbad.trans h
  have h2 := of_decide_eq_true ((beq_dec _ _).symm.trans h2)
  unfold ossiaS; rw [if_neg (by rw [h]; simp), if_pos h2]; (repeat' (first | rfl | trivial | apply And.intro))
 ·have h := hbad.trans h
  have h2 := of_decide_eq_false ((beq_dec _ _).symm.trans h2)
  have h4 := ((has_below hr).1 h3).1
  have e1 : ossiaS (v, ((b, (r, (e, ((j, (t, n)), c)))), o)) (x1, (x2, (x3, (x4, (x5, x6))))) = ((v, ((b, (r, (e, ((j, (t, n)), c)))), o.eraseIdx (RatLaw.below o x4))), 0) := by
   unfold ossiaS; rw [if_neg (by rw [h]; simp), if_neg h2, if_pos h3]
  rw [e1]
  exact ⟨by omega, by unfold InI64; omega, by (repeat' (first | rfl | trivial | apply And.intro)), by omega, by omega, by omega, by omega, by (repeat' (first | rfl | trivial | apply And.intro))⟩
 ·have h := hbad.trans h
  have h2 := of_decide_eq_false ((beq_dec _ _).symm.trans h2)
  have e1 : ossiaS (v, ((b, (r, (e, ((j, (t, n)), c)))), o)) (x1, (x2, (x3, (x4, (x5, x6))))) = ((v, ((b, (r, (e, ((j, (t, n)), c)))), o.take (RatLaw.below o x4) ++ x4 :: o.drop (RatLaw.below o x4))), 0) := by
   unfold ossiaS; rw [if_neg (by rw [h]; simp), if_neg h2, if_neg (by rw [h3]; simp), ← ins_put hr h3]
  rw [e1]
  exact ⟨by omega, by (repeat' (first | rfl | trivial | apply And.intro)), by omega, by omega, by omega, by omega, by omega, by (repeat' (first | rfl | trivial | apply And.intro))⟩
theorem p_do1 (v b : Int) (r e : List T3) (j t n : Int) (c : List T3) (o : List Int) (ws : List Wk) (x1 x2 x3 x4 x5 x6 : Int) (hw : worksB ws = true) : P_do1 v b r e j t n c o ws x1 x2 x3 x4 x5 x6 := ⟨hw, by (repeat' (first | rfl | trivial | apply And.intro))⟩
theorem p_do2 (v b : Int) (r e : List T3) (j t n : Int) (c : List T3) (o : List Int) (ws : List Wk) (x4 x5 x6 : Int) : P_do2 v b r e j t n c o ws x4 x5 x6 := by
 unfold P_do2 E_do2_2 E_do2_1
 (repeat' (first | rfl | trivial | apply And.intro))
theorem p_do3 (v b : Int) (r e : List T3) (j t n : Int) (c : List T3) (o : List Int) (ws : List Wk) (x4 x5 x6 : Int) : P_do3 v b r e j t n c o ws x4 x5 x6 := by
 unfold P_do3 E_do3_2 E_do3_1
 (repeat' (first | rfl | trivial | apply And.intro))
theorem reform_snd (r : Rm) (m : Fm × Int) : (reformS r m).2 = m.2 := by
 unfold reformS
 split
 ·rename_i h; exact h.symm
 ·rfl
theorem p_do4 (v b : Int) (r e : List T3) (j t n : Int) (c : List T3) (o : List Int) (ws : List Wk) (x1 x2 x3 x4 x5 x6 : Int) : P_do4 v b r e j t n c o ws x1 x2 x3 x4 x5 x6 := by
 unfold P_do4 E_do4_2 E_do4_1
 refine ⟨fun h => ?_, fun h => ?_⟩
 ·have h : x6 ≠ 0 := by simpa using h
  unfold timesD; rw [if_pos h]; (repeat' (first | rfl | trivial | apply And.intro))
 ·have h : ¬ x6 ≠ 0 := by simpa using h
  unfold timesD; rw [if_neg h]
  exact ⟨(reform_snd _ _).symm, by (repeat' (first | rfl | trivial | apply And.intro))⟩
theorem p_do5 (v b : Int) (r e : List T3) (j t n : Int) (c : List T3) (o : List Int) (ws : List Wk) (x1 x2 x3 x4 x5 x6 : Int) (hr : rise o) (hl : o.length ≤ 100) : P_do5 v b r e j t n c o ws x1 x2 x3 x4 x5 x6 := ⟨hr, hl, by (repeat' (first | rfl | trivial | apply And.intro))⟩
theorem do_1 {ws : List Wk} {r : Rm} {x : De} (h : x.2.2.1 = 1) : doS ws r x = versionS ws r x := by unfold doS; rw [if_pos h]
theorem do_2 {ws : List Wk} {r : Rm} {x : De} (h : x.2.2.1 = 2) : doS ws r x = cutD r x := by unfold doS; rw [if_neg (by omega), if_pos h]
theorem do_3 {ws : List Wk} {r : Rm} {x : De} (h : x.2.2.1 = 3) : doS ws r x = openD r x := by unfold doS; rw [if_neg (by omega), if_neg (by omega), if_pos h]
theorem do_4 {ws : List Wk} {r : Rm} {x : De} (h : x.2.2.1 = 4) : doS ws r x = timesD r x := by unfold doS; rw [if_neg (by omega), if_neg (by omega), if_neg (by omega), if_pos h]
theorem do_5 {ws : List Wk} {r : Rm} {x : De} (h : x.2.2.1 = 5) : doS ws r x = ossiaS r x := by unfold doS; rw [if_neg (by omega), if_neg (by omega), if_neg (by omega), if_neg (by omega), if_pos h]
theorem do_6 {ws : List Wk} {r : Rm} {x : De} (h1 : x.2.2.1 ≠ 1) (h2 : x.2.2.1 ≠ 2) (h3 : x.2.2.1 ≠ 3) (h4 : x.2.2.1 ≠ 4) (h5 : x.2.2.1 ≠ 5) : doS ws r x = (r, 1) := by unfold doS; rw [if_neg h1, if_neg h2, if_neg h3, if_neg h4, if_neg h5]
theorem p_do (v b : Int) (r e : List T3) (j t n : Int) (c : List T3) (o : List Int) (ws : List Wk) (x1 x2 x3 x4 x5 x6 : Int) (hw : worksB ws = true) (hr : rise o) (hl : o.length ≤ 100) : P_do v b r e j t n c o ws x1 x2 x3 x4 x5 x6 := by
 unfold P_do E_do_6 E_do_5 E_do_4 E_do_3 E_do_2 E_do_1
 refine ⟨by decide, by decide, by decide, by decide, by decide, by decide, by decide, by decide, by decide, by decide, fun h1 => ⟨fun q => (by cases q), fun _ => ?_⟩, fun h1 => ⟨fun h2 => ⟨fun q => (by cases q), fun _ => ?_⟩, fun h2 => ⟨fun h3 => ⟨fun q => (by cases q), fun _ => ?_⟩, fun h3 => ⟨fun h4 => ⟨fun q => (by cases q), fun _ => ?_⟩, fun h4 => ⟨fun h5 => ⟨fun q => (by cases q), fun _ => ?_⟩, fun h5 => ⟨h1, h2, h3, h4, h5, fun _ => ?_, fun q => by cases q⟩⟩⟩⟩⟩⟩
 ·subst h1; rw [do_1 rfl]; exact ⟨hw, by (repeat' (first | rfl | trivial | apply And.intro))⟩
 ·subst h2; rw [do_2 rfl]; exact ⟨(reform_snd _ _).symm, by (repeat' (first | rfl | trivial | apply And.intro))⟩
 ·subst h3; rw [do_3 rfl]; exact ⟨(reform_snd _ _).symm, by (repeat' (first | rfl | trivial | apply And.intro))⟩
 ·subst h4; rw [do_4 rfl]; (repeat' (first | rfl | trivial | apply And.intro))
 ·subst h5; rw [do_5 rfl]; exact ⟨hr, hl, by (repeat' (first | rfl | trivial | apply And.intro))⟩
 ·rw [do_6 h1 h2 h3 h4 h5]; (repeat' (first | rfl | trivial | apply And.intro))
theorem p_isTime (n : Int) : P_isTime n := rfl
theorem p_rTime (n : Int) : P_rTime n := by unfold P_rTime isTimeB; congr 1
theorem p_until (ds : List De) (kn tm : Int) : P_until ds kn tm := by unfold P_until; (repeat' (first | rfl | trivial | apply And.intro))
theorem until_cond (kn tm : Int) (x : De) : (decide (x.1 > kn) || decide (x.2.1 > tm)) = !inTime kn tm x := by
 unfold inTime
 rw [Bool.not_and]
 congr 1 <;> rw [← decide_not] <;> exact decide_eq_decide.2 (by omega)
theorem live_pre {go : Lp (De × Unit)} {ds : List De} {x : Nat} (hx : x ≤ ds.length) (h : ∀ i, 0 < i → i ≤ x → go ((h1 ds).take i) = true) : live go ((h1 ds).take x) := by
 rcases Nat.eq_zero_or_pos x with h0 | h0
 ·exact .inl (by rw [h0]; rfl)
 ·exact .inr (h x h0 (Nat.le_refl _))
theorem h1_takes {ds : List De} {x : Nat} (h : x < ds.length) : (h1 ds).take (x + 1) = (h1 ds).take x ++ [(ds.getD x de0, ())] := by
 rw [h1_take, h1_take, takeG de0 h, h1_app]; rfl
theorem fed_all {go : Lp (De × Unit)} {ds : List De} : ∀ {x : Nat}, x ≤ ds.length → (∀ i, 0 < i → i ≤ x → go ((h1 ds).take i) = true) → ∀ rest, gfed go.go [] (h1 (ds.take x ++ rest)) = gfed go.go ((h1 ds).take x) (h1 rest)
 | 0, _, _, rest => rfl
 | x + 1, hx, h, rest => by
  have e : ds.take (x + 1) ++ rest = ds.take x ++ (ds.getD x de0 :: rest) := by rw [takeG de0 hx]; simp
  rw [e, fed_all (x := x) (by omega) (fun i h0 hi => h i h0 (by omega))]
  have hg := h (x + 1) (by omega) (Nat.le_refl _)
  rw [h1_takes hx] at hg ⊢
  show gfed go.go _ ((ds.getD x de0, ()) :: h1 rest) = _
  rw [gfed, if_pos hg]
theorem p_until1 (ds : List De) (kn tm : Int) (go : Lp (De × Unit)) (hok : ∀ m, go.ok ((h1 (untilL ds kn tm)).take m)) : P_until1 ds kn tm go := by
 unfold P_until1 E_until1_2 E_until1_1
 intro _
 refine ⟨⟨0, ⟨Nat.zero_le _, fun i hi => by omega, fun i h0 hi => by omega⟩, rfl, rfl, rfl⟩, fun x ⟨hx, hin, hgo⟩ => ⟨fun hlt => ?_, fun hge => ?_⟩⟩
 ·have hlt' : x < ds.length := by have := of_decide_eq_true hlt; omega
  simp only [d0D, tnG]
  rw [until_cond]
  have hsn := h1_takes hlt'
  cases hc : inTime kn tm (ds.getD x de0) with
  | false =>
   refine ⟨by omega, by omega, (fun q => by cases q), fun _ => ⟨?_, by (repeat' (first | rfl | trivial | apply And.intro))⟩, (fun q => by cases q)⟩
   show (h1 ds).take x = _
   rw [until_take hx hin (.inr hc)]
   have := fed_all (go := go) hx hgo []
   rw [List.append_nil] at this
   exact this.symm
  | true =>
   refine ⟨by omega, by omega, fun _ => ⟨⟨live_pre hx hgo, ?_⟩, by (repeat' (first | rfl | trivial | apply And.intro))⟩, fun hb => ⟨?_, by (repeat' (first | rfl | trivial | apply And.intro))⟩, fun hb => ⟨by unfold InI64; omega, x + 1, ⟨hlt', fun i hi => ?_, fun i h0 hi => ?_⟩, by omega, by omega, by repeat' (first | exact rfl | exact hsn.symm | exact trivial | apply And.intro)⟩⟩
   ·have h2 := hok (x + 1)
    have h3 : (h1 (untilL ds kn tm)).take (x + 1) = (h1 ds).take (x + 1) := by
     rw [h1_take, h1_take]
     congr 1
     unfold untilL
     have h5 : ∀ (l : List De) (k : Nat), (∀ i, i < k → inTime kn tm (l.getD i de0) = true) → k ≤ l.length → (l.takeWhile (inTime kn tm)).take k = l.take k := by
      intro l
      induction l with
      | nil => intro k _ _; simp
      | cons y l ih =>
       intro k h hk
       cases k with
       | zero => rfl
       | succ k =>
        have h0 : inTime kn tm y = true := h 0 (by omega)
        rw [List.takeWhile_cons_of_pos h0, List.take_succ_cons, List.take_succ_cons, ih k (fun i hi => h (i + 1) (by omega)) (by simpa using hk)]
     refine h5 ds (x + 1) (fun i hi => ?_) hlt'
     by_cases hi' : i < x
     ·exact hin i hi'
     ·have : i = x := by omega
      subst this; exact hc
    rw [h3, hsn] at h2
    exact h2
   ·have hg : go.go ((h1 ds).take x ++ [(ds.getD x de0, ())]) = false := by simpa using hb
    show (h1 ds).take x ++ [(ds.getD x de0, ())] = _
    have e : ∃ rest, untilL ds kn tm = ds.take x ++ (ds.getD x de0 :: rest) := by
     have h5 : ∀ (l : List De) (k : Nat), k < l.length → (∀ i, i ≤ k → inTime kn tm (l.getD i de0) = true) → ∃ rest, l.takeWhile (inTime kn tm) = l.take k ++ (l.getD k de0 :: rest) := by
      intro l
      induction l with
      | nil => intro k hk _; simp at hk
      | cons y l ih =>
       intro k hk h
       have h0 : inTime kn tm y = true := h 0 (by omega)
       cases k with
       | zero => exact ⟨l.takeWhile (inTime kn tm), by rw [List.takeWhile_cons_of_pos h0]; rfl⟩
       | succ k =>
        obtain ⟨rest, hr⟩ := ih k (by simpa using hk) fun i hi => h (i + 1) (by omega)
        exact ⟨rest, by rw [List.takeWhile_cons_of_pos h0, hr]; rfl⟩
     refine h5 ds x hlt' fun i hi => ?_
     by_cases hi' : i < x
     ·exact hin i hi'
     ·have : i = x := by omega
      subst this; exact hc
    obtain ⟨rest, e⟩ := e
    rw [e, fed_all hx hgo]
    show _ = gfed go.go _ ((ds.getD x de0, ()) :: h1 rest)
    rw [gfed, if_neg (by rw [hg]; simp)]
   ·by_cases hi' : i < x
    ·exact hin i hi'
    ·have : i = x := by omega
     subst this; exact hc
   ·by_cases hi' : i ≤ x
    ·exact hgo i h0 hi'
    ·have : i = x + 1 := by omega
     subst this
     rw [hsn]; simpa using hb
 ·have hge' : x = ds.length := by have := of_decide_eq_false hge; omega
  refine ⟨?_, by (repeat' (first | rfl | trivial | apply And.intro))⟩
  rw [until_take hx hin (.inl (by omega))]
  have := fed_all (go := go) hx hgo []
  rw [List.append_nil] at this
  exact this.symm
theorem p_run (ws : List Wk) (ds : List De) (kn tm : Int) (hw : worksB ws = true) (hl : ds.length ≤ 1000000) : P_run ws ds kn tm := by
 unfold P_run E_run_1
 have hfed := fed_run (ws := ws) (r := firstR ws) (untilL ds kn tm) [] rfl
 rw [show unD [] ++ untilL ds kn tm = untilL ds kn tm from rfl] at hfed
 refine ⟨hw, fun m => ?_, rfl, trivial, by (repeat' (first | rfl | trivial | apply And.intro)), fun hist _ x hx => ?_, fun _ => ⟨fun h => ?_, fun h h2 => ?_, trivial⟩⟩
 ·unfold unD
  rw [List.length_map, List.length_take, h1_len]
  have := until_len ds kn tm
  have := Nat.min_le_right m (untilL ds kn tm).length
  omega
 ·have hlive : (runS ws (firstR ws) (unD hist)).2 = true := by
   rcases hx.1 with h | h
   ·rw [h]; rfl
   ·exact h
  have e : unD (hist ++ [x]) = unD hist ++ [x.1] := unD_app _ _
  have hs := run_snoc (x := x.1) hlive
  obtain ⟨o1, o2⟩ := run_oss1 ws (unD hist)
  rw [e]
  refine ⟨hw, o1, o2, fun h => ?_, fun h => ?_⟩
  ·have h : ¬ (doS ws (runS ws (firstR ws) (unD hist)).1 x.1).2 = 0 := by simpa using h
   have h' := do_err h
   rw [if_neg h] at hs
   rw [hs]
   refine ⟨rfl, trivial, rfl, ?_⟩
   rw [show doS ws ((runS ws (firstR ws) (unD hist)).1.1, ((runS ws (firstR ws) (unD hist)).1.2.1, (runS ws (firstR ws) (unD hist)).1.2.2)) x.1 = doS ws (runS ws (firstR ws) (unD hist)).1 x.1 from rfl] at *
   refine ⟨congrArg (fun q : Rm => q.1) h', congrArg (fun q : Rm => q.2.1.1) h', congrArg (fun q : Rm => q.2.1.2.1) h', congrArg (fun q : Rm => q.2.1.2.2.1) h', congrArg (fun q : Rm => q.2.1.2.2.2.1.1) h', congrArg (fun q : Rm => q.2.1.2.2.2.1.2.1) h', congrArg (fun q : Rm => q.2.1.2.2.2.1.2.2) h', congrArg (fun q : Rm => q.2.1.2.2.2.2) h', congrArg (fun q : Rm => q.2.2) h', by (repeat' (first | rfl | trivial | apply And.intro))⟩
  ·have h : (doS ws (runS ws (firstR ws) (unD hist)).1 x.1).2 = 0 := by simpa using h
   rw [if_pos h] at hs
   rw [hs]
   exact ⟨rfl, trivial, by (repeat' (first | rfl | trivial | apply And.intro))⟩
 ·have h2 : (runS ws (firstR ws) (unD (gfed (fun hist : List (De × Unit) => (runS ws (firstR ws) (unD hist)).2) [] (h1 (untilL ds kn tm))))).2 = true := by
   rcases h with h | h
   ·rw [h]; rfl
   ·exact h
  rw [hfed] at h2 ⊢
  exact ⟨h2.symm, by (repeat' (first | rfl | trivial | apply And.intro))⟩
 ·rw [hfed] at h2 ⊢
  exact ⟨h2.symm, by (repeat' (first | rfl | trivial | apply And.intro))⟩
theorem ordBad_eq (x : Nat) (last : Int) (q : De) : ((q.1 != (x : Int) + 1) || decide (q.2.1 < last) || !isTimeB q.2.1) = ordBad x last q := by
 unfold ordBad
 have : (q.1 != (x : Int) + 1) = decide (q.1 ≠ (x : Int) + 1) := by by_cases h : q.1 = (x : Int) + 1 <;> simp [h]
 rw [this]
theorem ord_no {ws : List Wk} {ds : List De} (h : ordFrom 0 0 ds = false) : ordB ws ds = false := by unfold ordB; rw [h, Bool.and_false]
theorem ord_parts {ws : List Wk} {ds : List De} (h : (!worksB ws || decide ((ds.length : Int) > 1000)) = false) : worksB ws = true ∧ ds.length ≤ 1000 := by
 simp only [Bool.or_eq_false_iff, Bool.not_eq_false', decide_eq_false_iff_not] at h
 exact ⟨h.1, by omega⟩
theorem ord_bad {ws : List Wk} {ds : List De} (h : (!worksB ws || decide ((ds.length : Int) > 1000)) = true) : ordB ws ds = false := by
 unfold ordB
 simp only [Bool.or_eq_true, Bool.not_eq_true', decide_eq_true_eq] at h
 rcases h with h | h
 ·rw [h]; rfl
 ·rw [decide_eq_false (by omega), Bool.and_false]; rfl
theorem ord_yes {ws : List Wk} {ds : List De} (h : (!worksB ws || decide ((ds.length : Int) > 1000)) = false) (h2 : ordFrom 0 0 ds = true) : ordB ws ds = true := by
 obtain ⟨a, b⟩ := ord_parts h
 unfold ordB
 rw [a, h2, decide_eq_true (by omega)]; rfl
theorem p_allA (ws : List Wk) (ds : List De) (ho : ordB ws ds = false) : P_allA ws ds := by
 intro hlen
 refine ⟨fun h => (by (repeat' (first | rfl | trivial | apply And.intro))), fun h _ => ⟨⟨0, ⟨Nat.zero_le _, rfl⟩, rfl, rfl⟩, fun x ⟨hx, hi⟩ => ⟨fun hlt => ?_, fun hge _ => ?_⟩⟩⟩
 ·have hlt' : x < ds.length := by have := of_decide_eq_true hlt; omega
  have hs := ord_step hlt'
  rw [← ordBad_eq] at hs
  obtain ⟨q1, q2⟩ := ord_parts h
  simp only [d0D, tnG]
  refine ⟨by omega, by omega, by unfold InI64; omega, fun h => (by (repeat' (first | rfl | trivial | apply And.intro))), fun h => ⟨by unfold InI64; omega, x + 1, ⟨hlt', ?_⟩, by omega, (by first | rfl | trivial), lastD_succ.symm, by (repeat' (first | rfl | trivial | apply And.intro))⟩⟩
  rw [hi, hs, show _ = false from h]; rfl
 ·have hx' : ¬ x < ds.length := by have := of_decide_eq_false hge; omega
  rw [ord_end hx'] at hi
  rw [ord_yes h hi] at ho; cases ho
theorem p_allB (ws : List Wk) (ds : List De) (ho : ordB ws ds = true) : P_allB ws ds := by
 intro hlen
 refine ⟨fun h => (by rw [ord_bad h] at ho; cases ho), fun h _ => ⟨⟨0, ⟨Nat.zero_le _, rfl⟩, rfl, rfl⟩, fun x ⟨hx, hi⟩ => ⟨fun hlt => ?_, fun hge _ => ?_⟩⟩⟩
 ·have hlt' : x < ds.length := by have := of_decide_eq_true hlt; omega
  have hs := ord_step hlt'
  rw [← ordBad_eq] at hs
  obtain ⟨q1, q2⟩ := ord_parts h
  simp only [d0D, tnG]
  refine ⟨by omega, by omega, by unfold InI64; omega, fun h => ?_, fun h => ⟨by unfold InI64; omega, x + 1, ⟨hlt', ?_⟩, by omega, (by first | rfl | trivial), lastD_succ.symm, by (repeat' (first | rfl | trivial | apply And.intro))⟩⟩
  ·rw [hs] at hi
   rw [ord_no (hi.trans (by rw [show _ = true from h]; rfl))] at ho; cases ho
  ·rw [hi, hs, show _ = false from h]; rfl
 ·have hx' : ¬ x < ds.length := by have := of_decide_eq_false hge; omega
  obtain ⟨q1, q2⟩ := ord_parts h
  rw [ord_end hx'] at hi
  rw [until_all ds.length hi (by omega)]
  exact ⟨q1, by omega, by (repeat' (first | rfl | trivial | apply And.intro))⟩
theorem p_valA (ws : List Wk) (ds : List De) (ho : ordB ws ds = false) : P_valA ws ds := ⟨ho, by unfold validD; rw [ho]; rfl⟩
theorem valid_run {ws : List Wk} {ds : List De} (ho : ordB ws ds = true) : validD ws ds = (runS ws (firstR ws) ds).2 := by unfold validD; rw [ho]; rfl
theorem p_valB (ws : List Wk) (ds : List De) (ho : ordB ws ds = true) : P_valB ws ds := ⟨ho, (valid_run ho).symm⟩
theorem valid_no {ws : List Wk} {ds : List De} (ho : ordB ws ds = false) : validD ws ds = false := by unfold validD; rw [ho]; rfl
theorem ord_works {ws : List Wk} {ds : List De} (ho : ordB ws ds = true) : worksB ws = true ∧ ds.length ≤ 1000 ∧ ordFrom 0 0 ds = true := by
 unfold ordB at ho
 simp only [Bool.and_eq_true, decide_eq_true_eq] at ho
 exact ⟨ho.1.1, by omega, ho.2⟩
theorem valid_ord {ws : List Wk} {ds : List De} (h : validD ws ds = true) : ordB ws ds = true ∧ (runS ws (firstR ws) ds).2 = true := by
 unfold validD at h; simpa using h
theorem pushBad_eq (ws : List Wk) (ds : List De) (x1 x2 x3 x4 x5 x6 : Int) : (!validD ws ds || decide (x3 < 1) || decide (x3 > 5) || (x1 != (ds.length : Int) + 1) || !isTimeB x2) = pushBad ws ds (x1, (x2, (x3, (x4, (x5, x6))))) := by
 unfold pushBad
 have : (x1 != (ds.length : Int) + 1) = decide (x1 ≠ (ds.length : Int) + 1) := by by_cases h : x1 = (ds.length : Int) + 1 <;> simp [h]
 rw [this]
theorem push_1 {ws : List Wk} {ds : List De} {x : De} (h : pushBad ws ds x = true) : pushS ws ds x = ([], 1) := by unfold pushS; rw [if_pos h]
theorem late_iff (ds : List De) (t : Int) : (decide ((ds.length : Int) > 0) && decide (t < (ds.getD ((ds.length : Int) - 1).toNat de0).2.1)) = decide (ds.length > 0 ∧ t < (ds.getD (ds.length - 1) de0).2.1) := by
 rw [show ((ds.length : Int) - 1).toNat = ds.length - 1 by omega, ← Bool.decide_and]
 exact decide_eq_decide.2 (by constructor <;> rintro ⟨a, b⟩ <;> exact ⟨by omega, b⟩)
theorem push_2 {ws : List Wk} {ds : List De} {x : De} (h : pushBad ws ds x = false) (h2 : ds.length > 0 ∧ x.2.1 < (ds.getD (ds.length - 1) de0).2.1) : pushS ws ds x = ([], 6) := by unfold pushS; rw [if_neg (by rw [h]; simp), if_pos h2]
theorem push_3 {ws : List Wk} {ds : List De} {x : De} (h : pushBad ws ds x = false) (h2 : ¬ (ds.length > 0 ∧ x.2.1 < (ds.getD (ds.length - 1) de0).2.1)) (h3 : ds.length = 1000) : pushS ws ds x = ([], 2) := by unfold pushS; rw [if_neg (by rw [h]; simp), if_neg h2, if_pos h3]
theorem push_4 {ws : List Wk} {ds : List De} {x : De} (h : pushBad ws ds x = false) (h2 : ¬ (ds.length > 0 ∧ x.2.1 < (ds.getD (ds.length - 1) de0).2.1)) (h3 : ds.length ≠ 1000) (h4 : (doS ws (runS ws (firstR ws) ds).1 x).2 ≠ 0) : pushS ws ds x = ([], (doS ws (runS ws (firstR ws) ds).1 x).2) := by unfold pushS; rw [if_neg (by rw [h]; simp), if_neg h2, if_neg h3, if_pos h4]
theorem push_5 {ws : List Wk} {ds : List De} {x : De} (h : pushBad ws ds x = false) (h2 : ¬ (ds.length > 0 ∧ x.2.1 < (ds.getD (ds.length - 1) de0).2.1)) (h3 : ds.length ≠ 1000) (h4 : (doS ws (runS ws (firstR ws) ds).1 x).2 = 0) : pushS ws ds x = (ds ++ [x], 0) := by unfold pushS; rw [if_neg (by rw [h]; simp), if_neg h2, if_neg h3, if_neg (by omega)]
theorem p_pushA (ws : List Wk) (ds : List De) (x1 x2 x3 x4 x5 x6 : Int) (ho : ordB ws ds = false) : P_pushA ws ds x1 x2 x3 x4 x5 x6 := by
 refine ⟨ho, fun _ => ⟨fun h => by simp at h, fun h => ?_, fun h => by simp at h⟩⟩
 have hb : pushBad ws ds (x1, (x2, (x3, (x4, (x5, x6))))) = true := by rw [← pushBad_eq, valid_no ho]; rfl
 rw [push_1 hb]; exact ⟨rfl, rfl⟩
theorem p_pushB (ws : List Wk) (ds : List De) (x1 x2 x3 x4 x5 x6 : Int) (ho : ordB ws ds = true) : P_pushB ws ds x1 x2 x3 x4 x5 x6 := by
 unfold P_pushB E_pushB_1
 obtain ⟨hw, hl, hf⟩ := ord_works ho
 have hb := pushBad_eq ws ds x1 x2 x3 x4 x5 x6
 rw [valid_run ho] at hb
 obtain ⟨o1, o2⟩ := run_oss1 ws ds
 refine ⟨ho, fun _ => ⟨fun h => by unfold InI64; omega, fun h => ?_, fun h => ⟨fun _ => by unfold InI64; omega, fun h0 => by have := of_decide_eq_true h0; omega, fun h2 => ?_, fun h2 => ⟨fun h3 => ?_, fun h3 => ⟨hw, o1, o2, fun h4 => ?_, fun h4 => ?_⟩⟩⟩⟩⟩
 ·rw [push_1 (hb.symm.trans h)]; exact ⟨rfl, rfl⟩
 ·have h2 := of_decide_eq_true ((late_iff ds x2).symm.trans h2)
  rw [push_2 (hb.symm.trans h) h2]; exact ⟨rfl, rfl⟩
 ·have h2 := of_decide_eq_false ((late_iff ds x2).symm.trans h2)
  have h3 : ds.length = 1000 := by
   have : (ds.length : Int) = 1000 := by simpa using h3
   omega
  rw [push_3 (hb.symm.trans h) h2 h3]; exact ⟨rfl, rfl⟩
 ·have h2 := of_decide_eq_false ((late_iff ds x2).symm.trans h2)
  have h3 : ds.length ≠ 1000 := by
   have : ¬ (ds.length : Int) = 1000 := by simpa using h3
   omega
  have h4 : (doS ws (runS ws (firstR ws) ds).1 (x1, (x2, (x3, (x4, (x5, x6)))))).2 ≠ 0 := by simpa using h4
  rw [push_4 (hb.symm.trans h) h2 h3 h4]; exact ⟨rfl, rfl⟩
 ·have h2 := of_decide_eq_false ((late_iff ds x2).symm.trans h2)
  have h3 : ds.length ≠ 1000 := by
   have : ¬ (ds.length : Int) = 1000 := by simpa using h3
   omega
  have h4 : (doS ws (runS ws (firstR ws) ds).1 (x1, (x2, (x3, (x4, (x5, x6)))))).2 = 0 := by simpa using h4
  rw [push_5 (hb.symm.trans h) h2 h3 h4]
  exact ⟨by omega, by (repeat' (first | rfl | trivial | apply And.intro)), by omega, by simp, rfl, rfl⟩
theorem at_1 {ws : List Wk} {ds : List De} {kn tm : Int} (h : atBad ws ds kn tm = true) : atD ws ds kn tm = (rm0, 1) := by unfold atD; rw [if_pos h]
theorem at_2 {ws : List Wk} {ds : List De} {kn tm : Int} (h : atBad ws ds kn tm = false) : atD ws ds kn tm = ((runS ws (firstR ws) (untilL ds kn tm)).1, 0) := by unfold atD; rw [if_neg (by rw [h]; simp)]
theorem p_atA (ws : List Wk) (ds : List De) (kn tm : Int) (ho : ordB ws ds = false) : P_atA ws ds kn tm := by
 refine ⟨ho, fun _ => ⟨fun h => ?_, fun h => by simp at h⟩⟩
 have hb : atBad ws ds kn tm = true := by unfold atBad; rw [valid_no ho]; rfl
 rw [at_1 hb]; (repeat' (first | rfl | trivial | apply And.intro))
theorem p_atB (ws : List Wk) (ds : List De) (kn tm : Int) (ho : ordB ws ds = true) : P_atB ws ds kn tm := by
 obtain ⟨hw, hl, hf⟩ := ord_works ho
 have hb : atBad ws ds kn tm = (!(runS ws (firstR ws) ds).2 || decide (kn < 0) || decide (kn > ds.length) || !isTimeB tm) := by unfold atBad; rw [valid_run ho]
 refine ⟨ho, fun _ => ⟨fun h => ?_, fun h => ⟨hw, by omega, ?_⟩⟩⟩
 ·rw [at_1 (hb.trans h)]; (repeat' (first | rfl | trivial | apply And.intro))
 ·rw [at_2 (hb.trans h)]; (repeat' (first | rfl | trivial | apply And.intro))
theorem p_rSameI (l m : List Int) : P_rSameI l m := by
 intro _ _
 refine ⟨fun h => eqIs_no (fun e => by subst e; simp at h), fun h => ?_⟩
 have hl : l.length = m.length := by simp at h; omega
 refine ⟨⟨0, ⟨by omega, rfl⟩, rfl⟩, fun x ⟨hx, he⟩ _ => ⟨fun hlt => ?_, fun hge => ?_⟩⟩
 ·have hlt' : x < l.length := by have := of_decide_eq_true hlt; omega
  rw [tnG]
  refine ⟨by omega, by omega, by omega, by omega, fun hc => eqIs_no (fun e => by subst e; simp at hc), fun hc => ⟨by unfold InI64; omega, x + 1, ⟨by omega, ?_⟩, by omega, by omega, by (repeat' (first | rfl | trivial | apply And.intro))⟩⟩
  have hc' : l.getD x 0 = m.getD x 0 := bne_eq_false_iff_eq.1 hc
  rw [takeG (0 : Int) hlt', takeG (0 : Int) (by omega), he, hc']
 ·have hge' : x = l.length := by have := of_decide_eq_false hge; omega
  subst hge'
  have : l = m := by rw [List.take_length, hl, List.take_length] at he; exact he
  unfold eqIs; rw [decide_eq_true this]
theorem ver_eq (w : Wk) (x : Int) : (w.1.1 == x) = isVer x w := by unfold isVer verW; by_cases h : w.1.1 = x <;> simp [h]
theorem p_rFind (ws : List Wk) (x : Int) : P_rFind ws x := by
 refine ⟨⟨0, ⟨by omega, fun i hi => by omega⟩, rfl⟩, fun k ⟨hx, hn⟩ _ => ⟨fun hlt => ?_, fun hge => ?_⟩⟩
 ·have hlt' : k < ws.length := by have := of_decide_eq_true hlt; omega
  simp only [d0W, tnG]
  rw [ver_eq]
  refine ⟨by omega, by omega, fun hc => (gidx_some wk0 hlt' hn hc).symm, fun hc => ⟨by unfold InI64; omega, k + 1, ⟨by omega, fun i hi => ?_⟩, by omega, by omega, by (repeat' (first | rfl | trivial | apply And.intro))⟩⟩
  by_cases hi' : i < k
  ·exact hn i hi'
  ·have : i = k := by omega
   subst this
   exact hc
 ·have hge' : k = ws.length := by have := of_decide_eq_false hge; omega
  subst hge'
  exact (gidx_none wk0 hn).symm
theorem p_rFirst (ws : List Wk) (h : 0 < ws.length) : P_rFirst ws := ⟨by omega, by omega, by omega, by omega, by (repeat' (first | rfl | trivial | apply And.intro))⟩
theorem p_rWorks (ws : List Wk) : P_rWorks ws := by
 unfold P_rWorks E_rWorks_2 E_rWorks_1
 intro _ _
 refine ⟨fun h => ?_, fun h => ⟨⟨0, ⟨Nat.zero_le _, rfl⟩, rfl, rfl⟩, fun x ⟨hx, hi⟩ _ => ⟨fun hlt => ?_, fun hge => ?_⟩⟩⟩
 ·have h : (ws.length : Int) < 1 ∨ (ws.length : Int) > 100 := by simpa using h
  unfold worksB
  rcases h with h | h
  ·rw [decide_eq_false (by omega : ¬ (ws.length : Int) ≥ 1)]; simp
  ·rw [decide_eq_false (by omega : ¬ (ws.length : Int) ≤ 100)]; simp
 ·have hlt' : x < ws.length := by have := of_decide_eq_true hlt; omega
  have hs := works_step hlt'
  rw [← workBad_eq2] at hs
  simp only [d0W, tnG]
  refine ⟨by omega, by omega, fun _ => ⟨by omega, by omega⟩, fun _ => ⟨by omega, by omega⟩, fun _ => ⟨by omega, by omega⟩, fun hl => ⟨fun h => ?_, fun h => ⟨by unfold InI64; omega, x + 1, ⟨hlt', ?_⟩, by omega, (by first | rfl | trivial), lastW_succ.symm, by (repeat' (first | rfl | trivial | apply And.intro))⟩⟩⟩
  ·rw [hs] at hi
   exact (works_bad (hi.trans (by rw [show _ = true from h]; rfl))).symm
  ·rw [hi, hs, show _ = false from h]; rfl
 ·have hx' : ¬ x < ws.length := by have := of_decide_eq_false hge; omega
  have h : ¬ (ws.length : Int) < 1 ∧ ¬ (ws.length : Int) > 100 := by simpa using h
  unfold worksB
  rw [hi, works_end hx', decide_eq_true (by omega : (ws.length : Int) ≥ 1), decide_eq_true (by omega : (ws.length : Int) ≤ 100)]; rfl
theorem oss_res {r : Rm} {x : De} (h : ossBad x = false) (hh : ¬ hasI r.2.2 x.2.2.2.1 = decide (x.2.2.2.2.1 = 1)) : ossiaS r x = if hasI r.2.2 x.2.2.2.1 then ((r.1, (r.2.1, r.2.2.eraseIdx (RatLaw.below r.2.2 x.2.2.2.1))), 0) else ((r.1, (r.2.1, putS r.2.2 x.2.2.2.1)), 0) := by
 unfold ossiaS; rw [if_neg (by rw [h]; simp), if_neg hh]
theorem ossO_cond (a y : Int) (b : Int) (o : List Int) (k : Nat) : (decide (y > a) && (b == 1) && (((k : Int) == 0) || decide (o.getD ((k : Int) - 1).toNat 0 < a))) = decide (y > a ∧ b = 1 ∧ (k = 0 ∨ o.getD (k - 1) 0 < a)) := by
 rw [show ((k : Int) - 1).toNat = k - 1 by omega, Bool.eq_iff_iff]
 simp only [Bool.and_eq_true, Bool.or_eq_true, decide_eq_true_eq, beq_iff_eq]
 constructor
 ·rintro ⟨⟨h1, h2⟩, h3⟩; exact ⟨h1, h2, h3.imp (fun h => by omega) id⟩
 ·rintro ⟨h1, h2, h3⟩; exact ⟨⟨h1, h2⟩, h3.imp (fun h => by omega) id⟩
theorem last_cond (a : Int) (o : List Int) : (((o.length : Int) == 0) || decide (o.getD ((o.length : Int) - 1).toNat 0 < a)) = lastLt a o := by
 unfold lastLt
 rw [show ((o.length : Int) - 1).toNat = o.length - 1 by omega]
 congr 1
 by_cases h : o.length = 0 <;> simp [h]
theorem p_rOssia (v b : Int) (r e : List T3) (j t n : Int) (c : List T3) (o : List Int) (x1 x2 x3 x4 x5 x6 : Int) (hr : rise o) (hl : o.length ≤ 100) : P_rOssia v b r e j t n c o x1 x2 x3 x4 x5 x6 := by
 unfold P_rOssia E_rOssia_3 E_rOssia_2 E_rOssia_1
 have hbad := ossBad_iff (x := (x1, (x2, (x3, (x4, (x5, x6))))))
 refine ⟨fun h => ?_, fun h => ⟨⟨0, Nat.zero_le _, rfl, rfl, rfl, rfl⟩, fun x hx _ => ⟨fun hlt => ?_, fun hge => ?_⟩⟩⟩
 ·have h := hbad.trans h
  unfold ossiaS; rw [if_pos h]; (repeat' (first | rfl | trivial | apply And.intro))
 ·have hlt' : x < o.length := by have hq : (x : Int) < (o.length : Int) := of_decide_eq_true hlt; omega
  have hsu := ossO_succ x4 x5 o x
  have hlen := ossO_len x4 x5 o x
  have hA : (0 : Int) ≤ x := by omega
  have hB : (x : Int) < o.length := by omega
  simp only [tnG]
  refine ⟨hA, hB, fun h1 => ⟨by unfold InI64; omega, x + 1, by omega, by omega, by omega, ?_⟩, fun h1 => ⟨hA, hB, fun q => ?_, fun q => ?_, fun h2 => ?_, fun h2 => ?_⟩⟩
  ·have h1 : o.getD x 0 = x4 := eq_of_beq (a := o.getD x 0) h1
   rw [if_pos h1] at hsu
   rw [hsu]; (repeat' (first | rfl | trivial | apply And.intro))
  ·have : x ≠ 0 := fun z => by rw [z] at q; simp at q
   unfold InI64; omega
  ·have : x ≠ 0 := fun z => by rw [z] at q; simp at q
   exact ⟨by omega, (show (x : Int) - 1 < (o.length : Int) by omega)⟩
  ·have h1 : o.getD x 0 ≠ x4 := ne_of_beq_false (a := o.getD x 0) h1
   have h2 := of_decide_eq_true ((ossO_cond x4 (o.getD x 0) x5 o x).symm.trans h2)
   rw [if_neg h1, if_pos h2] at hsu
   refine ⟨by (repeat' (first | rfl | trivial | apply And.intro)), by omega, hA, hB, by simp, by omega, by unfold InI64; omega, x + 1, by omega, by omega, by omega, ?_⟩
   rw [hsu]
   repeat' (first | exact rfl | (simp only [List.length_append, List.length_singleton]; done) | apply And.intro)
  ·have h1 : o.getD x 0 ≠ x4 := ne_of_beq_false (a := o.getD x 0) h1
   have h2 := of_decide_eq_false ((ossO_cond x4 (o.getD x 0) x5 o x).symm.trans h2)
   rw [if_neg h1, if_neg h2] at hsu
   refine ⟨hA, hB, by (repeat' (first | rfl | trivial | apply And.intro)), by omega, by unfold InI64; omega, x + 1, by omega, by omega, by omega, ?_⟩
   rw [hsu]
   repeat' (first | exact rfl | (simp only [List.length_append, List.length_singleton]; done) | apply And.intro)
 ·have hx' : x = o.length := by have hq : ¬ (x : Int) < (o.length : Int) := of_decide_eq_false hge; omega
  subst hx'
  have h := hbad.trans h
  have hth := ossO_there (a := x4) (b := x5) (l := o) (Nat.le_refl _)
  rw [List.take_length] at hth
  have hlen := ossO_len x4 x5 o o.length
  have hb01 : x5 = 0 ∨ x5 = 1 := by
   unfold ossBad at h
   simp only [Bool.or_eq_false_iff, decide_eq_false_iff_not] at h
   omega
  refine ⟨fun h2 => ?_, fun h2 => ⟨fun q => by unfold InI64; omega, fun q => ?_, fun _ _ => ⟨fun h3 => ?_, fun h3 => ?_⟩⟩⟩
  ·have h2 : (ossO x4 x5 o o.length).2 = x5 := by simpa using h2
   have : hasI o x4 = decide (x5 = 1) := by
    rw [h2] at hth
    cases hh : hasI o x4 <;> rw [hh] at hth <;> rcases hb01 with rfl | rfl <;> first | rfl | (simp at hth)
   unfold ossiaS
   rw [if_neg (by rw [h]; simp), if_pos this]; (repeat' (first | rfl | trivial | apply And.intro))
  ·have q : ¬ ((ossO x4 x5 o o.length).1.length : Int) = 0 := by simpa using q.1
   omega
  ·have h2 : ¬ (ossO x4 x5 o o.length).2 = x5 := by simpa using h2
   have hne : ¬ hasI o x4 = decide (x5 = 1) := fun hh => h2 (by rw [hth, hh]; rcases hb01 with rfl | rfl <;> rfl)
   simp only [Bool.and_eq_true, beq_iff_eq] at h3
   obtain ⟨h4, h5⟩ := h3
   subst h4
   have hno : hasI o x4 = false := by cases hh : hasI o x4 with
    | false => rfl
    | true => rw [hh] at hne; exact absurd rfl hne
   have hp := oss_put hr hno
   have h5 := (last_cond x4 (ossO x4 1 o o.length).1).symm.trans h5
   rw [if_pos h5] at hp
   rw [oss_res h hne, if_neg (by rw [show hasI _ _ = false from hno]; simp), show putS _ _ = putS o x4 from rfl, ← hp]
   exact ⟨rfl, by omega, by (repeat' (first | rfl | trivial | apply And.intro))⟩
  ·have h2 : ¬ (ossO x4 x5 o o.length).2 = x5 := by simpa using h2
   have hne : ¬ hasI o x4 = decide (x5 = 1) := fun hh => h2 (by rw [hth, hh]; rcases hb01 with rfl | rfl <;> rfl)
   rw [oss_res h hne]
   rcases hb01 with rfl | rfl
   ·have hyes : hasI o x4 = true := by cases hh : hasI o x4 with
     | true => rfl
     | false => rw [hh] at hne; exact absurd rfl hne
    rw [if_pos hyes, show List.eraseIdx _ _ = o.eraseIdx (RatLaw.below o x4) from rfl, ← oss_del hr hyes]
    (repeat' (first | rfl | trivial | apply And.intro))
   ·have hno : hasI o x4 = false := by cases hh : hasI o x4 with
     | false => rfl
     | true => rw [hh] at hne; exact absurd rfl hne
    have hp := oss_put hr hno
    have h5 : lastLt x4 (ossO x4 1 o o.length).1 = false := by
     have := (congrArg (fun q => (((1 : Int) == 1) && q)) (last_cond x4 (ossO x4 1 o o.length).1)).symm.trans h3
     simpa using this
    rw [if_neg (by rw [h5]; simp)] at hp
    rw [if_neg (by rw [show hasI _ _ = false from hno]; simp), show putS _ _ = putS o x4 from rfl, ← hp]
    (repeat' (first | rfl | trivial | apply And.intro))
theorem p_rDo (ws : List Wk) (v b : Int) (r e : List T3) (j t n : Int) (c : List T3) (o : List Int) (x1 x2 x3 x4 x5 x6 : Int) (hr : rise o) (hl : o.length ≤ 100) : P_rDo ws v b r e j t n c o x1 x2 x3 x4 x5 x6 := by
 unfold P_rDo E_rDo_3 E_rDo_2 E_rDo_1
 refine ⟨fun h1 => ⟨fun h => ?_, fun h => ⟨fun h2 => ?_, fun h2 => ?_⟩⟩, fun h1 => ⟨fun h2 => ⟨fun h => ?_, fun h => ?_⟩, fun h2 => ⟨fun h3 => ⟨fun h => ?_, fun h => ?_⟩, fun h3 => ⟨fun h4 => ⟨fun h => ?_, fun h => ⟨fun g => ?_, fun g => ?_⟩⟩, fun h4 => ⟨fun h5 => ?_, fun h5 => ⟨fun _ => ?_, fun q => by simp at q⟩⟩⟩⟩⟩⟩
 ·have h1 : x3 = 1 := by simpa using h1
  rw [do_1 h1]
  unfold versionS; rw [if_pos (ne_or.1 h)]; (repeat' (first | rfl | trivial | apply And.intro))
 ·have h1 : x3 = 1 := by simpa using h1
  rw [do_1 h1]
  unfold versionS; rw [if_neg (ne_or'.1 h), if_pos (of_decide_eq_true h2)]; (repeat' (first | rfl | trivial | apply And.intro))
 ·have h1 : x3 = 1 := by simpa using h1
  have h2 := of_decide_eq_false h2
  obtain ⟨g1, g2, g3⟩ := gidx_spec wk0 (p := isVer x4) (l := ws) (by omega)
  have g2 : verW (ws.getD (gidx (isVer x4) ws).toNat wk0) = x4 := of_decide_eq_true g2
  rw [do_1 h1]
  unfold versionS; rw [if_neg (ne_or'.1 h), if_neg h2]
  exact ⟨by omega, by omega, g2.symm, by (repeat' (first | rfl | trivial | apply And.intro))⟩
 ·have h2 : x3 = 2 := by simpa using h2
  have h : (cutS (b, (r, (e, ((j, (t, n)), c)))) (x4, (x5, x6))).2 ≠ 0 := by simpa using h
  rw [do_2 h2]
  unfold cutD reformS; rw [if_neg h]; (repeat' (first | rfl | trivial | apply And.intro))
 ·have h2 : x3 = 2 := by simpa using h2
  have h : (cutS (b, (r, (e, ((j, (t, n)), c)))) (x4, (x5, x6))).2 = 0 := by simpa using h
  rw [do_2 h2]
  unfold cutD reformS; rw [if_pos h]; (repeat' (first | rfl | trivial | apply And.intro))
 ·have h3 : x3 = 3 := by simpa using h3
  have h : (openS (b, (r, (e, ((j, (t, n)), c)))) (x4, (x5, x6))).2 ≠ 0 := by simpa using h
  rw [do_3 h3]
  unfold openD reformS; rw [if_neg h]; (repeat' (first | rfl | trivial | apply And.intro))
 ·have h3 : x3 = 3 := by simpa using h3
  have h : (openS (b, (r, (e, ((j, (t, n)), c)))) (x4, (x5, x6))).2 = 0 := by simpa using h
  rw [do_3 h3]
  unfold openD reformS; rw [if_pos h]; (repeat' (first | rfl | trivial | apply And.intro))
 ·have h4 : x3 = 4 := by simpa using h4
  have h : x6 ≠ 0 := by simpa using h
  rw [do_4 h4]
  unfold timesD; rw [if_pos h]; (repeat' (first | rfl | trivial | apply And.intro))
 ·have h4 : x3 = 4 := by simpa using h4
  have h : ¬ x6 ≠ 0 := by simpa using h
  have g : (timesS (b, (r, (e, ((j, (t, n)), c)))) x4 x5).2 ≠ 0 := by simpa using g
  rw [do_4 h4]
  unfold timesD reformS; rw [if_neg h, if_neg g]; (repeat' (first | rfl | trivial | apply And.intro))
 ·have h4 : x3 = 4 := by simpa using h4
  have h : ¬ x6 ≠ 0 := by simpa using h
  have g : (timesS (b, (r, (e, ((j, (t, n)), c)))) x4 x5).2 = 0 := by simpa using g
  rw [do_4 h4]
  unfold timesD reformS; rw [if_neg h, if_pos g]; (repeat' (first | rfl | trivial | apply And.intro))
 ·have h5 : x3 = 5 := by simpa using h5
  rw [do_5 h5]
  exact ⟨hr, hl, by (repeat' (first | rfl | trivial | apply And.intro))⟩
 ·have h1 : x3 ≠ 1 := by simpa using h1
  have h2 : x3 ≠ 2 := by simpa using h2
  have h3 : x3 ≠ 3 := by simpa using h3
  have h4 : x3 ≠ 4 := by simpa using h4
  have h5 : x3 ≠ 5 := by simpa using h5
  rw [do_6 h1 h2 h3 h4 h5]; (repeat' (first | rfl | trivial | apply And.intro))
theorem p_rAfter (ws : List Wk) (ds : List De) (hw : worksB ws = true) : P_rAfter ws ds := by
 unfold P_rAfter E_rAfter_1
 have hl := works_mem hw
 refine ⟨by omega, ⟨0, ⟨Nat.zero_le _, rfl⟩, by (repeat' (first | rfl | trivial | apply And.intro))⟩, fun x ⟨hx, hrun⟩ _ => ⟨fun hlt => ?_, fun hge => ?_⟩⟩
 ·have hlt' : x < ds.length := by have := of_decide_eq_true hlt; omega
  obtain ⟨o1, o2⟩ := run_oss1 ws (ds.take x)
  have hs := run_snoc (x := ds.getD x de0) hrun
  rw [← takeG de0 hlt'] at hs
  simp only [d0D, tnG]
  refine ⟨by omega, by omega, o1, o2, fun h => ?_, fun h => ⟨by unfold InI64; omega, x + 1, ⟨by omega, ?_⟩, by omega, by omega, ?_⟩⟩
  ·have h : ¬ (doS ws (runS ws (firstR ws) (ds.take x)).1 (ds.getD x de0)).2 = 0 := by simpa using h
   have e : ds = ds.take x ++ (ds.getD x de0 :: ds.drop (x + 1)) := by rw [← dropG de0 hlt', List.take_append_drop]
   have e1 : runS ws (firstR ws) ds = ((runS ws (firstR ws) (ds.take x)).1, false) := by
    conv => lhs; rw [e]
    rw [run_app, if_pos hrun, run_cons, if_neg h]
   have e2 : runE ws (firstR ws) ds = (doS ws (runS ws (firstR ws) (ds.take x)).1 (ds.getD x de0)).2 := by
    conv => lhs; rw [e]
    rw [runE_app hrun, runE_cons, if_neg h]
   rw [e1, e2]; (repeat' (first | rfl | trivial | apply And.intro))
  ·have h : (doS ws (runS ws (firstR ws) (ds.take x)).1 (ds.getD x de0)).2 = 0 := by simpa using h
   rw [hs, if_pos h]
  ·have h : (doS ws (runS ws (firstR ws) (ds.take x)).1 (ds.getD x de0)).2 = 0 := by simpa using h
   rw [hs, if_pos h]; (repeat' (first | rfl | trivial | apply And.intro))
 ·have hx' : x = ds.length := by have := of_decide_eq_false hge; omega
  subst hx'
  rw [List.take_length] at hrun ⊢
  rw [(runE_ok).2 hrun]
  (repeat' (first | rfl | trivial | apply And.intro))
theorem p_rValidD (ws : List Wk) (ds : List De) : P_rValidD ws ds := by
 intro hlen
 refine ⟨fun h => by rw [valid_no (ord_bad h)], fun h => ⟨⟨0, ⟨Nat.zero_le _, rfl⟩, rfl, rfl⟩, fun x ⟨hx, hi⟩ _ => ⟨fun hlt => ?_, fun hge => ?_⟩⟩⟩
 ·have hlt' : x < ds.length := by have := of_decide_eq_true hlt; omega
  have hs := ord_step hlt'
  rw [← ordBad_eq] at hs
  simp only [d0D, tnG]
  refine ⟨by omega, by omega, by unfold InI64; omega, fun _ => ⟨by omega, by omega⟩, fun _ => ⟨by omega, by omega⟩, fun h => ?_, fun h => ⟨by omega, by omega, by unfold InI64; omega, x + 1, ⟨hlt', ?_⟩, by omega, (by first | rfl | trivial), lastD_succ.symm, by (repeat' (first | rfl | trivial | apply And.intro))⟩⟩
  ·rw [hs] at hi
   rw [valid_no (ord_no (hi.trans (by rw [show _ = true from h]; rfl)))]
  ·rw [hi, hs, show _ = false from h]; rfl
 ·have hx' : ¬ x < ds.length := by have := of_decide_eq_false hge; omega
  rw [ord_end hx'] at hi
  refine ⟨(ord_parts h).1, ?_⟩
  rw [valid_run (ord_yes h hi), Bool.eq_iff_iff, beq_iff_eq]
  exact runE_ok
theorem p_rSameR (v b : Int) (r e : List T3) (j t n : Int) (c : List T3) (o : List Int) (v' b' : Int) (r' e' : List T3) (j' t' n' : Int) (c' : List T3) (o' : List Int) : P_rSameR v b r e j t n c o v' b' r' e' j' t' n' c' o' := by
 unfold P_rSameR sameR
 have : (v == v') = decide (v = v') := by by_cases h : v = v' <;> simp [h]
 rw [this]
theorem de_eq (a c : De) : (a.1 == c.1 && (a.2.1 == c.2.1 && (a.2.2.1 == c.2.2.1 && (a.2.2.2.1 == c.2.2.2.1 && (a.2.2.2.2.1 == c.2.2.2.2.1 && a.2.2.2.2.2 == c.2.2.2.2.2))))) = decide (a = c) := by
 obtain ⟨a1, a2, a3, a4, a5, a6⟩ := a
 obtain ⟨c1, c2, c3, c4, c5, c6⟩ := c
 rw [Bool.eq_iff_iff]
 simp only [Bool.and_eq_true, beq_iff_eq, decide_eq_true_eq, Prod.mk.injEq]
theorem p_rSameD (l m : List De) : P_rSameD l m := by
 refine fun hl hm => ⟨fun h => ?_, fun h => ⟨⟨0, ⟨Nat.zero_le _, rfl⟩, (by first | rfl | trivial)⟩, fun x ⟨hx, ht⟩ _ => ⟨fun hlt => ?_, fun hge => ?_⟩⟩⟩
 ·have : ¬ l = m := fun e => by rw [e] at h; simp at h
  unfold sameD; simp [this]
 ·have he : l.length = m.length := by simp at h; omega
  have hlt' : x < l.length := by have := of_decide_eq_true hlt; omega
  simp only [d0D, tnG, de_eq]
  refine ⟨by omega, by omega, by omega, by omega, fun hn => ?_, fun hn => ⟨by unfold InI64; omega, x + 1, ⟨hlt', ?_⟩, by omega, by (repeat' (first | rfl | trivial | apply And.intro))⟩⟩
  ·have : ¬ l = m := at_eqG de0 (x := x) (by simpa using hn)
   unfold sameD; simp [this]
  ·exact take_eqG de0 he hlt' ht (by simpa using hn)
 ·have he : l.length = m.length := by simp at h; omega
  have hx' : x = l.length := by have := of_decide_eq_false hge; omega
  rw [hx', List.take_length, he, List.take_length] at ht
  unfold sameD; simp [ht]
theorem few_le {ws : List Wk} {ds : List De} (h : fewD ws ds = true) : ws.length ≤ 6 ∧ ds.length ≤ 30 ∧ ∀ w ∈ ws, fewW w = true := by
 unfold fewD at h
 simp only [Bool.and_eq_true, decide_eq_true_eq, List.all_eq_true] at h
 exact ⟨h.1.2, h.2, h.1.1⟩
theorem fewW_eq (w : Wk) : (!fewF w.2.1 || decide ((w.1.2.1.length : Int) > 60)) = !fewW w := by
 unfold fewW formW
 rw [Bool.not_and, ← decide_not]
 congr 1
 exact decide_eq_decide.2 (by omega)
theorem p_rFew (ws : List Wk) (ds : List De) : P_rFew ws ds := by
 unfold P_rFew E_rFew_1
 refine ⟨⟨0, ⟨Nat.zero_le _, by omega, fun i hi => by omega⟩, rfl⟩, fun x ⟨hx, h7, hn⟩ _ => ⟨fun hlt => ?_, fun hge _ _ => ?_⟩⟩
 ·simp only [Bool.and_eq_true, decide_eq_true_eq] at hlt
  have hlt' : x < ws.length := by omega
  have hf := fewW_eq (ws.getD x wk0)
  simp only [d0W, tnG]
  refine ⟨by omega, by omega, fun _ => ⟨by omega, by omega⟩, fun _ => ⟨fun h => ?_, fun h => ⟨by unfold InI64; omega, x + 1, ⟨by omega, by omega, fun i hi => ?_⟩, by omega, by omega, by (repeat' (first | rfl | trivial | apply And.intro))⟩⟩⟩
  ·have h := hf.symm.trans h
   cases hq : fewD ws ds with
   | false => rfl
   | true =>
    have := (few_le hq).2.2 _ (memG wk0 hlt')
    rw [this] at h; cases h
  ·by_cases hi' : i < x
   ·exact hn i hi'
   ·have : i = x := by omega
    subst this
    have h := hf.symm.trans h
    simpa using h
 ·have hge : ¬ ((x : Int) < ws.length ∧ (x : Int) ≤ 6) := fun ⟨a, b⟩ => by rw [decide_eq_true a, decide_eq_true b] at hge; cases hge
  unfold fewD
  have e1 : decide ((ws.length : Int) ≤ 6) = decide (ws.length ≤ 6) := few_ints _ 6
  have e2 : decide ((ds.length : Int) ≤ 30) = decide (ds.length ≤ 30) := few_ints _ 30
  rw [e1, e2]
  by_cases h6 : ws.length ≤ 6
  ·have : ws.all fewW = true := by
    rw [List.all_eq_true]
    intro w hw
    obtain ⟨i, hi, rfl⟩ := List.getElem_of_mem hw
    have := hn i (by omega)
    rwa [List.getD_eq_getElem?_getD, List.getElem?_eq_getElem hi] at this
   rw [this, Bool.true_and]
  ·rw [decide_eq_false h6]; simp
end Go.Proofs.Ytcklbglladijlaa
