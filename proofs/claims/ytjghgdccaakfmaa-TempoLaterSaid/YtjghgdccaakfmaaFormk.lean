/- The functions meet their contracts. Written by a program (wip/tools/gen.py). -/
import Derived.Test.YtjghgdccaakfmaaFormq
import Derived.Test.YtjghgdccaakfmaaMeterk
namespace Go.Proofs.Ytjghgdccaakfmaa
open Go.Sy Go.RatLaw
set_option linter.unusedVariables false
set_option maxHeartbeats 4000000
set_option linter.unusedSimpArgs false

abbrev T_wi1 : Tab := []
theorem T_wi1_ok : TOk Try.prog T_wi1 := trivial
theorem v_wi1 (q1 q2 q3 x : Int) : (vcGe L T_wi1 Try.f105 [0, 1, 2, 3] (fun _ _ => none) [.agg [.d (.lit (.int .i64 q1)), .d (.lit (.int .i64 q2)), .d (.lit (.int .i64 q3))], .one (.ptr 2000 0)] [(2000, .cells [.d (.lit (.int .i64 x))])] (.t (B (inP x (q1, (q2, q3))))) [(2000, .cells [.d (.lit (.int .i64 x))])]).holds = P_wi1 q1 q2 q3 x := by kernel_rfl
theorem w_wi1 (q1 q2 q3 x : Int)  : (vcGe L T_wi1 Try.f105 [0, 1, 2, 3] (fun _ _ => none) [.agg [.d (.lit (.int .i64 q1)), .d (.lit (.int .i64 q2)), .d (.lit (.int .i64 q3))], .one (.ptr 2000 0)] [(2000, .cells [.d (.lit (.int .i64 x))])] (.t (B (inP x (q1, (q2, q3))))) [(2000, .cells [.d (.lit (.int .i64 x))])]).holds := by
  rw [v_wi1]
  exact p_wi1 q1 q2 q3 x 
theorem ok_wi1 : FnOk Try.prog 105 (CE.gen c_wi1).con := fnGe T_wi1 c_wi1 L_ok T_wi1_ok mixed Try.func105 (by kernel_rfl) (by kernel_rfl) fun args hp fr cs r up h hcs => by
  unfold c_wi1 at h
  split at h
  · rename_i q1 q2 q3 p
    split at h
    · rename_i x h_p
      split at h
      · rename_i hd
        injection h with h; injection h with h1 h2; injection h2 with h2 h3; subst h1 h2 h3
        exact ⟨[0, 1, 2, 3], (fun _ _ => none), (fun _ _ => none), [(2000, p)], [], [.agg [.d (.lit (.int .i64 q1)), .d (.lit (.int .i64 q2)), .d (.lit (.int .i64 q3))], .one (.ptr 2000 0)], [(2000, .cells [.d (.lit (.int .i64 x))])], (.t (B (inP x (q1, (q2, q3))))), [(2000, .cells [.d (.lit (.int .i64 x))])],
          Meets.of [(2000, p)] [] _ _ _ _ (by simp) (by simp) rfl rfl
          (by simp only [List.forall_mem_cons]; exact ⟨⟨_, rfl, h_p⟩, fun _ h => by cases h⟩)
          (fun q hq => by cases hq)
          (by simp only [List.cons_append, List.nil_append, List.append_nil, List.forall_mem_cons]; exact ⟨fun o ho => by injection ho with ho; subst ho; exact (by unfold upd; simp [look_cons, Go.Sy.look, h_p] <;> rfl), fun _ h => by cases h⟩)
          (by simp) rfl rfl rfl rfl rfl rfl rfl (by have h0 := w_wi1 q1 q2 q3 x; assumption)⟩
      · cases h
    · cases h
  · cases h
abbrev T_ae1 : Tab := []
theorem T_ae1_ok : TOk Try.prog T_ae1 := trivial
theorem v_ae1 (q1 q2 q3 x y z : Int) : (vcGe L T_ae1 Try.f94 [0, 1, 2, 3] (fun _ _ => none) [.agg [.d (.lit (.int .i64 q1)), .d (.lit (.int .i64 q2)), .d (.lit (.int .i64 q3))], .one (.ptr 2000 0)] [(2000, .cells [.d (.lit (.int .i64 x)), .d (.lit (.int .i64 y)), .d (.lit (.int .i64 z))])] (.t (B (coverP x y (q1, (q2, q3))))) [(2000, .cells [.d (.lit (.int .i64 x)), .d (.lit (.int .i64 y)), .d (.lit (.int .i64 z))])]).holds = P_ae1 q1 q2 q3 x y z := by kernel_rfl
theorem w_ae1 (q1 q2 q3 x y z : Int)  : (vcGe L T_ae1 Try.f94 [0, 1, 2, 3] (fun _ _ => none) [.agg [.d (.lit (.int .i64 q1)), .d (.lit (.int .i64 q2)), .d (.lit (.int .i64 q3))], .one (.ptr 2000 0)] [(2000, .cells [.d (.lit (.int .i64 x)), .d (.lit (.int .i64 y)), .d (.lit (.int .i64 z))])] (.t (B (coverP x y (q1, (q2, q3))))) [(2000, .cells [.d (.lit (.int .i64 x)), .d (.lit (.int .i64 y)), .d (.lit (.int .i64 z))])]).holds := by
  rw [v_ae1]
  exact p_ae1 q1 q2 q3 x y z 
theorem ok_ae1 : FnOk Try.prog 94 (CE.gen c_ae1).con := fnGe T_ae1 c_ae1 L_ok T_ae1_ok mixed Try.func94 (by kernel_rfl) (by kernel_rfl) fun args hp fr cs r up h hcs => by
  unfold c_ae1 at h
  split at h
  · rename_i q1 q2 q3 p
    split at h
    · rename_i x y z h_p
      split at h
      · rename_i hd
        injection h with h; injection h with h1 h2; injection h2 with h2 h3; subst h1 h2 h3
        exact ⟨[0, 1, 2, 3], (fun _ _ => none), (fun _ _ => none), [(2000, p)], [], [.agg [.d (.lit (.int .i64 q1)), .d (.lit (.int .i64 q2)), .d (.lit (.int .i64 q3))], .one (.ptr 2000 0)], [(2000, .cells [.d (.lit (.int .i64 x)), .d (.lit (.int .i64 y)), .d (.lit (.int .i64 z))])], (.t (B (coverP x y (q1, (q2, q3))))), [(2000, .cells [.d (.lit (.int .i64 x)), .d (.lit (.int .i64 y)), .d (.lit (.int .i64 z))])],
          Meets.of [(2000, p)] [] _ _ _ _ (by simp) (by simp) rfl rfl
          (by simp only [List.forall_mem_cons]; exact ⟨⟨_, rfl, h_p⟩, fun _ h => by cases h⟩)
          (fun q hq => by cases hq)
          (by simp only [List.cons_append, List.nil_append, List.append_nil, List.forall_mem_cons]; exact ⟨fun o ho => by injection ho with ho; subst ho; exact (by unfold upd; simp [look_cons, Go.Sy.look, h_p] <;> rfl), fun _ h => by cases h⟩)
          (by simp) rfl rfl rfl rfl rfl rfl rfl (by have h0 := w_ae1 q1 q2 q3 x y z; assumption)⟩
      · cases h
    · cases h
  · cases h
abbrev T_ba1 : Tab := []
theorem T_ba1_ok : TOk Try.prog T_ba1 := trivial
theorem v_ba1 (q1 q2 q3 x : Int) : (vcGe L T_ba1 Try.f99 [0, 1, 2, 3] (fun _ _ => none) [.agg [.d (.lit (.int .i64 q1)), .d (.lit (.int .i64 q2)), .d (.lit (.int .i64 q3))], .one (.ptr 2000 0)] [(2000, .cells [.d (.lit (.int .i64 x))])] (.t (B (startP x (q1, (q2, q3))))) [(2000, .cells [.d (.lit (.int .i64 x))])]).holds = P_ba1 q1 q2 q3 x := by kernel_rfl
theorem w_ba1 (q1 q2 q3 x : Int)  : (vcGe L T_ba1 Try.f99 [0, 1, 2, 3] (fun _ _ => none) [.agg [.d (.lit (.int .i64 q1)), .d (.lit (.int .i64 q2)), .d (.lit (.int .i64 q3))], .one (.ptr 2000 0)] [(2000, .cells [.d (.lit (.int .i64 x))])] (.t (B (startP x (q1, (q2, q3))))) [(2000, .cells [.d (.lit (.int .i64 x))])]).holds := by
  rw [v_ba1]
  exact p_ba1 q1 q2 q3 x 
theorem ok_ba1 : FnOk Try.prog 99 (CE.gen c_ba1).con := fnGe T_ba1 c_ba1 L_ok T_ba1_ok mixed Try.func99 (by kernel_rfl) (by kernel_rfl) fun args hp fr cs r up h hcs => by
  unfold c_ba1 at h
  split at h
  · rename_i q1 q2 q3 p
    split at h
    · rename_i x h_p
      split at h
      · rename_i hd
        injection h with h; injection h with h1 h2; injection h2 with h2 h3; subst h1 h2 h3
        exact ⟨[0, 1, 2, 3], (fun _ _ => none), (fun _ _ => none), [(2000, p)], [], [.agg [.d (.lit (.int .i64 q1)), .d (.lit (.int .i64 q2)), .d (.lit (.int .i64 q3))], .one (.ptr 2000 0)], [(2000, .cells [.d (.lit (.int .i64 x))])], (.t (B (startP x (q1, (q2, q3))))), [(2000, .cells [.d (.lit (.int .i64 x))])],
          Meets.of [(2000, p)] [] _ _ _ _ (by simp) (by simp) rfl rfl
          (by simp only [List.forall_mem_cons]; exact ⟨⟨_, rfl, h_p⟩, fun _ h => by cases h⟩)
          (fun q hq => by cases hq)
          (by simp only [List.cons_append, List.nil_append, List.append_nil, List.forall_mem_cons]; exact ⟨fun o ho => by injection ho with ho; subst ho; exact (by unfold upd; simp [look_cons, Go.Sy.look, h_p] <;> rfl), fun _ h => by cases h⟩)
          (by simp) rfl rfl rfl rfl rfl rfl rfl (by have h0 := w_ba1 q1 q2 q3 x; assumption)⟩
      · cases h
    · cases h
  · cases h
abbrev T_ie1 : Tab := []
theorem T_ie1_ok : TOk Try.prog T_ie1 := trivial
theorem v_ie1 (q1 q2 q3 x y : Int) : (vcGe L T_ie1 Try.f107 [0, 1, 2, 3, 4] (fun _ _ => none) [.agg [.d (.lit (.int .i64 q1)), .d (.lit (.int .i64 q2)), .d (.lit (.int .i64 q3))], .one (.ptr 2000 0), .one (.ptr 2001 0)] [(2000, .cells [.d (.lit (.int .i64 x))]), (2001, .cells [.d (.lit (.int .i64 y))])] (.t (B (endHit x y (q1, (q2, q3))))) [(2000, .cells [.d (.lit (.int .i64 x))]), (2001, .cells [.d (.lit (.int .i64 y))])]).holds = P_ie1 q1 q2 q3 x y := by kernel_rfl
theorem w_ie1 (q1 q2 q3 x y : Int)  : (vcGe L T_ie1 Try.f107 [0, 1, 2, 3, 4] (fun _ _ => none) [.agg [.d (.lit (.int .i64 q1)), .d (.lit (.int .i64 q2)), .d (.lit (.int .i64 q3))], .one (.ptr 2000 0), .one (.ptr 2001 0)] [(2000, .cells [.d (.lit (.int .i64 x))]), (2001, .cells [.d (.lit (.int .i64 y))])] (.t (B (endHit x y (q1, (q2, q3))))) [(2000, .cells [.d (.lit (.int .i64 x))]), (2001, .cells [.d (.lit (.int .i64 y))])]).holds := by
  rw [v_ie1]
  exact p_ie1 q1 q2 q3 x y 
theorem ok_ie1 : FnOk Try.prog 107 (CE.gen c_ie1).con := fnGe T_ie1 c_ie1 L_ok T_ie1_ok mixed Try.func107 (by kernel_rfl) (by kernel_rfl) fun args hp fr cs r up h hcs => by
  unfold c_ie1 at h
  split at h
  · rename_i q1 q2 q3 p q
    split at h
    · rename_i x h_p
      split at h
      · rename_i y h_q
        split at h
        · rename_i hd
          injection h with h; injection h with h1 h2; injection h2 with h2 h3; subst h1 h2 h3
          have e_p_q : p ≠ q := distinct_ne hd (i := 0) (j := 1) (by decide) rfl rfl
          exact ⟨[0, 1, 2, 3, 4], (fun _ _ => none), (fun _ _ => none), [(2000, p), (2001, q)], [], [.agg [.d (.lit (.int .i64 q1)), .d (.lit (.int .i64 q2)), .d (.lit (.int .i64 q3))], .one (.ptr 2000 0), .one (.ptr 2001 0)], [(2000, .cells [.d (.lit (.int .i64 x))]), (2001, .cells [.d (.lit (.int .i64 y))])], (.t (B (endHit x y (q1, (q2, q3))))), [(2000, .cells [.d (.lit (.int .i64 x))]), (2001, .cells [.d (.lit (.int .i64 y))])],
            Meets.of [(2000, p), (2001, q)] [] _ _ _ _ (by simp) (by simp [e_p_q, Ne.symm e_p_q]) rfl rfl
            (by simp only [List.forall_mem_cons]; exact ⟨⟨_, rfl, h_p⟩, ⟨_, rfl, h_q⟩, fun _ h => by cases h⟩)
            (fun q hq => by cases hq)
            (by simp only [List.cons_append, List.nil_append, List.append_nil, List.forall_mem_cons]; exact ⟨fun o ho => by injection ho with ho; subst ho; exact (by unfold upd; simp [look_cons, Go.Sy.look, e_p_q, Ne.symm e_p_q, h_p] <;> rfl), fun o ho => by injection ho with ho; subst ho; exact (by unfold upd; simp [look_cons, Go.Sy.look, e_p_q, Ne.symm e_p_q, h_q] <;> rfl), fun _ h => by cases h⟩)
            (by simp) rfl rfl rfl rfl rfl rfl rfl (by have h0 := w_ie1 q1 q2 q3 x y; assumption)⟩
        · cases h
      · cases h
    · cases h
  · cases h
abbrev T_un1 : Tab := []
theorem T_un1_ok : TOk Try.prog T_un1 := trivial
theorem v_un1 (q1 q2 q3 x y : Int) : (vcGe L T_un1 Try.f55 [0, 1, 2, 3] (fun _ _ => none) [.agg [.d (.lit (.int .i64 q1)), .d (.lit (.int .i64 q2)), .d (.lit (.int .i64 q3))], .one (.ptr 2000 0)] [(2000, .cells [.d (.lit (.int .i64 x)), .d (.lit (.int .i64 y))])] (.t (B (leavesB (x, y) (q1, (q2, q3))))) [(2000, .cells [.d (.lit (.int .i64 x)), .d (.lit (.int .i64 y))])]).holds = P_un1 q1 q2 q3 x y := by kernel_rfl
theorem w_un1 (q1 q2 q3 x y : Int)  : (vcGe L T_un1 Try.f55 [0, 1, 2, 3] (fun _ _ => none) [.agg [.d (.lit (.int .i64 q1)), .d (.lit (.int .i64 q2)), .d (.lit (.int .i64 q3))], .one (.ptr 2000 0)] [(2000, .cells [.d (.lit (.int .i64 x)), .d (.lit (.int .i64 y))])] (.t (B (leavesB (x, y) (q1, (q2, q3))))) [(2000, .cells [.d (.lit (.int .i64 x)), .d (.lit (.int .i64 y))])]).holds := by
  rw [v_un1]
  exact p_un1 q1 q2 q3 x y 
theorem ok_un1 : FnOk Try.prog 55 (CE.gen c_un1).con := fnGe T_un1 c_un1 L_ok T_un1_ok mixed Try.func55 (by kernel_rfl) (by kernel_rfl) fun args hp fr cs r up h hcs => by
  unfold c_un1 at h
  split at h
  · rename_i q1 q2 q3 p
    split at h
    · rename_i x y h_p
      split at h
      · rename_i hd
        injection h with h; injection h with h1 h2; injection h2 with h2 h3; subst h1 h2 h3
        exact ⟨[0, 1, 2, 3], (fun _ _ => none), (fun _ _ => none), [(2000, p)], [], [.agg [.d (.lit (.int .i64 q1)), .d (.lit (.int .i64 q2)), .d (.lit (.int .i64 q3))], .one (.ptr 2000 0)], [(2000, .cells [.d (.lit (.int .i64 x)), .d (.lit (.int .i64 y))])], (.t (B (leavesB (x, y) (q1, (q2, q3))))), [(2000, .cells [.d (.lit (.int .i64 x)), .d (.lit (.int .i64 y))])],
          Meets.of [(2000, p)] [] _ _ _ _ (by simp) (by simp) rfl rfl
          (by simp only [List.forall_mem_cons]; exact ⟨⟨_, rfl, h_p⟩, fun _ h => by cases h⟩)
          (fun q hq => by cases hq)
          (by simp only [List.cons_append, List.nil_append, List.append_nil, List.forall_mem_cons]; exact ⟨fun o ho => by injection ho with ho; subst ho; exact (by unfold upd; simp [look_cons, Go.Sy.look, h_p] <;> rfl), fun _ h => by cases h⟩)
          (by simp) rfl rfl rfl rfl rfl rfl rfl (by have h0 := w_un1 q1 q2 q3 x y; assumption)⟩
      · cases h
    · cases h
  · cases h
abbrev T_ixR1 : Tab := [(105, .gen c_wi1)]
theorem T_ixR1_ok : TOk Try.prog T_ixR1 := ⟨ok_wi1, trivial⟩
theorem v_ixR1 (l : List T3) (x : Int) : (vcGe L T_ixR1 Try.f98 [0, 1, 4, 5, 7, 8, 9, 16] (fun _ _ => some { X := Nat, inv := fun k => k ≤ l.length ∧ ∀ i, i < k → inP x (List.getD (α := T3) l i t30) = false, m := fun k => l.length - k, s := fun k => [(8, .t (I k))] }) [.one (.d (.sl (.tp (.ti .i64) (.tp (.ti .i64) (.ti .i64))) l)), .one (.clo 105 [] [(2000, 0)])] [(2000, .cells [.d (.lit (.int .i64 x))])] (.t (I (gidx (inP x) l))) [(2000, .cells [.d (.lit (.int .i64 x))])]).holds = P_ixR1 l x := by kernel_rfl
theorem w_ixR1 (l : List T3) (x : Int)  : (vcGe L T_ixR1 Try.f98 [0, 1, 4, 5, 7, 8, 9, 16] (fun _ _ => some { X := Nat, inv := fun k => k ≤ l.length ∧ ∀ i, i < k → inP x (List.getD (α := T3) l i t30) = false, m := fun k => l.length - k, s := fun k => [(8, .t (I k))] }) [.one (.d (.sl (.tp (.ti .i64) (.tp (.ti .i64) (.ti .i64))) l)), .one (.clo 105 [] [(2000, 0)])] [(2000, .cells [.d (.lit (.int .i64 x))])] (.t (I (gidx (inP x) l))) [(2000, .cells [.d (.lit (.int .i64 x))])]).holds := by
  rw [v_ixR1]
  exact p_ixR1 l x 
theorem ok_ixR1 : FnOk Try.prog 98 (CE.gen c_ixR1).con := fnGe T_ixR1 c_ixR1 L_ok T_ixR1_ok mixed Try.func98 (by kernel_rfl) (by kernel_rfl) fun args hp fr cs r up h hcs => by
  unfold c_ixR1 at h
  split at h
  · rename_i l p
    split at h
    · rename_i x h_p
      split at h
      · rename_i hd
        injection h with h; injection h with h1 h2; injection h2 with h2 h3; subst h1 h2 h3
        exact ⟨[0, 1, 4, 5, 7, 8, 9, 16], (fun _ _ => some { X := Nat, inv := fun k => k ≤ l.length ∧ ∀ i, i < k → inP x (List.getD (α := T3) l i t30) = false, m := fun k => l.length - k, s := fun k => [(8, .t (I k))] }), (fun _ _ => none), [(2000, p)], [], [.one (.d (.sl (.tp (.ti .i64) (.tp (.ti .i64) (.ti .i64))) l)), .one (.clo 105 [] [(2000, 0)])], [(2000, .cells [.d (.lit (.int .i64 x))])], (.t (I (gidx (inP x) l))), [(2000, .cells [.d (.lit (.int .i64 x))])],
          Meets.of [(2000, p)] [] _ _ _ _ (by simp) (by simp) rfl rfl
          (by simp only [List.forall_mem_cons]; exact ⟨⟨_, rfl, h_p⟩, fun _ h => by cases h⟩)
          (fun q hq => by cases hq)
          (by simp only [List.cons_append, List.nil_append, List.append_nil, List.forall_mem_cons]; exact ⟨fun o ho => by injection ho with ho; subst ho; exact (by unfold upd; simp [look_cons, Go.Sy.look, h_p] <;> rfl), fun _ h => by cases h⟩)
          (by simp) rfl rfl rfl rfl rfl rfl rfl (by have h0 := w_ixR1 l x; assumption)⟩
      · cases h
    · cases h
  · cases h
abbrev T_ixR2 : Tab := [(94, .gen c_ae1)]
theorem T_ixR2_ok : TOk Try.prog T_ixR2 := ⟨ok_ae1, trivial⟩
theorem v_ixR2 (l : List T3) (x y z : Int) : (vcGe L T_ixR2 Try.f98 [0, 1, 4, 5, 7, 8, 9, 16] (fun _ _ => some { X := Nat, inv := fun k => k ≤ l.length ∧ ∀ i, i < k → coverP x y (List.getD (α := T3) l i t30) = false, m := fun k => l.length - k, s := fun k => [(8, .t (I k))] }) [.one (.d (.sl (.tp (.ti .i64) (.tp (.ti .i64) (.ti .i64))) l)), .one (.clo 94 [] [(2000, 0)])] [(2000, .cells [.d (.lit (.int .i64 x)), .d (.lit (.int .i64 y)), .d (.lit (.int .i64 z))])] (.t (I (gidx (coverP x y) l))) [(2000, .cells [.d (.lit (.int .i64 x)), .d (.lit (.int .i64 y)), .d (.lit (.int .i64 z))])]).holds = P_ixR2 l x y z := by kernel_rfl
theorem w_ixR2 (l : List T3) (x y z : Int)  : (vcGe L T_ixR2 Try.f98 [0, 1, 4, 5, 7, 8, 9, 16] (fun _ _ => some { X := Nat, inv := fun k => k ≤ l.length ∧ ∀ i, i < k → coverP x y (List.getD (α := T3) l i t30) = false, m := fun k => l.length - k, s := fun k => [(8, .t (I k))] }) [.one (.d (.sl (.tp (.ti .i64) (.tp (.ti .i64) (.ti .i64))) l)), .one (.clo 94 [] [(2000, 0)])] [(2000, .cells [.d (.lit (.int .i64 x)), .d (.lit (.int .i64 y)), .d (.lit (.int .i64 z))])] (.t (I (gidx (coverP x y) l))) [(2000, .cells [.d (.lit (.int .i64 x)), .d (.lit (.int .i64 y)), .d (.lit (.int .i64 z))])]).holds := by
  rw [v_ixR2]
  exact p_ixR2 l x y z 
theorem ok_ixR2 : FnOk Try.prog 98 (CE.gen c_ixR2).con := fnGe T_ixR2 c_ixR2 L_ok T_ixR2_ok mixed Try.func98 (by kernel_rfl) (by kernel_rfl) fun args hp fr cs r up h hcs => by
  unfold c_ixR2 at h
  split at h
  · rename_i l p
    split at h
    · rename_i x y z h_p
      split at h
      · rename_i hd
        injection h with h; injection h with h1 h2; injection h2 with h2 h3; subst h1 h2 h3
        exact ⟨[0, 1, 4, 5, 7, 8, 9, 16], (fun _ _ => some { X := Nat, inv := fun k => k ≤ l.length ∧ ∀ i, i < k → coverP x y (List.getD (α := T3) l i t30) = false, m := fun k => l.length - k, s := fun k => [(8, .t (I k))] }), (fun _ _ => none), [(2000, p)], [], [.one (.d (.sl (.tp (.ti .i64) (.tp (.ti .i64) (.ti .i64))) l)), .one (.clo 94 [] [(2000, 0)])], [(2000, .cells [.d (.lit (.int .i64 x)), .d (.lit (.int .i64 y)), .d (.lit (.int .i64 z))])], (.t (I (gidx (coverP x y) l))), [(2000, .cells [.d (.lit (.int .i64 x)), .d (.lit (.int .i64 y)), .d (.lit (.int .i64 z))])],
          Meets.of [(2000, p)] [] _ _ _ _ (by simp) (by simp) rfl rfl
          (by simp only [List.forall_mem_cons]; exact ⟨⟨_, rfl, h_p⟩, fun _ h => by cases h⟩)
          (fun q hq => by cases hq)
          (by simp only [List.cons_append, List.nil_append, List.append_nil, List.forall_mem_cons]; exact ⟨fun o ho => by injection ho with ho; subst ho; exact (by unfold upd; simp [look_cons, Go.Sy.look, h_p] <;> rfl), fun _ h => by cases h⟩)
          (by simp) rfl rfl rfl rfl rfl rfl rfl (by have h0 := w_ixR2 l x y z; assumption)⟩
      · cases h
    · cases h
  · cases h
abbrev T_ixR3 : Tab := [(99, .gen c_ba1)]
theorem T_ixR3_ok : TOk Try.prog T_ixR3 := ⟨ok_ba1, trivial⟩
theorem v_ixR3 (l : List T3) (x : Int) : (vcGe L T_ixR3 Try.f98 [0, 1, 4, 5, 7, 8, 9, 16] (fun _ _ => some { X := Nat, inv := fun k => k ≤ l.length ∧ ∀ i, i < k → startP x (List.getD (α := T3) l i t30) = false, m := fun k => l.length - k, s := fun k => [(8, .t (I k))] }) [.one (.d (.sl (.tp (.ti .i64) (.tp (.ti .i64) (.ti .i64))) l)), .one (.clo 99 [] [(2000, 0)])] [(2000, .cells [.d (.lit (.int .i64 x))])] (.t (I (gidx (startP x) l))) [(2000, .cells [.d (.lit (.int .i64 x))])]).holds = P_ixR3 l x := by kernel_rfl
theorem w_ixR3 (l : List T3) (x : Int)  : (vcGe L T_ixR3 Try.f98 [0, 1, 4, 5, 7, 8, 9, 16] (fun _ _ => some { X := Nat, inv := fun k => k ≤ l.length ∧ ∀ i, i < k → startP x (List.getD (α := T3) l i t30) = false, m := fun k => l.length - k, s := fun k => [(8, .t (I k))] }) [.one (.d (.sl (.tp (.ti .i64) (.tp (.ti .i64) (.ti .i64))) l)), .one (.clo 99 [] [(2000, 0)])] [(2000, .cells [.d (.lit (.int .i64 x))])] (.t (I (gidx (startP x) l))) [(2000, .cells [.d (.lit (.int .i64 x))])]).holds := by
  rw [v_ixR3]
  exact p_ixR3 l x 
theorem ok_ixR3 : FnOk Try.prog 98 (CE.gen c_ixR3).con := fnGe T_ixR3 c_ixR3 L_ok T_ixR3_ok mixed Try.func98 (by kernel_rfl) (by kernel_rfl) fun args hp fr cs r up h hcs => by
  unfold c_ixR3 at h
  split at h
  · rename_i l p
    split at h
    · rename_i x h_p
      split at h
      · rename_i hd
        injection h with h; injection h with h1 h2; injection h2 with h2 h3; subst h1 h2 h3
        exact ⟨[0, 1, 4, 5, 7, 8, 9, 16], (fun _ _ => some { X := Nat, inv := fun k => k ≤ l.length ∧ ∀ i, i < k → startP x (List.getD (α := T3) l i t30) = false, m := fun k => l.length - k, s := fun k => [(8, .t (I k))] }), (fun _ _ => none), [(2000, p)], [], [.one (.d (.sl (.tp (.ti .i64) (.tp (.ti .i64) (.ti .i64))) l)), .one (.clo 99 [] [(2000, 0)])], [(2000, .cells [.d (.lit (.int .i64 x))])], (.t (I (gidx (startP x) l))), [(2000, .cells [.d (.lit (.int .i64 x))])],
          Meets.of [(2000, p)] [] _ _ _ _ (by simp) (by simp) rfl rfl
          (by simp only [List.forall_mem_cons]; exact ⟨⟨_, rfl, h_p⟩, fun _ h => by cases h⟩)
          (fun q hq => by cases hq)
          (by simp only [List.cons_append, List.nil_append, List.append_nil, List.forall_mem_cons]; exact ⟨fun o ho => by injection ho with ho; subst ho; exact (by unfold upd; simp [look_cons, Go.Sy.look, h_p] <;> rfl), fun _ h => by cases h⟩)
          (by simp) rfl rfl rfl rfl rfl rfl rfl (by have h0 := w_ixR3 l x; assumption)⟩
      · cases h
    · cases h
  · cases h
theorem ok_ixR : FnOk Try.prog 98 (CE.gen c_ixR).con := (FnOk.or ok_ixR1 (FnOk.or ok_ixR2 ok_ixR3))
abbrev T_cfR1 : Tab := [(98, .gen c_ixR)]
theorem T_cfR1_ok : TOk Try.prog T_cfR1 := ⟨ok_ixR, trivial⟩
theorem v_cfR1 (l : List T3) (x : Int) : (vcGe L T_cfR1 Try.f93 [0, 1, 4] (fun _ _ => none) [.one (.d (.sl (.tp (.ti .i64) (.tp (.ti .i64) (.ti .i64))) l)), .one (.clo 105 [] [(2000, 0)])] [(2000, .cells [.d (.lit (.int .i64 x))])] (.t (B (l.any (inP x)))) [(2000, .cells [.d (.lit (.int .i64 x))])]).holds = P_cfR1 l x := by kernel_rfl
theorem w_cfR1 (l : List T3) (x : Int)  : (vcGe L T_cfR1 Try.f93 [0, 1, 4] (fun _ _ => none) [.one (.d (.sl (.tp (.ti .i64) (.tp (.ti .i64) (.ti .i64))) l)), .one (.clo 105 [] [(2000, 0)])] [(2000, .cells [.d (.lit (.int .i64 x))])] (.t (B (l.any (inP x)))) [(2000, .cells [.d (.lit (.int .i64 x))])]).holds := by
  rw [v_cfR1]
  exact p_cfR1 l x 
theorem ok_cfR1 : FnOk Try.prog 93 (CE.gen c_cfR1).con := fnGe T_cfR1 c_cfR1 L_ok T_cfR1_ok mixed Try.func93 (by kernel_rfl) (by kernel_rfl) fun args hp fr cs r up h hcs => by
  unfold c_cfR1 at h
  split at h
  · rename_i l p
    split at h
    · rename_i x h_p
      split at h
      · rename_i hd
        injection h with h; injection h with h1 h2; injection h2 with h2 h3; subst h1 h2 h3
        exact ⟨[0, 1, 4], (fun _ _ => none), (fun _ _ => none), [(2000, p)], [], [.one (.d (.sl (.tp (.ti .i64) (.tp (.ti .i64) (.ti .i64))) l)), .one (.clo 105 [] [(2000, 0)])], [(2000, .cells [.d (.lit (.int .i64 x))])], (.t (B (l.any (inP x)))), [(2000, .cells [.d (.lit (.int .i64 x))])],
          Meets.of [(2000, p)] [] _ _ _ _ (by simp) (by simp) rfl rfl
          (by simp only [List.forall_mem_cons]; exact ⟨⟨_, rfl, h_p⟩, fun _ h => by cases h⟩)
          (fun q hq => by cases hq)
          (by simp only [List.cons_append, List.nil_append, List.append_nil, List.forall_mem_cons]; exact ⟨fun o ho => by injection ho with ho; subst ho; exact (by unfold upd; simp [look_cons, Go.Sy.look, h_p] <;> rfl), fun _ h => by cases h⟩)
          (by simp) rfl rfl rfl rfl rfl rfl rfl (by have h0 := w_cfR1 l x; assumption)⟩
      · cases h
    · cases h
  · cases h
abbrev T_cfR2 : Tab := [(98, .gen c_ixR)]
theorem T_cfR2_ok : TOk Try.prog T_cfR2 := ⟨ok_ixR, trivial⟩
theorem v_cfR2 (l : List T3) (x y z : Int) : (vcGe L T_cfR2 Try.f93 [0, 1, 4] (fun _ _ => none) [.one (.d (.sl (.tp (.ti .i64) (.tp (.ti .i64) (.ti .i64))) l)), .one (.clo 94 [] [(2000, 0)])] [(2000, .cells [.d (.lit (.int .i64 x)), .d (.lit (.int .i64 y)), .d (.lit (.int .i64 z))])] (.t (B (l.any (coverP x y)))) [(2000, .cells [.d (.lit (.int .i64 x)), .d (.lit (.int .i64 y)), .d (.lit (.int .i64 z))])]).holds = P_cfR2 l x y z := by kernel_rfl
theorem w_cfR2 (l : List T3) (x y z : Int)  : (vcGe L T_cfR2 Try.f93 [0, 1, 4] (fun _ _ => none) [.one (.d (.sl (.tp (.ti .i64) (.tp (.ti .i64) (.ti .i64))) l)), .one (.clo 94 [] [(2000, 0)])] [(2000, .cells [.d (.lit (.int .i64 x)), .d (.lit (.int .i64 y)), .d (.lit (.int .i64 z))])] (.t (B (l.any (coverP x y)))) [(2000, .cells [.d (.lit (.int .i64 x)), .d (.lit (.int .i64 y)), .d (.lit (.int .i64 z))])]).holds := by
  rw [v_cfR2]
  exact p_cfR2 l x y z 
theorem ok_cfR2 : FnOk Try.prog 93 (CE.gen c_cfR2).con := fnGe T_cfR2 c_cfR2 L_ok T_cfR2_ok mixed Try.func93 (by kernel_rfl) (by kernel_rfl) fun args hp fr cs r up h hcs => by
  unfold c_cfR2 at h
  split at h
  · rename_i l p
    split at h
    · rename_i x y z h_p
      split at h
      · rename_i hd
        injection h with h; injection h with h1 h2; injection h2 with h2 h3; subst h1 h2 h3
        exact ⟨[0, 1, 4], (fun _ _ => none), (fun _ _ => none), [(2000, p)], [], [.one (.d (.sl (.tp (.ti .i64) (.tp (.ti .i64) (.ti .i64))) l)), .one (.clo 94 [] [(2000, 0)])], [(2000, .cells [.d (.lit (.int .i64 x)), .d (.lit (.int .i64 y)), .d (.lit (.int .i64 z))])], (.t (B (l.any (coverP x y)))), [(2000, .cells [.d (.lit (.int .i64 x)), .d (.lit (.int .i64 y)), .d (.lit (.int .i64 z))])],
          Meets.of [(2000, p)] [] _ _ _ _ (by simp) (by simp) rfl rfl
          (by simp only [List.forall_mem_cons]; exact ⟨⟨_, rfl, h_p⟩, fun _ h => by cases h⟩)
          (fun q hq => by cases hq)
          (by simp only [List.cons_append, List.nil_append, List.append_nil, List.forall_mem_cons]; exact ⟨fun o ho => by injection ho with ho; subst ho; exact (by unfold upd; simp [look_cons, Go.Sy.look, h_p] <;> rfl), fun _ h => by cases h⟩)
          (by simp) rfl rfl rfl rfl rfl rfl rfl (by have h0 := w_cfR2 l x y z; assumption)⟩
      · cases h
    · cases h
  · cases h
theorem ok_cfR : FnOk Try.prog 93 (CE.gen c_cfR).con := (FnOk.or ok_cfR1 ok_cfR2)
abbrev T_ixE : Tab := [(107, .gen c_ie1)]
theorem T_ixE_ok : TOk Try.prog T_ixE := ⟨ok_ie1, trivial⟩
theorem v_ixE (l : List T3) (x y : Int) : (vcGe L T_ixE Try.f110 [0, 1, 4, 5, 7, 8, 9, 16] (fun _ _ => some { X := Nat, inv := fun k => k ≤ l.length ∧ ∀ i, i < k → endHit x y (List.getD (α := T3) l i t30) = false, m := fun k => l.length - k, s := fun k => [(8, .t (I k))] }) [.one (.d (.sl (.tp (.ti .i64) (.tp (.ti .i64) (.ti .i64))) l)), .one (.clo 107 [] [(2000, 0), (2001, 0)])] [(2000, .cells [.d (.lit (.int .i64 x))]), (2001, .cells [.d (.lit (.int .i64 y))])] (.t (I (gidx (endHit x y) l))) [(2000, .cells [.d (.lit (.int .i64 x))]), (2001, .cells [.d (.lit (.int .i64 y))])]).holds = P_ixE l x y := by kernel_rfl
theorem w_ixE (l : List T3) (x y : Int)  : (vcGe L T_ixE Try.f110 [0, 1, 4, 5, 7, 8, 9, 16] (fun _ _ => some { X := Nat, inv := fun k => k ≤ l.length ∧ ∀ i, i < k → endHit x y (List.getD (α := T3) l i t30) = false, m := fun k => l.length - k, s := fun k => [(8, .t (I k))] }) [.one (.d (.sl (.tp (.ti .i64) (.tp (.ti .i64) (.ti .i64))) l)), .one (.clo 107 [] [(2000, 0), (2001, 0)])] [(2000, .cells [.d (.lit (.int .i64 x))]), (2001, .cells [.d (.lit (.int .i64 y))])] (.t (I (gidx (endHit x y) l))) [(2000, .cells [.d (.lit (.int .i64 x))]), (2001, .cells [.d (.lit (.int .i64 y))])]).holds := by
  rw [v_ixE]
  exact p_ixE l x y 
theorem ok_ixE : FnOk Try.prog 110 (CE.gen c_ixE).con := fnGe T_ixE c_ixE L_ok T_ixE_ok mixed Try.func110 (by kernel_rfl) (by kernel_rfl) fun args hp fr cs r up h hcs => by
  unfold c_ixE at h
  split at h
  · rename_i l p q
    split at h
    · rename_i x h_p
      split at h
      · rename_i y h_q
        split at h
        · rename_i hd
          injection h with h; injection h with h1 h2; injection h2 with h2 h3; subst h1 h2 h3
          have e_p_q : p ≠ q := distinct_ne hd (i := 0) (j := 1) (by decide) rfl rfl
          exact ⟨[0, 1, 4, 5, 7, 8, 9, 16], (fun _ _ => some { X := Nat, inv := fun k => k ≤ l.length ∧ ∀ i, i < k → endHit x y (List.getD (α := T3) l i t30) = false, m := fun k => l.length - k, s := fun k => [(8, .t (I k))] }), (fun _ _ => none), [(2000, p), (2001, q)], [], [.one (.d (.sl (.tp (.ti .i64) (.tp (.ti .i64) (.ti .i64))) l)), .one (.clo 107 [] [(2000, 0), (2001, 0)])], [(2000, .cells [.d (.lit (.int .i64 x))]), (2001, .cells [.d (.lit (.int .i64 y))])], (.t (I (gidx (endHit x y) l))), [(2000, .cells [.d (.lit (.int .i64 x))]), (2001, .cells [.d (.lit (.int .i64 y))])],
            Meets.of [(2000, p), (2001, q)] [] _ _ _ _ (by simp) (by simp [e_p_q, Ne.symm e_p_q]) rfl rfl
            (by simp only [List.forall_mem_cons]; exact ⟨⟨_, rfl, h_p⟩, ⟨_, rfl, h_q⟩, fun _ h => by cases h⟩)
            (fun q hq => by cases hq)
            (by simp only [List.cons_append, List.nil_append, List.append_nil, List.forall_mem_cons]; exact ⟨fun o ho => by injection ho with ho; subst ho; exact (by unfold upd; simp [look_cons, Go.Sy.look, e_p_q, Ne.symm e_p_q, h_p] <;> rfl), fun o ho => by injection ho with ho; subst ho; exact (by unfold upd; simp [look_cons, Go.Sy.look, e_p_q, Ne.symm e_p_q, h_q] <;> rfl), fun _ h => by cases h⟩)
            (by simp) rfl rfl rfl rfl rfl rfl rfl (by have h0 := w_ixE l x y; assumption)⟩
        · cases h
      · cases h
    · cases h
  · cases h
abbrev T_cfE : Tab := [(110, .gen c_ixE)]
theorem T_cfE_ok : TOk Try.prog T_cfE := ⟨ok_ixE, trivial⟩
theorem v_cfE (l : List T3) (x y : Int) : (vcGe L T_cfE Try.f106 [0, 1, 4] (fun _ _ => none) [.one (.d (.sl (.tp (.ti .i64) (.tp (.ti .i64) (.ti .i64))) l)), .one (.clo 107 [] [(2000, 0), (2001, 0)])] [(2000, .cells [.d (.lit (.int .i64 x))]), (2001, .cells [.d (.lit (.int .i64 y))])] (.t (B (l.any (endHit x y)))) [(2000, .cells [.d (.lit (.int .i64 x))]), (2001, .cells [.d (.lit (.int .i64 y))])]).holds = P_cfE l x y := by kernel_rfl
theorem w_cfE (l : List T3) (x y : Int)  : (vcGe L T_cfE Try.f106 [0, 1, 4] (fun _ _ => none) [.one (.d (.sl (.tp (.ti .i64) (.tp (.ti .i64) (.ti .i64))) l)), .one (.clo 107 [] [(2000, 0), (2001, 0)])] [(2000, .cells [.d (.lit (.int .i64 x))]), (2001, .cells [.d (.lit (.int .i64 y))])] (.t (B (l.any (endHit x y)))) [(2000, .cells [.d (.lit (.int .i64 x))]), (2001, .cells [.d (.lit (.int .i64 y))])]).holds := by
  rw [v_cfE]
  exact p_cfE l x y 
theorem ok_cfE : FnOk Try.prog 106 (CE.gen c_cfE).con := fnGe T_cfE c_cfE L_ok T_cfE_ok mixed Try.func106 (by kernel_rfl) (by kernel_rfl) fun args hp fr cs r up h hcs => by
  unfold c_cfE at h
  split at h
  · rename_i l p q
    split at h
    · rename_i x h_p
      split at h
      · rename_i y h_q
        split at h
        · rename_i hd
          injection h with h; injection h with h1 h2; injection h2 with h2 h3; subst h1 h2 h3
          have e_p_q : p ≠ q := distinct_ne hd (i := 0) (j := 1) (by decide) rfl rfl
          exact ⟨[0, 1, 4], (fun _ _ => none), (fun _ _ => none), [(2000, p), (2001, q)], [], [.one (.d (.sl (.tp (.ti .i64) (.tp (.ti .i64) (.ti .i64))) l)), .one (.clo 107 [] [(2000, 0), (2001, 0)])], [(2000, .cells [.d (.lit (.int .i64 x))]), (2001, .cells [.d (.lit (.int .i64 y))])], (.t (B (l.any (endHit x y)))), [(2000, .cells [.d (.lit (.int .i64 x))]), (2001, .cells [.d (.lit (.int .i64 y))])],
            Meets.of [(2000, p), (2001, q)] [] _ _ _ _ (by simp) (by simp [e_p_q, Ne.symm e_p_q]) rfl rfl
            (by simp only [List.forall_mem_cons]; exact ⟨⟨_, rfl, h_p⟩, ⟨_, rfl, h_q⟩, fun _ h => by cases h⟩)
            (fun q hq => by cases hq)
            (by simp only [List.cons_append, List.nil_append, List.append_nil, List.forall_mem_cons]; exact ⟨fun o ho => by injection ho with ho; subst ho; exact (by unfold upd; simp [look_cons, Go.Sy.look, e_p_q, Ne.symm e_p_q, h_p] <;> rfl), fun o ho => by injection ho with ho; subst ho; exact (by unfold upd; simp [look_cons, Go.Sy.look, e_p_q, Ne.symm e_p_q, h_q] <;> rfl), fun _ h => by cases h⟩)
            (by simp) rfl rfl rfl rfl rfl rfl rfl (by have h0 := w_cfE l x y; assumption)⟩
        · cases h
      · cases h
    · cases h
  · cases h
abbrev T_ixC : Tab := [(55, .gen c_un1)]
theorem T_ixC_ok : TOk Try.prog T_ixC := ⟨ok_un1, trivial⟩
theorem v_ixC (l : List T3) (x y : Int) : (vcGe L T_ixC Try.f82 [0, 1, 4, 5, 7, 8, 9, 16] (fun _ _ => some { X := Nat, inv := fun k => k ≤ l.length ∧ ∀ i, i < k → leavesB (x, y) (List.getD (α := T3) l i t30) = false, m := fun k => l.length - k, s := fun k => [(8, .t (I k))] }) [.one (.d (.sl (.tp (.ti .i64) (.tp (.ti .i64) (.ti .i64))) l)), .one (.clo 55 [] [(2000, 0)])] [(2000, .cells [.d (.lit (.int .i64 x)), .d (.lit (.int .i64 y))])] (.t (I (gidx (leavesB (x, y)) l))) [(2000, .cells [.d (.lit (.int .i64 x)), .d (.lit (.int .i64 y))])]).holds = P_ixC l x y := by kernel_rfl
theorem w_ixC (l : List T3) (x y : Int)  : (vcGe L T_ixC Try.f82 [0, 1, 4, 5, 7, 8, 9, 16] (fun _ _ => some { X := Nat, inv := fun k => k ≤ l.length ∧ ∀ i, i < k → leavesB (x, y) (List.getD (α := T3) l i t30) = false, m := fun k => l.length - k, s := fun k => [(8, .t (I k))] }) [.one (.d (.sl (.tp (.ti .i64) (.tp (.ti .i64) (.ti .i64))) l)), .one (.clo 55 [] [(2000, 0)])] [(2000, .cells [.d (.lit (.int .i64 x)), .d (.lit (.int .i64 y))])] (.t (I (gidx (leavesB (x, y)) l))) [(2000, .cells [.d (.lit (.int .i64 x)), .d (.lit (.int .i64 y))])]).holds := by
  rw [v_ixC]
  exact p_ixC l x y 
theorem ok_ixC : FnOk Try.prog 82 (CE.gen c_ixC).con := fnGe T_ixC c_ixC L_ok T_ixC_ok mixed Try.func82 (by kernel_rfl) (by kernel_rfl) fun args hp fr cs r up h hcs => by
  unfold c_ixC at h
  split at h
  · rename_i l p
    split at h
    · rename_i x y h_p
      split at h
      · rename_i hd
        injection h with h; injection h with h1 h2; injection h2 with h2 h3; subst h1 h2 h3
        exact ⟨[0, 1, 4, 5, 7, 8, 9, 16], (fun _ _ => some { X := Nat, inv := fun k => k ≤ l.length ∧ ∀ i, i < k → leavesB (x, y) (List.getD (α := T3) l i t30) = false, m := fun k => l.length - k, s := fun k => [(8, .t (I k))] }), (fun _ _ => none), [(2000, p)], [], [.one (.d (.sl (.tp (.ti .i64) (.tp (.ti .i64) (.ti .i64))) l)), .one (.clo 55 [] [(2000, 0)])], [(2000, .cells [.d (.lit (.int .i64 x)), .d (.lit (.int .i64 y))])], (.t (I (gidx (leavesB (x, y)) l))), [(2000, .cells [.d (.lit (.int .i64 x)), .d (.lit (.int .i64 y))])],
          Meets.of [(2000, p)] [] _ _ _ _ (by simp) (by simp) rfl rfl
          (by simp only [List.forall_mem_cons]; exact ⟨⟨_, rfl, h_p⟩, fun _ h => by cases h⟩)
          (fun q hq => by cases hq)
          (by simp only [List.cons_append, List.nil_append, List.append_nil, List.forall_mem_cons]; exact ⟨fun o ho => by injection ho with ho; subst ho; exact (by unfold upd; simp [look_cons, Go.Sy.look, h_p] <;> rfl), fun _ h => by cases h⟩)
          (by simp) rfl rfl rfl rfl rfl rfl rfl (by have h0 := w_ixC l x y; assumption)⟩
      · cases h
    · cases h
  · cases h
abbrev T_cfC : Tab := [(82, .gen c_ixC)]
theorem T_cfC_ok : TOk Try.prog T_cfC := ⟨ok_ixC, trivial⟩
theorem v_cfC (l : List T3) (x y : Int) : (vcGe L T_cfC Try.f56 [0, 1, 4] (fun _ _ => none) [.one (.d (.sl (.tp (.ti .i64) (.tp (.ti .i64) (.ti .i64))) l)), .one (.clo 55 [] [(2000, 0)])] [(2000, .cells [.d (.lit (.int .i64 x)), .d (.lit (.int .i64 y))])] (.t (B (l.any (leavesB (x, y))))) [(2000, .cells [.d (.lit (.int .i64 x)), .d (.lit (.int .i64 y))])]).holds = P_cfC l x y := by kernel_rfl
theorem w_cfC (l : List T3) (x y : Int)  : (vcGe L T_cfC Try.f56 [0, 1, 4] (fun _ _ => none) [.one (.d (.sl (.tp (.ti .i64) (.tp (.ti .i64) (.ti .i64))) l)), .one (.clo 55 [] [(2000, 0)])] [(2000, .cells [.d (.lit (.int .i64 x)), .d (.lit (.int .i64 y))])] (.t (B (l.any (leavesB (x, y))))) [(2000, .cells [.d (.lit (.int .i64 x)), .d (.lit (.int .i64 y))])]).holds := by
  rw [v_cfC]
  exact p_cfC l x y 
theorem ok_cfC : FnOk Try.prog 56 (CE.gen c_cfC).con := fnGe T_cfC c_cfC L_ok T_cfC_ok mixed Try.func56 (by kernel_rfl) (by kernel_rfl) fun args hp fr cs r up h hcs => by
  unfold c_cfC at h
  split at h
  · rename_i l p
    split at h
    · rename_i x y h_p
      split at h
      · rename_i hd
        injection h with h; injection h with h1 h2; injection h2 with h2 h3; subst h1 h2 h3
        exact ⟨[0, 1, 4], (fun _ _ => none), (fun _ _ => none), [(2000, p)], [], [.one (.d (.sl (.tp (.ti .i64) (.tp (.ti .i64) (.ti .i64))) l)), .one (.clo 55 [] [(2000, 0)])], [(2000, .cells [.d (.lit (.int .i64 x)), .d (.lit (.int .i64 y))])], (.t (B (l.any (leavesB (x, y))))), [(2000, .cells [.d (.lit (.int .i64 x)), .d (.lit (.int .i64 y))])],
          Meets.of [(2000, p)] [] _ _ _ _ (by simp) (by simp) rfl rfl
          (by simp only [List.forall_mem_cons]; exact ⟨⟨_, rfl, h_p⟩, fun _ h => by cases h⟩)
          (fun q hq => by cases hq)
          (by simp only [List.cons_append, List.nil_append, List.append_nil, List.forall_mem_cons]; exact ⟨fun o ho => by injection ho with ho; subst ho; exact (by unfold upd; simp [look_cons, Go.Sy.look, h_p] <;> rfl), fun _ h => by cases h⟩)
          (by simp) rfl rfl rfl rfl rfl rfl rfl (by have h0 := w_cfC l x y; assumption)⟩
      · cases h
    · cases h
  · cases h
abbrev T_isWithin : Tab := [(93, .gen c_cfR), (105, .gen c_wi1)]
theorem T_isWithin_ok : TOk Try.prog T_isWithin := ⟨ok_cfR, ok_wi1, trivial⟩
theorem ok_isWithin : FnOk Try.prog 95 (CE.pu c_isWithin).con := fnPuR T_isWithin c_isWithin L_ok T_isWithin_ok mixed Try.func95 (by kernel_rfl) (by kernel_rfl) fun args cs r h hcs => by
  unfold c_isWithin at h
  split at h
  · rename_i b r e j t n c x
    injection h with h; injection h with h1 h2; subst h1 h2
    exact ⟨[0, 1, 2, 3, 4], (fun _ _ => none), (fun _ _ => none), rfl, rfl, rfl, castH (p := P_isWithin b r e j t n c x) (by kernel_rfl) (p_isWithin b r e j t n c x)⟩
  · cases h
abbrev T_areRepeats : Tab := []
theorem T_areRepeats_ok : TOk Try.prog T_areRepeats := trivial
theorem ok_areRepeats : FnOk Try.prog 74 (CE.pu c_areRepeats).con := fnPuR T_areRepeats c_areRepeats L_ok T_areRepeats_ok mixed Try.func74 (by kernel_rfl) (by kernel_rfl) fun args cs r h hcs => by
  unfold c_areRepeats at h
  split at h
  · rename_i b r e j t n c
    injection h with h; injection h with h1 h2; subst h1 h2
    exact ⟨[0, 1, 2, 3, 5, 8, 9, 10, 11, 42], (fun _ _ => some { X := Nat, inv := fun x => x ≤ r.length ∧ repsFrom b 0 r = repsFrom b (lastT r x) (r.drop x), m := fun x => r.length - x, s := fun x => [(10, .t (I x)), (3, .t (I (lastT r x)))] }), (fun _ _ => none), rfl, rfl, rfl, castH (p := P_areRepeats b r e j t n c) (by kernel_rfl) (p_areRepeats b r e j t n c)⟩
  · cases h
abbrev T_areEndings : Tab := [(93, .gen c_cfR), (94, .gen c_ae1)]
theorem T_areEndings_ok : TOk Try.prog T_areEndings := ⟨ok_cfR, ok_ae1, trivial⟩
theorem ok_areEndings : FnOk Try.prog 75 (CE.pu c_areEndings).con := fnPuR T_areEndings c_areEndings L_ok T_areEndings_ok mixed Try.func75 (by kernel_rfl) (by kernel_rfl) fun args cs r h hcs => by
  unfold c_areEndings at h
  split at h
  · rename_i b r e j t n c
    injection h with h; injection h with h1 h2; subst h1 h2
    exact ⟨[0, 1, 2, 3, 5, 6, 9, 10, 11, 12, 44], (fun _ _ => some { X := Nat, inv := fun x => x ≤ e.length ∧ endsFrom r 0 e = endsFrom r (lastT e x) (e.drop x), m := fun x => e.length - x, s := fun x => [(11, .t (I x)), (3, .t (I (lastT e x)))] }), (fun _ _ => none), rfl, rfl, rfl, castH (p := P_areEndings b r e j t n c) (by kernel_rfl) (p_areEndings b r e j t n c)⟩
  · cases h
abbrev T_isJump : Tab := [(95, .pu c_isWithin)]
theorem T_isJump_ok : TOk Try.prog T_isJump := ⟨ok_isWithin, trivial⟩
theorem ok_isJump : FnOk Try.prog 76 (CE.pu c_isJump).con := fnPuR T_isJump c_isJump L_ok T_isJump_ok mixed Try.func76 (by kernel_rfl) (by kernel_rfl) fun args cs r h hcs => by
  unfold c_isJump at h
  split at h
  · rename_i b r e j t n c
    injection h with h; injection h with h1 h2; subst h1 h2
    exact ⟨[0, 1, 2, 3, 9, 47], (fun _ _ => none), (fun _ _ => none), rfl, rfl, rfl, castH (p := P_isJump b r e j t n c) (by kernel_rfl) (p_isJump b r e j t n c)⟩
  · cases h
abbrev T_isCut : Tab := []
theorem T_isCut_ok : TOk Try.prog T_isCut := trivial
theorem ok_isCut : FnOk Try.prog 96 (CE.pu c_isCut).con := fnPuR T_isCut c_isCut L_ok T_isCut_ok mixed Try.func96 (by kernel_rfl) (by kernel_rfl) fun args cs r h hcs => by
  unfold c_isCut at h
  split at h
  · rename_i b r e j t n c x y z
    injection h with h; injection h with h1 h2; subst h1 h2
    exact ⟨[0, 1, 2, 3, 4], (fun _ _ => none), (fun _ _ => none), rfl, rfl, rfl, castH (p := P_isCut b r e j t n c x y z) (by kernel_rfl) (p_isCut b r e j t n c x y z)⟩
  · cases h
abbrev T_areCuts : Tab := [(96, .pu c_isCut)]
theorem T_areCuts_ok : TOk Try.prog T_areCuts := ⟨ok_isCut, trivial⟩
theorem ok_areCuts : FnOk Try.prog 77 (CE.pu c_areCuts).con := fnPuR T_areCuts c_areCuts L_ok T_areCuts_ok mixed Try.func77 (by kernel_rfl) (by kernel_rfl) fun args cs r h hcs => by
  unfold c_areCuts at h
  split at h
  · rename_i b r e j t n c
    injection h with h; injection h with h1 h2; subst h1 h2
    exact ⟨[0, 1, 2, 3, 5, 9, 10, 11, 12, 23, 25], (fun _ _ => some { X := Nat, inv := fun x => x ≤ c.length ∧ (c.take x).all (cutB b) = true ∧ (c.take x).Nodup, m := fun x => c.length - x, s := fun x => [(11, .t (I x))], h := fun x => [(md 6, .mp T3T .tb (seenC (c.take x)))] }), (fun _ _ => none), rfl, rfl, rfl, castH (p := P_areCuts b r e j t n c) (by kernel_rfl) (p_areCuts b r e j t n c)⟩
  · cases h
abbrev T_isEnding : Tab := [(106, .gen c_cfE), (107, .gen c_ie1)]
theorem T_isEnding_ok : TOk Try.prog T_isEnding := ⟨ok_cfE, ok_ie1, trivial⟩
theorem ok_isEnding : FnOk Try.prog 100 (CE.pu c_isEnding).con := fnPuR T_isEnding c_isEnding L_ok T_isEnding_ok mixed Try.func100 (by kernel_rfl) (by kernel_rfl) fun args cs r h hcs => by
  unfold c_isEnding at h
  split at h
  · rename_i b r e j t n c x y
    injection h with h; injection h with h1 h2; subst h1 h2
    exact ⟨[0, 1, 2, 3, 4, 5, 6], (fun _ _ => none), (fun _ _ => none), rfl, rfl, rfl, castH (p := P_isEnding b r e j t n c x y) (by kernel_rfl) (p_isEnding b r e j t n c x y)⟩
  · cases h
abbrev T_bars1 : Tab := [(98, .gen c_ixR), (99, .gen c_ba1), (100, .pu c_isEnding)]
theorem T_bars1_ok : TOk Try.prog T_bars1 := ⟨ok_ixR, ok_ba1, ok_isEnding, trivial⟩
theorem v_bars1 (b : Int) (r e : List T3) (j t n : Int) (c : List T3) (x y : Int) (g : Bool) (go : Lp (Int × Unit)) : (vcGe L T_bars1 Try.f97 [0, 1, 2, 3, 4, 6, 7, 8, 9, 10, 11, 15, 17, 24, 28, 37, 42, 50, 63, 66, 67] (fun i σ => if i = 1 then some { X := Int × List Int, inv := fun q => x ≤ q.1 ∧ onG go (partS r e x y (!g)) q.2 (partS r e q.1 y (!g)), m := fun q => (y - q.1).toNat, s := fun _ => [(6, .t (.one (.ptr 6 0)))], h := fun q => [(2000, .ob sgI (h1 q.2) go), (6, CI q.1)] } else if i = 11 then some { X := Int × List Int, inv := fun q => firstP (List.getD (α := T3) r (dI (slD σ 7)).toNat t30) (!g) ≤ q.1 ∧ q.1 ≤ (List.getD (α := T3) r (dI (slD σ 7)).toNat t30).2.2 + 1 ∧ onG go (partS r e x y (!g)) q.2 (passesL e (List.getD (α := T3) r (dI (slD σ 7)).toNat t30) q.1 ++ partS r e (List.getD (α := T3) r (dI (slD σ 7)).toNat t30).2.1 y (!g)), m := fun q => ((List.getD (α := T3) r (dI (slD σ 7)).toNat t30).2.2 + 1 - q.1).toNat, s := fun q => [(10, .t (I q.1))], h := fun q => [(2000, .ob sgI (h1 q.2) go)] } else some { X := Int × List Int, inv := fun q => (List.getD (α := T3) r (dI (slD σ 7)).toNat t30).1 ≤ q.1 ∧ q.1 ≤ (List.getD (α := T3) r (dI (slD σ 7)).toNat t30).2.1 ∧ onG go (partS r e x y (!g)) q.2 (((intsF q.1 (List.getD (α := T3) r (dI (slD σ 7)).toNat t30).2.1).filter fun i => playedB e i (dI (slD σ 10))) ++ (passesL e (List.getD (α := T3) r (dI (slD σ 7)).toNat t30) (dI (slD σ 10) + 1) ++ partS r e (List.getD (α := T3) r (dI (slD σ 7)).toNat t30).2.1 y (!g))), m := fun q => ((List.getD (α := T3) r (dI (slD σ 7)).toNat t30).2.1 - q.1).toNat, s := fun q => [(11, .t (I q.1))], h := fun q => [(2000, .ob sgI (h1 q.2) go)] }) [.one (.yl 2000), .one (.ptr 2001 0), .one (.ptr 2002 0), .one (.ptr 2003 0), .one (.ptr 2004 0)] [(2000, .ob [.ti .i64] [] go), (2001, .cells [.d (.lit (.int .i64 x))]), (2002, .cells [.d (.lit (.int .i64 y))]), (2003, .cells [.d (.lit (.int .i64 b)), .d (.sl (.tp (.ti .i64) (.tp (.ti .i64) (.ti .i64))) r), .d (.sl (.tp (.ti .i64) (.tp (.ti .i64) (.ti .i64))) e), .d (.lit (.int .i64 j)), .d (.lit (.int .i64 t)), .d (.lit (.int .i64 n)), .d (.sl (.tp (.ti .i64) (.tp (.ti .i64) (.ti .i64))) c)]), (2004, .cells [.d (.lit (.bool g))])] (.tup []) [(2000, .ob [.ti .i64] (gfed go [] (h1 (partS r e x y (!g)))) go), (2001, .cells [.d (.lit (.int .i64 x))]), (2002, .cells [.d (.lit (.int .i64 y))]), (2003, .cells [.d (.lit (.int .i64 b)), .d (.sl (.tp (.ti .i64) (.tp (.ti .i64) (.ti .i64))) r), .d (.sl (.tp (.ti .i64) (.tp (.ti .i64) (.ti .i64))) e), .d (.lit (.int .i64 j)), .d (.lit (.int .i64 t)), .d (.lit (.int .i64 n)), .d (.sl (.tp (.ti .i64) (.tp (.ti .i64) (.ti .i64))) c)]), (2004, .cells [.d (.lit (.bool g))])]).holds = P_bars1 b r e j t n c x y g go := by kernel_rfl
theorem w_bars1 (b : Int) (r e : List T3) (j t n : Int) (c : List T3) (x y : Int) (g : Bool) (go : Lp (Int × Unit)) (h_0 : okParts b r x y) (h_1 : ∀ k, go.ok ((h1 (partS r e x y (!g))).take k)) : (vcGe L T_bars1 Try.f97 [0, 1, 2, 3, 4, 6, 7, 8, 9, 10, 11, 15, 17, 24, 28, 37, 42, 50, 63, 66, 67] (fun i σ => if i = 1 then some { X := Int × List Int, inv := fun q => x ≤ q.1 ∧ onG go (partS r e x y (!g)) q.2 (partS r e q.1 y (!g)), m := fun q => (y - q.1).toNat, s := fun _ => [(6, .t (.one (.ptr 6 0)))], h := fun q => [(2000, .ob sgI (h1 q.2) go), (6, CI q.1)] } else if i = 11 then some { X := Int × List Int, inv := fun q => firstP (List.getD (α := T3) r (dI (slD σ 7)).toNat t30) (!g) ≤ q.1 ∧ q.1 ≤ (List.getD (α := T3) r (dI (slD σ 7)).toNat t30).2.2 + 1 ∧ onG go (partS r e x y (!g)) q.2 (passesL e (List.getD (α := T3) r (dI (slD σ 7)).toNat t30) q.1 ++ partS r e (List.getD (α := T3) r (dI (slD σ 7)).toNat t30).2.1 y (!g)), m := fun q => ((List.getD (α := T3) r (dI (slD σ 7)).toNat t30).2.2 + 1 - q.1).toNat, s := fun q => [(10, .t (I q.1))], h := fun q => [(2000, .ob sgI (h1 q.2) go)] } else some { X := Int × List Int, inv := fun q => (List.getD (α := T3) r (dI (slD σ 7)).toNat t30).1 ≤ q.1 ∧ q.1 ≤ (List.getD (α := T3) r (dI (slD σ 7)).toNat t30).2.1 ∧ onG go (partS r e x y (!g)) q.2 (((intsF q.1 (List.getD (α := T3) r (dI (slD σ 7)).toNat t30).2.1).filter fun i => playedB e i (dI (slD σ 10))) ++ (passesL e (List.getD (α := T3) r (dI (slD σ 7)).toNat t30) (dI (slD σ 10) + 1) ++ partS r e (List.getD (α := T3) r (dI (slD σ 7)).toNat t30).2.1 y (!g))), m := fun q => ((List.getD (α := T3) r (dI (slD σ 7)).toNat t30).2.1 - q.1).toNat, s := fun q => [(11, .t (I q.1))], h := fun q => [(2000, .ob sgI (h1 q.2) go)] }) [.one (.yl 2000), .one (.ptr 2001 0), .one (.ptr 2002 0), .one (.ptr 2003 0), .one (.ptr 2004 0)] [(2000, .ob [.ti .i64] [] go), (2001, .cells [.d (.lit (.int .i64 x))]), (2002, .cells [.d (.lit (.int .i64 y))]), (2003, .cells [.d (.lit (.int .i64 b)), .d (.sl (.tp (.ti .i64) (.tp (.ti .i64) (.ti .i64))) r), .d (.sl (.tp (.ti .i64) (.tp (.ti .i64) (.ti .i64))) e), .d (.lit (.int .i64 j)), .d (.lit (.int .i64 t)), .d (.lit (.int .i64 n)), .d (.sl (.tp (.ti .i64) (.tp (.ti .i64) (.ti .i64))) c)]), (2004, .cells [.d (.lit (.bool g))])] (.tup []) [(2000, .ob [.ti .i64] (gfed go [] (h1 (partS r e x y (!g)))) go), (2001, .cells [.d (.lit (.int .i64 x))]), (2002, .cells [.d (.lit (.int .i64 y))]), (2003, .cells [.d (.lit (.int .i64 b)), .d (.sl (.tp (.ti .i64) (.tp (.ti .i64) (.ti .i64))) r), .d (.sl (.tp (.ti .i64) (.tp (.ti .i64) (.ti .i64))) e), .d (.lit (.int .i64 j)), .d (.lit (.int .i64 t)), .d (.lit (.int .i64 n)), .d (.sl (.tp (.ti .i64) (.tp (.ti .i64) (.ti .i64))) c)]), (2004, .cells [.d (.lit (.bool g))])]).holds := by
  rw [v_bars1]
  exact p_bars1 b r e j t n c x y g go h_0 h_1
theorem ok_bars1 : FnOk Try.prog 97 (CE.gen c_bars1).con := fnGe T_bars1 c_bars1 L_ok T_bars1_ok mixed Try.func97 (by kernel_rfl) (by kernel_rfl) fun args hp fr cs r up h hcs => by
  unfold c_bars1 at h
  split at h
  · rename_i z f u o a
    split at h
    · rename_i go h_z
      split at h
      · rename_i x h_f
        split at h
        · rename_i y h_u
          split at h
          · rename_i b r e j t n c h_o
            split at h
            · rename_i g h_a
              split at h
              · rename_i hd
                injection h with h; injection h with h1 h2; injection h2 with h2 h3; subst h1 h2 h3
                have e_z_f : z ≠ f := distinct_ne hd (i := 0) (j := 1) (by decide) rfl rfl
                have e_z_u : z ≠ u := distinct_ne hd (i := 0) (j := 2) (by decide) rfl rfl
                have e_z_o : z ≠ o := distinct_ne hd (i := 0) (j := 3) (by decide) rfl rfl
                have e_z_a : z ≠ a := distinct_ne hd (i := 0) (j := 4) (by decide) rfl rfl
                have e_f_u : f ≠ u := distinct_ne hd (i := 1) (j := 2) (by decide) rfl rfl
                have e_f_o : f ≠ o := distinct_ne hd (i := 1) (j := 3) (by decide) rfl rfl
                have e_f_a : f ≠ a := distinct_ne hd (i := 1) (j := 4) (by decide) rfl rfl
                have e_u_o : u ≠ o := distinct_ne hd (i := 2) (j := 3) (by decide) rfl rfl
                have e_u_a : u ≠ a := distinct_ne hd (i := 2) (j := 4) (by decide) rfl rfl
                have e_o_a : o ≠ a := distinct_ne hd (i := 3) (j := 4) (by decide) rfl rfl
                exact ⟨[0, 1, 2, 3, 4, 6, 7, 8, 9, 10, 11, 15, 17, 24, 28, 37, 42, 50, 63, 66, 67], (fun i σ => if i = 1 then some { X := Int × List Int, inv := fun q => x ≤ q.1 ∧ onG go (partS r e x y (!g)) q.2 (partS r e q.1 y (!g)), m := fun q => (y - q.1).toNat, s := fun _ => [(6, .t (.one (.ptr 6 0)))], h := fun q => [(2000, .ob sgI (h1 q.2) go), (6, CI q.1)] } else if i = 11 then some { X := Int × List Int, inv := fun q => firstP (List.getD (α := T3) r (dI (slD σ 7)).toNat t30) (!g) ≤ q.1 ∧ q.1 ≤ (List.getD (α := T3) r (dI (slD σ 7)).toNat t30).2.2 + 1 ∧ onG go (partS r e x y (!g)) q.2 (passesL e (List.getD (α := T3) r (dI (slD σ 7)).toNat t30) q.1 ++ partS r e (List.getD (α := T3) r (dI (slD σ 7)).toNat t30).2.1 y (!g)), m := fun q => ((List.getD (α := T3) r (dI (slD σ 7)).toNat t30).2.2 + 1 - q.1).toNat, s := fun q => [(10, .t (I q.1))], h := fun q => [(2000, .ob sgI (h1 q.2) go)] } else some { X := Int × List Int, inv := fun q => (List.getD (α := T3) r (dI (slD σ 7)).toNat t30).1 ≤ q.1 ∧ q.1 ≤ (List.getD (α := T3) r (dI (slD σ 7)).toNat t30).2.1 ∧ onG go (partS r e x y (!g)) q.2 (((intsF q.1 (List.getD (α := T3) r (dI (slD σ 7)).toNat t30).2.1).filter fun i => playedB e i (dI (slD σ 10))) ++ (passesL e (List.getD (α := T3) r (dI (slD σ 7)).toNat t30) (dI (slD σ 10) + 1) ++ partS r e (List.getD (α := T3) r (dI (slD σ 7)).toNat t30).2.1 y (!g))), m := fun q => ((List.getD (α := T3) r (dI (slD σ 7)).toNat t30).2.1 - q.1).toNat, s := fun q => [(11, .t (I q.1))], h := fun q => [(2000, .ob sgI (h1 q.2) go)] }), (fun _ _ => none), [(2000, z), (2001, f), (2002, u), (2003, o), (2004, a)], [], [.one (.yl 2000), .one (.ptr 2001 0), .one (.ptr 2002 0), .one (.ptr 2003 0), .one (.ptr 2004 0)], [(2000, .ob [.ti .i64] [] go), (2001, .cells [.d (.lit (.int .i64 x))]), (2002, .cells [.d (.lit (.int .i64 y))]), (2003, .cells [.d (.lit (.int .i64 b)), .d (.sl (.tp (.ti .i64) (.tp (.ti .i64) (.ti .i64))) r), .d (.sl (.tp (.ti .i64) (.tp (.ti .i64) (.ti .i64))) e), .d (.lit (.int .i64 j)), .d (.lit (.int .i64 t)), .d (.lit (.int .i64 n)), .d (.sl (.tp (.ti .i64) (.tp (.ti .i64) (.ti .i64))) c)]), (2004, .cells [.d (.lit (.bool g))])], (.tup []), [(2000, .ob [.ti .i64] (gfed go [] (h1 (partS r e x y (!g)))) go), (2001, .cells [.d (.lit (.int .i64 x))]), (2002, .cells [.d (.lit (.int .i64 y))]), (2003, .cells [.d (.lit (.int .i64 b)), .d (.sl (.tp (.ti .i64) (.tp (.ti .i64) (.ti .i64))) r), .d (.sl (.tp (.ti .i64) (.tp (.ti .i64) (.ti .i64))) e), .d (.lit (.int .i64 j)), .d (.lit (.int .i64 t)), .d (.lit (.int .i64 n)), .d (.sl (.tp (.ti .i64) (.tp (.ti .i64) (.ti .i64))) c)]), (2004, .cells [.d (.lit (.bool g))])],
                  Meets.of [(2000, z), (2001, f), (2002, u), (2003, o), (2004, a)] [] _ _ _ _ (by simp) (by simp [e_z_f, Ne.symm e_z_f, e_z_u, Ne.symm e_z_u, e_z_o, Ne.symm e_z_o, e_z_a, Ne.symm e_z_a, e_f_u, Ne.symm e_f_u, e_f_o, Ne.symm e_f_o, e_f_a, Ne.symm e_f_a, e_u_o, Ne.symm e_u_o, e_u_a, Ne.symm e_u_a, e_o_a, Ne.symm e_o_a]) rfl rfl
                  (by simp only [List.forall_mem_cons]; exact ⟨⟨_, rfl, h_z⟩, ⟨_, rfl, h_f⟩, ⟨_, rfl, h_u⟩, ⟨_, rfl, h_o⟩, ⟨_, rfl, h_a⟩, fun _ h => by cases h⟩)
                  (fun q hq => by cases hq)
                  (by simp only [List.cons_append, List.nil_append, List.append_nil, List.forall_mem_cons]; exact ⟨fun o ho => by injection ho with ho; subst ho; exact (by unfold upd; simp [look_cons, Go.Sy.look, e_z_f, Ne.symm e_z_f, e_z_u, Ne.symm e_z_u, e_z_o, Ne.symm e_z_o, e_z_a, Ne.symm e_z_a, e_f_u, Ne.symm e_f_u, e_f_o, Ne.symm e_f_o, e_f_a, Ne.symm e_f_a, e_u_o, Ne.symm e_u_o, e_u_a, Ne.symm e_u_a, e_o_a, Ne.symm e_o_a] <;> rfl), fun o ho => by injection ho with ho; subst ho; exact (by unfold upd; simp [look_cons, Go.Sy.look, e_z_f, Ne.symm e_z_f, e_z_u, Ne.symm e_z_u, e_z_o, Ne.symm e_z_o, e_z_a, Ne.symm e_z_a, e_f_u, Ne.symm e_f_u, e_f_o, Ne.symm e_f_o, e_f_a, Ne.symm e_f_a, e_u_o, Ne.symm e_u_o, e_u_a, Ne.symm e_u_a, e_o_a, Ne.symm e_o_a, h_f] <;> rfl), fun o ho => by injection ho with ho; subst ho; exact (by unfold upd; simp [look_cons, Go.Sy.look, e_z_f, Ne.symm e_z_f, e_z_u, Ne.symm e_z_u, e_z_o, Ne.symm e_z_o, e_z_a, Ne.symm e_z_a, e_f_u, Ne.symm e_f_u, e_f_o, Ne.symm e_f_o, e_f_a, Ne.symm e_f_a, e_u_o, Ne.symm e_u_o, e_u_a, Ne.symm e_u_a, e_o_a, Ne.symm e_o_a, h_u] <;> rfl), fun o ho => by injection ho with ho; subst ho; exact (by unfold upd; simp [look_cons, Go.Sy.look, e_z_f, Ne.symm e_z_f, e_z_u, Ne.symm e_z_u, e_z_o, Ne.symm e_z_o, e_z_a, Ne.symm e_z_a, e_f_u, Ne.symm e_f_u, e_f_o, Ne.symm e_f_o, e_f_a, Ne.symm e_f_a, e_u_o, Ne.symm e_u_o, e_u_a, Ne.symm e_u_a, e_o_a, Ne.symm e_o_a, h_o] <;> rfl), fun o ho => by injection ho with ho; subst ho; exact (by unfold upd; simp [look_cons, Go.Sy.look, e_z_f, Ne.symm e_z_f, e_z_u, Ne.symm e_z_u, e_z_o, Ne.symm e_z_o, e_z_a, Ne.symm e_z_a, e_f_u, Ne.symm e_f_u, e_f_o, Ne.symm e_f_o, e_f_a, Ne.symm e_f_a, e_u_o, Ne.symm e_u_o, e_u_a, Ne.symm e_u_a, e_o_a, Ne.symm e_o_a, h_a] <;> rfl), fun _ h => by cases h⟩)
                  (by simp) rfl rfl rfl rfl rfl rfl rfl (by have h0 := w_bars1 b r e j t n c x y g go (hcs _ (.head _)) (hcs _ (.tail _ (.head _))); assumption)⟩
              · cases h
            · cases h
          · cases h
        · cases h
      · cases h
    · cases h
  · cases h
abbrev T_bars : Tab := [(97, .gen c_bars1)]
theorem T_bars_ok : TOk Try.prog T_bars := ⟨ok_bars1, trivial⟩
theorem v_bars (b : Int) (r e : List T3) (j t n : Int) (c : List T3) (x y : Int) (g : Bool) : (vcGe L T_bars Try.f81 [0, 1, 2, 3, 4, 5, 6, 7, 8] (fun _ _ => none) [.agg [.d (.lit (.int .i64 b)), .d (.sl (.tp (.ti .i64) (.tp (.ti .i64) (.ti .i64))) r), .d (.sl (.tp (.ti .i64) (.tp (.ti .i64) (.ti .i64))) e), .d (.lit (.int .i64 j)), .d (.lit (.int .i64 t)), .d (.lit (.int .i64 n)), .d (.sl (.tp (.ti .i64) (.tp (.ti .i64) (.ti .i64))) c)], .one (.d (.lit (.int .i64 x))), .one (.d (.lit (.int .i64 y))), .one (.d (.lit (.bool g)))] [] (.t (.one (.clo 97 [] [(5, 0), (6, 0), (4, 0), (7, 0)]))) [(4, .cells [.d (.lit (.int .i64 b)), .d (.sl (.tp (.ti .i64) (.tp (.ti .i64) (.ti .i64))) r), .d (.sl (.tp (.ti .i64) (.tp (.ti .i64) (.ti .i64))) e), .d (.lit (.int .i64 j)), .d (.lit (.int .i64 t)), .d (.lit (.int .i64 n)), .d (.sl (.tp (.ti .i64) (.tp (.ti .i64) (.ti .i64))) c)]), (5, .cells [li .i64 x]), (6, .cells [li .i64 y]), (7, .cells [lb g])]).holds = P_bars b r e j t n c x y g := by kernel_rfl
theorem w_bars (b : Int) (r e : List T3) (j t n : Int) (c : List T3) (x y : Int) (g : Bool)  : (vcGe L T_bars Try.f81 [0, 1, 2, 3, 4, 5, 6, 7, 8] (fun _ _ => none) [.agg [.d (.lit (.int .i64 b)), .d (.sl (.tp (.ti .i64) (.tp (.ti .i64) (.ti .i64))) r), .d (.sl (.tp (.ti .i64) (.tp (.ti .i64) (.ti .i64))) e), .d (.lit (.int .i64 j)), .d (.lit (.int .i64 t)), .d (.lit (.int .i64 n)), .d (.sl (.tp (.ti .i64) (.tp (.ti .i64) (.ti .i64))) c)], .one (.d (.lit (.int .i64 x))), .one (.d (.lit (.int .i64 y))), .one (.d (.lit (.bool g)))] [] (.t (.one (.clo 97 [] [(5, 0), (6, 0), (4, 0), (7, 0)]))) [(4, .cells [.d (.lit (.int .i64 b)), .d (.sl (.tp (.ti .i64) (.tp (.ti .i64) (.ti .i64))) r), .d (.sl (.tp (.ti .i64) (.tp (.ti .i64) (.ti .i64))) e), .d (.lit (.int .i64 j)), .d (.lit (.int .i64 t)), .d (.lit (.int .i64 n)), .d (.sl (.tp (.ti .i64) (.tp (.ti .i64) (.ti .i64))) c)]), (5, .cells [li .i64 x]), (6, .cells [li .i64 y]), (7, .cells [lb g])]).holds := by
  rw [v_bars]
  exact p_bars b r e j t n c x y g 
theorem ok_bars : FnOk Try.prog 81 (CE.gen c_bars).con := fnGe T_bars c_bars L_ok T_bars_ok mixed Try.func81 (by kernel_rfl) (by kernel_rfl) fun args hp fr cs r up h hcs => by
  unfold c_bars at h
  split at h
  · rename_i b r e j t n c x y g
    split at h
    · rename_i h_o
      split at h
      · rename_i h_f
        split at h
        · rename_i h_u
          split at h
          · rename_i h_a
            split at h
            · rename_i hd
              injection h with h; injection h with h1 h2; injection h2 with h2 h3; subst h1 h2 h3
              have e_o_f : fr ≠ (fr + 1) := distinct_ne hd (i := 0) (j := 1) (by decide) rfl rfl
              have e_o_u : fr ≠ (fr + 2) := distinct_ne hd (i := 0) (j := 2) (by decide) rfl rfl
              have e_o_a : fr ≠ (fr + 3) := distinct_ne hd (i := 0) (j := 3) (by decide) rfl rfl
              have e_f_u : (fr + 1) ≠ (fr + 2) := distinct_ne hd (i := 1) (j := 2) (by decide) rfl rfl
              have e_f_a : (fr + 1) ≠ (fr + 3) := distinct_ne hd (i := 1) (j := 3) (by decide) rfl rfl
              have e_u_a : (fr + 2) ≠ (fr + 3) := distinct_ne hd (i := 2) (j := 3) (by decide) rfl rfl
              exact ⟨[0, 1, 2, 3, 4, 5, 6, 7, 8], (fun _ _ => none), (fun _ _ => none), [], [(4, fr), (5, (fr + 1)), (6, (fr + 2)), (7, (fr + 3))], [.agg [.d (.lit (.int .i64 b)), .d (.sl (.tp (.ti .i64) (.tp (.ti .i64) (.ti .i64))) r), .d (.sl (.tp (.ti .i64) (.tp (.ti .i64) (.ti .i64))) e), .d (.lit (.int .i64 j)), .d (.lit (.int .i64 t)), .d (.lit (.int .i64 n)), .d (.sl (.tp (.ti .i64) (.tp (.ti .i64) (.ti .i64))) c)], .one (.d (.lit (.int .i64 x))), .one (.d (.lit (.int .i64 y))), .one (.d (.lit (.bool g)))], [], (.t (.one (.clo 97 [] [(5, 0), (6, 0), (4, 0), (7, 0)]))), [(4, .cells [.d (.lit (.int .i64 b)), .d (.sl (.tp (.ti .i64) (.tp (.ti .i64) (.ti .i64))) r), .d (.sl (.tp (.ti .i64) (.tp (.ti .i64) (.ti .i64))) e), .d (.lit (.int .i64 j)), .d (.lit (.int .i64 t)), .d (.lit (.int .i64 n)), .d (.sl (.tp (.ti .i64) (.tp (.ti .i64) (.ti .i64))) c)]), (5, .cells [li .i64 x]), (6, .cells [li .i64 y]), (7, .cells [lb g])],
                Meets.of [] [(4, fr), (5, (fr + 1)), (6, (fr + 2)), (7, (fr + 3))] _ _ _ _ (by simp) (by simp [e_o_f, Ne.symm e_o_f, e_o_u, Ne.symm e_o_u, e_o_a, Ne.symm e_o_a, e_f_u, Ne.symm e_f_u, e_f_a, Ne.symm e_f_a, e_u_a, Ne.symm e_u_a]) rfl rfl
                (fun q hq => by cases hq)
                (by simp only [List.forall_mem_cons]; exact ⟨h_o, h_f, h_u, h_a, fun _ h => by cases h⟩)
                (by simp only [List.cons_append, List.nil_append, List.append_nil, List.forall_mem_cons]; exact ⟨fun o ho => by injection ho with ho; subst ho; exact (by unfold upd; simp [look_cons, Go.Sy.look, e_o_f, Ne.symm e_o_f, e_o_u, Ne.symm e_o_u, e_o_a, Ne.symm e_o_a, e_f_u, Ne.symm e_f_u, e_f_a, Ne.symm e_f_a, e_u_a, Ne.symm e_u_a] <;> rfl), fun o ho => by injection ho with ho; subst ho; exact (by unfold upd; simp [look_cons, Go.Sy.look, e_o_f, Ne.symm e_o_f, e_o_u, Ne.symm e_o_u, e_o_a, Ne.symm e_o_a, e_f_u, Ne.symm e_f_u, e_f_a, Ne.symm e_f_a, e_u_a, Ne.symm e_u_a] <;> rfl), fun o ho => by injection ho with ho; subst ho; exact (by unfold upd; simp [look_cons, Go.Sy.look, e_o_f, Ne.symm e_o_f, e_o_u, Ne.symm e_o_u, e_o_a, Ne.symm e_o_a, e_f_u, Ne.symm e_f_u, e_f_a, Ne.symm e_f_a, e_u_a, Ne.symm e_u_a] <;> rfl), fun o ho => by injection ho with ho; subst ho; exact (by unfold upd; simp [look_cons, Go.Sy.look, e_o_f, Ne.symm e_o_f, e_o_u, Ne.symm e_o_u, e_o_a, Ne.symm e_o_a, e_f_u, Ne.symm e_f_u, e_f_a, Ne.symm e_f_a, e_u_a, Ne.symm e_u_a] <;> rfl), fun _ h => by cases h⟩)
                (by simp) rfl rfl rfl rfl rfl rfl rfl (by have h0 := w_bars b r e j t n c x y g; assumption)⟩
            · cases h
          · cases h
        · cases h
      · cases h
    · cases h
  · cases h
abbrev T_vis1 : Tab := []
theorem T_vis1_ok : TOk Try.prog T_vis1 := trivial
theorem v_vis1 (x : Int) (l : List (Int × Int)) (hist : List (Vi × Unit)) (go : Lp (Vi × Unit)) : (vcGe L T_vis1 Try.f80 [0, 1, 2, 4, 8] (fun _ _ => none) [.one (.d (.lit (.int .i64 x))), .one (.ptr 2000 0), .one (.ptr 2001 0)] [(2000, .cells [.mp 2002]), (2001, .cells [.yl 2003]), (2002, .mp (.ti .i64) (.ti .i64) l), (2003, .ob [(.tp (.ti .i64) (.ti .i64))] hist go)] (.t (B (go (snocV hist ((x, (mgetI x l).getD 0 + 1), ()))))) [(2000, .cells [.mp 2002]), (2001, .cells [.yl 2003]), (2002, .mp (.ti .i64) (.ti .i64) (bump l x)), (2003, .ob [(.tp (.ti .i64) (.ti .i64))] (snocV hist ((x, (mgetI x l).getD 0 + 1), ())) go)]).holds = P_vis1 x l hist go := by kernel_rfl
theorem w_vis1 (x : Int) (l : List (Int × Int)) (hist : List (Vi × Unit)) (go : Lp (Vi × Unit)) (h_0 : InI64 ((mgetI x l).getD 0 + 1)) (h_1 : liveX go hist ((x, (mgetI x l).getD 0 + 1), ())) : (vcGe L T_vis1 Try.f80 [0, 1, 2, 4, 8] (fun _ _ => none) [.one (.d (.lit (.int .i64 x))), .one (.ptr 2000 0), .one (.ptr 2001 0)] [(2000, .cells [.mp 2002]), (2001, .cells [.yl 2003]), (2002, .mp (.ti .i64) (.ti .i64) l), (2003, .ob [(.tp (.ti .i64) (.ti .i64))] hist go)] (.t (B (go (snocV hist ((x, (mgetI x l).getD 0 + 1), ()))))) [(2000, .cells [.mp 2002]), (2001, .cells [.yl 2003]), (2002, .mp (.ti .i64) (.ti .i64) (bump l x)), (2003, .ob [(.tp (.ti .i64) (.ti .i64))] (snocV hist ((x, (mgetI x l).getD 0 + 1), ())) go)]).holds := by
  rw [v_vis1]
  exact p_vis1 x l hist go h_0 h_1
theorem ok_vis1 : FnOk Try.prog 80 (CE.gen c_vis1).con := fnGe T_vis1 c_vis1 L_ok T_vis1_ok mixed Try.func80 (by kernel_rfl) (by kernel_rfl) fun args hp fr cs r up h hcs => by
  unfold c_vis1 at h
  split at h
  · rename_i x p q
    split at h
    · rename_i m h_p
      split at h
      · rename_i z h_q
        split at h
        · rename_i l h_m
          split at h
          · rename_i hist go h_z
            split at h
            · rename_i hd
              injection h with h; injection h with h1 h2; injection h2 with h2 h3; subst h1 h2 h3
              have e_p_q : p ≠ q := distinct_ne hd (i := 0) (j := 1) (by decide) rfl rfl
              have e_p_m : p ≠ m := distinct_ne hd (i := 0) (j := 2) (by decide) rfl rfl
              have e_p_z : p ≠ z := distinct_ne hd (i := 0) (j := 3) (by decide) rfl rfl
              have e_q_m : q ≠ m := distinct_ne hd (i := 1) (j := 2) (by decide) rfl rfl
              have e_q_z : q ≠ z := distinct_ne hd (i := 1) (j := 3) (by decide) rfl rfl
              have e_m_z : m ≠ z := distinct_ne hd (i := 2) (j := 3) (by decide) rfl rfl
              exact ⟨[0, 1, 2, 4, 8], (fun _ _ => none), (fun _ _ => none), [(2000, p), (2001, q), (2002, m), (2003, z)], [], [.one (.d (.lit (.int .i64 x))), .one (.ptr 2000 0), .one (.ptr 2001 0)], [(2000, .cells [.mp 2002]), (2001, .cells [.yl 2003]), (2002, .mp (.ti .i64) (.ti .i64) l), (2003, .ob [(.tp (.ti .i64) (.ti .i64))] hist go)], (.t (B (go (snocV hist ((x, (mgetI x l).getD 0 + 1), ()))))), [(2000, .cells [.mp 2002]), (2001, .cells [.yl 2003]), (2002, .mp (.ti .i64) (.ti .i64) (bump l x)), (2003, .ob [(.tp (.ti .i64) (.ti .i64))] (snocV hist ((x, (mgetI x l).getD 0 + 1), ())) go)],
                Meets.of [(2000, p), (2001, q), (2002, m), (2003, z)] [] _ _ _ _ (by simp) (by simp [e_p_q, Ne.symm e_p_q, e_p_m, Ne.symm e_p_m, e_p_z, Ne.symm e_p_z, e_q_m, Ne.symm e_q_m, e_q_z, Ne.symm e_q_z, e_m_z, Ne.symm e_m_z]) rfl rfl
                (by simp only [List.forall_mem_cons]; exact ⟨⟨_, rfl, h_p⟩, ⟨_, rfl, h_q⟩, ⟨_, rfl, h_m⟩, ⟨_, rfl, h_z⟩, fun _ h => by cases h⟩)
                (fun q hq => by cases hq)
                (by simp only [List.cons_append, List.nil_append, List.append_nil, List.forall_mem_cons]; exact ⟨fun o ho => by injection ho with ho; subst ho; exact (by unfold upd; simp [look_cons, Go.Sy.look, e_p_q, Ne.symm e_p_q, e_p_m, Ne.symm e_p_m, e_p_z, Ne.symm e_p_z, e_q_m, Ne.symm e_q_m, e_q_z, Ne.symm e_q_z, e_m_z, Ne.symm e_m_z, h_p] <;> rfl), fun o ho => by injection ho with ho; subst ho; exact (by unfold upd; simp [look_cons, Go.Sy.look, e_p_q, Ne.symm e_p_q, e_p_m, Ne.symm e_p_m, e_p_z, Ne.symm e_p_z, e_q_m, Ne.symm e_q_m, e_q_z, Ne.symm e_q_z, e_m_z, Ne.symm e_m_z, h_q] <;> rfl), fun o ho => by injection ho with ho; subst ho; exact (by unfold upd; simp [look_cons, Go.Sy.look, e_p_q, Ne.symm e_p_q, e_p_m, Ne.symm e_p_m, e_p_z, Ne.symm e_p_z, e_q_m, Ne.symm e_q_m, e_q_z, Ne.symm e_q_z, e_m_z, Ne.symm e_m_z] <;> rfl), fun o ho => by injection ho with ho; subst ho; exact (by unfold upd; simp [look_cons, Go.Sy.look, e_p_q, Ne.symm e_p_q, e_p_m, Ne.symm e_p_m, e_p_z, Ne.symm e_p_z, e_q_m, Ne.symm e_q_m, e_q_z, Ne.symm e_q_z, e_m_z, Ne.symm e_m_z] <;> rfl), fun _ h => by cases h⟩)
                (by simp) rfl rfl rfl rfl rfl rfl rfl (by have h0 := w_vis1 x l hist go (hcs _ (.head _)) (hcs _ (.tail _ (.head _))); assumption)⟩
            · cases h
          · cases h
        · cases h
      · cases h
    · cases h
  · cases h
abbrev T_vis : Tab := [(80, .gen c_vis1), (81, .gen c_bars), (97, .gen c_bars1)]
theorem T_vis_ok : TOk Try.prog T_vis := ⟨ok_vis1, ok_bars, ok_bars1, trivial⟩
theorem v_vis (b : Int) (r e : List T3) (j t n : Int) (c : List T3) (go : Lp (Vi × Unit)) : (vcGe L T_vis Try.f79 [0, 1, 2, 3, 4, 5, 6, 7, 8, 17, 23, 24, 28, 34, 35, 39] (fun _ _ => none) [.one (.yl 2000), .one (.ptr 2001 0)] [(2000, .ob [(.tp (.ti .i64) (.ti .i64))] [] go), (2001, .cells [.d (.lit (.int .i64 b)), .d (.sl (.tp (.ti .i64) (.tp (.ti .i64) (.ti .i64))) r), .d (.sl (.tp (.ti .i64) (.tp (.ti .i64) (.ti .i64))) e), .d (.lit (.int .i64 j)), .d (.lit (.int .i64 t)), .d (.lit (.int .i64 n)), .d (.sl (.tp (.ti .i64) (.tp (.ti .i64) (.ti .i64))) c)])] (.tup []) [(2000, .ob [(.tp (.ti .i64) (.ti .i64))] (gfed go [] (h1 (visS (wholeF (b, (r, (e, ((j, (t, n)), c)))))))) go), (2001, .cells [.d (.lit (.int .i64 b)), .d (.sl (.tp (.ti .i64) (.tp (.ti .i64) (.ti .i64))) r), .d (.sl (.tp (.ti .i64) (.tp (.ti .i64) (.ti .i64))) e), .d (.lit (.int .i64 j)), .d (.lit (.int .i64 t)), .d (.lit (.int .i64 n)), .d (.sl (.tp (.ti .i64) (.tp (.ti .i64) (.ti .i64))) c)])] (fun i _ => if i = 8 then some { sg := sgI, go := goV go [] ((partS r e 0 (untilJ b j) false).length), h := fun hist => [(md 9, .mp (.ti .i64) (.ti .i64) (cntM (unI hist))), (2000, .ob sgV (h1 (visS (unI hist))) go)], js := [(.rt, fun _ => True)] } else some { inv := fun _ => live go (h1 (visS (partS r e 0 (untilJ b j) false))), sg := sgI, go := goV go (partS r e 0 (untilJ b j) false) ((wholeF (b, (r, (e, ((j, (t, n)), c))))).length), h := fun hist => [(md 9, .mp (.ti .i64) (.ti .i64) (cntM (partS r e 0 (untilJ b j) false ++ unI hist))), (2000, .ob sgV (h1 (visS (partS r e 0 (untilJ b j) false ++ unI hist))) go)], js := [(.rt, fun _ => True)] })).holds = P_vis b r e j t n c go := by kernel_rfl
theorem w_vis (b : Int) (r e : List T3) (j t n : Int) (c : List T3) (go : Lp (Vi × Unit)) (h_0 : okForm (b, (r, (e, ((j, (t, n)), c)))) = true) (h_1 : ∀ k, go.ok ((h1 (visS (wholeF (b, (r, (e, ((j, (t, n)), c))))))).take k)) : (vcGe L T_vis Try.f79 [0, 1, 2, 3, 4, 5, 6, 7, 8, 17, 23, 24, 28, 34, 35, 39] (fun _ _ => none) [.one (.yl 2000), .one (.ptr 2001 0)] [(2000, .ob [(.tp (.ti .i64) (.ti .i64))] [] go), (2001, .cells [.d (.lit (.int .i64 b)), .d (.sl (.tp (.ti .i64) (.tp (.ti .i64) (.ti .i64))) r), .d (.sl (.tp (.ti .i64) (.tp (.ti .i64) (.ti .i64))) e), .d (.lit (.int .i64 j)), .d (.lit (.int .i64 t)), .d (.lit (.int .i64 n)), .d (.sl (.tp (.ti .i64) (.tp (.ti .i64) (.ti .i64))) c)])] (.tup []) [(2000, .ob [(.tp (.ti .i64) (.ti .i64))] (gfed go [] (h1 (visS (wholeF (b, (r, (e, ((j, (t, n)), c)))))))) go), (2001, .cells [.d (.lit (.int .i64 b)), .d (.sl (.tp (.ti .i64) (.tp (.ti .i64) (.ti .i64))) r), .d (.sl (.tp (.ti .i64) (.tp (.ti .i64) (.ti .i64))) e), .d (.lit (.int .i64 j)), .d (.lit (.int .i64 t)), .d (.lit (.int .i64 n)), .d (.sl (.tp (.ti .i64) (.tp (.ti .i64) (.ti .i64))) c)])] (fun i _ => if i = 8 then some { sg := sgI, go := goV go [] ((partS r e 0 (untilJ b j) false).length), h := fun hist => [(md 9, .mp (.ti .i64) (.ti .i64) (cntM (unI hist))), (2000, .ob sgV (h1 (visS (unI hist))) go)], js := [(.rt, fun _ => True)] } else some { inv := fun _ => live go (h1 (visS (partS r e 0 (untilJ b j) false))), sg := sgI, go := goV go (partS r e 0 (untilJ b j) false) ((wholeF (b, (r, (e, ((j, (t, n)), c))))).length), h := fun hist => [(md 9, .mp (.ti .i64) (.ti .i64) (cntM (partS r e 0 (untilJ b j) false ++ unI hist))), (2000, .ob sgV (h1 (visS (partS r e 0 (untilJ b j) false ++ unI hist))) go)], js := [(.rt, fun _ => True)] })).holds := by
  rw [v_vis]
  exact p_vis b r e j t n c go h_0 h_1
theorem ok_vis : FnOk Try.prog 79 (CE.gen c_vis).con := fnGe T_vis c_vis L_ok T_vis_ok mixed Try.func79 (by kernel_rfl) (by kernel_rfl) fun args hp fr cs r up h hcs => by
  unfold c_vis at h
  split at h
  · rename_i z o
    split at h
    · rename_i go h_z
      split at h
      · rename_i b r e j t n c h_o
        split at h
        · rename_i hd
          injection h with h; injection h with h1 h2; injection h2 with h2 h3; subst h1 h2 h3
          have e_z_o : z ≠ o := distinct_ne hd (i := 0) (j := 1) (by decide) rfl rfl
          exact ⟨[0, 1, 2, 3, 4, 5, 6, 7, 8, 17, 23, 24, 28, 34, 35, 39], (fun _ _ => none), (fun i _ => if i = 8 then some { sg := sgI, go := goV go [] ((partS r e 0 (untilJ b j) false).length), h := fun hist => [(md 9, .mp (.ti .i64) (.ti .i64) (cntM (unI hist))), (2000, .ob sgV (h1 (visS (unI hist))) go)], js := [(.rt, fun _ => True)] } else some { inv := fun _ => live go (h1 (visS (partS r e 0 (untilJ b j) false))), sg := sgI, go := goV go (partS r e 0 (untilJ b j) false) ((wholeF (b, (r, (e, ((j, (t, n)), c))))).length), h := fun hist => [(md 9, .mp (.ti .i64) (.ti .i64) (cntM (partS r e 0 (untilJ b j) false ++ unI hist))), (2000, .ob sgV (h1 (visS (partS r e 0 (untilJ b j) false ++ unI hist))) go)], js := [(.rt, fun _ => True)] }), [(2000, z), (2001, o)], [], [.one (.yl 2000), .one (.ptr 2001 0)], [(2000, .ob [(.tp (.ti .i64) (.ti .i64))] [] go), (2001, .cells [.d (.lit (.int .i64 b)), .d (.sl (.tp (.ti .i64) (.tp (.ti .i64) (.ti .i64))) r), .d (.sl (.tp (.ti .i64) (.tp (.ti .i64) (.ti .i64))) e), .d (.lit (.int .i64 j)), .d (.lit (.int .i64 t)), .d (.lit (.int .i64 n)), .d (.sl (.tp (.ti .i64) (.tp (.ti .i64) (.ti .i64))) c)])], (.tup []), [(2000, .ob [(.tp (.ti .i64) (.ti .i64))] (gfed go [] (h1 (visS (wholeF (b, (r, (e, ((j, (t, n)), c)))))))) go), (2001, .cells [.d (.lit (.int .i64 b)), .d (.sl (.tp (.ti .i64) (.tp (.ti .i64) (.ti .i64))) r), .d (.sl (.tp (.ti .i64) (.tp (.ti .i64) (.ti .i64))) e), .d (.lit (.int .i64 j)), .d (.lit (.int .i64 t)), .d (.lit (.int .i64 n)), .d (.sl (.tp (.ti .i64) (.tp (.ti .i64) (.ti .i64))) c)])],
            Meets.of [(2000, z), (2001, o)] [] _ _ _ _ (by simp) (by simp [e_z_o, Ne.symm e_z_o]) rfl rfl
            (by simp only [List.forall_mem_cons]; exact ⟨⟨_, rfl, h_z⟩, ⟨_, rfl, h_o⟩, fun _ h => by cases h⟩)
            (fun q hq => by cases hq)
            (by simp only [List.cons_append, List.nil_append, List.append_nil, List.forall_mem_cons]; exact ⟨fun o ho => by injection ho with ho; subst ho; exact (by unfold upd; simp [look_cons, Go.Sy.look, e_z_o, Ne.symm e_z_o] <;> rfl), fun o ho => by injection ho with ho; subst ho; exact (by unfold upd; simp [look_cons, Go.Sy.look, e_z_o, Ne.symm e_z_o, h_o] <;> rfl), fun _ h => by cases h⟩)
            (by simp) rfl rfl rfl rfl rfl rfl rfl (by have h0 := w_vis b r e j t n c go (hcs _ (.head _)) (hcs _ (.tail _ (.head _))); assumption)⟩
        · cases h
      · cases h
    · cases h
  · cases h
abbrev T_visits : Tab := [(79, .gen c_vis)]
theorem T_visits_ok : TOk Try.prog T_visits := ⟨ok_vis, trivial⟩
theorem v_visits (b : Int) (r e : List T3) (j t n : Int) (c : List T3) : (vcGe L T_visits Try.f54 [0, 1, 2] (fun _ _ => none) [.agg [.d (.lit (.int .i64 b)), .d (.sl (.tp (.ti .i64) (.tp (.ti .i64) (.ti .i64))) r), .d (.sl (.tp (.ti .i64) (.tp (.ti .i64) (.ti .i64))) e), .d (.lit (.int .i64 j)), .d (.lit (.int .i64 t)), .d (.lit (.int .i64 n)), .d (.sl (.tp (.ti .i64) (.tp (.ti .i64) (.ti .i64))) c)]] [] (.t (.one (.clo 79 [] [(1, 0)]))) [(1, .cells [.d (.lit (.int .i64 b)), .d (.sl (.tp (.ti .i64) (.tp (.ti .i64) (.ti .i64))) r), .d (.sl (.tp (.ti .i64) (.tp (.ti .i64) (.ti .i64))) e), .d (.lit (.int .i64 j)), .d (.lit (.int .i64 t)), .d (.lit (.int .i64 n)), .d (.sl (.tp (.ti .i64) (.tp (.ti .i64) (.ti .i64))) c)])]).holds = P_visits b r e j t n c := by kernel_rfl
theorem w_visits (b : Int) (r e : List T3) (j t n : Int) (c : List T3)  : (vcGe L T_visits Try.f54 [0, 1, 2] (fun _ _ => none) [.agg [.d (.lit (.int .i64 b)), .d (.sl (.tp (.ti .i64) (.tp (.ti .i64) (.ti .i64))) r), .d (.sl (.tp (.ti .i64) (.tp (.ti .i64) (.ti .i64))) e), .d (.lit (.int .i64 j)), .d (.lit (.int .i64 t)), .d (.lit (.int .i64 n)), .d (.sl (.tp (.ti .i64) (.tp (.ti .i64) (.ti .i64))) c)]] [] (.t (.one (.clo 79 [] [(1, 0)]))) [(1, .cells [.d (.lit (.int .i64 b)), .d (.sl (.tp (.ti .i64) (.tp (.ti .i64) (.ti .i64))) r), .d (.sl (.tp (.ti .i64) (.tp (.ti .i64) (.ti .i64))) e), .d (.lit (.int .i64 j)), .d (.lit (.int .i64 t)), .d (.lit (.int .i64 n)), .d (.sl (.tp (.ti .i64) (.tp (.ti .i64) (.ti .i64))) c)])]).holds := by
  rw [v_visits]
  exact p_visits b r e j t n c 
theorem ok_visits : FnOk Try.prog 54 (CE.gen c_visits).con := fnGe T_visits c_visits L_ok T_visits_ok mixed Try.func54 (by kernel_rfl) (by kernel_rfl) fun args hp fr cs r up h hcs => by
  unfold c_visits at h
  split at h
  · rename_i b r e j t n c
    split at h
    · rename_i h_o
      split at h
      · rename_i hd
        injection h with h; injection h with h1 h2; injection h2 with h2 h3; subst h1 h2 h3
        exact ⟨[0, 1, 2], (fun _ _ => none), (fun _ _ => none), [], [(1, fr)], [.agg [.d (.lit (.int .i64 b)), .d (.sl (.tp (.ti .i64) (.tp (.ti .i64) (.ti .i64))) r), .d (.sl (.tp (.ti .i64) (.tp (.ti .i64) (.ti .i64))) e), .d (.lit (.int .i64 j)), .d (.lit (.int .i64 t)), .d (.lit (.int .i64 n)), .d (.sl (.tp (.ti .i64) (.tp (.ti .i64) (.ti .i64))) c)]], [], (.t (.one (.clo 79 [] [(1, 0)]))), [(1, .cells [.d (.lit (.int .i64 b)), .d (.sl (.tp (.ti .i64) (.tp (.ti .i64) (.ti .i64))) r), .d (.sl (.tp (.ti .i64) (.tp (.ti .i64) (.ti .i64))) e), .d (.lit (.int .i64 j)), .d (.lit (.int .i64 t)), .d (.lit (.int .i64 n)), .d (.sl (.tp (.ti .i64) (.tp (.ti .i64) (.ti .i64))) c)])],
          Meets.of [] [(1, fr)] _ _ _ _ (by simp) (by simp) rfl rfl
          (fun q hq => by cases hq)
          (by simp only [List.forall_mem_cons]; exact ⟨h_o, fun _ h => by cases h⟩)
          (by simp only [List.cons_append, List.nil_append, List.append_nil, List.forall_mem_cons]; exact ⟨fun o ho => by injection ho with ho; subst ho; exact (by unfold upd; simp [look_cons, Go.Sy.look] <;> rfl), fun _ h => by cases h⟩)
          (by simp) rfl rfl rfl rfl rfl rfl rfl (by have h0 := w_visits b r e j t n c; assumption)⟩
      · cases h
    · cases h
  · cases h
abbrev T_isShort : Tab := [(54, .gen c_visits), (79, .gen c_vis)]
theorem T_isShort_ok : TOk Try.prog T_isShort := ⟨ok_visits, ok_vis, trivial⟩
theorem ok_isShort : FnOk Try.prog 78 (CE.pu c_isShort).con := fnPuR T_isShort c_isShort L_ok T_isShort_ok mixed Try.func78 (by kernel_rfl) (by kernel_rfl) fun args cs r h hcs => by
  unfold c_isShort at h
  split at h
  · rename_i b r e j t n c
    injection h with h; injection h with h1 h2; subst h1 h2
    exact ⟨[0, 1, 2, 3, 5, 8, 10], (fun _ _ => none), (fun _ _ => some { sg := sgV, go := goShort, h := fun hist => [(3, CI hist.length), (2, .cells [lb false])], js := [(.rt, fun _ => True)] }), rfl, rfl, rfl, castH (p := P_isShort b r e j t n c) (by kernel_rfl) (p_isShort b r e j t n c (hcs _ (.head _)))⟩
  · cases h
abbrev T_valid : Tab := [(74, .pu c_areRepeats), (75, .pu c_areEndings), (76, .pu c_isJump), (77, .pu c_areCuts), (78, .pu c_isShort)]
theorem T_valid_ok : TOk Try.prog T_valid := ⟨ok_areRepeats, ok_areEndings, ok_isJump, ok_areCuts, ok_isShort, trivial⟩
theorem ok_valid : FnOk Try.prog 53 (CE.pu c_valid).con := fnPuR T_valid c_valid L_ok T_valid_ok mixed Try.func53 (by kernel_rfl) (by kernel_rfl) fun args cs r h hcs => by
  unfold c_valid at h
  split at h
  · rename_i b r e j t n c
    injection h with h; injection h with h1 h2; subst h1 h2
    exact ⟨[0, 1, 2, 3], (fun _ _ => none), (fun _ _ => none), rfl, rfl, rfl, castH (p := P_valid b r e j t n c) (by kernel_rfl) (p_valid b r e j t n c)⟩
  · cases h
abbrev T_unfold : Tab := [(53, .pu c_valid), (54, .gen c_visits), (55, .gen c_un1), (56, .gen c_cfC), (79, .gen c_vis)]
theorem T_unfold_ok : TOk Try.prog T_unfold := ⟨ok_valid, ok_visits, ok_un1, ok_cfC, ok_vis, trivial⟩
theorem ok_unfold : FnOk Try.prog 28 (CE.pu c_unfold).con := fnPuR T_unfold c_unfold L_ok T_unfold_ok mixed Try.func28 (by kernel_rfl) (by kernel_rfl) fun args cs r h hcs => by
  unfold c_unfold at h
  split at h
  · rename_i b r e j t n c
    injection h with h; injection h with h1 h2; subst h1 h2
    exact ⟨[0, 1, 2, 3, 4, 5, 6, 9, 12, 13, 19, 23], (fun _ _ => none), (fun _ _ => some { sg := sgV, go := goAll 20000, h := fun hist => [(4, .cells [.own (rm 4) (.sl T2T ((unV hist).filter (keptB c)))]), (rm 4, .gr 61 2 ((unV hist).filter (keptB c)).length)], js := [] }), rfl, rfl, rfl, castH (p := P_unfold b r e j t n c) (by kernel_rfl) (p_unfold b r e j t n c)⟩
  · cases h
abbrev T_few : Tab := []
theorem T_few_ok : TOk Try.prog T_few := trivial
theorem ok_few : FnOk Try.prog 27 (CE.pu c_few).con := fnPuR T_few c_few L_ok T_few_ok mixed Try.func27 (by kernel_rfl) (by kernel_rfl) fun args cs r h hcs => by
  unfold c_few at h
  split at h
  · rename_i b r e j t n c
    injection h with h; injection h with h1 h2; subst h1 h2
    exact ⟨[0, 1, 2], (fun _ _ => none), (fun _ _ => none), rfl, rfl, rfl, castH (p := P_few b r e j t n c) (by kernel_rfl) (p_few b r e j t n c)⟩
  · cases h
end Go.Proofs.Ytjghgdccaakfmaa
