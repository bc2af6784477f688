/- The functions meet their contracts. Written by a program (wip/tools/gen.py). -/
import Derived.Test.YtjghgdccaakfmaaTempoq
import Derived.Test.YtjghgdccaakfmaaMeterk
import Derived.Test.YtjghgdccaakfmaaFormk
namespace Go.Proofs.Ytjghgdccaakfmaa
open Go.Sy Go.RatLaw
set_option linter.unusedVariables false
set_option maxHeartbeats 4000000
set_option linter.unusedSimpArgs false

abbrev T_isTempo : Tab := [(57, .pu cVld)]
theorem T_isTempo_ok : TOk Try.prog T_isTempo := ⟨ok57, trivial⟩
theorem ok_isTempo : FnOk Try.prog 33 (CE.pu c_isTempo).con := fnPuR T_isTempo c_isTempo L_ok T_isTempo_ok mixed Try.func33 (by kernel_rfl) (by kernel_rfl) fun args cs r h hcs => by
  unfold c_isTempo at h
  split at h
  · rename_i n d
    injection h with h; injection h with h1 h2; subst h1 h2
    exact ⟨[0, 1, 2], (fun _ _ => none), (fun _ _ => none), rfl, rfl, rfl, castH (p := P_isTempo n d) (by kernel_rfl) (p_isTempo n d)⟩
  · cases h
abbrev T_scale : Tab := [(23, .pu cVld)]
theorem T_scale_ok : TOk Try.prog T_scale := ⟨ok23, trivial⟩
theorem ok_scale : FnOk Try.prog 35 (CE.pu c_scale).con := fnPuR T_scale c_scale L_ok T_scale_ok mixed Try.func35 (by kernel_rfl) (by kernel_rfl) fun args cs r h hcs => by
  unfold c_scale at h
  split at h
  · rename_i n d
    injection h with h; injection h with h1 h2; subst h1 h2
    exact ⟨[0, 1, 2, 3, 26], (fun _ _ => none), (fun _ _ => none), rfl, rfl, rfl, castH (p := P_scale n d) (by kernel_rfl) (p_scale n d)⟩
  · cases h
abbrev T_tValid : Tab := [(32, .pu c_mValid), (33, .pu c_isTempo)]
theorem T_tValid_ok : TOk Try.prog T_tValid := ⟨ok_mValid, ok_isTempo, trivial⟩
theorem ok_tValid : FnOk Try.prog 13 (CE.pu c_tValid).con := fnPuR T_tValid c_tValid L_ok T_tValid_ok mixed Try.func13 (by kernel_rfl) (by kernel_rfl) fun args cs r h hcs => by
  unfold c_tValid at h
  split at h
  · rename_i bars l
    injection h with h; injection h with h1 h2; subst h1 h2
    exact ⟨[0, 1, 4, 5, 6, 26, 27, 28, 29, 30, 59], (fun _ _ => some { X := Nat, inv := fun k => k ≤ l.length ∧ tmsFrom bars.length (-1) l = tmsFrom bars.length (tmLast l k) (l.drop k), m := fun k => l.length - k, s := fun k => [(29, .t (I k))] }), (fun _ _ => none), rfl, rfl, rfl, castH (p := P_tValid bars l) (by kernel_rfl) (p_tValid bars l)⟩
  · cases h
abbrev T_rTValid : Tab := [(34, .pu c_rValid), (35, .pu c_scale)]
theorem T_rTValid_ok : TOk Try.prog T_rTValid := ⟨ok_rValid, ok_scale, trivial⟩
theorem ok_rTValid : FnOk Try.prog 14 (CE.pu c_rTValid).con := fnPuR T_rTValid c_rTValid L_ok T_rTValid_ok mixed Try.func14 (by kernel_rfl) (by kernel_rfl) fun args cs r h hcs => by
  unfold c_rTValid at h
  split at h
  · rename_i bars l
    injection h with h; injection h with h1 h2; subst h1 h2
    exact ⟨[0, 1, 4, 5, 6, 27, 31, 68], (fun _ _ => some { X := Nat, inv := fun k => k ≤ l.length ∧ tmsFrom bars.length (-1) l = tmsFrom bars.length (tmLast l k) (l.drop k), m := fun k => l.length - k, s := fun k => [(6, .t (I k))] }), (fun _ _ => none), rfl, rfl, rfl, castH (p := P_rTValid bars l) (by kernel_rfl) (p_rTValid bars l)⟩
  · cases h
abbrev T_later1 : Tab := []
theorem T_later1_ok : TOk Try.prog T_later1 := trivial
theorem v_later1 (x b : Int) (l : List T3) : (vcGe L T_later1 Try.f60 [0, 1, 2, 4] (fun _ _ => none) [.one (.d (.lit (.int .i64 x))), .one (.ptr 2000 0), .one (.ptr 2001 0)] [(2000, .cells [.d (.sl (.tp (.ti .i64) (.tp (.ti .i64) (.ti .i64))) l)]), (2001, .cells [.d (.lit (.int .i64 b))])] (.t (B (decide ((List.getD (α := T3) l x.toNat t30).1 > b)))) [(2000, .cells [.d (.sl (.tp (.ti .i64) (.tp (.ti .i64) (.ti .i64))) l)]), (2001, .cells [.d (.lit (.int .i64 b))])]).holds = P_later1 x b l := by kernel_rfl
theorem w_later1 (x b : Int) (l : List T3) (h_0 : 0 ≤ x) (h_1 : x < l.length) : (vcGe L T_later1 Try.f60 [0, 1, 2, 4] (fun _ _ => none) [.one (.d (.lit (.int .i64 x))), .one (.ptr 2000 0), .one (.ptr 2001 0)] [(2000, .cells [.d (.sl (.tp (.ti .i64) (.tp (.ti .i64) (.ti .i64))) l)]), (2001, .cells [.d (.lit (.int .i64 b))])] (.t (B (decide ((List.getD (α := T3) l x.toNat t30).1 > b)))) [(2000, .cells [.d (.sl (.tp (.ti .i64) (.tp (.ti .i64) (.ti .i64))) l)]), (2001, .cells [.d (.lit (.int .i64 b))])]).holds ∧ True := by
  rw [v_later1]
  exact ⟨p_later1 x b l h_0 h_1, trivial⟩
theorem ok_later1 : FnOk Try.prog 60 (CE.gen c_later1).con := fnGe T_later1 c_later1 L_ok T_later1_ok mixed Try.func60 (by kernel_rfl) (by kernel_rfl) fun args hp fr cs r up h hcs => by
  unfold c_later1 at h
  split at h
  · rename_i x p q
    split at h
    · rename_i l h_p
      split at h
      · rename_i b h_q
        split at h
        · rename_i hd
          injection h with h; injection h with h1 h2; injection h2 with h2 h3; subst h1 h2 h3
          have e_p_q : p ≠ q := distinct_ne hd (i := 0) (j := 1) (by decide) rfl rfl
          exact ⟨[0, 1, 2, 4], (fun _ _ => none), (fun _ _ => none), [(2000, p), (2001, q)], [], [.one (.d (.lit (.int .i64 x))), .one (.ptr 2000 0), .one (.ptr 2001 0)], [(2000, .cells [.d (.sl (.tp (.ti .i64) (.tp (.ti .i64) (.ti .i64))) l)]), (2001, .cells [.d (.lit (.int .i64 b))])], (.t (B (decide ((List.getD (α := T3) l x.toNat t30).1 > b)))), [(2000, .cells [.d (.sl (.tp (.ti .i64) (.tp (.ti .i64) (.ti .i64))) l)]), (2001, .cells [.d (.lit (.int .i64 b))])],
            Meets.of [(2000, p), (2001, q)] [] _ _ _ _ (by simp) (by simp [e_p_q, Ne.symm e_p_q]) rfl rfl
            (by simp only [List.forall_mem_cons]; exact ⟨⟨_, rfl, h_p⟩, ⟨_, rfl, h_q⟩, fun _ h => by cases h⟩)
            (fun q hq => by cases hq)
            (by simp only [List.cons_append, List.nil_append, List.append_nil, List.forall_mem_cons]; exact ⟨fun o ho => by injection ho with ho; subst ho; exact (by unfold upd; simp [look_cons, Go.Sy.look, e_p_q, Ne.symm e_p_q, h_p] <;> rfl), fun o ho => by injection ho with ho; subst ho; exact (by unfold upd; simp [look_cons, Go.Sy.look, e_p_q, Ne.symm e_p_q, h_q] <;> rfl), fun _ h => by cases h⟩)
            (by simp) rfl rfl rfl rfl rfl rfl rfl (by apply And.left (b := True); exact w_later1 x b l (hcs _ (.head _)) (hcs _ (.tail _ (.head _))))⟩
        · cases h
      · cases h
    · cases h
  · cases h
abbrev T_search : Tab := [(60, .gen c_later1)]
theorem T_search_ok : TOk Try.prog T_search := ⟨ok_later1, trivial⟩
theorem v_search (m b : Int) (l : List T3) : (vcGe L T_search Try.f59 [0, 1, 4, 5, 6, 7, 11, 21] (fun _ _ => some { X := Nat × Nat, inv := fun x => x.1 ≤ x.2 ∧ x.2 ≤ l.length ∧ (∀ k, k < x.1 → (List.getD (α := T3) l k t30).1 ≤ b) ∧ (∀ k, x.2 ≤ k → k < l.length → b < (List.getD (α := T3) l k t30).1), m := fun x => x.2 - x.1, s := fun x => [(5, .t (I x.1)), (6, .t (I x.2))] }) [.one (.d (.lit (.int .i64 m))), .one (.clo 60 [] [(2000, 0), (2001, 0)])] [(2000, .cells [.d (.sl (.tp (.ti .i64) (.tp (.ti .i64) (.ti .i64))) l)]), (2001, .cells [.d (.lit (.int .i64 b))])] (.t (I (tmN l b))) [(2000, .cells [.d (.sl (.tp (.ti .i64) (.tp (.ti .i64) (.ti .i64))) l)]), (2001, .cells [.d (.lit (.int .i64 b))])]).holds = P_search m b l := by kernel_rfl
theorem w_search (m b : Int) (l : List T3) (h_0 : m = l.length) (h_1 : l.length ≤ 1000) (h_2 : riseT l) : (vcGe L T_search Try.f59 [0, 1, 4, 5, 6, 7, 11, 21] (fun _ _ => some { X := Nat × Nat, inv := fun x => x.1 ≤ x.2 ∧ x.2 ≤ l.length ∧ (∀ k, k < x.1 → (List.getD (α := T3) l k t30).1 ≤ b) ∧ (∀ k, x.2 ≤ k → k < l.length → b < (List.getD (α := T3) l k t30).1), m := fun x => x.2 - x.1, s := fun x => [(5, .t (I x.1)), (6, .t (I x.2))] }) [.one (.d (.lit (.int .i64 m))), .one (.clo 60 [] [(2000, 0), (2001, 0)])] [(2000, .cells [.d (.sl (.tp (.ti .i64) (.tp (.ti .i64) (.ti .i64))) l)]), (2001, .cells [.d (.lit (.int .i64 b))])] (.t (I (tmN l b))) [(2000, .cells [.d (.sl (.tp (.ti .i64) (.tp (.ti .i64) (.ti .i64))) l)]), (2001, .cells [.d (.lit (.int .i64 b))])]).holds ∧ True := by
  rw [v_search]
  exact ⟨p_search m b l h_0 h_1 h_2, trivial⟩
theorem ok_search : FnOk Try.prog 59 (CE.gen c_search).con := fnGe T_search c_search L_ok T_search_ok mixed Try.func59 (by kernel_rfl) (by kernel_rfl) fun args hp fr cs r up h hcs => by
  unfold c_search at h
  split at h
  · rename_i m p q
    split at h
    · rename_i l h_p
      split at h
      · rename_i b h_q
        split at h
        · rename_i hd
          injection h with h; injection h with h1 h2; injection h2 with h2 h3; subst h1 h2 h3
          have e_p_q : p ≠ q := distinct_ne hd (i := 0) (j := 1) (by decide) rfl rfl
          exact ⟨[0, 1, 4, 5, 6, 7, 11, 21], (fun _ _ => some { X := Nat × Nat, inv := fun x => x.1 ≤ x.2 ∧ x.2 ≤ l.length ∧ (∀ k, k < x.1 → (List.getD (α := T3) l k t30).1 ≤ b) ∧ (∀ k, x.2 ≤ k → k < l.length → b < (List.getD (α := T3) l k t30).1), m := fun x => x.2 - x.1, s := fun x => [(5, .t (I x.1)), (6, .t (I x.2))] }), (fun _ _ => none), [(2000, p), (2001, q)], [], [.one (.d (.lit (.int .i64 m))), .one (.clo 60 [] [(2000, 0), (2001, 0)])], [(2000, .cells [.d (.sl (.tp (.ti .i64) (.tp (.ti .i64) (.ti .i64))) l)]), (2001, .cells [.d (.lit (.int .i64 b))])], (.t (I (tmN l b))), [(2000, .cells [.d (.sl (.tp (.ti .i64) (.tp (.ti .i64) (.ti .i64))) l)]), (2001, .cells [.d (.lit (.int .i64 b))])],
            Meets.of [(2000, p), (2001, q)] [] _ _ _ _ (by simp) (by simp [e_p_q, Ne.symm e_p_q]) rfl rfl
            (by simp only [List.forall_mem_cons]; exact ⟨⟨_, rfl, h_p⟩, ⟨_, rfl, h_q⟩, fun _ h => by cases h⟩)
            (fun q hq => by cases hq)
            (by simp only [List.cons_append, List.nil_append, List.append_nil, List.forall_mem_cons]; exact ⟨fun o ho => by injection ho with ho; subst ho; exact (by unfold upd; simp [look_cons, Go.Sy.look, e_p_q, Ne.symm e_p_q, h_p] <;> rfl), fun o ho => by injection ho with ho; subst ho; exact (by unfold upd; simp [look_cons, Go.Sy.look, e_p_q, Ne.symm e_p_q, h_q] <;> rfl), fun _ h => by cases h⟩)
            (by simp) rfl rfl rfl rfl rfl rfl rfl (by apply And.left (b := True); exact w_search m b l (hcs _ (.head _)) (hcs _ (.tail _ (.head _))) (hcs _ (.tail _ (.tail _ (.head _)))))⟩
        · cases h
      · cases h
    · cases h
  · cases h
abbrev T_tAt : Tab := [(59, .gen c_search), (60, .gen c_later1)]
theorem T_tAt_ok : TOk Try.prog T_tAt := ⟨ok_search, ok_later1, trivial⟩
theorem ok_tAt : FnOk Try.prog 30 (CE.pu c_tAt).con := fnPuR T_tAt c_tAt L_ok T_tAt_ok mixed Try.func30 (by kernel_rfl) (by kernel_rfl) fun args cs r h hcs => by
  unfold c_tAt at h
  split at h
  · rename_i l b
    injection h with h; injection h with h1 h2; subst h1 h2
    exact ⟨[0, 1, 2, 3, 4, 5, 15], (fun _ _ => none), (fun _ _ => none), rfl, rfl, rfl, castH (p := P_tAt l b) (by kernel_rfl) (p_tAt l b (hcs _ (.head _)) (hcs _ (.tail _ (.head _))) (hcs _ (.tail _ (.tail _ (.head _)))))⟩
  · cases h
abbrev T_tadd : Tab := []
theorem T_tadd_ok : TOk Try.prog T_tadd := trivial
theorem v_tadd (n t a d : Int) (l : List T3) : (vcGe L T_tadd Try.f64 [0, 1, 2, 5, 20] (fun _ _ => none) [.one (.ptr 2000 0), .one (.d (.lit (.int .i64 t))), .agg [.d (.lit (.int .i64 a)), .d (.lit (.int .i64 d))]] [(2000, .cells [.d (.lit (.int .i64 n)), .d (.sl (.tp (.ti .i64) (.tp (.ti .i64) (.ti .i64))) l)])] (.tup []) [(2000, .cells [.d (.lit (.int .i64 (n + t * sclT a d))), .d (.sl (.tp (.ti .i64) (.tp (.ti .i64) (.ti .i64))) l)])]).holds = P_tadd n t a d l := by kernel_rfl
theorem w_tadd (n t a d : Int) (l : List T3) (h_0 : isTm a d = true) (h_1 : -1000000000000 ≤ n ∧ n ≤ 1000000000000) (h_2 : -100000 ≤ t ∧ t ≤ 100000) : (vcGe L T_tadd Try.f64 [0, 1, 2, 5, 20] (fun _ _ => none) [.one (.ptr 2000 0), .one (.d (.lit (.int .i64 t))), .agg [.d (.lit (.int .i64 a)), .d (.lit (.int .i64 d))]] [(2000, .cells [.d (.lit (.int .i64 n)), .d (.sl (.tp (.ti .i64) (.tp (.ti .i64) (.ti .i64))) l)])] (.tup []) [(2000, .cells [.d (.lit (.int .i64 (n + t * sclT a d))), .d (.sl (.tp (.ti .i64) (.tp (.ti .i64) (.ti .i64))) l)])]).holds ∧ True := by
  rw [v_tadd]
  exact ⟨p_tadd n t a d l h_0 h_1 h_2, trivial⟩
theorem ok_tadd : FnOk Try.prog 64 (CE.gen c_tadd).con := fnGe T_tadd c_tadd L_ok T_tadd_ok mixed Try.func64 (by kernel_rfl) (by kernel_rfl) fun args hp fr cs r up h hcs => by
  unfold c_tadd at h
  split at h
  · rename_i c t a d
    split at h
    · rename_i n l h_c
      split at h
      · rename_i hd
        injection h with h; injection h with h1 h2; injection h2 with h2 h3; subst h1 h2 h3
        exact ⟨[0, 1, 2, 5, 20], (fun _ _ => none), (fun _ _ => none), [(2000, c)], [], [.one (.ptr 2000 0), .one (.d (.lit (.int .i64 t))), .agg [.d (.lit (.int .i64 a)), .d (.lit (.int .i64 d))]], [(2000, .cells [.d (.lit (.int .i64 n)), .d (.sl (.tp (.ti .i64) (.tp (.ti .i64) (.ti .i64))) l)])], (.tup []), [(2000, .cells [.d (.lit (.int .i64 (n + t * sclT a d))), .d (.sl (.tp (.ti .i64) (.tp (.ti .i64) (.ti .i64))) l)])],
          Meets.of [(2000, c)] [] _ _ _ _ (by simp) (by simp) rfl rfl
          (by simp only [List.forall_mem_cons]; exact ⟨⟨_, rfl, h_c⟩, fun _ h => by cases h⟩)
          (fun q hq => by cases hq)
          (by simp only [List.cons_append, List.nil_append, List.append_nil, List.forall_mem_cons]; exact ⟨fun o ho => by injection ho with ho; subst ho; exact (by unfold upd; simp [look_cons, Go.Sy.look] <;> rfl), fun _ h => by cases h⟩)
          (by simp) rfl rfl rfl rfl rfl rfl rfl (by apply And.left (b := True); exact w_tadd n t a d l (hcs _ (.head _)) (hcs _ (.tail _ (.head _))) (hcs _ (.tail _ (.tail _ (.head _)))))⟩
      · cases h
    · cases h
  · cases h
abbrev T_tTake : Tab := [(30, .pu c_tAt), (64, .gen c_tadd)]
theorem T_tTake_ok : TOk Try.prog T_tTake := ⟨ok_tAt, ok_tadd, trivial⟩
theorem v_tTake (n b x y s : Int) (l : List T3) : (vcGe L T_tTake Try.f38 [0, 1, 2, 3, 6, 25] (fun _ _ => none) [.one (.ptr 2000 0), .one (.d (.lit (.int .i64 b))), .agg [.d (.lit (.int .i64 x)), .d (.lit (.int .i64 y))], .one (.d (.lit (.int .i64 s)))] [(2000, .cells [.d (.lit (.int .i64 n)), .d (.sl (.tp (.ti .i64) (.tp (.ti .i64) (.ti .i64))) l)])] (.tup []) [(2000, .cells [.d (.lit (.int .i64 (n + takeT l b (s * tk x y)))), .d (.sl (.tp (.ti .i64) (.tp (.ti .i64) (.ti .i64))) l)])]).holds = P_tTake n b x y s l := by kernel_rfl
theorem w_tTake (n b x y s : Int) (l : List T3) (h_0 : l.length ≤ 1000) (h_1 : riseT l) (h_2 : 0 < tmN l b) (h_3 : isTm (tmAt l b).1 (tmAt l b).2 = true) (h_4 : dur x y = true) (h_5 : tk x y ≤ 40320) (h_6 : s = 1 ∨ s = -1) (h_7 : -1000000000000 ≤ n ∧ n ≤ 1000000000000) : (vcGe L T_tTake Try.f38 [0, 1, 2, 3, 6, 25] (fun _ _ => none) [.one (.ptr 2000 0), .one (.d (.lit (.int .i64 b))), .agg [.d (.lit (.int .i64 x)), .d (.lit (.int .i64 y))], .one (.d (.lit (.int .i64 s)))] [(2000, .cells [.d (.lit (.int .i64 n)), .d (.sl (.tp (.ti .i64) (.tp (.ti .i64) (.ti .i64))) l)])] (.tup []) [(2000, .cells [.d (.lit (.int .i64 (n + takeT l b (s * tk x y)))), .d (.sl (.tp (.ti .i64) (.tp (.ti .i64) (.ti .i64))) l)])]).holds ∧ True := by
  rw [v_tTake]
  exact ⟨p_tTake n b x y s l h_0 h_1 h_2 h_3 h_4 h_5 h_6 h_7, trivial⟩
theorem ok_tTake : FnOk Try.prog 38 (CE.gen c_tTake).con := fnGe T_tTake c_tTake L_ok T_tTake_ok mixed Try.func38 (by kernel_rfl) (by kernel_rfl) fun args hp fr cs r up h hcs => by
  unfold c_tTake at h
  split at h
  · rename_i c b x y s
    split at h
    · rename_i n l h_c
      split at h
      · rename_i hd
        injection h with h; injection h with h1 h2; injection h2 with h2 h3; subst h1 h2 h3
        exact ⟨[0, 1, 2, 3, 6, 25], (fun _ _ => none), (fun _ _ => none), [(2000, c)], [], [.one (.ptr 2000 0), .one (.d (.lit (.int .i64 b))), .agg [.d (.lit (.int .i64 x)), .d (.lit (.int .i64 y))], .one (.d (.lit (.int .i64 s)))], [(2000, .cells [.d (.lit (.int .i64 n)), .d (.sl (.tp (.ti .i64) (.tp (.ti .i64) (.ti .i64))) l)])], (.tup []), [(2000, .cells [.d (.lit (.int .i64 (n + takeT l b (s * tk x y)))), .d (.sl (.tp (.ti .i64) (.tp (.ti .i64) (.ti .i64))) l)])],
          Meets.of [(2000, c)] [] _ _ _ _ (by simp) (by simp) rfl rfl
          (by simp only [List.forall_mem_cons]; exact ⟨⟨_, rfl, h_c⟩, fun _ h => by cases h⟩)
          (fun q hq => by cases hq)
          (by simp only [List.cons_append, List.nil_append, List.append_nil, List.forall_mem_cons]; exact ⟨fun o ho => by injection ho with ho; subst ho; exact (by unfold upd; simp [look_cons, Go.Sy.look] <;> rfl), fun _ h => by cases h⟩)
          (by simp) rfl rfl rfl rfl rfl rfl rfl (by apply And.left (b := True); exact w_tTake n b x y s l (hcs _ (.head _)) (hcs _ (.tail _ (.head _))) (hcs _ (.tail _ (.tail _ (.head _)))) (hcs _ (.tail _ (.tail _ (.tail _ (.head _))))) (hcs _ (.tail _ (.tail _ (.tail _ (.tail _ (.head _)))))) (hcs _ (.tail _ (.tail _ (.tail _ (.tail _ (.tail _ (.head _))))))) (hcs _ (.tail _ (.tail _ (.tail _ (.tail _ (.tail _ (.tail _ (.head _)))))))) (hcs _ (.tail _ (.tail _ (.tail _ (.tail _ (.tail _ (.tail _ (.tail _ (.head _))))))))))⟩
      · cases h
    · cases h
  · cases h
abbrev T_seconds : Tab := [(65, .pu cMake)]
theorem T_seconds_ok : TOk Try.prog T_seconds := ⟨ok65, trivial⟩
theorem v_seconds (n : Int) (l : List T3) : (vcGe L T_seconds Try.f39 [0, 2, 3] (fun _ _ => none) [.one (.ptr 2000 0)] [(2000, .cells [.d (.lit (.int .i64 n)), .d (.sl (.tp (.ti .i64) (.tp (.ti .i64) (.ti .i64))) l)])] (res (make n 100800)) [(2000, .cells [.d (.lit (.int .i64 n)), .d (.sl (.tp (.ti .i64) (.tp (.ti .i64) (.ti .i64))) l)])]).holds = P_seconds n l := by kernel_rfl
theorem w_seconds (n : Int) (l : List T3)  : (vcGe L T_seconds Try.f39 [0, 2, 3] (fun _ _ => none) [.one (.ptr 2000 0)] [(2000, .cells [.d (.lit (.int .i64 n)), .d (.sl (.tp (.ti .i64) (.tp (.ti .i64) (.ti .i64))) l)])] (res (make n 100800)) [(2000, .cells [.d (.lit (.int .i64 n)), .d (.sl (.tp (.ti .i64) (.tp (.ti .i64) (.ti .i64))) l)])]).holds ∧ True := by
  rw [v_seconds]
  exact ⟨p_seconds n l , trivial⟩
theorem ok_seconds : FnOk Try.prog 39 (CE.gen c_seconds).con := fnGe T_seconds c_seconds L_ok T_seconds_ok mixed Try.func39 (by kernel_rfl) (by kernel_rfl) fun args hp fr cs r up h hcs => by
  unfold c_seconds at h
  split at h
  · rename_i c
    split at h
    · rename_i n l h_c
      split at h
      · rename_i hd
        injection h with h; injection h with h1 h2; injection h2 with h2 h3; subst h1 h2 h3
        exact ⟨[0, 2, 3], (fun _ _ => none), (fun _ _ => none), [(2000, c)], [], [.one (.ptr 2000 0)], [(2000, .cells [.d (.lit (.int .i64 n)), .d (.sl (.tp (.ti .i64) (.tp (.ti .i64) (.ti .i64))) l)])], (res (make n 100800)), [(2000, .cells [.d (.lit (.int .i64 n)), .d (.sl (.tp (.ti .i64) (.tp (.ti .i64) (.ti .i64))) l)])],
          Meets.of [(2000, c)] [] _ _ _ _ (by simp) (by simp) rfl rfl
          (by simp only [List.forall_mem_cons]; exact ⟨⟨_, rfl, h_c⟩, fun _ h => by cases h⟩)
          (fun q hq => by cases hq)
          (by simp only [List.cons_append, List.nil_append, List.append_nil, List.forall_mem_cons]; exact ⟨fun o ho => by injection ho with ho; subst ho; exact (by unfold upd; simp [look_cons, Go.Sy.look, h_c] <;> rfl), fun _ h => by cases h⟩)
          (by simp) rfl rfl rfl rfl rfl rfl rfl (by apply And.left (b := True); exact w_seconds n l)⟩
      · cases h
    · cases h
  · cases h
abbrev T_tIsPos : Tab := [(24, .pu c_mTime)]
theorem T_tIsPos_ok : TOk Try.prog T_tIsPos := ⟨ok_mTime, trivial⟩
theorem ok_tIsPos : FnOk Try.prog 36 (CE.pu c_tIsPos).con := fnPuR T_tIsPos c_tIsPos L_ok T_tIsPos_ok mixed Try.func36 (by kernel_rfl) (by kernel_rfl) fun args cs r h hcs => by
  unfold c_tIsPos at h
  split at h
  · rename_i bars b n d
    injection h with h; injection h with h1 h2; subst h1 h2
    exact ⟨[0, 1, 3, 4, 6], (fun _ _ => none), (fun _ _ => none), rfl, rfl, rfl, castH (p := P_tIsPos bars b n d) (by kernel_rfl) (p_tIsPos bars b n d (hcs _ (.head _)))⟩
  · cases h
abbrev T_tLater : Tab := [(63, .pu cCmp)]
theorem T_tLater_ok : TOk Try.prog T_tLater := ⟨ok63, trivial⟩
theorem ok_tLater : FnOk Try.prog 37 (CE.pu c_tLater).con := fnPuR T_tLater c_tLater L_ok T_tLater_ok mixed Try.func37 (by kernel_rfl) (by kernel_rfl) fun args cs r h hcs => by
  unfold c_tLater at h
  split at h
  · rename_i b n d b' n' d'
    injection h with h; injection h with h1 h2; subst h1 h2
    exact ⟨[0, 1, 2, 3, 4, 5, 6, 11], (fun _ _ => none), (fun _ _ => none), rfl, rfl, rfl, castH (p := P_tLater b n d b' n' d') (by kernel_rfl) (p_tLater b n d b' n' d')⟩
  · cases h
abbrev T_tAt0 : Tab := [(13, .pu c_tValid), (30, .pu c_tAt)]
theorem T_tAt0_ok : TOk Try.prog T_tAt0 := ⟨ok_tValid, ok_tAt, trivial⟩
theorem ok_tAt0 : FnOk Try.prog 11 (CE.pu c_tAt0).con := fnPuR T_tAt0 c_tAt0 L_ok T_tAt0_ok mixed Try.func11 (by kernel_rfl) (by kernel_rfl) fun args cs r h hcs => by
  unfold c_tAt0 at h
  split at h
  · rename_i bars l b
    injection h with h; injection h with h1 h2; subst h1 h2
    exact ⟨[0, 1, 2, 6, 7, 21], (fun _ _ => none), (fun _ _ => none), rfl, rfl, rfl, castH (p := P_tAt0 bars l b) (by kernel_rfl) (p_tAt0 bars l b)⟩
  · cases h
abbrev T_tSeconds : Tab := [(13, .pu c_tValid), (36, .pu c_tIsPos), (37, .pu c_tLater), (38, .gen c_tTake), (39, .gen c_seconds)]
theorem T_tSeconds_ok : TOk Try.prog T_tSeconds := ⟨ok_tValid, ok_tIsPos, ok_tLater, ok_tTake, ok_seconds, trivial⟩
theorem ok_tSeconds : FnOk Try.prog 15 (CE.pu c_tSeconds).con := fnPuR T_tSeconds c_tSeconds L_ok T_tSeconds_ok mixed Try.func15 (by kernel_rfl) (by kernel_rfl) fun args cs r h hcs => by
  unfold c_tSeconds at h
  split at h
  · rename_i bars l b n d b' n' d'
    injection h with h; injection h with h1 h2; subst h1 h2
    exact ⟨[0, 1, 2, 3, 6, 7, 8, 9, 10, 11, 12, 33, 45, 55, 60, 66, 71, 77], (fun _ _ => some { X := Nat, inv := fun k => b.toNat ≤ k ∧ k ≤ b'.toNat, m := fun k => b'.toNat - k, s := fun k => [(12, .t (I k))], h := fun k => [(37, .cells [li .i64 (sumT bars l k - sumT bars l b.toNat), .d (.sl T3T l)])] }), (fun _ _ => none), rfl, rfl, rfl, castH (p := P_tSeconds bars l b n d b' n' d') (by kernel_rfl) (p_tSeconds bars l b n d b' n' d')⟩
  · cases h
abbrev T_tPlayed : Tab := [(13, .pu c_tValid), (28, .pu c_unfold), (38, .gen c_tTake), (39, .gen c_seconds)]
theorem T_tPlayed_ok : TOk Try.prog T_tPlayed := ⟨ok_tValid, ok_unfold, ok_tTake, ok_seconds, trivial⟩
theorem ok_tPlayed : FnOk Try.prog 17 (CE.pu c_tPlayed).con := fnPuR T_tPlayed c_tPlayed L_ok T_tPlayed_ok mixed Try.func17 (by kernel_rfl) (by kernel_rfl) fun args cs r h hcs => by
  unfold c_tPlayed at h
  split at h
  · rename_i bars l b r e j t n c x y
    injection h with h; injection h with h1 h2; subst h1 h2
    exact ⟨[0, 1, 2, 3, 4, 7, 10, 11, 12, 13, 14, 16, 51, 59, 60, 61, 62, 74], (fun _ _ => some { X := Nat, inv := fun k => k ≤ (y - x).toNat, m := fun k => (y - x).toNat - k, s := fun k => [(61, .t (I k))], h := fun k => [(55, .cells [li .i64 (playN bars l ((cutV (unfoldS (b, (r, (e, ((j, (t, n)), c))))).1 x y).take k)), .d (.sl T3T l)])] }), (fun _ _ => none), rfl, rfl, rfl, castH (p := P_tPlayed bars l b r e j t n c x y) (by kernel_rfl) (p_tPlayed bars l b r e j t n c x y)⟩
  · cases h
end Go.Proofs.Ytjghgdccaakfmaa
