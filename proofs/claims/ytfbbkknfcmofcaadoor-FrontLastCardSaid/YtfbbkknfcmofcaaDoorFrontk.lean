/- The functions meet their contracts. Written by a program (wip/tools/gen.py). -/
import Derived.Test.YtfbbkknfcmofcaaDoorFrontq
import Derived.Test.YtfbbkknfcmofcaaDoorDigestk
import Derived.Test.YtfbbkknfcmofcaaDoorMarksk
import Derived.Test.YtfbbkknfcmofcaaDoorSealk
namespace Go.Proofs.YtfbbkknfcmofcaaDoor
open Go.Sy Go.RatLaw
set_option linter.unusedVariables false
set_option maxHeartbeats 4000000
set_option linter.unusedSimpArgs false

abbrev T_cmpNan : Tab := []
theorem T_cmpNan_ok : TOk Tryd.prog T_cmpNan := trivial
theorem ok_cmpNan : FnOk Tryd.prog 66 (CE.pu c_cmpNan).con := fnPuR T_cmpNan c_cmpNan L_ok T_cmpNan_ok mixed Tryd.func66 (by kernel_rfl) (by kernel_rfl) fun args cs r h hcs => by
  unfold c_cmpNan at h
  split at h
  · rename_i a
    injection h with h; injection h with h1 h2; subst h1 h2
    exact ⟨[0, 2], (fun _ _ => none), (fun _ _ => none), rfl, rfl, rfl, castH (p := P_cmpNan a) (by kernel_rfl) (p_cmpNan a)⟩
  · cases h
abbrev T_cmpLess : Tab := [(66, .pu c_cmpNan)]
theorem T_cmpLess_ok : TOk Tryd.prog T_cmpLess := ⟨ok_cmpNan, trivial⟩
theorem ok_cmpLess : FnOk Tryd.prog 58 (CE.pu c_cmpLess).con := fnPuR T_cmpLess c_cmpLess L_ok T_cmpLess_ok mixed Tryd.func58 (by kernel_rfl) (by kernel_rfl) fun args cs r h hcs => by
  unfold c_cmpLess at h
  split at h
  · rename_i a b
    injection h with h; injection h with h1 h2; subst h1 h2
    exact ⟨[0, 1, 4], (fun _ _ => none), (fun _ _ => none), rfl, rfl, rfl, castH (p := P_cmpLess a b) (by kernel_rfl) (p_cmpLess a b)⟩
  · cases h
abbrev T_slNan : Tab := []
theorem T_slNan_ok : TOk Tryd.prog T_slNan := trivial
theorem ok_slNan : FnOk Tryd.prog 59 (CE.pu c_slNan).con := fnPuR T_slNan c_slNan L_ok T_slNan_ok mixed Tryd.func59 (by kernel_rfl) (by kernel_rfl) fun args cs r h hcs => by
  unfold c_slNan at h
  split at h
  · rename_i a
    injection h with h; injection h with h1 h2; subst h1 h2
    exact ⟨[0, 2], (fun _ _ => none), (fun _ _ => none), rfl, rfl, rfl, castH (p := P_slNan a) (by kernel_rfl) (p_slNan a)⟩
  · cases h
abbrev T_bsI : Tab := [(58, .pu c_cmpLess), (59, .pu c_slNan)]
theorem T_bsI_ok : TOk Tryd.prog T_bsI := ⟨ok_cmpLess, ok_slNan, trivial⟩
theorem ok_bsI : FnOk Tryd.prog 52 (CE.pu c_bsI).con := fnPuR T_bsI c_bsI L_ok T_bsI_ok mixed Tryd.func52 (by kernel_rfl) (by kernel_rfl) fun args cs r h hcs => by
  unfold c_bsI at h
  split at h
  · rename_i l n
    injection h with h; injection h with h1 h2; subst h1 h2
    exact ⟨[0, 1, 4, 5, 6, 7, 8, 9, 15, 27], (fun _ _ => some { X := Nat × Nat, inv := fun p => p.1 ≤ p.2 ∧ p.2 ≤ l.length ∧ p.1 ≤ below l n ∧ below l n ≤ p.2, m := fun p => p.2 - p.1, s := fun p => [(7, .t (I p.1)), (8, .t (I p.2))] }), (fun _ _ => none), rfl, rfl, rfl, castH (p := P_bsI l n) (by kernel_rfl) (p_bsI l n (hcs _ (.head _)) (hcs _ (.tail _ (.head _))))⟩
  · cases h
abbrev T_eqI : Tab := []
theorem T_eqI_ok : TOk Tryd.prog T_eqI := trivial
theorem ok_eqI : FnOk Tryd.prog 39 (CE.pu c_eqI).con := fnPuR T_eqI c_eqI L_ok T_eqI_ok mixed Tryd.func39 (by kernel_rfl) (by kernel_rfl) fun args cs r h hcs => by
  unfold c_eqI at h
  split at h
  · rename_i l m
    injection h with h; injection h with h1 h2; subst h1 h2
    exact ⟨[0, 1, 4, 5, 10, 12, 13, 14, 24], (fun _ _ => some { X := Nat, inv := fun x => x ≤ l.length ∧ l.take x = m.take x, m := fun x => l.length - x, s := fun x => [(13, .t (I x))] }), (fun _ _ => none), rfl, rfl, rfl, castH (p := P_eqI l m) (by kernel_rfl) (p_eqI l m)⟩
  · cases h
abbrev T_clI1 : Tab := []
theorem T_clI1_ok : TOk Tryd.prog T_clI1 := trivial
theorem v_clI1  : (vcGe (LV [] [3] false) T_clI1 Tryd.f54 [0, 2, 4] (fun _ _ => none) [.one (.nn true (.sl (.ti .i64) []))] [] (.t (.one (.vr 5000002 0))) [(5000002, .vec (.ti .i64) 3 [])]).holds = P_clI1  := by kernel_rfl
theorem w_clI1   : (vcGe (LV [] [3] false) T_clI1 Tryd.f54 [0, 2, 4] (fun _ _ => none) [.one (.nn true (.sl (.ti .i64) []))] [] (.t (.one (.vr 5000002 0))) [(5000002, .vec (.ti .i64) 3 [])]).holds ∧ True := by
  rw [v_clI1]
  exact ⟨p_clI1  , trivial⟩
theorem ok_clI1 : FnOk Tryd.prog 54 (CE.gen c_clI1).con := fnGe T_clI1 c_clI1 (LV_ok [] [3] false) T_clI1_ok mixed Tryd.func54 (by kernel_rfl) (by kernel_rfl) fun args hp fr cs r up h hcs => by
  unfold c_clI1 at h
  split at h
  · skip
    split at h
    · rename_i h_x
      split at h
      · rename_i hd
        injection h with h; injection h with h1 h2; injection h2 with h2 h3; subst h1 h2 h3
        exact ⟨[0, 2, 4], (fun _ _ => none), (fun _ _ => none), [], [(5000002, fr)], [.one (.nn true (.sl (.ti .i64) []))], [], (.t (.one (.vr 5000002 0))), [(5000002, .vec (.ti .i64) 3 [])],
          Meets.of [] [(5000002, fr)] _ _ _ _ (by simp) (by simp) rfl rfl
          (fun q hq => by cases hq)
          (by simp only [List.forall_mem_cons]; exact ⟨h_x, fun _ h => by cases h⟩)
          (by simp only [List.cons_append, List.nil_append, List.append_nil, List.forall_mem_cons]; exact ⟨fun o ho => by injection ho with ho; subst ho; exact (by unfold upd; simp [look_cons, Go.Sy.look] <;> rfl), fun _ h => by cases h⟩)
          (by simp) rfl rfl rfl rfl rfl rfl rfl (by apply And.left (b := True); exact w_clI1)⟩
      · cases h
    · cases h
  · cases h
abbrev T_clI2 : Tab := []
theorem T_clI2_ok : TOk Tryd.prog T_clI2 := trivial
theorem v_clI2 (l : List Int) : (vcGe (LV [] [3] false) T_clI2 Tryd.f54 [0, 2, 4] (fun _ _ => none) [.one (.nn false (.sl (.ti .i64) l))] [] (.t (.one (.vr 70005 l.length))) [(70005, .vec (.ti .i64) 3 l)]).holds = P_clI2 l := by kernel_rfl
theorem w_clI2 (l : List Int) (h_0 : l.length ≤ 5000) : (vcGe (LV [] [3] false) T_clI2 Tryd.f54 [0, 2, 4] (fun _ _ => none) [.one (.nn false (.sl (.ti .i64) l))] [] (.t (.one (.vr 70005 l.length))) [(70005, .vec (.ti .i64) 3 l)]).holds ∧ True := by
  rw [v_clI2]
  exact ⟨p_clI2 l h_0, trivial⟩
theorem ok_clI2 : FnOk Tryd.prog 54 (CE.gen c_clI2).con := fnGe T_clI2 c_clI2 (LV_ok [] [3] false) T_clI2_ok mixed Tryd.func54 (by kernel_rfl) (by kernel_rfl) fun args hp fr cs r up h hcs => by
  unfold c_clI2 at h
  split at h
  · rename_i l
    split at h
    · rename_i h_x
      split at h
      · rename_i hd
        injection h with h; injection h with h1 h2; injection h2 with h2 h3; subst h1 h2 h3
        exact ⟨[0, 2, 4], (fun _ _ => none), (fun _ _ => none), [], [(70005, fr)], [.one (.nn false (.sl (.ti .i64) l))], [], (.t (.one (.vr 70005 l.length))), [(70005, .vec (.ti .i64) 3 l)],
          Meets.of [] [(70005, fr)] _ _ _ _ (by simp) (by simp) rfl rfl
          (fun q hq => by cases hq)
          (by simp only [List.forall_mem_cons]; exact ⟨h_x, fun _ h => by cases h⟩)
          (by simp only [List.cons_append, List.nil_append, List.append_nil, List.forall_mem_cons]; exact ⟨fun o ho => by injection ho with ho; subst ho; exact (by unfold upd; simp [look_cons, Go.Sy.look] <;> rfl), fun _ h => by cases h⟩)
          (by simp) rfl rfl rfl rfl rfl rfl rfl (by apply And.left (b := True); exact w_clI2 l (hcs _ (.head _)))⟩
      · cases h
    · cases h
  · cases h
theorem ok_clI : FnOk Tryd.prog 54 (CE.gen c_clI).con := (FnOk.or ok_clI1 ok_clI2)
theorem ok_cloneI : FnOk Tryd.prog 54 (CE.fr (cloneC (.ti .i64) 3 5000)).con := clone_ok ok_clI (fun hp fr h => by simp [c_clI, c_clI1, orC, h, Go.Sy.distinct, Go.Sy.mem]) (fun l hp fr h => by simp [c_clI, c_clI1, c_clI2, orC, h, Go.Sy.distinct, Go.Sy.mem])
abbrev T_stShow : Tab := []
theorem T_stShow_ok : TOk Tryd.prog T_stShow := trivial
theorem v_stShow (v e k : Int) (sh : List Int) (t kd a b c g : Int) : (vcGe L T_stShow Tryd.f46 [0, 1, 3, 19] (fun _ _ => none) [.one (.ptr 2000 0), .agg [.d (.lit (.int .i64 t)), .d (.lit (.int .i64 kd)), .d (.lit (.int .i64 a)), .d (.lit (.int .i64 b)), .d (.lit (.int .i64 c)), .d (.lit (.int .u64 g))]] [(2000, .cells [.d (.lit (.int .i64 v)), .d (.lit (.int .i64 e)), .d (.lit (.int .i64 k)), .d (.sl (.ti .i64) sh)])] (.tup []) [(2000, .cells [.d (.lit (.int .i64 a)), .d (.lit (.int .i64 b)), .d (.lit (.int .i64 k)), .d (.sl (.ti .i64) [])])]).holds = P_stShow v e k sh t kd a b c g := by kernel_rfl
theorem w_stShow (v e k : Int) (sh : List Int) (t kd a b c g : Int)  : (vcGe L T_stShow Tryd.f46 [0, 1, 3, 19] (fun _ _ => none) [.one (.ptr 2000 0), .agg [.d (.lit (.int .i64 t)), .d (.lit (.int .i64 kd)), .d (.lit (.int .i64 a)), .d (.lit (.int .i64 b)), .d (.lit (.int .i64 c)), .d (.lit (.int .u64 g))]] [(2000, .cells [.d (.lit (.int .i64 v)), .d (.lit (.int .i64 e)), .d (.lit (.int .i64 k)), .d (.sl (.ti .i64) sh)])] (.tup []) [(2000, .cells [.d (.lit (.int .i64 a)), .d (.lit (.int .i64 b)), .d (.lit (.int .i64 k)), .d (.sl (.ti .i64) [])])]).holds ∧ True := by
  rw [v_stShow]
  exact ⟨p_stShow v e k sh t kd a b c g , trivial⟩
theorem ok_stShow : FnOk Tryd.prog 46 (CE.gen c_stShow).con := fnGe T_stShow c_stShow L_ok T_stShow_ok mixed Tryd.func46 (by kernel_rfl) (by kernel_rfl) fun args hp fr cs r up h hcs => by
  unfold c_stShow at h
  split at h
  · rename_i s t kd a b c g
    split at h
    · rename_i v e k sh h_s
      split at h
      · rename_i hd
        injection h with h; injection h with h1 h2; injection h2 with h2 h3; subst h1 h2 h3
        exact ⟨[0, 1, 3, 19], (fun _ _ => none), (fun _ _ => none), [(2000, s)], [], [.one (.ptr 2000 0), .agg [.d (.lit (.int .i64 t)), .d (.lit (.int .i64 kd)), .d (.lit (.int .i64 a)), .d (.lit (.int .i64 b)), .d (.lit (.int .i64 c)), .d (.lit (.int .u64 g))]], [(2000, .cells [.d (.lit (.int .i64 v)), .d (.lit (.int .i64 e)), .d (.lit (.int .i64 k)), .d (.sl (.ti .i64) sh)])], (.tup []), [(2000, .cells [.d (.lit (.int .i64 a)), .d (.lit (.int .i64 b)), .d (.lit (.int .i64 k)), .d (.sl (.ti .i64) [])])],
          Meets.of [(2000, s)] [] _ _ _ _ (by simp) (by simp) rfl rfl
          (by simp only [List.forall_mem_cons]; exact ⟨⟨_, rfl, h_s⟩, fun _ h => by cases h⟩)
          (fun q hq => by cases hq)
          (by simp only [List.cons_append, List.nil_append, List.append_nil, List.forall_mem_cons]; exact ⟨fun o ho => by injection ho with ho; subst ho; exact (by unfold upd; simp [look_cons, Go.Sy.look] <;> rfl), fun _ h => by cases h⟩)
          (by simp) rfl rfl rfl rfl rfl rfl rfl (by apply And.left (b := True); exact w_stShow v e k sh t kd a b c g)⟩
      · cases h
    · cases h
  · cases h
abbrev T_stKnow : Tab := []
theorem T_stKnow_ok : TOk Tryd.prog T_stKnow := trivial
theorem v_stKnow (v e k : Int) (sh : List Int) (t kd a b c g : Int) : (vcGe L T_stKnow Tryd.f48 [0, 1, 3, 9] (fun _ _ => none) [.one (.ptr 2000 0), .agg [.d (.lit (.int .i64 t)), .d (.lit (.int .i64 kd)), .d (.lit (.int .i64 a)), .d (.lit (.int .i64 b)), .d (.lit (.int .i64 c)), .d (.lit (.int .u64 g))]] [(2000, .cells [.d (.lit (.int .i64 v)), .d (.lit (.int .i64 e)), .d (.lit (.int .i64 k)), .d (.sl (.ti .i64) sh)])] (.tup []) [(2000, .cells [.d (.lit (.int .i64 v)), .d (.lit (.int .i64 e)), .d (.lit (.int .i64 a)), .d (.sl (.ti .i64) sh)])]).holds = P_stKnow v e k sh t kd a b c g := by kernel_rfl
theorem w_stKnow (v e k : Int) (sh : List Int) (t kd a b c g : Int)  : (vcGe L T_stKnow Tryd.f48 [0, 1, 3, 9] (fun _ _ => none) [.one (.ptr 2000 0), .agg [.d (.lit (.int .i64 t)), .d (.lit (.int .i64 kd)), .d (.lit (.int .i64 a)), .d (.lit (.int .i64 b)), .d (.lit (.int .i64 c)), .d (.lit (.int .u64 g))]] [(2000, .cells [.d (.lit (.int .i64 v)), .d (.lit (.int .i64 e)), .d (.lit (.int .i64 k)), .d (.sl (.ti .i64) sh)])] (.tup []) [(2000, .cells [.d (.lit (.int .i64 v)), .d (.lit (.int .i64 e)), .d (.lit (.int .i64 a)), .d (.sl (.ti .i64) sh)])]).holds ∧ True := by
  rw [v_stKnow]
  exact ⟨p_stKnow v e k sh t kd a b c g , trivial⟩
theorem ok_stKnow : FnOk Tryd.prog 48 (CE.gen c_stKnow).con := fnGe T_stKnow c_stKnow L_ok T_stKnow_ok mixed Tryd.func48 (by kernel_rfl) (by kernel_rfl) fun args hp fr cs r up h hcs => by
  unfold c_stKnow at h
  split at h
  · rename_i s t kd a b c g
    split at h
    · rename_i v e k sh h_s
      split at h
      · rename_i hd
        injection h with h; injection h with h1 h2; injection h2 with h2 h3; subst h1 h2 h3
        exact ⟨[0, 1, 3, 9], (fun _ _ => none), (fun _ _ => none), [(2000, s)], [], [.one (.ptr 2000 0), .agg [.d (.lit (.int .i64 t)), .d (.lit (.int .i64 kd)), .d (.lit (.int .i64 a)), .d (.lit (.int .i64 b)), .d (.lit (.int .i64 c)), .d (.lit (.int .u64 g))]], [(2000, .cells [.d (.lit (.int .i64 v)), .d (.lit (.int .i64 e)), .d (.lit (.int .i64 k)), .d (.sl (.ti .i64) sh)])], (.tup []), [(2000, .cells [.d (.lit (.int .i64 v)), .d (.lit (.int .i64 e)), .d (.lit (.int .i64 a)), .d (.sl (.ti .i64) sh)])],
          Meets.of [(2000, s)] [] _ _ _ _ (by simp) (by simp) rfl rfl
          (by simp only [List.forall_mem_cons]; exact ⟨⟨_, rfl, h_s⟩, fun _ h => by cases h⟩)
          (fun q hq => by cases hq)
          (by simp only [List.cons_append, List.nil_append, List.append_nil, List.forall_mem_cons]; exact ⟨fun o ho => by injection ho with ho; subst ho; exact (by unfold upd; simp [look_cons, Go.Sy.look] <;> rfl), fun _ h => by cases h⟩)
          (by simp) rfl rfl rfl rfl rfl rfl rfl (by apply And.left (b := True); exact w_stKnow v e k sh t kd a b c g)⟩
      · cases h
    · cases h
  · cases h
abbrev T_stLay : Tab := [(52, .pu c_bsI), (53, .gen c_ins), (54, .fr (cloneC (.ti .i64) 3 5000))]
theorem T_stLay_ok : TOk Tryd.prog T_stLay := ⟨ok_bsI, ok53, ok_cloneI, trivial⟩
theorem v_stLay (v e k : Int) (sh : List Int) (t kd a b c g : Int) : (vcGe (LV [] [3] false) T_stLay Tryd.f47 [0, 1, 3, 4, 5, 18, 33] (fun _ _ => none) [.one (.ptr 2000 0), .agg [.d (.lit (.int .i64 t)), .d (.lit (.int .i64 kd)), .d (.lit (.int .i64 a)), .d (.lit (.int .i64 b)), .d (.lit (.int .i64 c)), .d (.lit (.int .u64 g))]] [(2000, .cells [.d (.lit (.int .i64 v)), .d (.lit (.int .i64 e)), .d (.lit (.int .i64 k)), .d (.sl (.ti .i64) sh)])] (.tup []) [(2000, .cells [.d (.lit (.int .i64 v)), .d (.lit (.int .i64 e)), .d (.lit (.int .i64 k)), .d (.sl (.ti .i64) (putS sh a))])]).holds = P_stLay v e k sh t kd a b c g := by kernel_rfl
theorem w_stLay (v e k : Int) (sh : List Int) (t kd a b c g : Int) (h_0 : rise sh) (h_1 : sh.length ≤ 5000) : (vcGe (LV [] [3] false) T_stLay Tryd.f47 [0, 1, 3, 4, 5, 18, 33] (fun _ _ => none) [.one (.ptr 2000 0), .agg [.d (.lit (.int .i64 t)), .d (.lit (.int .i64 kd)), .d (.lit (.int .i64 a)), .d (.lit (.int .i64 b)), .d (.lit (.int .i64 c)), .d (.lit (.int .u64 g))]] [(2000, .cells [.d (.lit (.int .i64 v)), .d (.lit (.int .i64 e)), .d (.lit (.int .i64 k)), .d (.sl (.ti .i64) sh)])] (.tup []) [(2000, .cells [.d (.lit (.int .i64 v)), .d (.lit (.int .i64 e)), .d (.lit (.int .i64 k)), .d (.sl (.ti .i64) (putS sh a))])]).holds ∧ True := by
  rw [v_stLay]
  exact ⟨p_stLay v e k sh t kd a b c g h_0 h_1, trivial⟩
theorem ok_stLay : FnOk Tryd.prog 47 (CE.gen c_stLay).con := fnGe T_stLay c_stLay (LV_ok [] [3] false) T_stLay_ok mixed Tryd.func47 (by kernel_rfl) (by kernel_rfl) fun args hp fr cs r up h hcs => by
  unfold c_stLay at h
  split at h
  · rename_i s t kd a b c g
    split at h
    · rename_i v e k sh h_s
      split at h
      · rename_i hd
        injection h with h; injection h with h1 h2; injection h2 with h2 h3; subst h1 h2 h3
        exact ⟨[0, 1, 3, 4, 5, 18, 33], (fun _ _ => none), (fun _ _ => none), [(2000, s)], [], [.one (.ptr 2000 0), .agg [.d (.lit (.int .i64 t)), .d (.lit (.int .i64 kd)), .d (.lit (.int .i64 a)), .d (.lit (.int .i64 b)), .d (.lit (.int .i64 c)), .d (.lit (.int .u64 g))]], [(2000, .cells [.d (.lit (.int .i64 v)), .d (.lit (.int .i64 e)), .d (.lit (.int .i64 k)), .d (.sl (.ti .i64) sh)])], (.tup []), [(2000, .cells [.d (.lit (.int .i64 v)), .d (.lit (.int .i64 e)), .d (.lit (.int .i64 k)), .d (.sl (.ti .i64) (putS sh a))])],
          Meets.of [(2000, s)] [] _ _ _ _ (by simp) (by simp) rfl rfl
          (by simp only [List.forall_mem_cons]; exact ⟨⟨_, rfl, h_s⟩, fun _ h => by cases h⟩)
          (fun q hq => by cases hq)
          (by simp only [List.cons_append, List.nil_append, List.append_nil, List.forall_mem_cons]; exact ⟨fun o ho => by injection ho with ho; subst ho; exact (by unfold upd; simp [look_cons, Go.Sy.look] <;> rfl), fun _ h => by cases h⟩)
          (by simp) rfl rfl rfl rfl rfl rfl rfl (by apply And.left (b := True); exact w_stLay v e k sh t kd a b c g (hcs _ (.head _)) (hcs _ (.tail _ (.head _))))⟩
      · cases h
    · cases h
  · cases h
abbrev T_deeds : Tab := [(46, .gen c_stShow), (47, .gen c_stLay), (48, .gen c_stKnow)]
theorem T_deeds_ok : TOk Tryd.prog T_deeds := ⟨ok_stShow, ok_stLay, ok_stKnow, trivial⟩
theorem v_deeds (v e k : Int) : (vcGe L T_deeds Tryd.f37 [0, 2] (fun _ _ => none) [.one (.ptr 2000 0)] [(2000, .cells [.d (.lit (.int .i64 v)), .d (.lit (.int .i64 e)), .d (.lit (.int .i64 k)), .d (.sl .tu [])])] (.t (.one (.mp 80003))) [(2000, .cells [.d (.lit (.int .i64 v)), .d (.lit (.int .i64 e)), .d (.lit (.int .i64 k)), .d (.sl .tu [])]), (80003, .fm [(1, .one (.clo 46 [(2000, 0)] [])), (2, .one (.clo 47 [(2000, 0)] [])), (3, .one (.clo 48 [(2000, 0)] []))])]).holds = P_deeds v e k := by kernel_rfl
theorem w_deeds (v e k : Int)  : (vcGe L T_deeds Tryd.f37 [0, 2] (fun _ _ => none) [.one (.ptr 2000 0)] [(2000, .cells [.d (.lit (.int .i64 v)), .d (.lit (.int .i64 e)), .d (.lit (.int .i64 k)), .d (.sl .tu [])])] (.t (.one (.mp 80003))) [(2000, .cells [.d (.lit (.int .i64 v)), .d (.lit (.int .i64 e)), .d (.lit (.int .i64 k)), .d (.sl .tu [])]), (80003, .fm [(1, .one (.clo 46 [(2000, 0)] [])), (2, .one (.clo 47 [(2000, 0)] [])), (3, .one (.clo 48 [(2000, 0)] []))])]).holds ∧ True := by
  rw [v_deeds]
  exact ⟨p_deeds v e k , trivial⟩
theorem ok_deeds : FnOk Tryd.prog 37 (CE.gen c_deeds).con := fnGe T_deeds c_deeds L_ok T_deeds_ok mixed Tryd.func37 (by kernel_rfl) (by kernel_rfl) fun args hp fr cs r up h hcs => by
  unfold c_deeds at h
  split at h
  · rename_i s
    split at h
    · rename_i v e k h_s
      split at h
      · rename_i h_m
        split at h
        · rename_i hd
          injection h with h; injection h with h1 h2; injection h2 with h2 h3; subst h1 h2 h3
          have e_s_m : s ≠ fr := distinct_ne hd (i := 0) (j := 1) (by decide) rfl rfl
          exact ⟨[0, 2], (fun _ _ => none), (fun _ _ => none), [(2000, s)], [(80003, fr)], [.one (.ptr 2000 0)], [(2000, .cells [.d (.lit (.int .i64 v)), .d (.lit (.int .i64 e)), .d (.lit (.int .i64 k)), .d (.sl .tu [])])], (.t (.one (.mp 80003))), [(2000, .cells [.d (.lit (.int .i64 v)), .d (.lit (.int .i64 e)), .d (.lit (.int .i64 k)), .d (.sl .tu [])]), (80003, .fm [(1, .one (.clo 46 [(2000, 0)] [])), (2, .one (.clo 47 [(2000, 0)] [])), (3, .one (.clo 48 [(2000, 0)] []))])],
            Meets.of [(2000, s)] [(80003, fr)] _ _ _ _ (by simp) (by simp [e_s_m, Ne.symm e_s_m]) rfl rfl
            (by simp only [List.forall_mem_cons]; exact ⟨⟨_, rfl, h_s⟩, fun _ h => by cases h⟩)
            (by simp only [List.forall_mem_cons]; exact ⟨h_m, fun _ h => by cases h⟩)
            (by simp only [List.cons_append, List.nil_append, List.append_nil, List.forall_mem_cons]; exact ⟨fun o ho => by injection ho with ho; subst ho; exact (by unfold upd; simp [look_cons, Go.Sy.look, e_s_m, Ne.symm e_s_m, h_s] <;> rfl), fun o ho => by injection ho with ho; subst ho; exact (by unfold upd; simp [look_cons, Go.Sy.look, e_s_m, Ne.symm e_s_m] <;> rfl), fun _ h => by cases h⟩)
            (by simp) rfl rfl rfl rfl rfl rfl rfl (by apply And.left (b := True); exact w_deeds v e k)⟩
        · cases h
      · cases h
    · cases h
  · cases h
abbrev T_at2 : Tab := []
theorem T_at2_ok : TOk Tryd.prog T_at2 := trivial
theorem ok_at2 : FnOk Tryd.prog 25 (CE.pu c_at2).con := fnPuR T_at2 c_at2 L_ok T_at2_ok mixed Tryd.func25 (by kernel_rfl) (by kernel_rfl) fun args cs r h hcs => by
  unfold c_at2 at h
  split at h
  · rename_i t
    injection h with h; injection h with h1 h2; subst h1 h2
    exact ⟨[], (fun _ _ => none), (fun _ _ => none), rfl, rfl, rfl, castH (p := P_at2 t) (by kernel_rfl) (p_at2 t)⟩
  · cases h
abbrev T_at1 : Tab := []
theorem T_at1_ok : TOk Tryd.prog T_at1 := trivial
theorem v_at1 (t kd a b c g n : Int) : (vcGe L T_at1 Tryd.f23 [0, 1, 2, 3] (fun _ _ => none) [.agg [.d (.lit (.int .i64 t)), .d (.lit (.int .i64 kd)), .d (.lit (.int .i64 a)), .d (.lit (.int .i64 b)), .d (.lit (.int .i64 c)), .d (.lit (.int .u64 g))], .one (.ptr 2000 0)] [(2000, .cells [.d (.lit (.int .i64 n))])] (.t (B (decide (t > n)))) [(2000, .cells [.d (.lit (.int .i64 n))])]).holds = P_at1 t kd a b c g n := by kernel_rfl
theorem w_at1 (t kd a b c g n : Int)  : (vcGe L T_at1 Tryd.f23 [0, 1, 2, 3] (fun _ _ => none) [.agg [.d (.lit (.int .i64 t)), .d (.lit (.int .i64 kd)), .d (.lit (.int .i64 a)), .d (.lit (.int .i64 b)), .d (.lit (.int .i64 c)), .d (.lit (.int .u64 g))], .one (.ptr 2000 0)] [(2000, .cells [.d (.lit (.int .i64 n))])] (.t (B (decide (t > n)))) [(2000, .cells [.d (.lit (.int .i64 n))])]).holds ∧ True := by
  rw [v_at1]
  exact ⟨p_at1 t kd a b c g n , trivial⟩
theorem ok_at1 : FnOk Tryd.prog 23 (CE.gen c_at1).con := fnGe T_at1 c_at1 L_ok T_at1_ok mixed Tryd.func23 (by kernel_rfl) (by kernel_rfl) fun args hp fr cs r up h hcs => by
  unfold c_at1 at h
  split at h
  · rename_i t kd a b c g p
    split at h
    · rename_i n h_p
      split at h
      · rename_i hd
        injection h with h; injection h with h1 h2; injection h2 with h2 h3; subst h1 h2 h3
        exact ⟨[0, 1, 2, 3], (fun _ _ => none), (fun _ _ => none), [(2000, p)], [], [.agg [.d (.lit (.int .i64 t)), .d (.lit (.int .i64 kd)), .d (.lit (.int .i64 a)), .d (.lit (.int .i64 b)), .d (.lit (.int .i64 c)), .d (.lit (.int .u64 g))], .one (.ptr 2000 0)], [(2000, .cells [.d (.lit (.int .i64 n))])], (.t (B (decide (t > n)))), [(2000, .cells [.d (.lit (.int .i64 n))])],
          Meets.of [(2000, p)] [] _ _ _ _ (by simp) (by simp) rfl rfl
          (by simp only [List.forall_mem_cons]; exact ⟨⟨_, rfl, h_p⟩, fun _ h => by cases h⟩)
          (fun q hq => by cases hq)
          (by simp only [List.cons_append, List.nil_append, List.append_nil, List.forall_mem_cons]; exact ⟨fun o ho => by injection ho with ho; subst ho; exact (by unfold upd; simp [look_cons, Go.Sy.look, h_p] <;> rfl), fun _ h => by cases h⟩)
          (by simp) rfl rfl rfl rfl rfl rfl rfl (by apply And.left (b := True); exact w_at1 t kd a b c g n)⟩
      · cases h
    · cases h
  · cases h
abbrev T_ixN : Tab := [(23, .gen c_at1)]
theorem T_ixN_ok : TOk Tryd.prog T_ixN := ⟨ok_at1, trivial⟩
theorem v_ixN (l : List En) (n : Int) : (vcGe L T_ixN Tryd.f22 [0, 1, 4, 5, 7, 8, 9, 16] (fun _ _ => some { X := Nat, inv := fun k => k ≤ l.length ∧ ∀ i, i < k → laterB n (List.getD (α := En) l i en0) = false, m := fun k => l.length - k, s := fun k => [(8, .t (I k))] }) [.one (.d (.sl (.tp (.ti .i64) (.tp (.ti .i64) (.tp (.ti .i64) (.tp (.ti .i64) (.tp (.ti .i64) (.ti .u64)))))) l)), .one (.clo 23 [] [(2000, 0)])] [(2000, .cells [.d (.lit (.int .i64 n))])] (.t (I (gidx (laterB n) l))) [(2000, .cells [.d (.lit (.int .i64 n))])]).holds = P_ixN l n := by kernel_rfl
theorem w_ixN (l : List En) (n : Int)  : (vcGe L T_ixN Tryd.f22 [0, 1, 4, 5, 7, 8, 9, 16] (fun _ _ => some { X := Nat, inv := fun k => k ≤ l.length ∧ ∀ i, i < k → laterB n (List.getD (α := En) l i en0) = false, m := fun k => l.length - k, s := fun k => [(8, .t (I k))] }) [.one (.d (.sl (.tp (.ti .i64) (.tp (.ti .i64) (.tp (.ti .i64) (.tp (.ti .i64) (.tp (.ti .i64) (.ti .u64)))))) l)), .one (.clo 23 [] [(2000, 0)])] [(2000, .cells [.d (.lit (.int .i64 n))])] (.t (I (gidx (laterB n) l))) [(2000, .cells [.d (.lit (.int .i64 n))])]).holds ∧ True := by
  rw [v_ixN]
  exact ⟨p_ixN l n , trivial⟩
theorem ok_ixN : FnOk Tryd.prog 22 (CE.gen c_ixN).con := fnGe T_ixN c_ixN L_ok T_ixN_ok mixed Tryd.func22 (by kernel_rfl) (by kernel_rfl) fun args hp fr cs r up h hcs => by
  unfold c_ixN at h
  split at h
  · rename_i l p
    split at h
    · rename_i n h_p
      split at h
      · rename_i hd
        injection h with h; injection h with h1 h2; injection h2 with h2 h3; subst h1 h2 h3
        exact ⟨[0, 1, 4, 5, 7, 8, 9, 16], (fun _ _ => some { X := Nat, inv := fun k => k ≤ l.length ∧ ∀ i, i < k → laterB n (List.getD (α := En) l i en0) = false, m := fun k => l.length - k, s := fun k => [(8, .t (I k))] }), (fun _ _ => none), [(2000, p)], [], [.one (.d (.sl (.tp (.ti .i64) (.tp (.ti .i64) (.tp (.ti .i64) (.tp (.ti .i64) (.tp (.ti .i64) (.ti .u64)))))) l)), .one (.clo 23 [] [(2000, 0)])], [(2000, .cells [.d (.lit (.int .i64 n))])], (.t (I (gidx (laterB n) l))), [(2000, .cells [.d (.lit (.int .i64 n))])],
          Meets.of [(2000, p)] [] _ _ _ _ (by simp) (by simp) rfl rfl
          (by simp only [List.forall_mem_cons]; exact ⟨⟨_, rfl, h_p⟩, fun _ h => by cases h⟩)
          (fun q hq => by cases hq)
          (by simp only [List.cons_append, List.nil_append, List.append_nil, List.forall_mem_cons]; exact ⟨fun o ho => by injection ho with ho; subst ho; exact (by unfold upd; simp [look_cons, Go.Sy.look, h_p] <;> rfl), fun _ h => by cases h⟩)
          (by simp) rfl rfl rfl rfl rfl rfl rfl (by apply And.left (b := True); exact w_ixN l n)⟩
      · cases h
    · cases h
  · cases h
abbrev T_fsame : Tab := [(39, .pu c_eqI)]
theorem T_fsame_ok : TOk Tryd.prog T_fsame := ⟨ok_eqI, trivial⟩
theorem ok_fsame : FnOk Tryd.prog 28 (CE.pu c_fsame).con := fnPuR T_fsame c_fsame L_ok T_fsame_ok mixed Tryd.func28 (by kernel_rfl) (by kernel_rfl) fun args cs r h hcs => by
  unfold c_fsame at h
  split at h
  · rename_i v e k sh v' e' k' sh'
    injection h with h; injection h with h1 h2; subst h1 h2
    exact ⟨[0, 1, 2, 3, 4], (fun _ _ => none), (fun _ _ => none), rfl, rfl, rfl, castH (p := P_fsame v e k sh v' e' k' sh') (by kernel_rfl) (p_fsame v e k sh v' e' k' sh')⟩
  · cases h
abbrev T_chg1 : Tab := [(28, .pu c_fsame)]
theorem T_chg1_ok : TOk Tryd.prog T_chg1 := ⟨ok_fsame, trivial⟩
theorem v_chg1 (t pv pe pk : Int) (ps : List Int) (v e k : Int) (sh o : List Int) (n : Nat) : (vcGe L T_chg1 Tryd.f27 [0, 1, 2, 3, 11, 15, 19] (fun _ _ => none) [.one (.d (.lit (.int .i64 t))), .one (.ptr 2000 0), .one (.ptr 2001 0), .one (.ptr 2003 0)] [(2000, .cells [.d (.lit (.int .i64 pv)), .d (.lit (.int .i64 pe)), .d (.lit (.int .i64 pk)), .d (.sl (.ti .i64) ps)]), (2001, .cells [.ptr 2002 0]), (2002, .cells [.d (.lit (.int .i64 v)), .d (.lit (.int .i64 e)), .d (.lit (.int .i64 k)), .d (.sl (.ti .i64) sh)]), (2003, .cells [.own 2004 (.sl (.ti .i64) o)]), (2004, .gr 3 1 n)] (.tup []) [(2000, .cells [.d (.lit (.int .i64 v)), .d (.lit (.int .i64 e)), .d (.lit (.int .i64 k)), .d (.sl (.ti .i64) sh)]), (2001, .cells [.ptr 2002 0]), (2002, .cells [.d (.lit (.int .i64 v)), .d (.lit (.int .i64 e)), .d (.lit (.int .i64 k)), .d (.sl (.ti .i64) sh)]), (2003, .cells [.own 2004 (.sl (.ti .i64) (stepC (o, (pv, (pe, (pk, ps)))) t (v, (e, (k, sh)))).1)]), (2004, .gr 3 1 (stepC (o, (pv, (pe, (pk, ps)))) t (v, (e, (k, sh)))).1.length)]).holds = P_chg1 t pv pe pk ps v e k sh o n := by kernel_rfl
theorem w_chg1 (t pv pe pk : Int) (ps : List Int) (v e k : Int) (sh o : List Int) (n : Nat) (h_0 : n = o.length) (h_1 : (n + 1) * 8 ≤ 140737488355328) : (vcGe L T_chg1 Tryd.f27 [0, 1, 2, 3, 11, 15, 19] (fun _ _ => none) [.one (.d (.lit (.int .i64 t))), .one (.ptr 2000 0), .one (.ptr 2001 0), .one (.ptr 2003 0)] [(2000, .cells [.d (.lit (.int .i64 pv)), .d (.lit (.int .i64 pe)), .d (.lit (.int .i64 pk)), .d (.sl (.ti .i64) ps)]), (2001, .cells [.ptr 2002 0]), (2002, .cells [.d (.lit (.int .i64 v)), .d (.lit (.int .i64 e)), .d (.lit (.int .i64 k)), .d (.sl (.ti .i64) sh)]), (2003, .cells [.own 2004 (.sl (.ti .i64) o)]), (2004, .gr 3 1 n)] (.tup []) [(2000, .cells [.d (.lit (.int .i64 v)), .d (.lit (.int .i64 e)), .d (.lit (.int .i64 k)), .d (.sl (.ti .i64) sh)]), (2001, .cells [.ptr 2002 0]), (2002, .cells [.d (.lit (.int .i64 v)), .d (.lit (.int .i64 e)), .d (.lit (.int .i64 k)), .d (.sl (.ti .i64) sh)]), (2003, .cells [.own 2004 (.sl (.ti .i64) (stepC (o, (pv, (pe, (pk, ps)))) t (v, (e, (k, sh)))).1)]), (2004, .gr 3 1 (stepC (o, (pv, (pe, (pk, ps)))) t (v, (e, (k, sh)))).1.length)]).holds ∧ True := by
  rw [v_chg1]
  exact ⟨p_chg1 t pv pe pk ps v e k sh o n h_0 h_1, trivial⟩
theorem ok_chg1 : FnOk Tryd.prog 27 (CE.gen c_chg1).con := fnGe T_chg1 c_chg1 L_ok T_chg1_ok mixed Tryd.func27 (by kernel_rfl) (by kernel_rfl) fun args hp fr cs r up h hcs => by
  unfold c_chg1 at h
  split at h
  · rename_i t last sc out
    split at h
    · rename_i pv pe pk ps h_last
      split at h
      · rename_i s h_sc
        split at h
        · rename_i v e k sh h_s
          split at h
          · rename_i nm o h_out
            split at h
            · rename_i n h_nm
              split at h
              · rename_i hd
                injection h with h; injection h with h1 h2; injection h2 with h2 h3; subst h1 h2 h3
                have e_last_sc : last ≠ sc := distinct_ne hd (i := 0) (j := 1) (by decide) rfl rfl
                have e_last_s : last ≠ s := distinct_ne hd (i := 0) (j := 2) (by decide) rfl rfl
                have e_last_out : last ≠ out := distinct_ne hd (i := 0) (j := 3) (by decide) rfl rfl
                have e_last_nm : last ≠ nm := distinct_ne hd (i := 0) (j := 4) (by decide) rfl rfl
                have e_sc_s : sc ≠ s := distinct_ne hd (i := 1) (j := 2) (by decide) rfl rfl
                have e_sc_out : sc ≠ out := distinct_ne hd (i := 1) (j := 3) (by decide) rfl rfl
                have e_sc_nm : sc ≠ nm := distinct_ne hd (i := 1) (j := 4) (by decide) rfl rfl
                have e_s_out : s ≠ out := distinct_ne hd (i := 2) (j := 3) (by decide) rfl rfl
                have e_s_nm : s ≠ nm := distinct_ne hd (i := 2) (j := 4) (by decide) rfl rfl
                have e_out_nm : out ≠ nm := distinct_ne hd (i := 3) (j := 4) (by decide) rfl rfl
                exact ⟨[0, 1, 2, 3, 11, 15, 19], (fun _ _ => none), (fun _ _ => none), [(2000, last), (2001, sc), (2002, s), (2003, out), (2004, nm)], [], [.one (.d (.lit (.int .i64 t))), .one (.ptr 2000 0), .one (.ptr 2001 0), .one (.ptr 2003 0)], [(2000, .cells [.d (.lit (.int .i64 pv)), .d (.lit (.int .i64 pe)), .d (.lit (.int .i64 pk)), .d (.sl (.ti .i64) ps)]), (2001, .cells [.ptr 2002 0]), (2002, .cells [.d (.lit (.int .i64 v)), .d (.lit (.int .i64 e)), .d (.lit (.int .i64 k)), .d (.sl (.ti .i64) sh)]), (2003, .cells [.own 2004 (.sl (.ti .i64) o)]), (2004, .gr 3 1 n)], (.tup []), [(2000, .cells [.d (.lit (.int .i64 v)), .d (.lit (.int .i64 e)), .d (.lit (.int .i64 k)), .d (.sl (.ti .i64) sh)]), (2001, .cells [.ptr 2002 0]), (2002, .cells [.d (.lit (.int .i64 v)), .d (.lit (.int .i64 e)), .d (.lit (.int .i64 k)), .d (.sl (.ti .i64) sh)]), (2003, .cells [.own 2004 (.sl (.ti .i64) (stepC (o, (pv, (pe, (pk, ps)))) t (v, (e, (k, sh)))).1)]), (2004, .gr 3 1 (stepC (o, (pv, (pe, (pk, ps)))) t (v, (e, (k, sh)))).1.length)],
                  Meets.of [(2000, last), (2001, sc), (2002, s), (2003, out), (2004, nm)] [] _ _ _ _ (by simp) (by simp [e_last_sc, Ne.symm e_last_sc, e_last_s, Ne.symm e_last_s, e_last_out, Ne.symm e_last_out, e_last_nm, Ne.symm e_last_nm, e_sc_s, Ne.symm e_sc_s, e_sc_out, Ne.symm e_sc_out, e_sc_nm, Ne.symm e_sc_nm, e_s_out, Ne.symm e_s_out, e_s_nm, Ne.symm e_s_nm, e_out_nm, Ne.symm e_out_nm]) rfl rfl
                  (by simp only [List.forall_mem_cons]; exact ⟨⟨_, rfl, h_last⟩, ⟨_, rfl, h_sc⟩, ⟨_, rfl, h_s⟩, ⟨_, rfl, h_out⟩, ⟨_, rfl, h_nm⟩, fun _ h => by cases h⟩)
                  (fun q hq => by cases hq)
                  (by simp only [List.cons_append, List.nil_append, List.append_nil, List.forall_mem_cons]; exact ⟨fun o ho => by injection ho with ho; subst ho; exact (by unfold upd; simp [look_cons, Go.Sy.look, e_last_sc, Ne.symm e_last_sc, e_last_s, Ne.symm e_last_s, e_last_out, Ne.symm e_last_out, e_last_nm, Ne.symm e_last_nm, e_sc_s, Ne.symm e_sc_s, e_sc_out, Ne.symm e_sc_out, e_sc_nm, Ne.symm e_sc_nm, e_s_out, Ne.symm e_s_out, e_s_nm, Ne.symm e_s_nm, e_out_nm, Ne.symm e_out_nm] <;> rfl), fun o ho => by injection ho with ho; subst ho; exact (by unfold upd; simp [look_cons, Go.Sy.look, e_last_sc, Ne.symm e_last_sc, e_last_s, Ne.symm e_last_s, e_last_out, Ne.symm e_last_out, e_last_nm, Ne.symm e_last_nm, e_sc_s, Ne.symm e_sc_s, e_sc_out, Ne.symm e_sc_out, e_sc_nm, Ne.symm e_sc_nm, e_s_out, Ne.symm e_s_out, e_s_nm, Ne.symm e_s_nm, e_out_nm, Ne.symm e_out_nm, h_sc] <;> rfl), fun o ho => by injection ho with ho; subst ho; exact (by unfold upd; simp [look_cons, Go.Sy.look, e_last_sc, Ne.symm e_last_sc, e_last_s, Ne.symm e_last_s, e_last_out, Ne.symm e_last_out, e_last_nm, Ne.symm e_last_nm, e_sc_s, Ne.symm e_sc_s, e_sc_out, Ne.symm e_sc_out, e_sc_nm, Ne.symm e_sc_nm, e_s_out, Ne.symm e_s_out, e_s_nm, Ne.symm e_s_nm, e_out_nm, Ne.symm e_out_nm, h_s] <;> rfl), fun o ho => by injection ho with ho; subst ho; exact (by unfold upd; simp [look_cons, Go.Sy.look, e_last_sc, Ne.symm e_last_sc, e_last_s, Ne.symm e_last_s, e_last_out, Ne.symm e_last_out, e_last_nm, Ne.symm e_last_nm, e_sc_s, Ne.symm e_sc_s, e_sc_out, Ne.symm e_sc_out, e_sc_nm, Ne.symm e_sc_nm, e_s_out, Ne.symm e_s_out, e_s_nm, Ne.symm e_s_nm, e_out_nm, Ne.symm e_out_nm] <;> rfl), fun o ho => by injection ho with ho; subst ho; exact (by unfold upd; simp [look_cons, Go.Sy.look, e_last_sc, Ne.symm e_last_sc, e_last_s, Ne.symm e_last_s, e_last_out, Ne.symm e_last_out, e_last_nm, Ne.symm e_last_nm, e_sc_s, Ne.symm e_sc_s, e_sc_out, Ne.symm e_sc_out, e_sc_nm, Ne.symm e_sc_nm, e_s_out, Ne.symm e_s_out, e_s_nm, Ne.symm e_s_nm, e_out_nm, Ne.symm e_out_nm] <;> rfl), fun _ h => by cases h⟩)
                  (by simp) rfl rfl rfl rfl rfl rfl rfl (by apply And.left (b := True); exact w_chg1 t pv pe pk ps v e k sh o n (hcs _ (.head _)) (hcs _ (.tail _ (.head _))))⟩
              · cases h
            · cases h
          · cases h
        · cases h
      · cases h
    · cases h
  · cases h
abbrev T_playA : Tab := [(37, .gen c_deeds), (46, .gen c_stShow), (47, .gen c_stLay), (48, .gen c_stKnow), (25, .pu c_at2)]
theorem T_playA_ok : TOk Tryd.prog T_playA := ⟨ok_deeds, ok_stShow, ok_stLay, ok_stKnow, ok_at2, trivial⟩
theorem v_playA (v e k : Int) (l : List En) : (vcGe L T_playA Tryd.f24 [0, 1, 2, 6, 7, 8, 9, 10, 13, 14, 15, 16, 27, 30, 46, 50] (fun _ _ => some { X := Nat, inv := fun x => x ≤ l.length, m := fun x => l.length - x, s := fun x => [(15, .t (I x))], h := fun x => [(2000, FC (laidG (v, (e, (k, []))) (l.take x)))] }) [.one (.ptr 2000 0), .one (.d (.sl (.tp (.ti .i64) (.tp (.ti .i64) (.tp (.ti .i64) (.tp (.ti .i64) (.tp (.ti .i64) (.ti .u64)))))) l)), .one (.clo 25 [] [])] [(2000, .cells [.d (.lit (.int .i64 v)), .d (.lit (.int .i64 e)), .d (.lit (.int .i64 k)), .d (.sl .tu [])])] (.tup []) [(2000, .cells [.d (.lit (.int .i64 (laidG (v, (e, (k, []))) l).1)), .d (.lit (.int .i64 (laidG (v, (e, (k, []))) l).2.1)), .d (.lit (.int .i64 (laidG (v, (e, (k, []))) l).2.2.1)), .d (.sl (.ti .i64) (laidG (v, (e, (k, []))) l).2.2.2)])] (fun i _ => if i = 4 then some { sg := [], go := { go := fun _ => true }, sp := some (8, 1, [1, 2, 3]) } else if i = 1 then some { sg := [], go := { go := fun _ => true }, sp := some (2000, 3, []), ty := (.ti .i64) } else none)).holds = P_playA v e k l := by kernel_rfl
theorem w_playA (v e k : Int) (l : List En) (h_0 : l.length ≤ 5000) : (vcGe L T_playA Tryd.f24 [0, 1, 2, 6, 7, 8, 9, 10, 13, 14, 15, 16, 27, 30, 46, 50] (fun _ _ => some { X := Nat, inv := fun x => x ≤ l.length, m := fun x => l.length - x, s := fun x => [(15, .t (I x))], h := fun x => [(2000, FC (laidG (v, (e, (k, []))) (l.take x)))] }) [.one (.ptr 2000 0), .one (.d (.sl (.tp (.ti .i64) (.tp (.ti .i64) (.tp (.ti .i64) (.tp (.ti .i64) (.tp (.ti .i64) (.ti .u64)))))) l)), .one (.clo 25 [] [])] [(2000, .cells [.d (.lit (.int .i64 v)), .d (.lit (.int .i64 e)), .d (.lit (.int .i64 k)), .d (.sl .tu [])])] (.tup []) [(2000, .cells [.d (.lit (.int .i64 (laidG (v, (e, (k, []))) l).1)), .d (.lit (.int .i64 (laidG (v, (e, (k, []))) l).2.1)), .d (.lit (.int .i64 (laidG (v, (e, (k, []))) l).2.2.1)), .d (.sl (.ti .i64) (laidG (v, (e, (k, []))) l).2.2.2)])] (fun i _ => if i = 4 then some { sg := [], go := { go := fun _ => true }, sp := some (8, 1, [1, 2, 3]) } else if i = 1 then some { sg := [], go := { go := fun _ => true }, sp := some (2000, 3, []), ty := (.ti .i64) } else none)).holds ∧ True := by
  rw [v_playA]
  exact ⟨p_playA v e k l h_0, trivial⟩
theorem ok_playA : FnOk Tryd.prog 24 (CE.gen c_playA).con := fnGe T_playA c_playA L_ok T_playA_ok mixed Tryd.func24 (by kernel_rfl) (by kernel_rfl) fun args hp fr cs r up h hcs => by
  unfold c_playA at h
  split at h
  · rename_i s l
    split at h
    · rename_i v e k h_s
      split at h
      · rename_i hd
        injection h with h; injection h with h1 h2; injection h2 with h2 h3; subst h1 h2 h3
        exact ⟨[0, 1, 2, 6, 7, 8, 9, 10, 13, 14, 15, 16, 27, 30, 46, 50], (fun _ _ => some { X := Nat, inv := fun x => x ≤ l.length, m := fun x => l.length - x, s := fun x => [(15, .t (I x))], h := fun x => [(2000, FC (laidG (v, (e, (k, []))) (l.take x)))] }), (fun i _ => if i = 4 then some { sg := [], go := { go := fun _ => true }, sp := some (8, 1, [1, 2, 3]) } else if i = 1 then some { sg := [], go := { go := fun _ => true }, sp := some (2000, 3, []), ty := (.ti .i64) } else none), [(2000, s)], [], [.one (.ptr 2000 0), .one (.d (.sl (.tp (.ti .i64) (.tp (.ti .i64) (.tp (.ti .i64) (.tp (.ti .i64) (.tp (.ti .i64) (.ti .u64)))))) l)), .one (.clo 25 [] [])], [(2000, .cells [.d (.lit (.int .i64 v)), .d (.lit (.int .i64 e)), .d (.lit (.int .i64 k)), .d (.sl .tu [])])], (.tup []), [(2000, .cells [.d (.lit (.int .i64 (laidG (v, (e, (k, []))) l).1)), .d (.lit (.int .i64 (laidG (v, (e, (k, []))) l).2.1)), .d (.lit (.int .i64 (laidG (v, (e, (k, []))) l).2.2.1)), .d (.sl (.ti .i64) (laidG (v, (e, (k, []))) l).2.2.2)])],
          Meets.of [(2000, s)] [] _ _ _ _ (by simp) (by simp) rfl rfl
          (by simp only [List.forall_mem_cons]; exact ⟨⟨_, rfl, h_s⟩, fun _ h => by cases h⟩)
          (fun q hq => by cases hq)
          (by simp only [List.cons_append, List.nil_append, List.append_nil, List.forall_mem_cons]; exact ⟨fun o ho => by injection ho with ho; subst ho; exact (by unfold upd; simp [look_cons, Go.Sy.look] <;> rfl), fun _ h => by cases h⟩)
          (by simp) rfl rfl rfl rfl rfl rfl rfl (by apply And.left (b := True); exact w_playA v e k l (hcs _ (.head _)))⟩
      · cases h
    · cases h
  · cases h
abbrev T_playC : Tab := [(37, .gen c_deeds), (46, .gen c_stShow), (47, .gen c_stLay), (48, .gen c_stKnow), (27, .gen c_chg1)]
theorem T_playC_ok : TOk Tryd.prog T_playC := ⟨ok_deeds, ok_stShow, ok_stLay, ok_stKnow, ok_chg1, trivial⟩
theorem v_playC (v e k : Int) (l : List En) (pv pe pk : Int) (o : List Int) (n : Nat) : (vcGe L T_playC Tryd.f24 [0, 1, 2, 6, 7, 8, 9, 10, 13, 14, 15, 16, 27, 30, 46, 50] (fun _ _ => some { X := Nat, inv := fun x => x ≤ l.length, m := fun x => l.length - x, s := fun x => [(15, .t (I x))], h := fun x => [(2002, FC (laidG (v, (e, (k, []))) (l.take x))), (2000, FC (pst l (v, (e, (k, []))) (o, (pv, (pe, (pk, [])))) x).2), (2003, .cells [.own 2004 (.sl (.ti .i64) (pst l (v, (e, (k, []))) (o, (pv, (pe, (pk, [])))) x).1)]), (2004, .gr 3 1 (pst l (v, (e, (k, []))) (o, (pv, (pe, (pk, [])))) x).1.length)] }) [.one (.ptr 2002 0), .one (.d (.sl (.tp (.ti .i64) (.tp (.ti .i64) (.tp (.ti .i64) (.tp (.ti .i64) (.tp (.ti .i64) (.ti .u64)))))) l)), .one (.clo 27 [] [(2000, 0), (2001, 0), (2003, 0)])] [(2000, .cells [.d (.lit (.int .i64 pv)), .d (.lit (.int .i64 pe)), .d (.lit (.int .i64 pk)), .d (.sl .tu [])]), (2001, .cells [.ptr 2002 0]), (2002, .cells [.d (.lit (.int .i64 v)), .d (.lit (.int .i64 e)), .d (.lit (.int .i64 k)), .d (.sl .tu [])]), (2003, .cells [.own 2004 (.sl (.ti .i64) o)]), (2004, .gr 3 1 n)] (.tup []) [(2000, .cells [.d (.lit (.int .i64 (pst l (v, (e, (k, []))) (o, (pv, (pe, (pk, [])))) l.length).2.1)), .d (.lit (.int .i64 (pst l (v, (e, (k, []))) (o, (pv, (pe, (pk, [])))) l.length).2.2.1)), .d (.lit (.int .i64 (pst l (v, (e, (k, []))) (o, (pv, (pe, (pk, [])))) l.length).2.2.2.1)), .d (.sl (.ti .i64) (pst l (v, (e, (k, []))) (o, (pv, (pe, (pk, [])))) l.length).2.2.2.2)]), (2001, .cells [.ptr 2002 0]), (2002, .cells [.d (.lit (.int .i64 (laidG (v, (e, (k, []))) l).1)), .d (.lit (.int .i64 (laidG (v, (e, (k, []))) l).2.1)), .d (.lit (.int .i64 (laidG (v, (e, (k, []))) l).2.2.1)), .d (.sl (.ti .i64) (laidG (v, (e, (k, []))) l).2.2.2)]), (2003, .cells [.own 2004 (.sl (.ti .i64) (pst l (v, (e, (k, []))) (o, (pv, (pe, (pk, [])))) l.length).1)]), (2004, .gr 3 1 (pst l (v, (e, (k, []))) (o, (pv, (pe, (pk, [])))) l.length).1.length)] (fun i _ => if i = 4 then some { sg := [], go := { go := fun _ => true }, sp := some (8, 1, [1, 2, 3]) } else if i = 1 then some { sg := [], go := { go := fun _ => true }, sp := some (2002, 3, []), ty := (.ti .i64) } else if i = 0 then some { sg := [], go := { go := fun _ => true }, sp := some (2000, 3, []), ty := (.ti .i64) } else none)).holds = P_playC v e k l pv pe pk o n := by kernel_rfl
theorem w_playC (v e k : Int) (l : List En) (pv pe pk : Int) (o : List Int) (n : Nat) (h_0 : l.length ≤ 5000) (h_1 : n = o.length) (h_2 : o.length ≤ 5000) : (vcGe L T_playC Tryd.f24 [0, 1, 2, 6, 7, 8, 9, 10, 13, 14, 15, 16, 27, 30, 46, 50] (fun _ _ => some { X := Nat, inv := fun x => x ≤ l.length, m := fun x => l.length - x, s := fun x => [(15, .t (I x))], h := fun x => [(2002, FC (laidG (v, (e, (k, []))) (l.take x))), (2000, FC (pst l (v, (e, (k, []))) (o, (pv, (pe, (pk, [])))) x).2), (2003, .cells [.own 2004 (.sl (.ti .i64) (pst l (v, (e, (k, []))) (o, (pv, (pe, (pk, [])))) x).1)]), (2004, .gr 3 1 (pst l (v, (e, (k, []))) (o, (pv, (pe, (pk, [])))) x).1.length)] }) [.one (.ptr 2002 0), .one (.d (.sl (.tp (.ti .i64) (.tp (.ti .i64) (.tp (.ti .i64) (.tp (.ti .i64) (.tp (.ti .i64) (.ti .u64)))))) l)), .one (.clo 27 [] [(2000, 0), (2001, 0), (2003, 0)])] [(2000, .cells [.d (.lit (.int .i64 pv)), .d (.lit (.int .i64 pe)), .d (.lit (.int .i64 pk)), .d (.sl .tu [])]), (2001, .cells [.ptr 2002 0]), (2002, .cells [.d (.lit (.int .i64 v)), .d (.lit (.int .i64 e)), .d (.lit (.int .i64 k)), .d (.sl .tu [])]), (2003, .cells [.own 2004 (.sl (.ti .i64) o)]), (2004, .gr 3 1 n)] (.tup []) [(2000, .cells [.d (.lit (.int .i64 (pst l (v, (e, (k, []))) (o, (pv, (pe, (pk, [])))) l.length).2.1)), .d (.lit (.int .i64 (pst l (v, (e, (k, []))) (o, (pv, (pe, (pk, [])))) l.length).2.2.1)), .d (.lit (.int .i64 (pst l (v, (e, (k, []))) (o, (pv, (pe, (pk, [])))) l.length).2.2.2.1)), .d (.sl (.ti .i64) (pst l (v, (e, (k, []))) (o, (pv, (pe, (pk, [])))) l.length).2.2.2.2)]), (2001, .cells [.ptr 2002 0]), (2002, .cells [.d (.lit (.int .i64 (laidG (v, (e, (k, []))) l).1)), .d (.lit (.int .i64 (laidG (v, (e, (k, []))) l).2.1)), .d (.lit (.int .i64 (laidG (v, (e, (k, []))) l).2.2.1)), .d (.sl (.ti .i64) (laidG (v, (e, (k, []))) l).2.2.2)]), (2003, .cells [.own 2004 (.sl (.ti .i64) (pst l (v, (e, (k, []))) (o, (pv, (pe, (pk, [])))) l.length).1)]), (2004, .gr 3 1 (pst l (v, (e, (k, []))) (o, (pv, (pe, (pk, [])))) l.length).1.length)] (fun i _ => if i = 4 then some { sg := [], go := { go := fun _ => true }, sp := some (8, 1, [1, 2, 3]) } else if i = 1 then some { sg := [], go := { go := fun _ => true }, sp := some (2002, 3, []), ty := (.ti .i64) } else if i = 0 then some { sg := [], go := { go := fun _ => true }, sp := some (2000, 3, []), ty := (.ti .i64) } else none)).holds ∧ True := by
  rw [v_playC]
  exact ⟨p_playC v e k l pv pe pk o n h_0 h_1 h_2, trivial⟩
theorem ok_playC : FnOk Tryd.prog 24 (CE.gen c_playC).con := fnGe T_playC c_playC L_ok T_playC_ok mixed Tryd.func24 (by kernel_rfl) (by kernel_rfl) fun args hp fr cs r up h hcs => by
  unfold c_playC at h
  split at h
  · rename_i s0 l last sc out
    split at h
    · rename_i pv pe pk h_last
      split at h
      · rename_i s h_sc
        split at h
        · rename_i v e k h_s
          split at h
          · rename_i nm o h_out
            split at h
            · rename_i n h_nm
              split at h
              · rename_i h_s0
                have h_s0 : s = s0 := (Nat.eq_of_beq_eq_true h_s0).symm
                subst h_s0
                split at h
                · rename_i hd
                  injection h with h; injection h with h1 h2; injection h2 with h2 h3; subst h1 h2 h3
                  have e_last_sc : last ≠ sc := distinct_ne hd (i := 0) (j := 1) (by decide) rfl rfl
                  have e_last_s : last ≠ s := distinct_ne hd (i := 0) (j := 2) (by decide) rfl rfl
                  have e_last_out : last ≠ out := distinct_ne hd (i := 0) (j := 3) (by decide) rfl rfl
                  have e_last_nm : last ≠ nm := distinct_ne hd (i := 0) (j := 4) (by decide) rfl rfl
                  have e_sc_s : sc ≠ s := distinct_ne hd (i := 1) (j := 2) (by decide) rfl rfl
                  have e_sc_out : sc ≠ out := distinct_ne hd (i := 1) (j := 3) (by decide) rfl rfl
                  have e_sc_nm : sc ≠ nm := distinct_ne hd (i := 1) (j := 4) (by decide) rfl rfl
                  have e_s_out : s ≠ out := distinct_ne hd (i := 2) (j := 3) (by decide) rfl rfl
                  have e_s_nm : s ≠ nm := distinct_ne hd (i := 2) (j := 4) (by decide) rfl rfl
                  have e_out_nm : out ≠ nm := distinct_ne hd (i := 3) (j := 4) (by decide) rfl rfl
                  exact ⟨[0, 1, 2, 6, 7, 8, 9, 10, 13, 14, 15, 16, 27, 30, 46, 50], (fun _ _ => some { X := Nat, inv := fun x => x ≤ l.length, m := fun x => l.length - x, s := fun x => [(15, .t (I x))], h := fun x => [(2002, FC (laidG (v, (e, (k, []))) (l.take x))), (2000, FC (pst l (v, (e, (k, []))) (o, (pv, (pe, (pk, [])))) x).2), (2003, .cells [.own 2004 (.sl (.ti .i64) (pst l (v, (e, (k, []))) (o, (pv, (pe, (pk, [])))) x).1)]), (2004, .gr 3 1 (pst l (v, (e, (k, []))) (o, (pv, (pe, (pk, [])))) x).1.length)] }), (fun i _ => if i = 4 then some { sg := [], go := { go := fun _ => true }, sp := some (8, 1, [1, 2, 3]) } else if i = 1 then some { sg := [], go := { go := fun _ => true }, sp := some (2002, 3, []), ty := (.ti .i64) } else if i = 0 then some { sg := [], go := { go := fun _ => true }, sp := some (2000, 3, []), ty := (.ti .i64) } else none), [(2000, last), (2001, sc), (2002, s), (2003, out), (2004, nm)], [], [.one (.ptr 2002 0), .one (.d (.sl (.tp (.ti .i64) (.tp (.ti .i64) (.tp (.ti .i64) (.tp (.ti .i64) (.tp (.ti .i64) (.ti .u64)))))) l)), .one (.clo 27 [] [(2000, 0), (2001, 0), (2003, 0)])], [(2000, .cells [.d (.lit (.int .i64 pv)), .d (.lit (.int .i64 pe)), .d (.lit (.int .i64 pk)), .d (.sl .tu [])]), (2001, .cells [.ptr 2002 0]), (2002, .cells [.d (.lit (.int .i64 v)), .d (.lit (.int .i64 e)), .d (.lit (.int .i64 k)), .d (.sl .tu [])]), (2003, .cells [.own 2004 (.sl (.ti .i64) o)]), (2004, .gr 3 1 n)], (.tup []), [(2000, .cells [.d (.lit (.int .i64 (pst l (v, (e, (k, []))) (o, (pv, (pe, (pk, [])))) l.length).2.1)), .d (.lit (.int .i64 (pst l (v, (e, (k, []))) (o, (pv, (pe, (pk, [])))) l.length).2.2.1)), .d (.lit (.int .i64 (pst l (v, (e, (k, []))) (o, (pv, (pe, (pk, [])))) l.length).2.2.2.1)), .d (.sl (.ti .i64) (pst l (v, (e, (k, []))) (o, (pv, (pe, (pk, [])))) l.length).2.2.2.2)]), (2001, .cells [.ptr 2002 0]), (2002, .cells [.d (.lit (.int .i64 (laidG (v, (e, (k, []))) l).1)), .d (.lit (.int .i64 (laidG (v, (e, (k, []))) l).2.1)), .d (.lit (.int .i64 (laidG (v, (e, (k, []))) l).2.2.1)), .d (.sl (.ti .i64) (laidG (v, (e, (k, []))) l).2.2.2)]), (2003, .cells [.own 2004 (.sl (.ti .i64) (pst l (v, (e, (k, []))) (o, (pv, (pe, (pk, [])))) l.length).1)]), (2004, .gr 3 1 (pst l (v, (e, (k, []))) (o, (pv, (pe, (pk, [])))) l.length).1.length)],
                    Meets.of [(2000, last), (2001, sc), (2002, s), (2003, out), (2004, nm)] [] _ _ _ _ (by simp) (by simp [e_last_sc, Ne.symm e_last_sc, e_last_s, Ne.symm e_last_s, e_last_out, Ne.symm e_last_out, e_last_nm, Ne.symm e_last_nm, e_sc_s, Ne.symm e_sc_s, e_sc_out, Ne.symm e_sc_out, e_sc_nm, Ne.symm e_sc_nm, e_s_out, Ne.symm e_s_out, e_s_nm, Ne.symm e_s_nm, e_out_nm, Ne.symm e_out_nm]) rfl rfl
                    (by simp only [List.forall_mem_cons]; exact ⟨⟨_, rfl, h_last⟩, ⟨_, rfl, h_sc⟩, ⟨_, rfl, h_s⟩, ⟨_, rfl, h_out⟩, ⟨_, rfl, h_nm⟩, fun _ h => by cases h⟩)
                    (fun q hq => by cases hq)
                    (by simp only [List.cons_append, List.nil_append, List.append_nil, List.forall_mem_cons]; exact ⟨fun o ho => by injection ho with ho; subst ho; exact (by unfold upd; simp [look_cons, Go.Sy.look, e_last_sc, Ne.symm e_last_sc, e_last_s, Ne.symm e_last_s, e_last_out, Ne.symm e_last_out, e_last_nm, Ne.symm e_last_nm, e_sc_s, Ne.symm e_sc_s, e_sc_out, Ne.symm e_sc_out, e_sc_nm, Ne.symm e_sc_nm, e_s_out, Ne.symm e_s_out, e_s_nm, Ne.symm e_s_nm, e_out_nm, Ne.symm e_out_nm] <;> rfl), fun o ho => by injection ho with ho; subst ho; exact (by unfold upd; simp [look_cons, Go.Sy.look, e_last_sc, Ne.symm e_last_sc, e_last_s, Ne.symm e_last_s, e_last_out, Ne.symm e_last_out, e_last_nm, Ne.symm e_last_nm, e_sc_s, Ne.symm e_sc_s, e_sc_out, Ne.symm e_sc_out, e_sc_nm, Ne.symm e_sc_nm, e_s_out, Ne.symm e_s_out, e_s_nm, Ne.symm e_s_nm, e_out_nm, Ne.symm e_out_nm, h_sc] <;> rfl), fun o ho => by injection ho with ho; subst ho; exact (by unfold upd; simp [look_cons, Go.Sy.look, e_last_sc, Ne.symm e_last_sc, e_last_s, Ne.symm e_last_s, e_last_out, Ne.symm e_last_out, e_last_nm, Ne.symm e_last_nm, e_sc_s, Ne.symm e_sc_s, e_sc_out, Ne.symm e_sc_out, e_sc_nm, Ne.symm e_sc_nm, e_s_out, Ne.symm e_s_out, e_s_nm, Ne.symm e_s_nm, e_out_nm, Ne.symm e_out_nm] <;> rfl), fun o ho => by injection ho with ho; subst ho; exact (by unfold upd; simp [look_cons, Go.Sy.look, e_last_sc, Ne.symm e_last_sc, e_last_s, Ne.symm e_last_s, e_last_out, Ne.symm e_last_out, e_last_nm, Ne.symm e_last_nm, e_sc_s, Ne.symm e_sc_s, e_sc_out, Ne.symm e_sc_out, e_sc_nm, Ne.symm e_sc_nm, e_s_out, Ne.symm e_s_out, e_s_nm, Ne.symm e_s_nm, e_out_nm, Ne.symm e_out_nm] <;> rfl), fun o ho => by injection ho with ho; subst ho; exact (by unfold upd; simp [look_cons, Go.Sy.look, e_last_sc, Ne.symm e_last_sc, e_last_s, Ne.symm e_last_s, e_last_out, Ne.symm e_last_out, e_last_nm, Ne.symm e_last_nm, e_sc_s, Ne.symm e_sc_s, e_sc_out, Ne.symm e_sc_out, e_sc_nm, Ne.symm e_sc_nm, e_s_out, Ne.symm e_s_out, e_s_nm, Ne.symm e_s_nm, e_out_nm, Ne.symm e_out_nm] <;> rfl), fun _ h => by cases h⟩)
                    (by simp) rfl rfl rfl rfl rfl rfl rfl (by apply And.left (b := True); exact w_playC v e k l pv pe pk o n (hcs _ (.head _)) (hcs _ (.tail _ (.head _))) (hcs _ (.tail _ (.tail _ (.head _)))))⟩
                · cases h
              · cases h
            · cases h
          · cases h
        · cases h
      · cases h
    · cases h
  · cases h
theorem ok_play : FnOk Tryd.prog 24 (CE.gen c_play).con := (FnOk.or ok_playA ok_playC)
abbrev T_fAt : Tab := [(21, .pu c_sValid), (22, .gen c_ixN), (23, .gen c_at1), (24, .gen c_play), (25, .pu c_at2)]
theorem T_fAt_ok : TOk Tryd.prog T_fAt := ⟨ok_sValid, ok_ixN, ok_at1, ok_play, ok_at2, trivial⟩
theorem ok_fAt : FnOk Tryd.prog 11 (CE.pu c_fAt).con := fnPuR T_fAt c_fAt L_ok T_fAt_ok mixed Tryd.func11 (by kernel_rfl) (by kernel_rfl) fun args cs r h hcs => by
  unfold c_fAt at h
  split at h
  · rename_i s l h n
    injection h with h; injection h with h1 h2; subst h1 h2
    exact ⟨[0, 1, 2, 3, 4, 5, 6, 7, 18, 25, 36], (fun _ _ => none), (fun _ _ => none), rfl, rfl, rfl, castH (p := P_fAt s l h n) (by kernel_rfl) (p_fAt s l h n (hcs _ (.head _)) (hcs _ (.tail _ (.head _))))⟩
  · cases h
abbrev T_fChanges : Tab := [(21, .pu c_sValid), (24, .gen c_play), (27, .gen c_chg1)]
theorem T_fChanges_ok : TOk Tryd.prog T_fChanges := ⟨ok_sValid, ok_play, ok_chg1, trivial⟩
theorem ok_fChanges : FnOk Tryd.prog 14 (CE.pu c_fChanges).con := fnPuR T_fChanges c_fChanges L_ok T_fChanges_ok mixed Tryd.func14 (by kernel_rfl) (by kernel_rfl) fun args cs r h hcs => by
  unfold c_fChanges at h
  split at h
  · rename_i s l h
    injection h with h; injection h with h1 h2; subst h1 h2
    exact ⟨[0, 1, 2, 3, 4, 5, 6, 9, 16], (fun _ _ => none), (fun _ _ => none), rfl, rfl, rfl, castH (p := P_fChanges s l h) (by kernel_rfl) (p_fChanges s l h (hcs _ (.head _)) (hcs _ (.tail _ (.head _))))⟩
  · cases h
abbrev T_rPut : Tab := []
theorem T_rPut_ok : TOk Tryd.prog T_rPut := trivial
theorem ok_rPut : FnOk Tryd.prog 38 (CE.pu c_rPut).con := fnPuR T_rPut c_rPut L_ok T_rPut_ok mixed Tryd.func38 (by kernel_rfl) (by kernel_rfl) fun args cs r h hcs => by
  unfold c_rPut at h
  split at h
  · rename_i l n
    injection h with h; injection h with h1 h2; subst h1 h2
    exact ⟨[0, 1, 4, 5, 6, 7, 11, 19, 30, 43], (fun _ _ => some { X := Nat, inv := fun k => k ≤ l.length ∧ hasI (l.take k) n = false, m := fun k => l.length - k, s := fun k => [(7, .t (I k)), (6, .t (B (putSt n (l.take k)).2)), (5, .t (.one (.own (rm 5) (.sl (.ti .i64) (putSt n (l.take k)).1))))], h := fun k => [(rm 5, .gr 3 1 (putSt n (l.take k)).1.length)] }), (fun _ _ => none), rfl, rfl, rfl, castH (p := P_rPut l n) (by kernel_rfl) (p_rPut l n (hcs _ (.head _)) (hcs _ (.tail _ (.head _))))⟩
  · cases h
abbrev T_rLaid : Tab := [(38, .pu c_rPut)]
theorem T_rLaid_ok : TOk Tryd.prog T_rLaid := ⟨ok_rPut, trivial⟩
theorem ok_rLaid : FnOk Tryd.prog 26 (CE.pu c_rLaid).con := fnPuR T_rLaid c_rLaid L_ok T_rLaid_ok mixed Tryd.func26 (by kernel_rfl) (by kernel_rfl) fun args cs r h hcs => by
  unfold c_rLaid at h
  split at h
  · rename_i s l h n
    injection h with h; injection h with h1 h2; subst h1 h2
    exact ⟨[0, 1, 2, 4, 5, 6, 7, 12, 23, 25, 26, 30, 33, 34, 35, 42, 43, 47, 48], (fun _ _ => some { X := Nat, inv := fun k => k ≤ l.length, m := fun k => l.length - k, s := fun k => [(6, .t (I k))], h := fun k => [(5, FC (laidAt (l.take k) n))] }), (fun i _ => if i = 2 then some { sg := [], go := { go := fun _ => true }, sp := some (5, 3, []), ty := (.ti .i64) } else none), rfl, rfl, rfl, castH (p := P_rLaid s l h n) (by kernel_rfl) (p_rLaid s l h n (hcs _ (.head _)))⟩
  · cases h
abbrev T_rAt : Tab := [(17, .pu c_rValidL), (26, .pu c_rLaid)]
theorem T_rAt_ok : TOk Tryd.prog T_rAt := ⟨ok_rValidL, ok_rLaid, trivial⟩
theorem ok_rAt : FnOk Tryd.prog 12 (CE.pu c_rAt).con := fnPuR T_rAt c_rAt L_ok T_rAt_ok mixed Tryd.func12 (by kernel_rfl) (by kernel_rfl) fun args cs r h hcs => by
  unfold c_rAt at h
  split at h
  · rename_i s l h n
    injection h with h; injection h with h1 h2; subst h1 h2
    exact ⟨[0, 1, 2, 4, 5, 6, 18], (fun _ _ => none), (fun _ _ => none), rfl, rfl, rfl, castH (p := P_rAt s l h n) (by kernel_rfl) (p_rAt s l h n (hcs _ (.head _)) (hcs _ (.tail _ (.head _))))⟩
  · cases h
abbrev T_rSameI : Tab := []
theorem T_rSameI_ok : TOk Tryd.prog T_rSameI := trivial
theorem ok_rSameI : FnOk Tryd.prog 16 (CE.pu c_rSameI).con := fnPuR T_rSameI c_rSameI L_ok T_rSameI_ok mixed Tryd.func16 (by kernel_rfl) (by kernel_rfl) fun args cs r h hcs => by
  unfold c_rSameI at h
  split at h
  · rename_i l m
    injection h with h; injection h with h1 h2; subst h1 h2
    exact ⟨[0, 1, 4, 5, 10, 14, 25], (fun _ _ => some { X := Nat, inv := fun x => x ≤ l.length ∧ l.take x = m.take x, m := fun x => l.length - x, s := fun x => [(5, .t (I x))] }), (fun _ _ => none), rfl, rfl, rfl, castH (p := P_rSameI l m) (by kernel_rfl) (p_rSameI l m)⟩
  · cases h
abbrev T_rSameF : Tab := [(16, .pu c_rSameI)]
theorem T_rSameF_ok : TOk Tryd.prog T_rSameF := ⟨ok_rSameI, trivial⟩
theorem ok_rSameF : FnOk Tryd.prog 13 (CE.pu c_rSameF).con := fnPuR T_rSameF c_rSameF L_ok T_rSameF_ok mixed Tryd.func13 (by kernel_rfl) (by kernel_rfl) fun args cs r h hcs => by
  unfold c_rSameF at h
  split at h
  · rename_i v e k sh v' e' k' sh'
    injection h with h; injection h with h1 h2; subst h1 h2
    exact ⟨[0, 1, 2, 3, 4, 5], (fun _ _ => none), (fun _ _ => none), rfl, rfl, rfl, castH (p := P_rSameF v e k sh v' e' k' sh') (by kernel_rfl) (p_rSameF v e k sh v' e' k' sh')⟩
  · cases h
abbrev T_rChanges : Tab := [(13, .pu c_rSameF), (17, .pu c_rValidL), (26, .pu c_rLaid)]
theorem T_rChanges_ok : TOk Tryd.prog T_rChanges := ⟨ok_rSameF, ok_rValidL, ok_rLaid, trivial⟩
theorem ok_rChanges : FnOk Tryd.prog 15 (CE.pu c_rChanges).con := fnPuR T_rChanges c_rChanges L_ok T_rChanges_ok mixed Tryd.func15 (by kernel_rfl) (by kernel_rfl) fun args cs r h hcs => by
  unfold c_rChanges at h
  split at h
  · rename_i s l h
    injection h with h; injection h with h1 h2; subst h1 h2
    exact ⟨[0, 1, 2, 3, 4, 5, 6, 7, 8, 9, 13, 18, 33, 43], (fun _ _ => some { X := Nat, inv := fun k => k ≤ l.length, m := fun k => l.length - k, s := fun k => [(7, .t (I k)), (5, .t (.one (.own (rm 5) (.sl (.ti .i64) (rst l k).1))))], h := fun k => [(rm 5, .gr 3 1 (rst l k).1.length), (6, FC (rst l k).2)] }), (fun i _ => if i = 6 then some { sg := [], go := { go := fun _ => true }, sp := some (6, 3, []), ty := (.ti .i64) } else none), rfl, rfl, rfl, castH (p := P_rChanges s l h) (by kernel_rfl) (p_rChanges s l h (hcs _ (.head _)) (hcs _ (.tail _ (.head _))))⟩
  · cases h
end Go.Proofs.YtfbbkknfcmofcaaDoor
