/- The functions meet their contracts. Written by a program (wip/tools/gen.py). -/
import Derived.Test.YthnboahemgmfnaaMeterq
namespace Go.Proofs.Ythnboahemgmfnaa
open Go.Sy Go.RatLaw
set_option linter.unusedVariables false

abbrev T_none : Tab := []
theorem T_none_ok : TOk Try.prog T_none := trivial
theorem ok_none : FnOk Try.prog 41 (CE.pu c_none).con := fnPuR T_none c_none L_ok T_none_ok mixed Try.func41 (by kernel_rfl) (by kernel_rfl) fun args cs r h hcs => by
  unfold c_none at h
  split at h
  · skip
    injection h with h; injection h with h1 h2; subst h1 h2
    exact ⟨[0, 1], (fun _ _ => none), (fun _ _ => none), rfl, rfl, rfl, castH (p := P_none ) (by kernel_rfl) (p_none )⟩
  · cases h
abbrev T_isDuration : Tab := [(37, .pu cVld)]
theorem T_isDuration_ok : TOk Try.prog T_isDuration := ⟨ok37, trivial⟩
theorem ok_isDuration : FnOk Try.prog 30 (CE.pu c_isDuration).con := fnPuR T_isDuration c_isDuration L_ok T_isDuration_ok mixed Try.func30 (by kernel_rfl) (by kernel_rfl) fun args cs r h hcs => by
  unfold c_isDuration at h
  split at h
  · rename_i n d
    injection h with h; injection h with h1 h2; subst h1 h2
    exact ⟨[0, 1, 2], (fun _ _ => none), (fun _ _ => none), rfl, rfl, rfl, castH (p := P_isDuration n d) (by kernel_rfl) (p_isDuration n d)⟩
  · cases h
abbrev T_less : Tab := [(23, .pu cCmp)]
theorem T_less_ok : TOk Try.prog T_less := ⟨ok23, trivial⟩
theorem ok_less : FnOk Try.prog 31 (CE.pu c_less).con := fnPuR T_less c_less L_ok T_less_ok mixed Try.func31 (by kernel_rfl) (by kernel_rfl) fun args cs r h hcs => by
  unfold c_less at h
  split at h
  · rename_i a b c d
    injection h with h; injection h with h1 h2; subst h1 h2
    exact ⟨[0, 1, 2, 3, 4, 5, 6], (fun _ _ => none), (fun _ _ => none), rfl, rfl, rfl, castH (p := P_less a b c d) (by kernel_rfl) (p_less a b c d)⟩
  · cases h
abbrev T_mValid : Tab := [(30, .pu c_isDuration), (31, .pu c_less)]
theorem T_mValid_ok : TOk Try.prog T_mValid := ⟨ok_isDuration, ok_less, trivial⟩
theorem ok_mValid : FnOk Try.prog 13 (CE.pu c_mValid).con := fnPuR T_mValid c_mValid L_ok T_mValid_ok mixed Try.func13 (by kernel_rfl) (by kernel_rfl) fun args cs r h hcs => by
  unfold c_mValid at h
  split at h
  · rename_i l
    injection h with h; injection h with h1 h2; subst h1 h2
    exact ⟨[0, 2, 3, 5, 7, 8, 9, 10, 36, 52, 55], (fun _ _ => some { X := Nat, inv := fun x => preB l x, m := fun x => l.length - x, s := fun x => [(9, .t (I x))], h := fun x => [(md 6, .mp (.ti .i64) .tb (seenB (l.take x)))] }), (fun _ _ => none), rfl, rfl, rfl, castH (p := P_mValid l) (by kernel_rfl) (p_mValid l)⟩
  · cases h
abbrev T_begins1 : Tab := [(25, .pu (cBin addR)), (41, .pu c_none)]
theorem T_begins1_ok : TOk Try.prog T_begins1 := ⟨ok25, ok_none, trivial⟩
theorem v_begins1 (l : List Bar) (go : Lp (Int × (Int × Int) × Unit)) : (vcGe L T_begins1 Try.f47 [0, 1, 3, 4, 5, 7, 8, 9, 10, 18, 25, 31] (fun _ _ => some { X := Nat, inv := fun x => x ≤ l.length ∧ ∀ k, 0 < k → k ≤ x → go ((items 0 (0, 1) l).take k) = true, m := fun x => l.length - x, s := fun x => [(9, .t (I x))], h := fun x => [(2000, .ob sgB ((items 0 (0, 1) l).take x) go), (3, .cells [li .i64 (itB l x).1, li .i64 (itB l x).2])] }) [.one (.yl 2000), .one (.ptr 2001 0)] [(2000, .ob sgB [] go), (2001, .cells [.d (.sl BT l)])] (.tup []) [(2000, .ob sgB (fed go [] (items 0 (0, 1) l)) go), (2001, .cells [.d (.sl BT l)])]).holds = P_begins1 l go := by kernel_rfl
theorem ok_begins1 : FnOk Try.prog 47 (CE.gen c_begins1).con := fnGe T_begins1 c_begins1 L_ok T_begins1_ok mixed Try.func47 (by kernel_rfl) (by kernel_rfl) fun args hp fr cs r up h hcs => by
  unfold c_begins1 at h
  split at h
  · rename_i m p
    split at h
    · rename_i go l hm hpp
      injection h with h; injection h with h1 h2; injection h2 with h2 h3; subst h1 h2 h3
      have hmp : m ≠ p := fun e => by subst e; rw [hm] at hpp; cases hpp
      exact ⟨[0, 1, 3, 4, 5, 7, 8, 9, 10, 18, 25, 31], (fun _ _ => some { X := Nat, inv := fun x => x ≤ l.length ∧ ∀ k, 0 < k → k ≤ x → go ((items 0 (0, 1) l).take k) = true, m := fun x => l.length - x, s := fun x => [(9, .t (I x))], h := fun x => [(2000, .ob sgB ((items 0 (0, 1) l).take x) go), (3, .cells [li .i64 (itB l x).1, li .i64 (itB l x).2])] }), (fun _ _ => none), [(2000, m), (2001, p)], [], [.one (.yl 2000), .one (.ptr 2001 0)], [(2000, .ob sgB [] go), (2001, .cells [.d (.sl BT l)])], .tup [], [(2000, .ob sgB (fed go [] (items 0 (0, 1) l)) go), (2001, .cells [.d (.sl BT l)])],
        Meets.of [(2000, m), (2001, p)] [] _ _ _ _ (by simp) (by simpa using hmp) rfl rfl
        (by simp only [List.forall_mem_cons]; exact ⟨⟨_, rfl, hm⟩, ⟨_, rfl, hpp⟩, fun _ h => by cases h⟩) (fun q hq => by cases hq)
        (by simp only [List.append_nil, List.forall_mem_cons]; refine ⟨fun o ho => ?_, fun o ho => ?_, fun _ h => by cases h⟩ <;> injection ho with ho <;> subst ho
            · exact upd1 _ _ _
            · rw [upd1_ne _ _ _ (Ne.symm hmp)]; exact hpp)
        (by simp) rfl rfl rfl rfl rfl rfl rfl (castH (v_begins1 l go) (p_begins1 l go (hcs _ (.head _))))⟩
    · cases h
  · cases h
abbrev T_begins : Tab := [(47, .gen c_begins1)]
theorem T_begins_ok : TOk Try.prog T_begins := ⟨ok_begins1, trivial⟩
theorem v_begins (l : List Bar) : (vcGe L T_begins Try.f40 [0, 1, 2] (fun _ _ => none) [BL l] [] (.t (.one (.clo 47 [] [(1, 0)]))) [(1, .cells [.d (.sl BT l)])]).holds = P_begins l := by kernel_rfl
theorem ok_begins : FnOk Try.prog 40 (CE.gen c_begins).con := fnGe T_begins c_begins L_ok T_begins_ok mixed Try.func40 (by kernel_rfl) (by kernel_rfl) fun args hp fr cs r up h hcs => by
  unfold c_begins at h
  split at h
  · rename_i l
    split at h
    · rename_i hn
      injection h with h; injection h with h1 h2; injection h2 with h2 h3; subst h1 h2 h3
      exact ⟨[0, 1, 2], (fun _ _ => none), (fun _ _ => none), [], [(1, fr)], [BL l], [], _, [(1, .cells [.d (.sl BT l)])], Meets.of [] [(1, fr)] [BL l] [] (.t (.one (.clo 47 [] [(1, 0)]))) _ (by simp) (by simp) rfl rfl
        (fun q hq => by cases hq) (fun q hq => by cases List.mem_singleton.1 hq; exact hn)
        (fun q hq o ho => by cases List.mem_singleton.1 hq; injection ho with ho; subst ho; exact upd1 _ _ _) (fun q hq => by cases List.mem_singleton.1 hq; simp) rfl rfl rfl rfl rfl rfl rfl (castH (v_begins l) (p_begins l))⟩
    · cases h
  · cases h
abbrev T_beginning : Tab := [(40, .gen c_begins), (41, .pu c_none), (47, .gen c_begins1)]
theorem T_beginning_ok : TOk Try.prog T_beginning := ⟨ok_begins, ok_none, ok_begins1, trivial⟩
theorem ok_beginning : FnOk Try.prog 27 (CE.pu c_beginning).con := fnPuR T_beginning c_beginning L_ok T_beginning_ok mixed Try.func27 (by kernel_rfl) (by kernel_rfl) fun args cs r h hcs => by
  unfold c_beginning at h
  split at h
  · rename_i l b
    injection h with h; injection h with h1 h2; subst h1 h2
    exact ⟨[0, 1, 3, 4, 5, 6, 8, 9, 10, 13, 14, 15], (fun _ _ => none), (fun _ _ => some { sg := sgB, go := goB b, h := fun hist => [(4, .cells [li .i64 (resAt b hist).1, li .i64 (resAt b hist).2])], js := [(.rt, fun _ => True)] }), rfl, rfl, rfl, castH (p := P_beginning l b) (by kernel_rfl) (p_beginning l b)⟩
  · cases h
abbrev T_isPosition : Tab := [(30, .pu c_isDuration), (31, .pu c_less), (41, .pu c_none)]
theorem T_isPosition_ok : TOk Try.prog T_isPosition := ⟨ok_isDuration, ok_less, ok_none, trivial⟩
theorem ok_isPosition : FnOk Try.prog 33 (CE.pu c_isPosition).con := fnPuR T_isPosition c_isPosition L_ok T_isPosition_ok mixed Try.func33 (by kernel_rfl) (by kernel_rfl) fun args cs r h hcs => by
  unfold c_isPosition at h
  split at h
  · rename_i l b n d
    injection h with h; injection h with h1 h2; subst h1 h2
    exact ⟨[0, 1, 3, 4, 5, 12], (fun _ _ => none), (fun _ _ => none), rfl, rfl, rfl, castH (p := P_isPosition l b n d) (by kernel_rfl) (p_isPosition l b n d (hcs _ (.head _)))⟩
  · cases h
abbrev T_mTotal : Tab := [(13, .pu c_mValid), (27, .pu c_beginning)]
theorem T_mTotal_ok : TOk Try.prog T_mTotal := ⟨ok_mValid, ok_beginning, trivial⟩
theorem ok_mTotal : FnOk Try.prog 11 (CE.pu c_mTotal).con := fnPuR T_mTotal c_mTotal L_ok T_mTotal_ok mixed Try.func11 (by kernel_rfl) (by kernel_rfl) fun args cs r h hcs => by
  unfold c_mTotal at h
  split at h
  · rename_i l
    injection h with h; injection h with h1 h2; subst h1 h2
    exact ⟨[0, 2, 3, 6], (fun _ _ => none), (fun _ _ => none), rfl, rfl, rfl, castH (p := P_mTotal l) (by kernel_rfl) (p_mTotal l)⟩
  · cases h
abbrev T_mTime : Tab := [(13, .pu c_mValid), (25, .pu (cBin addR)), (27, .pu c_beginning), (33, .pu c_isPosition)]
theorem T_mTime_ok : TOk Try.prog T_mTime := ⟨ok_mValid, ok25, ok_beginning, ok_isPosition, trivial⟩
theorem ok_mTime : FnOk Try.prog 15 (CE.pu c_mTime).con := fnPuR T_mTime c_mTime L_ok T_mTime_ok mixed Try.func15 (by kernel_rfl) (by kernel_rfl) fun args cs r h hcs => by
  unfold c_mTime at h
  split at h
  · rename_i l b n d
    injection h with h; injection h with h1 h2; subst h1 h2
    exact ⟨[0, 1, 3, 4, 5, 14], (fun _ _ => none), (fun _ _ => none), rfl, rfl, rfl, castH (p := P_mTime l b n d) (by kernel_rfl) (p_mTime l b n d)⟩
  · cases h
abbrev T_behind : Tab := [(25, .pu (cBin addR)), (31, .pu c_less)]
theorem T_behind_ok : TOk Try.prog T_behind := ⟨ok25, ok_less, trivial⟩
theorem v_behind (a b c d n k : Int) : (vcGe L T_behind Try.f43 [0, 1, 2, 3, 4, 5, 6, 7] (fun _ _ => none) [Q a b, Q c d, .one (.ptr 2000 0)] [(2000, .cells [li .i64 n, li .i64 k])] (.t (B (behS n k a b c d))) [(2000, .cells [li .i64 n, li .i64 k])]).holds = P_behind a b c d n k := by kernel_rfl
theorem ok_behind : FnOk Try.prog 43 (CE.gen c_behind).con := fnGe T_behind c_behind L_ok T_behind_ok mixed Try.func43 (by kernel_rfl) (by kernel_rfl) fun args hp fr cs r up h hcs => by
  unfold c_behind at h
  split at h
  · rename_i a b c d p
    split at h
    · rename_i n k hpp
      injection h with h; injection h with h1 h2; injection h2 with h2 h3; subst h1 h2 h3
      exact ⟨[0, 1, 2, 3, 4, 5, 6, 7], (fun _ _ => none), (fun _ _ => none), [(2000, p)], [], [Q a b, Q c d, .one (.ptr 2000 0)], [(2000, .cells [li .i64 n, li .i64 k])], _, _,
        Meets.reads1 p [Q a b, Q c d, .one (.ptr 2000 0)] (.cells [li .i64 n, li .i64 k]) (.t (B (behS n k a b c d))) hpp rfl rfl rfl rfl rfl rfl (castH (v_behind a b c d n k) (p_behind a b c d n k))⟩
    · cases h
  · cases h
abbrev T_mat : Tab := [(31, .pu c_less), (40, .gen c_begins), (41, .pu c_none), (43, .gen c_behind), (44, .pu (cBin subR)), (47, .gen c_begins1)]
theorem T_mat_ok : TOk Try.prog T_mat := ⟨ok_less, ok_begins, ok_none, ok_behind, ok44, ok_begins1, trivial⟩
theorem ok_mat : FnOk Try.prog 34 (CE.pu c_mat).con := fnPuR T_mat c_mat L_ok T_mat_ok mixed Try.func34 (by kernel_rfl) (by kernel_rfl) fun args cs r h hcs => by
  unfold c_mat at h
  split at h
  · rename_i l n d
    injection h with h; injection h with h1 h2; subst h1 h2
    exact ⟨[0, 1, 2, 3, 4, 5, 6, 7, 8, 9, 10, 13, 14, 15, 16, 20, 21, 50, 52, 53, 56, 57], (fun _ _ => none), (fun _ _ => some { sg := sgB, go := goL l n d, h := fun hist => [(4, .cells [li .i64 (outAt l n d hist).1, li .i64 (outAt l n d hist).2.1, li .i64 (outAt l n d hist).2.2.1]), (5, .cells [li .i64 (outAt l n d hist).2.2.2])], js := [(.rt, fun _ => True)] }), rfl, rfl, rfl, castH (p := P_mat l n d) (by kernel_rfl) (p_mat l n d (hcs _ (.head _)) (hcs _ (.tail _ (.head _))))⟩
  · cases h
abbrev T_mWhere : Tab := [(13, .pu c_mValid), (30, .pu c_isDuration), (34, .pu c_mat)]
theorem T_mWhere_ok : TOk Try.prog T_mWhere := ⟨ok_mValid, ok_isDuration, ok_mat, trivial⟩
theorem ok_mWhere : FnOk Try.prog 17 (CE.pu c_mWhere).con := fnPuR T_mWhere c_mWhere L_ok T_mWhere_ok mixed Try.func17 (by kernel_rfl) (by kernel_rfl) fun args cs r h hcs => by
  unfold c_mWhere at h
  split at h
  · rename_i l n d
    injection h with h; injection h with h1 h2; subst h1 h2
    exact ⟨[0, 1, 3, 4, 5, 13], (fun _ _ => none), (fun _ _ => none), rfl, rfl, rfl, castH (p := P_mWhere l n d) (by kernel_rfl) (p_mWhere l n d)⟩
  · cases h
abbrev T_mShift : Tab := [(15, .pu c_mTime), (25, .pu (cBin addR)), (30, .pu c_isDuration), (34, .pu c_mat)]
theorem T_mShift_ok : TOk Try.prog T_mShift := ⟨ok_mTime, ok25, ok_isDuration, ok_mat, trivial⟩
theorem ok_mShift : FnOk Try.prog 19 (CE.pu c_mShift).con := fnPuR T_mShift c_mShift L_ok T_mShift_ok mixed Try.func19 (by kernel_rfl) (by kernel_rfl) fun args cs r h hcs => by
  unfold c_mShift at h
  split at h
  · rename_i l b n d x y
    injection h with h; injection h with h1 h2; subst h1 h2
    exact ⟨[0, 1, 2, 4, 5, 6, 7, 8, 9, 32, 46], (fun _ _ => none), (fun _ _ => none), rfl, rfl, rfl, castH (p := P_mShift l b n d x y) (by kernel_rfl) (p_mShift l b n d x y (hcs _ (.head _)))⟩
  · cases h
abbrev T_Ticks : Tab := [(42, .pu cGcd)]
theorem T_Ticks_ok : TOk Try.prog T_Ticks := ⟨ok42, trivial⟩
theorem ok_Ticks : FnOk Try.prog 32 (CE.pu c_Ticks).con := fnPuR T_Ticks c_Ticks L_ok T_Ticks_ok mixed Try.func32 (by kernel_rfl) (by kernel_rfl) fun args cs r h hcs => by
  unfold c_Ticks at h
  split at h
  · rename_i n d
    injection h with h; injection h with h1 h2; subst h1 h2
    exact ⟨[0, 1, 2, 29], (fun _ _ => none), (fun _ _ => none), rfl, rfl, rfl, castH (p := P_Ticks n d) (by kernel_rfl) (p_Ticks n d)⟩
  · cases h
abbrev T_Of : Tab := [(42, .pu cGcd)]
theorem T_Of_ok : TOk Try.prog T_Of := ⟨ok42, trivial⟩
theorem ok_Of : FnOk Try.prog 28 (CE.pu c_Of).con := fnPuR T_Of c_Of L_ok T_Of_ok mixed Try.func28 (by kernel_rfl) (by kernel_rfl) fun args cs r h hcs => by
  unfold c_Of at h
  split at h
  · rename_i n
    injection h with h; injection h with h1 h2; subst h1 h2
    exact ⟨[0, 2, 3, 11], (fun _ _ => none), (fun _ _ => none), rfl, rfl, rfl, castH (p := P_Of n) (by kernel_rfl) (p_Of n (hcs _ (.head _)) (hcs _ (.tail _ (.head _))))⟩
  · cases h
abbrev T_Duration : Tab := [(32, .pu c_Ticks)]
theorem T_Duration_ok : TOk Try.prog T_Duration := ⟨ok_Ticks, trivial⟩
theorem ok_Duration : FnOk Try.prog 35 (CE.pu c_Duration).con := fnPuR T_Duration c_Duration L_ok T_Duration_ok mixed Try.func35 (by kernel_rfl) (by kernel_rfl) fun args cs r h hcs => by
  unfold c_Duration at h
  split at h
  · rename_i n d
    injection h with h; injection h with h1 h2; subst h1 h2
    exact ⟨[0, 1, 2], (fun _ _ => none), (fun _ _ => none), rfl, rfl, rfl, castH (p := P_Duration n d) (by kernel_rfl) (p_Duration n d)⟩
  · cases h
abbrev T_rValid : Tab := [(32, .pu c_Ticks)]
theorem T_rValid_ok : TOk Try.prog T_rValid := ⟨ok_Ticks, trivial⟩
theorem ok_rValid : FnOk Try.prog 14 (CE.pu c_rValid).con := fnPuR T_rValid c_rValid L_ok T_rValid_ok mixed Try.func14 (by kernel_rfl) (by kernel_rfl) fun args cs r h hcs => by
  unfold c_rValid at h
  split at h
  · rename_i l
    injection h with h; injection h with h1 h2; subst h1 h2
    exact ⟨[0, 2, 3, 4, 5, 13, 17, 63, 66, 79], (fun i σ => if i = 4 then some { X := Nat, inv := fun x => preB l x, m := fun x => l.length - x, s := fun x => [(3, .t (I x))] } else some { X := Nat, inv := fun y => noneB l (dI (slD σ 3)) y, m := fun y => (dI (slD σ 3)).toNat - y, s := fun y => [(5, .t (I y))] }), (fun _ _ => none), rfl, rfl, rfl, castH (p := P_rValid l) (by kernel_rfl) (p_rValid l)⟩
  · cases h
abbrev T_Before : Tab := [(32, .pu c_Ticks)]
theorem T_Before_ok : TOk Try.prog T_Before := ⟨ok_Ticks, trivial⟩
theorem ok_Before : FnOk Try.prog 29 (CE.pu c_Before).con := fnPuR T_Before c_Before L_ok T_Before_ok mixed Try.func29 (by kernel_rfl) (by kernel_rfl) fun args cs r h hcs => by
  unfold c_Before at h
  split at h
  · rename_i l b
    injection h with h; injection h with h1 h2; subst h1 h2
    exact ⟨[0, 1, 4, 5, 6, 9], (fun _ _ => some { X := Nat, inv := fun x => x ≤ b.toNat, m := fun x => b.toNat - x, s := fun x => [(6, .t (I x)), (5, .t (I (bef (l.take x))))] }), (fun _ _ => none), rfl, rfl, rfl, castH (p := P_Before l b) (by kernel_rfl) (p_Before l b (hcs _ (.head _)) (hcs _ (.tail _ (.head _))) (hcs _ (.tail _ (.tail _ (.head _)))))⟩
  · cases h
abbrev T_rTotal : Tab := [(14, .pu c_rValid), (28, .pu c_Of), (29, .pu c_Before)]
theorem T_rTotal_ok : TOk Try.prog T_rTotal := ⟨ok_rValid, ok_Of, ok_Before, trivial⟩
theorem ok_rTotal : FnOk Try.prog 12 (CE.pu c_rTotal).con := fnPuR T_rTotal c_rTotal L_ok T_rTotal_ok mixed Try.func12 (by kernel_rfl) (by kernel_rfl) fun args cs r h hcs => by
  unfold c_rTotal at h
  split at h
  · rename_i l
    injection h with h; injection h with h1 h2; subst h1 h2
    exact ⟨[0, 2, 3, 6], (fun _ _ => none), (fun _ _ => none), rfl, rfl, rfl, castH (p := P_rTotal l) (by kernel_rfl) (p_rTotal l)⟩
  · cases h
abbrev T_Position : Tab := [(32, .pu c_Ticks)]
theorem T_Position_ok : TOk Try.prog T_Position := ⟨ok_Ticks, trivial⟩
theorem ok_Position : FnOk Try.prog 22 (CE.pu c_Position).con := fnPuR T_Position c_Position L_ok T_Position_ok mixed Try.func22 (by kernel_rfl) (by kernel_rfl) fun args cs r h hcs => by
  unfold c_Position at h
  split at h
  · rename_i l b n d
    injection h with h; injection h with h1 h2; subst h1 h2
    exact ⟨[0, 1, 3, 4, 5, 22, 27], (fun _ _ => none), (fun _ _ => none), rfl, rfl, rfl, castH (p := P_Position l b n d) (by kernel_rfl) (p_Position l b n d)⟩
  · cases h
abbrev T_rTime : Tab := [(14, .pu c_rValid), (22, .pu c_Position), (28, .pu c_Of), (29, .pu c_Before), (32, .pu c_Ticks)]
theorem T_rTime_ok : TOk Try.prog T_rTime := ⟨ok_rValid, ok_Position, ok_Of, ok_Before, ok_Ticks, trivial⟩
theorem ok_rTime : FnOk Try.prog 16 (CE.pu c_rTime).con := fnPuR T_rTime c_rTime L_ok T_rTime_ok mixed Try.func16 (by kernel_rfl) (by kernel_rfl) fun args cs r h hcs => by
  unfold c_rTime at h
  split at h
  · rename_i l b n d
    injection h with h; injection h with h1 h2; subst h1 h2
    exact ⟨[0, 1, 3, 4, 5, 14], (fun _ _ => none), (fun _ _ => none), rfl, rfl, rfl, castH (p := P_rTime l b n d) (by kernel_rfl) (p_rTime l b n d)⟩
  · cases h
abbrev T_rat6 : Tab := [(28, .pu c_Of), (32, .pu c_Ticks)]
theorem T_rat6_ok : TOk Try.prog T_rat6 := ⟨ok_Of, ok_Ticks, trivial⟩
theorem ok_rat6 : FnOk Try.prog 36 (CE.pu c_rat6).con := fnPuR T_rat6 c_rat6 L_ok T_rat6_ok mixed Try.func36 (by kernel_rfl) (by kernel_rfl) fun args cs r h hcs => by
  unfold c_rat6 at h
  split at h
  · rename_i l n
    injection h with h; injection h with h1 h2; subst h1 h2
    exact ⟨[0, 1, 4, 5, 6, 7, 11, 26, 35], (fun _ _ => some { X := Nat, inv := fun x => atR l n x, m := fun x => l.length - x, s := fun x => [(6, .t (I x)), (1, .t (I (n - bef (l.take x))))] }), (fun _ _ => none), rfl, rfl, rfl, castH (p := P_rat6 l n) (by kernel_rfl) (p_rat6 l n (hcs _ (.head _)) (hcs _ (.tail _ (.head _))) (hcs _ (.tail _ (.tail _ (.head _)))))⟩
  · cases h
abbrev T_rWhere : Tab := [(14, .pu c_rValid), (32, .pu c_Ticks), (35, .pu c_Duration), (36, .pu c_rat6)]
theorem T_rWhere_ok : TOk Try.prog T_rWhere := ⟨ok_rValid, ok_Ticks, ok_Duration, ok_rat6, trivial⟩
theorem ok_rWhere : FnOk Try.prog 18 (CE.pu c_rWhere).con := fnPuR T_rWhere c_rWhere L_ok T_rWhere_ok mixed Try.func18 (by kernel_rfl) (by kernel_rfl) fun args cs r h hcs => by
  unfold c_rWhere at h
  split at h
  · rename_i l n d
    injection h with h; injection h with h1 h2; subst h1 h2
    exact ⟨[0, 1, 3, 4, 5, 6, 7, 15, 25], (fun _ _ => none), (fun _ _ => none), rfl, rfl, rfl, castH (p := P_rWhere l n d) (by kernel_rfl) (p_rWhere l n d)⟩
  · cases h
abbrev T_rShift : Tab := [(14, .pu c_rValid), (22, .pu c_Position), (29, .pu c_Before), (32, .pu c_Ticks), (35, .pu c_Duration), (36, .pu c_rat6)]
theorem T_rShift_ok : TOk Try.prog T_rShift := ⟨ok_rValid, ok_Position, ok_Before, ok_Ticks, ok_Duration, ok_rat6, trivial⟩
theorem ok_rShift : FnOk Try.prog 20 (CE.pu c_rShift).con := fnPuR T_rShift c_rShift L_ok T_rShift_ok mixed Try.func20 (by kernel_rfl) (by kernel_rfl) fun args cs r h hcs => by
  unfold c_rShift at h
  split at h
  · rename_i l b n d x y
    injection h with h; injection h with h1 h2; subst h1 h2
    exact ⟨[0, 1, 2, 4, 5, 6, 7, 8, 9, 10, 11, 36, 47, 67], (fun _ _ => none), (fun _ _ => none), rfl, rfl, rfl, castH (p := P_rShift l b n d x y) (by kernel_rfl) (p_rShift l b n d x y (hcs _ (.head _)))⟩
  · cases h
abbrev T_rFew : Tab := []
theorem T_rFew_ok : TOk Try.prog T_rFew := trivial
theorem ok_rFew : FnOk Try.prog 10 (CE.pu c_rFew).con := fnPuR T_rFew c_rFew L_ok T_rFew_ok mixed Try.func10 (by kernel_rfl) (by kernel_rfl) fun args cs r h hcs => by
  unfold c_rFew at h
  split at h
  · rename_i l
    injection h with h; injection h with h1 h2; subst h1 h2
    exact ⟨[0, 2], (fun _ _ => none), (fun _ _ => none), rfl, rfl, rfl, castH (p := P_rFew l) (by kernel_rfl) (p_rFew l)⟩
  · cases h
end Go.Proofs.Ythnboahemgmfnaa
