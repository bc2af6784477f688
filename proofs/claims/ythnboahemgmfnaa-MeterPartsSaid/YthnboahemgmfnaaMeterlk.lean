/- The functions meet their contracts. Written by a program (wip/tools/gen.py). -/
import Derived.Test.YthnboahemgmfnaaMeterlq
namespace Go.Proofs.Ythnboahemgmfnaa
open Go.Sy Go.RatLaw
set_option linter.unusedVariables false

abbrev T_example : Tab := [(24, .pu cRatOf)]
theorem T_example_ok : TOk Try.prog T_example := ⟨ok24, trivial⟩
theorem v_example  : (vcGe L T_example Try.f26 [0] (fun _ _ => none) [] [] (.t (.one (.own 70007 (.sl BT exBars)))) [(70007, .gr 45 4 3)]).holds = P_example  := by kernel_rfl
theorem ok_example : FnOk Try.prog 26 (CE.gen c_example).con := fnGe T_example c_example L_ok T_example_ok mixed Try.func26 (by kernel_rfl) (by kernel_rfl) fun args hp fr cs r up h hcs => by
  unfold c_example at h
  split at h
  · split at h
    · rename_i hn
      injection h with h; injection h with h1 h2; injection h2 with h2 h3; subst h1 h2 h3
      exact ⟨[0], (fun _ _ => none), (fun _ _ => none), [], [(70007, fr)], [], [], _, [(70007, .gr 45 4 3)], Meets.of [] [(70007, fr)] [] [] (.t (.one (.own 70007 (.sl BT exBars)))) _ (by simp) (by simp) rfl rfl
        (fun q hq => by cases hq) (fun q hq => by cases List.mem_singleton.1 hq; exact hn)
        (fun q hq o ho => by cases List.mem_singleton.1 hq; injection ho with ho; subst ho; exact upd1 _ _ _) (fun q hq => by cases List.mem_singleton.1 hq; simp) rfl rfl rfl rfl rfl rfl rfl (castH v_example p_example)⟩
    · cases h
  · cases h
abbrev T_head : Tab := [(11, .pu c_mTotal), (13, .pu c_mValid), (15, .pu c_mTime), (17, .pu c_mWhere), (19, .pu c_mShift), (24, .pu cRatOf), (26, .gen c_example)]
theorem T_head_ok : TOk Try.prog T_head := ⟨ok_mTotal, ok_mValid, ok_mTime, ok_mWhere, ok_mShift, ok24, ok_example, trivial⟩
theorem ok_head : FnOk Try.prog 9 (CE.pu c_head).con := fnPuR T_head c_head L_ok T_head_ok mixed Try.func9 (by kernel_rfl) (by kernel_rfl) fun args cs r h hcs => by
  unfold c_head at h
  split at h
  · skip
    injection h with h; injection h with h1 h2; subst h1 h2
    exact ⟨[0, 1, 2, 3, 4, 5, 6, 7, 8, 9, 10, 11, 13, 15, 17, 18], (fun _ _ => none), (fun _ _ => none), rfl, rfl, rfl, castH (p := P_head ) (by kernel_rfl) (p_head )⟩
  · cases h
abbrev T_usable : Tab := [(14, .pu c_rValid)]
theorem T_usable_ok : TOk Try.prog T_usable := ⟨ok_rValid, trivial⟩
theorem ok_usable : FnOk Try.prog 21 (CE.pu c_usable).con := fnPuR T_usable c_usable L_ok T_usable_ok mixed Try.func21 (by kernel_rfl) (by kernel_rfl) fun args cs r h hcs => by
  unfold c_usable at h
  split at h
  · rename_i l
    injection h with h; injection h with h1 h2; subst h1 h2
    exact ⟨[0, 2], (fun _ _ => none), (fun _ _ => none), rfl, rfl, rfl, castH (p := P_usable l) (by kernel_rfl) (p_usable l)⟩
  · cases h
abbrev T_Matches : Tab := [(9, .pu c_head), (10, .pu c_rFew), (11, .pu c_mTotal), (12, .pu c_rTotal), (13, .pu c_mValid), (14, .pu c_rValid), (15, .pu c_mTime), (16, .pu c_rTime), (17, .pu c_mWhere), (18, .pu c_rWhere), (19, .pu c_mShift), (20, .pu c_rShift)]
theorem T_Matches_ok : TOk Try.prog T_Matches := ⟨ok_head, ok_rFew, ok_mTotal, ok_rTotal, ok_mValid, ok_rValid, ok_mTime, ok_rTime, ok_mWhere, ok_rWhere, ok_mShift, ok_rShift, trivial⟩
theorem ok_Matches : FnOk Try.prog 3 (CE.pu c_Matches).con := fnPuR T_Matches c_Matches L_ok T_Matches_ok mixed Try.func3 (by kernel_rfl) (by kernel_rfl) fun args cs r h hcs => by
  unfold c_Matches at h
  split at h
  · rename_i l b n d p q x y
    injection h with h; injection h with h1 h2; subst h1 h2
    exact ⟨[0, 1, 2, 3, 5, 6, 7, 8, 9, 10, 11, 12, 13, 14, 15, 19], (fun _ _ => none), (fun _ _ => none), rfl, rfl, rfl, castH (p := P_Matches l b n d p q x y) (by kernel_rfl) (p_Matches l b n d p q x y (hcs _ (.head _)))⟩
  · cases h
abbrev T_Back : Tab := [(9, .pu c_head), (15, .pu c_mTime), (17, .pu c_mWhere), (21, .pu c_usable), (22, .pu c_Position)]
theorem T_Back_ok : TOk Try.prog T_Back := ⟨ok_head, ok_mTime, ok_mWhere, ok_usable, ok_Position, trivial⟩
theorem ok_Back : FnOk Try.prog 4 (CE.pu c_Back).con := fnPuR T_Back c_Back L_ok T_Back_ok mixed Try.func4 (by kernel_rfl) (by kernel_rfl) fun args cs r h hcs => by
  unfold c_Back at h
  split at h
  · rename_i l b n d p q
    injection h with h; injection h with h1 h2; subst h1 h2
    exact ⟨[0, 1, 2, 4, 5, 6, 7, 8, 9, 10, 11, 12, 13, 14, 15, 19, 29, 57], (fun _ _ => none), (fun _ _ => none), rfl, rfl, rfl, castH (p := P_Back l b n d p q) (by kernel_rfl) (p_Back l b n d p q)⟩
  · cases h
abbrev T_Order : Tab := [(9, .pu c_head), (15, .pu c_mTime), (21, .pu c_usable), (22, .pu c_Position), (23, .pu cCmp)]
theorem T_Order_ok : TOk Try.prog T_Order := ⟨ok_head, ok_mTime, ok_usable, ok_Position, ok23, trivial⟩
theorem ok_Order : FnOk Try.prog 5 (CE.pu c_Order).con := fnPuR T_Order c_Order L_ok T_Order_ok mixed Try.func5 (by kernel_rfl) (by kernel_rfl) fun args cs r h hcs => by
  unfold c_Order at h
  split at h
  · rename_i l b n d c p q
    injection h with h; injection h with h1 h2; subst h1 h2
    exact ⟨[0, 1, 2, 4, 5, 6, 7, 8, 9, 10, 11, 12, 13, 14, 15, 16, 32, 73, 79, 84], (fun _ _ => none), (fun _ _ => none), rfl, rfl, rfl, castH (p := P_Order l b n d c p q) (by kernel_rfl) (p_Order l b n d c p q)⟩
  · cases h
abbrev T_Bars : Tab := [(9, .pu c_head), (11, .pu c_mTotal), (15, .pu c_mTime), (21, .pu c_usable), (24, .pu cRatOf), (25, .pu (cBin addR))]
theorem T_Bars_ok : TOk Try.prog T_Bars := ⟨ok_head, ok_mTotal, ok_mTime, ok_usable, ok24, ok25, trivial⟩
theorem ok_Bars : FnOk Try.prog 6 (CE.pu c_Bars).con := fnPuR T_Bars c_Bars L_ok T_Bars_ok mixed Try.func6 (by kernel_rfl) (by kernel_rfl) fun args cs r h hcs => by
  unfold c_Bars at h
  split at h
  · rename_i l
    injection h with h; injection h with h1 h2; subst h1 h2
    exact ⟨[0, 2, 3, 4, 5, 6, 7, 8, 9, 10, 11, 15, 21, 38, 42, 53], (fun _ _ => some { X := Nat, inv := fun x => x ≤ l.length + 1 ∧ x ≤ 61, m := fun x => l.length + 1 - x, s := fun x => [(5, .t (I x)), (3, .t (B true))], h := fun x => [(4, .cells [li .i64 (itB l (min x l.length)).1, li .i64 (itB l (min x l.length)).2])] }), (fun _ _ => none), rfl, rfl, rfl, castH (p := P_Bars l) (by kernel_rfl) (p_Bars l)⟩
  · cases h
abbrev T_Parts : Tab := [(9, .pu c_head), (11, .pu c_mTotal), (15, .pu c_mTime), (21, .pu c_usable), (22, .pu c_Position), (25, .pu (cBin addR))]
theorem T_Parts_ok : TOk Try.prog T_Parts := ⟨ok_head, ok_mTotal, ok_mTime, ok_usable, ok_Position, ok25, trivial⟩
theorem ok_Parts : FnOk Try.prog 7 (CE.pu c_Parts).con := fnPuR T_Parts c_Parts L_ok T_Parts_ok mixed Try.func7 (by kernel_rfl) (by kernel_rfl) fun args cs r h hcs => by
  unfold c_Parts at h
  split at h
  · rename_i l u b n d
    injection h with h; injection h with h1 h2; subst h1 h2
    exact ⟨[0, 1, 2, 5, 6, 7, 8, 9, 10, 11, 12, 13, 14, 15, 16, 17, 18, 19, 20, 29, 90], (fun _ _ => none), (fun _ _ => none), rfl, rfl, rfl, castH (p := P_Parts l u b n d) (by kernel_rfl) (p_Parts l u b n d (hcs _ (.head _)) (hcs _ (.tail _ (.head _))))⟩
  · cases h
abbrev T_Shifts : Tab := [(9, .pu c_head), (19, .pu c_mShift), (21, .pu c_usable), (22, .pu c_Position), (24, .pu cRatOf), (25, .pu (cBin addR))]
theorem T_Shifts_ok : TOk Try.prog T_Shifts := ⟨ok_head, ok_mShift, ok_usable, ok_Position, ok24, ok25, trivial⟩
theorem ok_Shifts : FnOk Try.prog 8 (CE.pu c_Shifts).con := fnPuR T_Shifts c_Shifts L_ok T_Shifts_ok mixed Try.func8 (by kernel_rfl) (by kernel_rfl) fun args cs r h hcs => by
  unfold c_Shifts at h
  split at h
  · rename_i l b n d p q x y
    injection h with h; injection h with h1 h2; subst h1 h2
    exact ⟨[0, 1, 2, 3, 5, 6, 7, 8, 9, 10, 11, 12, 13, 14, 15, 16, 17, 18, 19, 29, 39, 77, 79], (fun _ _ => none), (fun _ _ => none), rfl, rfl, rfl, castH (p := P_Shifts l b n d p q x y) (by kernel_rfl) (p_Shifts l b n d p q x y (hcs _ (.head _)) (hcs _ (.tail _ (.head _))))⟩
  · cases h
end Go.Proofs.Ythnboahemgmfnaa
