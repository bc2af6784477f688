/- The functions meet their contracts. Written by a program (wip/tools/gen.py). -/
import Derived.Test.YtjghgdccaakfmaaMeterq
namespace Go.Proofs.Ytjghgdccaakfmaa
open Go.Sy Go.RatLaw
set_option linter.unusedVariables false
set_option maxHeartbeats 4000000
set_option linter.unusedSimpArgs false

abbrev T_none : Tab := []
theorem T_none_ok : TOk Try.prog T_none := trivial
theorem ok_none : FnOk Try.prog 72 (CE.pu c_none).con := fnPuR T_none c_none L_ok T_none_ok mixed Try.func72 (by kernel_rfl) (by kernel_rfl) fun args cs r h hcs => by
  unfold c_none at h
  split at h
  · skip
    injection h with h; injection h with h1 h2; subst h1 h2
    exact ⟨[0, 1], (fun _ _ => none), (fun _ _ => none), rfl, rfl, rfl, castH (p := P_none ) (by kernel_rfl) (p_none )⟩
  · cases h
abbrev T_isDuration : Tab := [(57, .pu cVld)]
theorem T_isDuration_ok : TOk Try.prog T_isDuration := ⟨ok57, trivial⟩
theorem ok_isDuration : FnOk Try.prog 61 (CE.pu c_isDuration).con := fnPuR T_isDuration c_isDuration L_ok T_isDuration_ok mixed Try.func61 (by kernel_rfl) (by kernel_rfl) fun args cs r h hcs => by
  unfold c_isDuration at h
  split at h
  · rename_i n d
    injection h with h; injection h with h1 h2; subst h1 h2
    exact ⟨[0, 1, 2], (fun _ _ => none), (fun _ _ => none), rfl, rfl, rfl, castH (p := P_isDuration n d) (by kernel_rfl) (p_isDuration n d)⟩
  · cases h
abbrev T_less : Tab := [(63, .pu cCmp)]
theorem T_less_ok : TOk Try.prog T_less := ⟨ok63, trivial⟩
theorem ok_less : FnOk Try.prog 62 (CE.pu c_less).con := fnPuR T_less c_less L_ok T_less_ok mixed Try.func62 (by kernel_rfl) (by kernel_rfl) fun args cs r h hcs => by
  unfold c_less at h
  split at h
  · rename_i a b c d
    injection h with h; injection h with h1 h2; subst h1 h2
    exact ⟨[0, 1, 2, 3, 4, 5, 6], (fun _ _ => none), (fun _ _ => none), rfl, rfl, rfl, castH (p := P_less a b c d) (by kernel_rfl) (p_less a b c d)⟩
  · cases h
abbrev T_mValid : Tab := [(61, .pu c_isDuration), (62, .pu c_less)]
theorem T_mValid_ok : TOk Try.prog T_mValid := ⟨ok_isDuration, ok_less, trivial⟩
theorem ok_mValid : FnOk Try.prog 32 (CE.pu c_mValid).con := fnPuR T_mValid c_mValid L_ok T_mValid_ok mixed Try.func32 (by kernel_rfl) (by kernel_rfl) fun args cs r h hcs => by
  unfold c_mValid at h
  split at h
  · rename_i l
    injection h with h; injection h with h1 h2; subst h1 h2
    exact ⟨[0, 2, 3, 5, 7, 8, 9, 10, 36, 52, 55], (fun _ _ => some { X := Nat, inv := fun x => preB l x, m := fun x => l.length - x, s := fun x => [(9, .t (I x))], h := fun x => [(md 6, .mp (.ti .i64) .tb (seenB (l.take x)))] }), (fun _ _ => none), rfl, rfl, rfl, castH (p := P_mValid l) (by kernel_rfl) (p_mValid l)⟩
  · cases h
abbrev T_begins1 : Tab := [(22, .pu (cBin addR)), (72, .pu c_none)]
theorem T_begins1_ok : TOk Try.prog T_begins1 := ⟨ok22, ok_none, trivial⟩
theorem v_begins1 (l : List Bar) (go : Lp (Int × (Int × Int) × Unit)) : (vcGe L T_begins1 Try.f92 [0, 1, 3, 4, 5, 7, 8, 9, 10, 18, 25, 31] (fun _ _ => some { X := Nat, inv := fun x => x ≤ l.length ∧ ∀ k, 0 < k → k ≤ x → go ((items 0 (0, 1) l).take k) = true, m := fun x => l.length - x, s := fun x => [(9, .t (I x))], h := fun x => [(2000, .ob sgB ((items 0 (0, 1) l).take x) go), (3, .cells [li .i64 (itB l x).1, li .i64 (itB l x).2])] }) [.one (.yl 2000), .one (.ptr 2001 0)] [(2000, .ob sgB [] go), (2001, .cells [.d (.sl BT l)])] (.tup []) [(2000, .ob sgB (fed go [] (items 0 (0, 1) l)) go), (2001, .cells [.d (.sl BT l)])]).holds = P_begins1 l go := by kernel_rfl
theorem ok_begins1 : FnOk Try.prog 92 (CE.gen c_begins1).con := fnGe T_begins1 c_begins1 L_ok T_begins1_ok mixed Try.func92 (by kernel_rfl) (by kernel_rfl) fun args hp fr cs r up h hcs => by
  unfold c_begins1 at h
  split at h
  · rename_i m p
    split at h
    · rename_i go l hm hpp
      injection h with h; injection h with h1 h2; injection h2 with h2 h3; subst h1 h2 h3
      have hmp : m ≠ p := fun e => by subst e; rw [hm] at hpp; cases hpp
      exact ⟨[0, 1, 3, 4, 5, 7, 8, 9, 10, 18, 25, 31], (fun _ _ => some { X := Nat, inv := fun x => x ≤ l.length ∧ ∀ k, 0 < k → k ≤ x → go ((items 0 (0, 1) l).take k) = true, m := fun x => l.length - x, s := fun x => [(9, .t (I x))], h := fun x => [(2000, .ob sgB ((items 0 (0, 1) l).take x) go), (3, .cells [li .i64 (itB l x).1, li .i64 (itB l x).2])] }), (fun _ _ => none), [(2000, m), (2001, p)], [], [.one (.yl 2000), .one (.ptr 2001 0)], [(2000, .ob sgB [] go), (2001, .cells [.d (.sl BT l)])], .tup [], [(2000, .ob sgB (fed go [] (items 0 (0, 1) l)) go), (2001, .cells [.d (.sl BT l)])],
        Meets.of [(2000, m), (2001, p)] [] _ _ _ _ (by simp) (by simpa using hmp) rfl rfl
        (by simp only [List.forall_mem_cons]; exact ⟨⟨_, rfl, hm⟩, ⟨_, rfl, hpp⟩, fun _ h => by cases h⟩) (fun q hq => by cases hq)
        (by simp only [List.append_nil, List.forall_mem_cons]; refine ⟨fun o ho => ?_, fun o ho => ?_, fun _ h => by cases h⟩ <;> injection ho with ho <;> subst ho
            · exact upd1 _ _ _
            · rw [upd1_ne _ _ _ (Ne.symm hmp)]; exact hpp)
        (by simp) rfl rfl rfl rfl rfl rfl rfl (castH (v_begins1 l go) (p_begins1 l go (hcs _ (.head _))))⟩
    · cases h
  · cases h
abbrev T_begins : Tab := [(92, .gen c_begins1)]
theorem T_begins_ok : TOk Try.prog T_begins := ⟨ok_begins1, trivial⟩
theorem v_begins (l : List Bar) : (vcGe L T_begins Try.f73 [0, 1, 2] (fun _ _ => none) [BL l] [] (.t (.one (.clo 92 [] [(1, 0)]))) [(1, .cells [.d (.sl BT l)])]).holds = P_begins l := by kernel_rfl
theorem ok_begins : FnOk Try.prog 73 (CE.gen c_begins).con := fnGe T_begins c_begins L_ok T_begins_ok mixed Try.func73 (by kernel_rfl) (by kernel_rfl) fun args hp fr cs r up h hcs => by
  unfold c_begins at h
  split at h
  · rename_i l
    split at h
    · rename_i hn
      injection h with h; injection h with h1 h2; injection h2 with h2 h3; subst h1 h2 h3
      exact ⟨[0, 1, 2], (fun _ _ => none), (fun _ _ => none), [], [(1, fr)], [BL l], [], _, [(1, .cells [.d (.sl BT l)])], Meets.of [] [(1, fr)] [BL l] [] (.t (.one (.clo 92 [] [(1, 0)]))) _ (by simp) (by simp) rfl rfl
        (fun q hq => by cases hq) (fun q hq => by cases List.mem_singleton.1 hq; exact hn)
        (fun q hq o ho => by cases List.mem_singleton.1 hq; injection ho with ho; subst ho; exact upd1 _ _ _) (fun q hq => by cases List.mem_singleton.1 hq; simp) rfl rfl rfl rfl rfl rfl rfl (castH (v_begins l) (p_begins l))⟩
    · cases h
  · cases h
abbrev T_beginning : Tab := [(72, .pu c_none), (73, .gen c_begins), (92, .gen c_begins1)]
theorem T_beginning_ok : TOk Try.prog T_beginning := ⟨ok_none, ok_begins, ok_begins1, trivial⟩
theorem ok_beginning : FnOk Try.prog 50 (CE.pu c_beginning).con := fnPuR T_beginning c_beginning L_ok T_beginning_ok mixed Try.func50 (by kernel_rfl) (by kernel_rfl) fun args cs r h hcs => by
  unfold c_beginning at h
  split at h
  · rename_i l b
    injection h with h; injection h with h1 h2; subst h1 h2
    exact ⟨[0, 1, 3, 4, 5, 6, 8, 9, 10, 13, 14, 15], (fun _ _ => none), (fun _ _ => some { sg := sgB, go := goB b, h := fun hist => [(4, .cells [li .i64 (resAt b hist).1, li .i64 (resAt b hist).2])], js := [(.rt, fun _ => True)] }), rfl, rfl, rfl, castH (p := P_beginning l b) (by kernel_rfl) (p_beginning l b)⟩
  · cases h
abbrev T_isPosition : Tab := [(61, .pu c_isDuration), (62, .pu c_less), (72, .pu c_none)]
theorem T_isPosition_ok : TOk Try.prog T_isPosition := ⟨ok_isDuration, ok_less, ok_none, trivial⟩
theorem ok_isPosition : FnOk Try.prog 49 (CE.pu c_isPosition).con := fnPuR T_isPosition c_isPosition L_ok T_isPosition_ok mixed Try.func49 (by kernel_rfl) (by kernel_rfl) fun args cs r h hcs => by
  unfold c_isPosition at h
  split at h
  · rename_i l b n d
    injection h with h; injection h with h1 h2; subst h1 h2
    exact ⟨[0, 1, 3, 4, 5, 12], (fun _ _ => none), (fun _ _ => none), rfl, rfl, rfl, castH (p := P_isPosition l b n d) (by kernel_rfl) (p_isPosition l b n d (hcs _ (.head _)))⟩
  · cases h
abbrev T_mTime : Tab := [(22, .pu (cBin addR)), (32, .pu c_mValid), (49, .pu c_isPosition), (50, .pu c_beginning)]
theorem T_mTime_ok : TOk Try.prog T_mTime := ⟨ok22, ok_mValid, ok_isPosition, ok_beginning, trivial⟩
theorem ok_mTime : FnOk Try.prog 24 (CE.pu c_mTime).con := fnPuR T_mTime c_mTime L_ok T_mTime_ok mixed Try.func24 (by kernel_rfl) (by kernel_rfl) fun args cs r h hcs => by
  unfold c_mTime at h
  split at h
  · rename_i l b n d
    injection h with h; injection h with h1 h2; subst h1 h2
    exact ⟨[0, 1, 3, 4, 5, 14], (fun _ _ => none), (fun _ _ => none), rfl, rfl, rfl, castH (p := P_mTime l b n d) (by kernel_rfl) (p_mTime l b n d)⟩
  · cases h
abbrev T_Ticks : Tab := [(66, .pu cGcd)]
theorem T_Ticks_ok : TOk Try.prog T_Ticks := ⟨ok66, trivial⟩
theorem ok_Ticks : FnOk Try.prog 42 (CE.pu c_Ticks).con := fnPuR T_Ticks c_Ticks L_ok T_Ticks_ok mixed Try.func42 (by kernel_rfl) (by kernel_rfl) fun args cs r h hcs => by
  unfold c_Ticks at h
  split at h
  · rename_i n d
    injection h with h; injection h with h1 h2; subst h1 h2
    exact ⟨[0, 1, 2, 29], (fun _ _ => none), (fun _ _ => none), rfl, rfl, rfl, castH (p := P_Ticks n d) (by kernel_rfl) (p_Ticks n d)⟩
  · cases h
abbrev T_rValid : Tab := [(42, .pu c_Ticks)]
theorem T_rValid_ok : TOk Try.prog T_rValid := ⟨ok_Ticks, trivial⟩
theorem ok_rValid : FnOk Try.prog 34 (CE.pu c_rValid).con := fnPuR T_rValid c_rValid L_ok T_rValid_ok mixed Try.func34 (by kernel_rfl) (by kernel_rfl) fun args cs r h hcs => by
  unfold c_rValid at h
  split at h
  · rename_i l
    injection h with h; injection h with h1 h2; subst h1 h2
    exact ⟨[0, 2, 3, 4, 5, 13, 17, 63, 66, 79], (fun i σ => if i = 4 then some { X := Nat, inv := fun x => preB l x, m := fun x => l.length - x, s := fun x => [(3, .t (I x))] } else some { X := Nat, inv := fun y => noneB l (dI (slD σ 3)) y, m := fun y => (dI (slD σ 3)).toNat - y, s := fun y => [(5, .t (I y))] }), (fun _ _ => none), rfl, rfl, rfl, castH (p := P_rValid l) (by kernel_rfl) (p_rValid l)⟩
  · cases h
abbrev T_Position : Tab := [(42, .pu c_Ticks)]
theorem T_Position_ok : TOk Try.prog T_Position := ⟨ok_Ticks, trivial⟩
theorem ok_Position : FnOk Try.prog 20 (CE.pu c_Position).con := fnPuR T_Position c_Position L_ok T_Position_ok mixed Try.func20 (by kernel_rfl) (by kernel_rfl) fun args cs r h hcs => by
  unfold c_Position at h
  split at h
  · rename_i l b n d
    injection h with h; injection h with h1 h2; subst h1 h2
    exact ⟨[0, 1, 3, 4, 5, 22, 27], (fun _ _ => none), (fun _ _ => none), rfl, rfl, rfl, castH (p := P_Position l b n d) (by kernel_rfl) (p_Position l b n d)⟩
  · cases h
end Go.Proofs.Ytjghgdccaakfmaa
