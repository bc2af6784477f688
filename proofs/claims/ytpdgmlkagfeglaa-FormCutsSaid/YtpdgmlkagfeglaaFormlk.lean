/- The functions meet their contracts. Written by a program (wip/tools/gen.py). -/
import Derived.Test.YtpdgmlkagfeglaaFormlq
import Derived.Test.YtpdgmlkagfeglaaFormk
namespace Go.Proofs.Ytpdgmlkagfeglaa
open Go.Sy Go.RatLaw
set_option linter.unusedVariables false
set_option maxHeartbeats 4000000
set_option linter.unusedSimpArgs false

abbrev T_example : Tab := []
theorem T_example_ok : TOk Try.prog T_example := trivial
theorem ok_example : FnOk Try.prog 28 (CE.pu c_example).con := fnPuR T_example c_example L_ok T_example_ok mixed Try.func28 (by kernel_rfl) (by kernel_rfl) fun args cs r h hcs => by
  unfold c_example at h
  split at h
  · skip
    injection h with h; injection h with h1 h2; subst h1 h2
    exact ⟨[0, 6], (fun _ _ => none), (fun _ _ => none), rfl, rfl, rfl, castH (p := P_example ) (by kernel_rfl) (p_example )⟩
  · cases h
abbrev T_lbars : Tab := []
theorem T_lbars_ok : TOk Try.prog T_lbars := trivial
theorem ok_lbars : FnOk Try.prog 30 (CE.pu c_lbars).con := fnPuR T_lbars c_lbars L_ok T_lbars_ok mixed Try.func30 (by kernel_rfl) (by kernel_rfl) fun args cs r h hcs => by
  unfold c_lbars at h
  split at h
  · rename_i l
    injection h with h; injection h with h1 h2; subst h1 h2
    exact ⟨[0, 2, 3, 5, 6, 7, 8, 9], (fun _ _ => some { X := Nat, inv := fun k => k ≤ l.length, m := fun k => l.length - k, s := fun k => [(8, .t (I k)), (3, .t (.one (.own (rm 3) (.sl (.ti .i64) ((l.take k).map fst1)))))], h := fun k => [(rm 3, .gr 3 1 ((l.take k).map fst1).length)] }), (fun _ _ => none), rfl, rfl, rfl, castH (p := P_lbars l) (by kernel_rfl) (p_lbars l (hcs _ (.head _)))⟩
  · cases h
abbrev T_lsame : Tab := []
theorem T_lsame_ok : TOk Try.prog T_lsame := trivial
theorem ok_lsame : FnOk Try.prog 29 (CE.pu c_lsame).con := fnPuR T_lsame c_lsame L_ok T_lsame_ok mixed Try.func29 (by kernel_rfl) (by kernel_rfl) fun args cs r h hcs => by
  unfold c_lsame at h
  split at h
  · rename_i l m
    injection h with h; injection h with h1 h2; subst h1 h2
    exact ⟨[0, 1, 4, 5, 10, 12, 13, 14, 24], (fun _ _ => some { X := Nat, inv := fun x => x ≤ l.length ∧ l.take x = m.take x, m := fun x => l.length - x, s := fun x => [(13, .t (I x))] }), (fun _ _ => none), rfl, rfl, rfl, castH (p := P_lsame l m) (by kernel_rfl) (p_lsame l m)⟩
  · cases h
abbrev T_head : Tab := [(11, .pu c_unfold), (13, .pu c_valid), (16, .pu c_find), (18, .pu c_cut), (21, .pu c_open0), (23, .pu c_times), (28, .pu c_example), (29, .pu c_lsame), (30, .pu c_lbars)]
theorem T_head_ok : TOk Try.prog T_head := ⟨ok_unfold, ok_valid, ok_find, ok_cut, ok_open0, ok_times, ok_example, ok_lsame, ok_lbars, trivial⟩
theorem ok_head : FnOk Try.prog 9 (CE.pu c_head).con := fnPuR T_head c_head L_ok T_head_ok mixed Try.func9 (by kernel_rfl) (by kernel_rfl) fun args cs r h hcs => by
  unfold c_head at h
  split at h
  · skip
    injection h with h; injection h with h1 h2; subst h1 h2
    exact ⟨[0, 1, 2, 3, 4, 5, 6, 7, 8, 9, 10, 11, 12, 14, 15, 17, 19, 21, 23, 24, 32], (fun _ _ => none), (fun _ _ => none), rfl, rfl, rfl, castH (p := P_head ) (by kernel_rfl) (p_head )⟩
  · cases h
abbrev T_usable : Tab := [(10, .pu c_few), (14, .pu c_rValid)]
theorem T_usable_ok : TOk Try.prog T_usable := ⟨ok_few, ok_rValid, trivial⟩
theorem ok_usable : FnOk Try.prog 25 (CE.pu c_usable).con := fnPuR T_usable c_usable L_ok T_usable_ok mixed Try.func25 (by kernel_rfl) (by kernel_rfl) fun args cs r h hcs => by
  unfold c_usable at h
  split at h
  · rename_i b r e j t n c
    injection h with h; injection h with h1 h2; subst h1 h2
    exact ⟨[0, 1, 2], (fun _ _ => none), (fun _ _ => none), rfl, rfl, rfl, castH (p := P_usable b r e j t n c) (by kernel_rfl) (p_usable b r e j t n c)⟩
  · cases h
abbrev T_kept : Tab := []
theorem T_kept_ok : TOk Try.prog T_kept := trivial
theorem ok_kept : FnOk Try.prog 27 (CE.pu c_kept).con := fnPuR T_kept c_kept L_ok T_kept_ok mixed Try.func27 (by kernel_rfl) (by kernel_rfl) fun args cs r h hcs => by
  unfold c_kept at h
  split at h
  · rename_i l x y z
    injection h with h; injection h with h1 h2; subst h1 h2
    exact ⟨[0, 1, 3, 4, 5, 7, 8, 9, 10, 11, 37], (fun _ _ => some { X := Nat, inv := fun k => k ≤ l.length, m := fun k => l.length - k, s := fun k => [(10, .t (I k)), (5, .t (.one (.own (rm 5) (.sl T2T ((l.take k).filter (keepV (x, (y, z))))))))], h := fun k => [(rm 5, .gr 30 2 ((l.take k).filter (keepV (x, (y, z)))).length)] }), (fun _ _ => none), rfl, rfl, rfl, castH (p := P_kept l x y z) (by kernel_rfl) (p_kept l x y z (hcs _ (.head _)))⟩
  · cases h
abbrev T_skipped : Tab := []
theorem T_skipped_ok : TOk Try.prog T_skipped := trivial
theorem ok_skipped : FnOk Try.prog 53 (CE.pu c_skipped).con := fnPuR T_skipped c_skipped L_ok T_skipped_ok mixed Try.func53 (by kernel_rfl) (by kernel_rfl) fun args cs r h hcs => by
  unfold c_skipped at h
  split at h
  · rename_i b r e j t n c x y
    injection h with h; injection h with h1 h2; subst h1 h2
    exact ⟨[0, 1, 2, 3, 6, 7, 8, 10, 14, 18, 19, 20, 21, 39], (fun i σ => if i = 2 then some { X := Int, inv := fun q => (x ≤ q) ∧ (skippedB e x y = skippedB e q y), m := fun q => (y - q).toNat, s := fun q => [(7, .t (I q))] } else some { X := Nat, inv := fun k => k ≤ e.length, m := fun k => e.length - k, s := fun k => [(20, .t (I k)), (8, .t (B ((e.take k).any (barIn (dI (slD σ 7))))))] }), (fun _ _ => none), rfl, rfl, rfl, castH (p := P_skipped b r e j t n c x y) (by kernel_rfl) (p_skipped b r e j t n c x y (hcs _ (.head _)) (hcs _ (.tail _ (.head _))))⟩
  · cases h
abbrev T_follows : Tab := [(53, .pu c_skipped)]
theorem T_follows_ok : TOk Try.prog T_follows := ⟨ok_skipped, trivial⟩
theorem ok_follows : FnOk Try.prog 26 (CE.pu c_follows).con := fnPuR T_follows c_follows L_ok T_follows_ok mixed Try.func26 (by kernel_rfl) (by kernel_rfl) fun args cs r h hcs => by
  unfold c_follows at h
  split at h
  · rename_i b r e j t n c x y
    injection h with h; injection h with h1 h2; subst h1 h2
    exact ⟨[0, 1, 2, 3, 6, 8, 18, 20, 21, 22, 23, 62], (fun _ _ => some { X := Nat, inv := fun k => k ≤ r.length ∧ ∀ i, i < k → followsR e x y (List.getD (α := T3) r i t30) = false, m := fun k => r.length - k, s := fun k => [(22, .t (I k))] }), (fun _ _ => none), rfl, rfl, rfl, castH (p := P_follows b r e j t n c x y) (by kernel_rfl) (p_follows b r e j t n c x y (hcs _ (.head _)))⟩
  · cases h
abbrev T_Visits : Tab := [(9, .pu c_head), (11, .pu c_unfold), (25, .pu c_usable)]
theorem T_Visits_ok : TOk Try.prog T_Visits := ⟨ok_head, ok_unfold, ok_usable, trivial⟩
theorem ok_Visits : FnOk Try.prog 4 (CE.pu c_Visits).con := fnPuR T_Visits c_Visits L_ok T_Visits_ok mixed Try.func4 (by kernel_rfl) (by kernel_rfl) fun args cs r h hcs => by
  unfold c_Visits at h
  split at h
  · rename_i b r e j t n c
    injection h with h; injection h with h1 h2; subst h1 h2
    exact ⟨[0, 1, 2, 3, 4, 5, 6, 8, 9, 10, 11, 12, 14, 18, 26, 27, 28, 29, 50, 55, 58, 65, 66, 67, 68, 75], (fun i _ => if i = 7 then some { X := Nat, inv := fun k => k ≤ (unfoldS (b, (r, (e, ((j, (t, n)), c))))).1.length, m := fun k => (unfoldS (b, (r, (e, ((j, (t, n)), c))))).1.length - k, s := fun k => [(28, .t (I k))], h := fun k => [(md 25, .mp (.ti .i64) (.ti .i64) (lastM ((unfoldS (b, (r, (e, ((j, (t, n)), c))))).1.take k)))] } else some { X := Nat, inv := fun k => k ≤ (unfoldS (setCuts (b, (r, (e, ((j, (t, n)), c)))) [])).1.length, m := fun k => (unfoldS (setCuts (b, (r, (e, ((j, (t, n)), c)))) [])).1.length - k, s := fun k => [(67, .t (I k)), (3, .t (B true))], h := fun k => [(md 64, .mp (.ti .i64) (.ti .i64) (cntM (((unfoldS (setCuts (b, (r, (e, ((j, (t, n)), c)))) [])).1.take k).map fst1)))] }), (fun _ _ => none), rfl, rfl, rfl, castH (p := P_Visits b r e j t n c) (by kernel_rfl) (p_Visits b r e j t n c)⟩
  · cases h
abbrev T_Steps : Tab := [(9, .pu c_head), (11, .pu c_unfold), (25, .pu c_usable), (26, .pu c_follows)]
theorem T_Steps_ok : TOk Try.prog T_Steps := ⟨ok_head, ok_unfold, ok_usable, ok_follows, trivial⟩
theorem ok_Steps : FnOk Try.prog 5 (CE.pu c_Steps).con := fnPuR T_Steps c_Steps L_ok T_Steps_ok mixed Try.func5 (by kernel_rfl) (by kernel_rfl) fun args cs r h hcs => by
  unfold c_Steps at h
  split at h
  · rename_i b r e j t n c
    injection h with h; injection h with h1 h2; subst h1 h2
    exact ⟨[0, 1, 2, 3, 4, 5, 6, 8, 11, 21], (fun _ _ => some { X := Nat, inv := fun k => k ≤ (unfoldS (setCuts (b, (r, (e, ((j, (t, n)), c)))) [])).1.length, m := fun k => (unfoldS (setCuts (b, (r, (e, ((j, (t, n)), c)))) [])).1.length - k, s := fun k => [(6, .t (I (k + 1))), (3, .t (B true))] }), (fun _ _ => none), rfl, rfl, rfl, castH (p := P_Steps b r e j t n c) (by kernel_rfl) (p_Steps b r e j t n c)⟩
  · cases h
abbrev T_Finds : Tab := [(9, .pu c_head), (11, .pu c_unfold), (16, .pu c_find), (25, .pu c_usable)]
theorem T_Finds_ok : TOk Try.prog T_Finds := ⟨ok_head, ok_unfold, ok_find, ok_usable, trivial⟩
theorem ok_Finds : FnOk Try.prog 7 (CE.pu c_Finds).con := fnPuR T_Finds c_Finds L_ok T_Finds_ok mixed Try.func7 (by kernel_rfl) (by kernel_rfl) fun args cs r h hcs => by
  unfold c_Finds at h
  split at h
  · rename_i b r e j t n c w x y
    injection h with h; injection h with h1 h2; subst h1 h2
    exact ⟨[0, 1, 2, 3, 5, 6, 7, 8, 9, 10, 11, 12, 13, 14, 15, 16, 20, 68, 71], (fun _ _ => none), (fun _ _ => none), rfl, rfl, rfl, castH (p := P_Finds b r e j t n c w x y) (by kernel_rfl) (p_Finds b r e j t n c w x y (hcs _ (.head _)) (hcs _ (.tail _ (.head _))))⟩
  · cases h
abbrev T_Times : Tab := [(9, .pu c_head), (11, .pu c_unfold), (15, .pu c_sameV), (20, .pu c_same), (23, .pu c_times), (25, .pu c_usable), (27, .pu c_kept)]
theorem T_Times_ok : TOk Try.prog T_Times := ⟨ok_head, ok_unfold, ok_sameV, ok_same, ok_times, ok_usable, ok_kept, trivial⟩
theorem ok_Times : FnOk Try.prog 8 (CE.pu c_Times).con := fnPuR T_Times c_Times L_ok T_Times_ok mixed Try.func8 (by kernel_rfl) (by kernel_rfl) fun args cs r h hcs => by
  unfold c_Times at h
  split at h
  · rename_i b r e j t n c x y
    injection h with h; injection h with h1 h2; subst h1 h2
    exact ⟨[0, 1, 2, 3, 6, 7, 8, 9, 10, 11, 12, 13, 14, 15, 19, 29, 44], (fun _ _ => none), (fun _ _ => none), rfl, rfl, rfl, castH (p := P_Times b r e j t n c x y) (by kernel_rfl) (p_Times b r e j t n c x y)⟩
  · cases h
end Go.Proofs.Ytpdgmlkagfeglaa
