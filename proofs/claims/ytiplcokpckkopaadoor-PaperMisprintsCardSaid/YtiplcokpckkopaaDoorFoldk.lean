/- The functions meet their contracts. Written by a program (wip/tools/gen.py). -/
import Derived.Test.YtiplcokpckkopaaDoorFoldq
namespace Go.Proofs.YtiplcokpckkopaaDoor
open Go.Sy Go.RatLaw
set_option linter.unusedVariables false

abbrev T_within : Tab := []
theorem T_within_ok : TOk Tryd.prog T_within := trivial
theorem ok_within : FnOk Tryd.prog 60 (CE.pu c_within).con := fnPuR T_within c_within L_ok T_within_ok mixed Tryd.func60 (by kernel_rfl) (by kernel_rfl) fun args cs r h hcs => by
  unfold c_within at h
  split at h
  · rename_i a b c
    injection h with h; injection h with h1 h2; subst h1 h2
    exact ⟨[0, 1, 2, 6], (fun _ _ => none), (fun _ _ => none), rfl, rfl, rfl, castH (p := P_within a b c) (by kernel_rfl) (p_within a b c)⟩
  · cases h
abbrev T_rin : Tab := []
theorem T_rin_ok : TOk Tryd.prog T_rin := trivial
theorem ok_rin : FnOk Tryd.prog 57 (CE.pu c_rin).con := fnPuR T_rin c_rin L_ok T_rin_ok mixed Tryd.func57 (by kernel_rfl) (by kernel_rfl) fun args cs r h hcs => by
  unfold c_rin at h
  split at h
  · rename_i a b c
    injection h with h; injection h with h1 h2; subst h1 h2
    exact ⟨[0, 1, 2, 6], (fun _ _ => none), (fun _ _ => none), rfl, rfl, rfl, castH (p := P_rin a b c) (by kernel_rfl) (p_rin a b c)⟩
  · cases h
abbrev T_isLength : Tab := [(66, .pu cVld)]
theorem T_isLength_ok : TOk Tryd.prog T_isLength := ⟨ok66, trivial⟩
theorem ok_isLength : FnOk Tryd.prog 59 (CE.pu c_isLength).con := fnPuR T_isLength c_isLength L_ok T_isLength_ok mixed Tryd.func59 (by kernel_rfl) (by kernel_rfl) fun args cs r h hcs => by
  unfold c_isLength at h
  split at h
  · rename_i n d
    injection h with h; injection h with h1 h2; subst h1 h2
    exact ⟨[0, 1, 2], (fun _ _ => none), (fun _ _ => none), rfl, rfl, rfl, castH (p := P_isLength n d) (by kernel_rfl) (p_isLength n d)⟩
  · cases h
abbrev T_folds : Tab := [(59, .pu c_isLength), (60, .pu c_within)]
theorem T_folds_ok : TOk Tryd.prog T_folds := ⟨ok_isLength, ok_within, trivial⟩
theorem ok_folds : FnOk Tryd.prog 46 (CE.pu c_folds).con := fnPuR T_folds c_folds (LV_ok [] [] true) T_folds_ok mixed Tryd.func46 (by kernel_rfl) (by kernel_rfl) fun args cs r h hcs => by
  unfold c_folds at h
  split at h
  · rename_i p ms
    injection h with h; injection h with h1 h2; subst h1 h2
    exact ⟨[0, 1, 2, 3, 5, 9, 11, 12, 13, 14, 31], (fun _ _ => some { X := Nat, inv := fun x => x ≤ ms.length ∧ ∀ m ∈ ms.take x, okM m = true, m := fun x => ms.length - x, s := fun x => [(13, .t (I x)), (3, .t (I (nsW (ms.take x))))] }), (fun _ _ => none), rfl, rfl, rfl, castH (p := P_folds p ms) (by kernel_rfl) (p_folds p ms)⟩
  · cases h
abbrev T_rView : Tab := [(57, .pu c_rin), (58, .pu c_Ticks)]
theorem T_rView_ok : TOk Tryd.prog T_rView := ⟨ok_rin, ok_Ticks, trivial⟩
theorem ok_rView : FnOk Tryd.prog 42 (CE.pu c_rView).con := fnPuR T_rView c_rView (LV_ok [] [] true) T_rView_ok mixed Tryd.func42 (by kernel_rfl) (by kernel_rfl) fun args cs r h hcs => by
  unfold c_rView at h
  split at h
  · rename_i p ms
    injection h with h; injection h with h1 h2; subst h1 h2
    exact ⟨[0, 1, 2, 3, 4, 5, 9, 14, 37], (fun _ _ => some { X := Nat, inv := fun x => x ≤ ms.length ∧ ∀ m ∈ ms.take x, okM m = true, m := fun x => ms.length - x, s := fun x => [(4, .t (I x)), (3, .t (I (nsW (ms.take x))))] }), (fun _ _ => none), rfl, rfl, rfl, castH (p := P_rView p ms) (by kernel_rfl) (p_rView p ms)⟩
  · cases h
abbrev T_fewV : Tab := []
theorem T_fewV_ok : TOk Tryd.prog T_fewV := trivial
theorem ok_fewV : FnOk Tryd.prog 21 (CE.pu c_fewV).con := fnPuR T_fewV c_fewV (LV_ok [] [] true) T_fewV_ok mixed Tryd.func21 (by kernel_rfl) (by kernel_rfl) fun args cs r h hcs => by
  unfold c_fewV at h
  split at h
  · rename_i p ms
    injection h with h; injection h with h1 h2; subst h1 h2
    exact ⟨[0, 1, 2, 3, 4, 13], (fun _ _ => some { X := Nat, inv := fun x => x ≤ ms.length ∧ x ≤ 100, m := fun x => ms.length - x, s := fun x => [(4, .t (I x)), (3, .t (I (nsW (ms.take x))))] }), (fun _ _ => none), rfl, rfl, rfl, castH (p := P_fewV p ms) (by kernel_rfl) (p_fewV p ms)⟩
  · cases h
abbrev T_bend : Tab := []
theorem T_bend_ok : TOk Tryd.prog T_bend := trivial
theorem ok_bend : FnOk Tryd.prog 49 (CE.pu c_bend).con := fnPuR T_bend c_bend L_ok T_bend_ok mixed Tryd.func49 (by kernel_rfl) (by kernel_rfl) fun args cs r h hcs => by
  unfold c_bend at h
  split at h
  · rename_i f r
    injection h with h; injection h with h1 h2; subst h1 h2
    exact ⟨[0, 1, 2], (fun _ _ => none), (fun _ _ => none), rfl, rfl, rfl, castH (p := P_bend f r) (by kernel_rfl) (p_bend f r (hcs _ (.head _)))⟩
  · cases h
abbrev T_rEnd : Tab := []
theorem T_rEnd_ok : TOk Tryd.prog T_rEnd := trivial
theorem ok_rEnd : FnOk Tryd.prog 44 (CE.pu c_rEnd).con := fnPuR T_rEnd c_rEnd L_ok T_rEnd_ok mixed Tryd.func44 (by kernel_rfl) (by kernel_rfl) fun args cs r h hcs => by
  unfold c_rEnd at h
  split at h
  · rename_i f r
    injection h with h; injection h with h1 h2; subst h1 h2
    exact ⟨[0, 1, 2], (fun _ _ => none), (fun _ _ => none), rfl, rfl, rfl, castH (p := P_rEnd f r) (by kernel_rfl) (p_rEnd f r (hcs _ (.head _)))⟩
  · cases h
abbrev T_areBlocks : Tab := [(49, .pu c_bend), (60, .pu c_within)]
theorem T_areBlocks_ok : TOk Tryd.prog T_areBlocks := ⟨ok_bend, ok_within, trivial⟩
theorem ok_areBlocks : FnOk Tryd.prog 47 (CE.pu c_areBlocks).con := fnPuR T_areBlocks c_areBlocks L_ok T_areBlocks_ok mixed Tryd.func47 (by kernel_rfl) (by kernel_rfl) fun args cs r h hcs => by
  unfold c_areBlocks at h
  split at h
  · rename_i l
    injection h with h; injection h with h1 h2; subst h1 h2
    exact ⟨[0, 2, 3, 5, 6, 7, 8, 9, 27], (fun _ _ => some { X := Nat, inv := fun x => x ≤ l.length ∧ blkB l = blkFrom (lastB l x) (l.drop x) ∧ 0 ≤ lastB l x ∧ lastB l x ≤ 4000, m := fun x => l.length - x, s := fun x => [(8, .t (I x)), (3, .t (I (lastB l x)))] }), (fun _ _ => none), rfl, rfl, rfl, castH (p := P_areBlocks l) (by kernel_rfl) (p_areBlocks l)⟩
  · cases h
abbrev T_rBlocks : Tab := [(44, .pu c_rEnd), (57, .pu c_rin)]
theorem T_rBlocks_ok : TOk Tryd.prog T_rBlocks := ⟨ok_rEnd, ok_rin, trivial⟩
theorem ok_rBlocks : FnOk Tryd.prog 43 (CE.pu c_rBlocks).con := fnPuR T_rBlocks c_rBlocks L_ok T_rBlocks_ok mixed Tryd.func43 (by kernel_rfl) (by kernel_rfl) fun args cs r h hcs => by
  unfold c_rBlocks at h
  split at h
  · rename_i l
    injection h with h; injection h with h1 h2; subst h1 h2
    exact ⟨[0, 2, 3, 4, 8, 42], (fun _ _ => some { X := Nat, inv := fun x => x ≤ l.length ∧ blkB l = blkFrom (lastB l x) (l.drop x) ∧ 0 ≤ lastB l x ∧ lastB l x ≤ 4000, m := fun x => l.length - x, s := fun x => [(4, .t (I x)), (3, .t (I (lastB l x)))] }), (fun _ _ => none), rfl, rfl, rfl, castH (p := P_rBlocks l) (by kernel_rfl) (p_rBlocks l)⟩
  · cases h
abbrev T_sounds : Tab := []
theorem T_sounds_ok : TOk Tryd.prog T_sounds := trivial
theorem ok_sounds : FnOk Tryd.prog 48 (CE.pu c_sounds).con := fnPuR T_sounds c_sounds L_ok T_sounds_ok mixed Tryd.func48 (by kernel_rfl) (by kernel_rfl) fun args cs r h hcs => by
  unfold c_sounds at h
  split at h
  · rename_i b k n d l
    injection h with h; injection h with h1 h2; subst h1 h2
    exact ⟨[0, 1, 2], (fun _ _ => none), (fun _ _ => none), rfl, rfl, rfl, castH (p := P_sounds b k n d l) (by kernel_rfl) (p_sounds b k n d l)⟩
  · cases h
abbrev T_idxM : Tab := [(48, .pu c_sounds)]
theorem T_idxM_ok : TOk Tryd.prog T_idxM := ⟨ok_sounds, trivial⟩
theorem ok_idxM : FnOk Tryd.prog 61 (CE.pu c_idxM).con := fnPuR T_idxM c_idxM L_ok T_idxM_ok mixed Tryd.func61 (by kernel_rfl) (by kernel_rfl) fun args cs r h hcs => by
  unfold c_idxM at h
  split at h
  · rename_i l
    injection h with h; injection h with h1 h2; subst h1 h2
    exact ⟨[0, 1, 4, 5, 7, 8, 9, 16], (fun _ _ => some { X := Nat, inv := fun x => x ≤ l.length ∧ ∀ k, k < x → soundsM (List.getD (α := Ms) l k ms0) = false, m := fun x => l.length - x, s := fun x => [(8, .t (I x))] }), (fun _ _ => none), rfl, rfl, rfl, castH (p := P_idxM l) (by kernel_rfl) (p_idxM l)⟩
  · cases h
abbrev T_conM : Tab := [(61, .pu c_idxM)]
theorem T_conM_ok : TOk Tryd.prog T_conM := ⟨ok_idxM, trivial⟩
theorem ok_conM : FnOk Tryd.prog 50 (CE.pu c_conM).con := fnPuR T_conM c_conM L_ok T_conM_ok mixed Tryd.func50 (by kernel_rfl) (by kernel_rfl) fun args cs r h hcs => by
  unfold c_conM at h
  split at h
  · rename_i l
    injection h with h; injection h with h1 h2; subst h1 h2
    exact ⟨[0, 1, 4], (fun _ _ => none), (fun _ _ => none), rfl, rfl, rfl, castH (p := P_conM l) (by kernel_rfl) (p_conM l)⟩
  · cases h
abbrev T_width : Tab := []
theorem T_width_ok : TOk Tryd.prog T_width := trivial
theorem ok_width : FnOk Tryd.prog 51 (CE.pu c_width).con := fnPuR T_width c_width (LV_ok [] [] true) T_width_ok mixed Tryd.func51 (by kernel_rfl) (by kernel_rfl) fun args cs r h hcs => by
  unfold c_width at h
  split at h
  · rename_i b k n d l
    injection h with h; injection h with h1 h2; subst h1 h2
    exact ⟨[0, 1, 2, 3, 5, 8, 9, 10, 11, 16], (fun _ _ => some { X := Nat, inv := fun x => x ≤ l.length, m := fun x => l.length - x, s := fun x => [(10, .t (I x))], h := fun x => [(md 6, .mp KT .tb (distM (startsW (l.take x))))] }), (fun _ _ => none), rfl, rfl, rfl, castH (p := P_width b k n d l) (by kernel_rfl) (p_width b k n d l)⟩
  · cases h
abbrev T_starts : Tab := []
theorem T_starts_ok : TOk Tryd.prog T_starts := trivial
theorem ok_starts : FnOk Tryd.prog 45 (CE.pu c_starts).con := fnPuR T_starts c_starts L_ok T_starts_ok mixed Tryd.func45 (by kernel_rfl) (by kernel_rfl) fun args cs r h hcs => by
  unfold c_starts at h
  split at h
  · rename_i l
    injection h with h; injection h with h1 h2; subst h1 h2
    exact ⟨[0, 2, 3, 4, 5, 6, 10, 15, 28, 29], (fun i σ => if i = 3 then some { X := Nat, inv := fun x => x ≤ l.length, m := fun x => l.length - x, s := fun x => [(4, .t (I x)), (3, .t (I (dist (startsW (l.take x))).length))] } else some { X := Nat, inv := fun y => y ≤ (dI (slD σ 4)).toNat, m := fun y => (dI (slD σ 4)).toNat - y, s := fun y => [(6, .t (I y)), (5, .t (B (!decide (startW (List.getD (α := Wr) l (dI (slD σ 4)).toNat wr0) ∈ startsW (l.take y)))))] }), (fun _ _ => none), rfl, rfl, rfl, castH (p := P_starts l) (by kernel_rfl) (p_starts l)⟩
  · cases h
abbrev T_widths : Tab := [(46, .pu c_folds), (47, .pu c_areBlocks), (48, .pu c_sounds), (49, .pu c_bend), (50, .pu c_conM), (51, .pu c_width)]
theorem T_widths_ok : TOk Tryd.prog T_widths := ⟨ok_folds, ok_areBlocks, ok_sounds, ok_bend, ok_conM, ok_width, trivial⟩
theorem ok_widths : FnOk Tryd.prog 34 (CE.pu c_widths).con := fnPuR T_widths c_widths L_ok T_widths_ok mixed Tryd.func34 (by kernel_rfl) (by kernel_rfl) fun args cs r h hcs => by
  unfold c_widths at h
  split at h
  · rename_i p ms l
    injection h with h; injection h with h1 h2; subst h1 h2
    exact ⟨[0, 1, 2, 4, 5, 6, 7, 9, 17, 18, 19, 20, 21, 45, 47, 51, 63], (fun _ _ => some { X := Nat, inv := fun x => x ≤ l.length ∧ (l.take x).all (widOk ms) = true, m := fun x => l.length - x, s := fun x => [(20, .t (I x)), (7, .t (.one (.own (rm 7) (.sl (.ti .i64) ((l.take x).map (widB ms))))))], h := fun x => [(rm 7, .gr 3 1 ((l.take x).map (widB ms)).length)] }), (fun _ _ => none), rfl, rfl, rfl, castH (p := P_widths p ms l) (by kernel_rfl) (p_widths p ms l)⟩
  · cases h
abbrev T_rWidths : Tab := [(42, .pu c_rView), (43, .pu c_rBlocks), (44, .pu c_rEnd), (45, .pu c_starts)]
theorem T_rWidths_ok : TOk Tryd.prog T_rWidths := ⟨ok_rView, ok_rBlocks, ok_rEnd, ok_starts, trivial⟩
theorem ok_rWidths : FnOk Tryd.prog 32 (CE.pu c_rWidths).con := fnPuR T_rWidths c_rWidths (LV_ok [] [] true) T_rWidths_ok mixed Tryd.func32 (by kernel_rfl) (by kernel_rfl) fun args cs r h hcs => by
  unfold c_rWidths at h
  split at h
  · rename_i p ms l
    injection h with h; injection h with h1 h2; subst h1 h2
    exact ⟨[0, 1, 2, 4, 5, 6, 7, 8, 9, 10, 20, 24, 35, 47, 65, 71, 80], (fun i σ => if i = 7 then some { X := Nat, inv := fun x => x ≤ l.length ∧ (l.take x).all (widOk ms) = true, m := fun x => l.length - x, s := fun x => [(9, .t (I x)), (8, .t (.one (.own (rm 8) (.sl (.ti .i64) ((l.take x).map (widB ms))))))], h := fun x => [(rm 8, .gr 3 1 ((l.take x).map (widB ms)).length)] } else some { X := Nat, inv := fun y => y ≤ (spanB (List.getD (α := Bk) l (dI (slD σ 9)).toNat bk0)).length ∧ ∀ j, j < y → ((List.getD (α := Bk) l (dI (slD σ 9)).toNat bk0).2 > 0 ∧ soundsM (List.getD (α := Ms) ms ((List.getD (α := Bk) l (dI (slD σ 9)).toNat bk0).1.toNat + j) ms0) = true) → False, m := fun y => (spanB (List.getD (α := Bk) l (dI (slD σ 9)).toNat bk0)).length - y, s := fun y => [(10, .t (I ((List.getD (α := Bk) l (dI (slD σ 9)).toNat bk0).1 + y)))] }), (fun _ _ => none), rfl, rfl, rfl, castH (p := P_rWidths p ms l) (by kernel_rfl) (p_rWidths p ms l)⟩
  · cases h
end Go.Proofs.YtiplcokpckkopaaDoor
