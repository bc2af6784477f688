/- The functions meet their contracts. Written by a program (wip/tools/gen.py). -/
import Derived.Test.YtiplcokpckkopaaDoorFoldq
import Derived.Test.YtiplcokpckkopaaDoorMeterk
namespace Go.Proofs.YtiplcokpckkopaaDoor
open Go.Sy Go.RatLaw
set_option linter.unusedVariables false
set_option maxHeartbeats 4000000
set_option maxRecDepth 100000
set_option linter.unusedSimpArgs false

theorem ok_within : FnOk Tryd.prog 60 (CE.pu c_within).con := okP [] L_ok trivial mixed Tryd.func60 fun args cs r h hcs => by
 unfold c_within at h
 split at h; rotate_left; cases h
 rename_i a b c
 injection h with h; injection h with h1 h2; subst h1 h2
 exact puV [0, 1, 2, 6] nA nR (okV (p_within a b c) (by kernel_rfl))
theorem ok_rin : FnOk Tryd.prog 57 (CE.pu c_rin).con := okP [] L_ok trivial mixed Tryd.func57 fun args cs r h hcs => by
 unfold c_rin at h
 split at h; rotate_left; cases h
 rename_i a b c
 injection h with h; injection h with h1 h2; subst h1 h2
 exact puV [0, 1, 2, 6] nA nR (okV (p_rin a b c) (by kernel_rfl))
theorem ok_isLength : FnOk Tryd.prog 59 (CE.pu c_isLength).con := okP [(66, .pu cVld)] L_ok ⟨ok66, trivial⟩ mixed Tryd.func59 fun args cs r h hcs => by
 unfold c_isLength at h
 split at h; rotate_left; cases h
 rename_i n d
 injection h with h; injection h with h1 h2; subst h1 h2
 exact puV [0, 1, 2] nA nR (okV (p_isLength n d) (by kernel_rfl))
theorem ok_folds : FnOk Tryd.prog 46 (CE.pu c_folds).con := okP [(59, .pu c_isLength), (60, .pu c_within)] (LV_ok [] [] true) ⟨ok_isLength, ok_within, trivial⟩ mixed Tryd.func46 fun args cs r h hcs => by
 unfold c_folds at h
 split at h; rotate_left; cases h
 rename_i p ms
 injection h with h; injection h with h1 h2; subst h1 h2
 exact puV [0, 1, 2, 3, 5, 9, 11, 12, 13, 14, 31] (fun _ _ => some { X := Nat, inv := fun x => x ≤ ms.length ∧ ∀ m ∈ ms.take x, okM m = true, m := fun x => ms.length - x, s := fun x => [(13, .t (I x)), (3, .t (I (nsW (ms.take x))))] }) nR (okV (p_folds p ms) (by kernel_rfl))
theorem ok_rView : FnOk Tryd.prog 42 (CE.pu c_rView).con := okP [(57, .pu c_rin), (58, .pu c_Ticks)] (LV_ok [] [] true) ⟨ok_rin, ok_Ticks, trivial⟩ mixed Tryd.func42 fun args cs r h hcs => by
 unfold c_rView at h
 split at h; rotate_left; cases h
 rename_i p ms
 injection h with h; injection h with h1 h2; subst h1 h2
 exact puV [0, 1, 2, 3, 4, 5, 9, 14, 37] (fun _ _ => some { X := Nat, inv := fun x => x ≤ ms.length ∧ ∀ m ∈ ms.take x, okM m = true, m := fun x => ms.length - x, s := fun x => [(4, .t (I x)), (3, .t (I (nsW (ms.take x))))] }) nR (okV (p_rView p ms) (by kernel_rfl))
theorem ok_fewV : FnOk Tryd.prog 21 (CE.pu c_fewV).con := okP [] (LV_ok [] [] true) trivial mixed Tryd.func21 fun args cs r h hcs => by
 unfold c_fewV at h
 split at h; rotate_left; cases h
 rename_i p ms
 injection h with h; injection h with h1 h2; subst h1 h2
 exact puV [0, 1, 2, 3, 4, 13] (fun _ _ => some { X := Nat, inv := fun x => x ≤ ms.length ∧ x ≤ 100, m := fun x => ms.length - x, s := fun x => [(4, .t (I x)), (3, .t (I (nsW (ms.take x))))] }) nR (okV (p_fewV p ms) (by kernel_rfl))
theorem ok_bend : FnOk Tryd.prog 49 (CE.pu c_bend).con := okP [] L_ok trivial mixed Tryd.func49 fun args cs r h hcs => by
 unfold c_bend at h
 split at h; rotate_left; cases h
 rename_i f r
 injection h with h; injection h with h1 h2; subst h1 h2
 exact puV [0, 1, 2] nA nR (okV (p_bend f r (hcs _ (.head _))) (by kernel_rfl))
theorem ok_rEnd : FnOk Tryd.prog 44 (CE.pu c_rEnd).con := okP [] L_ok trivial mixed Tryd.func44 fun args cs r h hcs => by
 unfold c_rEnd at h
 split at h; rotate_left; cases h
 rename_i f r
 injection h with h; injection h with h1 h2; subst h1 h2
 exact puV [0, 1, 2] nA nR (okV (p_rEnd f r (hcs _ (.head _))) (by kernel_rfl))
theorem ok_areBlocks : FnOk Tryd.prog 47 (CE.pu c_areBlocks).con := okP [(49, .pu c_bend), (60, .pu c_within)] L_ok ⟨ok_bend, ok_within, trivial⟩ mixed Tryd.func47 fun args cs r h hcs => by
 unfold c_areBlocks at h
 split at h; rotate_left; cases h
 rename_i l
 injection h with h; injection h with h1 h2; subst h1 h2
 exact puV [0, 2, 3, 5, 6, 7, 8, 9, 27] (fun _ _ => some { X := Nat, inv := fun x => x ≤ l.length ∧ blkB l = blkFrom (lastB l x) (l.drop x) ∧ 0 ≤ lastB l x ∧ lastB l x ≤ 4000, m := fun x => l.length - x, s := fun x => [(8, .t (I x)), (3, .t (I (lastB l x)))] }) nR (okV (p_areBlocks l) (by kernel_rfl))
theorem ok_rBlocks : FnOk Tryd.prog 43 (CE.pu c_rBlocks).con := okP [(44, .pu c_rEnd), (57, .pu c_rin)] L_ok ⟨ok_rEnd, ok_rin, trivial⟩ mixed Tryd.func43 fun args cs r h hcs => by
 unfold c_rBlocks at h
 split at h; rotate_left; cases h
 rename_i l
 injection h with h; injection h with h1 h2; subst h1 h2
 exact puV [0, 2, 3, 4, 8, 42] (fun _ _ => some { X := Nat, inv := fun x => x ≤ l.length ∧ blkB l = blkFrom (lastB l x) (l.drop x) ∧ 0 ≤ lastB l x ∧ lastB l x ≤ 4000, m := fun x => l.length - x, s := fun x => [(4, .t (I x)), (3, .t (I (lastB l x)))] }) nR (okV (p_rBlocks l) (by kernel_rfl))
theorem ok_sounds : FnOk Tryd.prog 48 (CE.pu c_sounds).con := okP [] L_ok trivial mixed Tryd.func48 fun args cs r h hcs => by
 unfold c_sounds at h
 split at h; rotate_left; cases h
 rename_i b k n d l
 injection h with h; injection h with h1 h2; subst h1 h2
 exact puV [0, 1, 2] nA nR (okV (p_sounds b k n d l) (by kernel_rfl))
theorem ok_idxM : FnOk Tryd.prog 61 (CE.pu c_idxM).con := okP [(48, .pu c_sounds)] L_ok ⟨ok_sounds, trivial⟩ mixed Tryd.func61 fun args cs r h hcs => by
 unfold c_idxM at h
 split at h; rotate_left; cases h
 rename_i l
 injection h with h; injection h with h1 h2; subst h1 h2
 exact puV [0, 1, 4, 5, 7, 8, 9, 16] (fun _ _ => some { X := Nat, inv := fun x => x ≤ l.length ∧ ∀ k, k < x → soundsM (List.getD (α := Ms) l k ms0) = false, m := fun x => l.length - x, s := fun x => [(8, .t (I x))] }) nR (okV (p_idxM l) (by kernel_rfl))
theorem ok_conM : FnOk Tryd.prog 50 (CE.pu c_conM).con := okP [(61, .pu c_idxM)] L_ok ⟨ok_idxM, trivial⟩ mixed Tryd.func50 fun args cs r h hcs => by
 unfold c_conM at h
 split at h; rotate_left; cases h
 rename_i l
 injection h with h; injection h with h1 h2; subst h1 h2
 exact puV [0, 1, 4] nA nR (okV (p_conM l) (by kernel_rfl))
theorem ok_width : FnOk Tryd.prog 51 (CE.pu c_width).con := okP [] (LV_ok [] [] true) trivial mixed Tryd.func51 fun args cs r h hcs => by
 unfold c_width at h
 split at h; rotate_left; cases h
 rename_i b k n d l
 injection h with h; injection h with h1 h2; subst h1 h2
 exact puV [0, 1, 2, 3, 5, 8, 9, 10, 11, 16] (fun _ _ => some { X := Nat, inv := fun x => x ≤ l.length, m := fun x => l.length - x, s := fun x => [(10, .t (I x))], h := fun x => [(md 6, .mp KT .tb (distM (startsW (l.take x))))] }) nR (okV (p_width b k n d l) (by kernel_rfl))
theorem ok_starts : FnOk Tryd.prog 45 (CE.pu c_starts).con := okP [] L_ok trivial mixed Tryd.func45 fun args cs r h hcs => by
 unfold c_starts at h
 split at h; rotate_left; cases h
 rename_i l
 injection h with h; injection h with h1 h2; subst h1 h2
 exact puV [0, 2, 3, 4, 5, 6, 10, 15, 28, 29] (fun i σ => if i = 3 then some { X := Nat, inv := fun x => x ≤ l.length, m := fun x => l.length - x, s := fun x => [(4, .t (I x)), (3, .t (I (dist (startsW (l.take x))).length))] } else some { X := Nat, inv := fun y => y ≤ (dI (slD σ 4)).toNat, m := fun y => (dI (slD σ 4)).toNat - y, s := fun y => [(6, .t (I y)), (5, .t (B (!decide (startW (List.getD (α := Wr) l (dI (slD σ 4)).toNat wr0) ∈ startsW (l.take y)))))] }) nR (okV (p_starts l) (by kernel_rfl))
theorem ok_widths : FnOk Tryd.prog 34 (CE.pu c_widths).con := okP [(46, .pu c_folds), (47, .pu c_areBlocks), (48, .pu c_sounds), (49, .pu c_bend), (50, .pu c_conM), (51, .pu c_width)] L_ok ⟨ok_folds, ok_areBlocks, ok_sounds, ok_bend, ok_conM, ok_width, trivial⟩ mixed Tryd.func34 fun args cs r h hcs => by
 unfold c_widths at h
 split at h; rotate_left; cases h
 rename_i p ms l
 injection h with h; injection h with h1 h2; subst h1 h2
 exact puV [0, 1, 2, 4, 5, 6, 7, 9, 17, 18, 19, 20, 21, 45, 47, 51, 63] (fun _ _ => some { X := Nat, inv := fun x => x ≤ l.length ∧ (l.take x).all (widOk ms) = true, m := fun x => l.length - x, s := fun x => [(20, .t (I x)), (7, .t (.one (.own (rm 7) (.sl (.ti .i64) ((l.take x).map (widB ms))))))], h := fun x => [(rm 7, .gr 3 1 ((l.take x).map (widB ms)).length)] }) nR (okV (p_widths p ms l) (by kernel_rfl))
theorem ok_rWidths : FnOk Tryd.prog 32 (CE.pu c_rWidths).con := okP [(42, .pu c_rView), (43, .pu c_rBlocks), (44, .pu c_rEnd), (45, .pu c_starts)] (LV_ok [] [] true) ⟨ok_rView, ok_rBlocks, ok_rEnd, ok_starts, trivial⟩ mixed Tryd.func32 fun args cs r h hcs => by
 unfold c_rWidths at h
 split at h; rotate_left; cases h
 rename_i p ms l
 injection h with h; injection h with h1 h2; subst h1 h2
 exact puV [0, 1, 2, 4, 5, 6, 7, 8, 9, 10, 20, 24, 35, 47, 65, 71, 80] (fun i σ => if i = 7 then some { X := Nat, inv := fun x => x ≤ l.length ∧ (l.take x).all (widOk ms) = true, m := fun x => l.length - x, s := fun x => [(9, .t (I x)), (8, .t (.one (.own (rm 8) (.sl (.ti .i64) ((l.take x).map (widB ms))))))], h := fun x => [(rm 8, .gr 3 1 ((l.take x).map (widB ms)).length)] } else some { X := Nat, inv := fun y => y ≤ (spanB (List.getD (α := Bk) l (dI (slD σ 9)).toNat bk0)).length ∧ ∀ j, j < y → ((List.getD (α := Bk) l (dI (slD σ 9)).toNat bk0).2 > 0 ∧ soundsM (List.getD (α := Ms) ms ((List.getD (α := Bk) l (dI (slD σ 9)).toNat bk0).1.toNat + j) ms0) = true) → False, m := fun y => (spanB (List.getD (α := Bk) l (dI (slD σ 9)).toNat bk0)).length - y, s := fun y => [(10, .t (I ((List.getD (α := Bk) l (dI (slD σ 9)).toNat bk0).1 + y)))] }) nR (okV (p_rWidths p ms l) (by kernel_rfl))
end Go.Proofs.YtiplcokpckkopaaDoor
