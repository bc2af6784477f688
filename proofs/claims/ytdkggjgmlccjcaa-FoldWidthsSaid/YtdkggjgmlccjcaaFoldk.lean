/- The functions meet their contracts. Written by a program (wip/tools/gen.py). -/
import Derived.Test.YtdkggjgmlccjcaaFoldq
import Derived.Test.YtdkggjgmlccjcaaMeterk
namespace Go.Proofs.Ytdkggjgmlccjcaa
open Go.Sy Go.RatLaw
set_option linter.unusedVariables false
set_option maxHeartbeats 4000000
set_option maxRecDepth 100000
set_option linter.unusedSimpArgs false

theorem ok_within : FnOk Try.prog 25 (CE.pu c_within).con := okP [] L_ok trivial mixed Try.func25 fun args cs r h hcs => by
  unfold c_within at h
  split at h; rotate_left; cases h
  rename_i a b c
  injection h with h; injection h with h1 h2; subst h1 h2
  exact puV [0, 1, 2, 6] nA nR (okV (p_within a b c) (by kernel_rfl))
theorem ok_rin : FnOk Try.prog 30 (CE.pu c_rin).con := okP [] L_ok trivial mixed Try.func30 fun args cs r h hcs => by
  unfold c_rin at h
  split at h; rotate_left; cases h
  rename_i a b c
  injection h with h; injection h with h1 h2; subst h1 h2
  exact puV [0, 1, 2, 6] nA nR (okV (p_rin a b c) (by kernel_rfl))
theorem ok_ofM : FnOk Try.prog 41 (CE.pu c_ofM).con := okP [] L_ok trivial mixed Try.func41 fun args cs r h hcs => by
  unfold c_ofM at h
  split at h; rotate_left; cases h
  rename_i b k n d l
  injection h with h; injection h with h1 h2; subst h1 h2
  exact puV [0, 1, 2, 11] nA nR (okV (p_ofM b k n d l) (by kernel_rfl))
theorem ok_isLength : FnOk Try.prog 38 (CE.pu c_isLength).con := okP [(44, .pu cVld)] L_ok ⟨ok44, trivial⟩ mixed Try.func38 fun args cs r h hcs => by
  unfold c_isLength at h
  split at h; rotate_left; cases h
  rename_i n d
  injection h with h; injection h with h1 h2; subst h1 h2
  exact puV [0, 1, 2] nA nR (okV (p_isLength n d) (by kernel_rfl))
theorem ok_folds : FnOk Try.prog 26 (CE.pu c_folds).con := okP [(25, .pu c_within), (38, .pu c_isLength)] (LV_ok [] [] true) ⟨ok_within, ok_isLength, trivial⟩ mixed Try.func26 fun args cs r h hcs => by
  unfold c_folds at h
  split at h; rotate_left; cases h
  rename_i p ms
  injection h with h; injection h with h1 h2; subst h1 h2
  exact puV [0, 1, 2, 3, 5, 9, 11, 12, 13, 14, 31] (fun _ _ => some { X := Nat, inv := fun x => x ≤ ms.length ∧ ∀ m ∈ ms.take x, okM m = true, m := fun x => ms.length - x, s := fun x => [(13, .t (I x)), (3, .t (I (nsW (ms.take x))))] }) nR (okV (p_folds p ms) (by kernel_rfl))
theorem ok_rView : FnOk Try.prog 29 (CE.pu c_rView).con := okP [(30, .pu c_rin), (42, .pu c_Ticks)] (LV_ok [] [] true) ⟨ok_rin, ok_Ticks, trivial⟩ mixed Try.func29 fun args cs r h hcs => by
  unfold c_rView at h
  split at h; rotate_left; cases h
  rename_i p ms
  injection h with h; injection h with h1 h2; subst h1 h2
  exact puV [0, 1, 2, 3, 4, 5, 9, 14, 37] (fun _ _ => some { X := Nat, inv := fun x => x ≤ ms.length ∧ ∀ m ∈ ms.take x, okM m = true, m := fun x => ms.length - x, s := fun x => [(4, .t (I x)), (3, .t (I (nsW (ms.take x))))] }) nR (okV (p_rView p ms) (by kernel_rfl))
theorem ok_fewV : FnOk Try.prog 10 (CE.pu c_fewV).con := okP [] (LV_ok [] [] true) trivial mixed Try.func10 fun args cs r h hcs => by
  unfold c_fewV at h
  split at h; rotate_left; cases h
  rename_i p ms
  injection h with h; injection h with h1 h2; subst h1 h2
  exact puV [0, 1, 2, 3, 4, 13] (fun _ _ => some { X := Nat, inv := fun x => x ≤ ms.length ∧ x ≤ 100, m := fun x => ms.length - x, s := fun x => [(4, .t (I x)), (3, .t (I (nsW (ms.take x))))] }) nR (okV (p_fewV p ms) (by kernel_rfl))
theorem ok_bend : FnOk Try.prog 32 (CE.pu c_bend).con := okP [] L_ok trivial mixed Try.func32 fun args cs r h hcs => by
  unfold c_bend at h
  split at h; rotate_left; cases h
  rename_i f r
  injection h with h; injection h with h1 h2; subst h1 h2
  exact puV [0, 1, 2] nA nR (okV (p_bend f r (hcs _ (.head _))) (by kernel_rfl))
theorem ok_rEnd : FnOk Try.prog 34 (CE.pu c_rEnd).con := okP [] L_ok trivial mixed Try.func34 fun args cs r h hcs => by
  unfold c_rEnd at h
  split at h; rotate_left; cases h
  rename_i f r
  injection h with h; injection h with h1 h2; subst h1 h2
  exact puV [0, 1, 2] nA nR (okV (p_rEnd f r (hcs _ (.head _))) (by kernel_rfl))
theorem ok_areBlocks : FnOk Try.prog 31 (CE.pu c_areBlocks).con := okP [(25, .pu c_within), (32, .pu c_bend)] L_ok ⟨ok_within, ok_bend, trivial⟩ mixed Try.func31 fun args cs r h hcs => by
  unfold c_areBlocks at h
  split at h; rotate_left; cases h
  rename_i l
  injection h with h; injection h with h1 h2; subst h1 h2
  exact puV [0, 2, 3, 5, 6, 7, 8, 9, 27] (fun _ _ => some { X := Nat, inv := fun x => x ≤ l.length ∧ blkB l = blkFrom (lastB l x) (l.drop x) ∧ 0 ≤ lastB l x ∧ lastB l x ≤ 4000, m := fun x => l.length - x, s := fun x => [(8, .t (I x)), (3, .t (I (lastB l x)))] }) nR (okV (p_areBlocks l) (by kernel_rfl))
theorem ok_rBlocks : FnOk Try.prog 33 (CE.pu c_rBlocks).con := okP [(30, .pu c_rin), (34, .pu c_rEnd)] L_ok ⟨ok_rin, ok_rEnd, trivial⟩ mixed Try.func33 fun args cs r h hcs => by
  unfold c_rBlocks at h
  split at h; rotate_left; cases h
  rename_i l
  injection h with h; injection h with h1 h2; subst h1 h2
  exact puV [0, 2, 3, 4, 8, 42] (fun _ _ => some { X := Nat, inv := fun x => x ≤ l.length ∧ blkB l = blkFrom (lastB l x) (l.drop x) ∧ 0 ≤ lastB l x ∧ lastB l x ≤ 4000, m := fun x => l.length - x, s := fun x => [(4, .t (I x)), (3, .t (I (lastB l x)))] }) nR (okV (p_rBlocks l) (by kernel_rfl))
theorem ok_hasI : FnOk Try.prog 21 (CE.pu c_hasI).con := okP [] L_ok trivial mixed Try.func21 fun args cs r h hcs => by
  unfold c_hasI at h
  split at h; rotate_left; cases h
  rename_i l n
  injection h with h; injection h with h1 h2; subst h1 h2
  exact puV [0, 1, 4, 5, 9, 17] (fun _ _ => some { X := Nat, inv := fun x => x ≤ l.length ∧ n ∉ l.take x, m := fun x => l.length - x, s := fun x => [(5, .t (I x))] }) nR (okV (p_hasI l n) (by kernel_rfl))
theorem ok_joins : FnOk Try.prog 20 (CE.pu c_joins).con := okP [] L_ok trivial mixed Try.func20 fun args cs r h hcs => by
  unfold c_joins at h
  split at h; rotate_left; cases h
  rename_i b k n d l b' k' n' d' l'
  injection h with h; injection h with h1 h2; subst h1 h2
  exact puV [0, 1, 2, 3, 4] nA nR (okV (p_joins b k n d l b' k' n' d' l') (by kernel_rfl))
abbrev T_wrong : Tab := [(25, .pu c_within)]
theorem T_wrong_ok : TOk Try.prog T_wrong := ⟨ok_within, trivial⟩
noncomputable abbrev V_wrong (n q : Int) (ms : List Ms) : VC := vcGe L T_wrong Try.f24 [0, 1, 3] (fun _ _ => none) [I n, .one (.ptr 2000 0)] [(2000, .cells [li .i64 q, .d (.sl MT ms)])] (.t (B (wrongS ms n))) [(2000, .cells [li .i64 q, .d (.sl MT ms)])]
theorem v_wrong (n q : Int) (ms : List Ms) : (V_wrong n q ms).holds = P_wrong n q ms := by kernel_rfl
theorem ok_wrong : FnOk Try.prog 24 (CE.gen c_wrong).con := fnGe T_wrong c_wrong L_ok T_wrong_ok mixed Try.func24 (by kernel_rfl) (by kernel_rfl) fun args hp fr cs r up h hcs => by
  unfold c_wrong at h
  split at h
  · rename_i n p
    split at h
    · rename_i q ms hpp
      injection h with h; injection h with h1 h2; injection h2 with h2 h3; subst h1 h2 h3
      exact ⟨[0, 1, 3], nA, nR, [(2000, p)], [], [I n, .one (.ptr 2000 0)], [(2000, .cells [li .i64 q, .d (.sl MT ms)])], _, _,
        Meets.reads1 p [I n, .one (.ptr 2000 0)] (.cells [li .i64 q, .d (.sl MT ms)]) (.t (B (wrongS ms n))) hpp rfl rfl rfl rfl rfl rfl (castH (v_wrong n q ms) (p_wrong n q ms))⟩
    · cases h
  · cases h
abbrev T_idxI : Tab := [(24, .gen c_wrong)]
theorem T_idxI_ok : TOk Try.prog T_idxI := ⟨ok_wrong, trivial⟩
noncomputable abbrev V_idxI (l : List Int) (q : Int) (ms : List Ms) : VC := vcGe L T_idxI Try.f39 [0, 1, 4, 5, 7, 8, 9, 16] (fun _ _ => some { X := Nat, inv := fun x => x ≤ l.length ∧ ∀ k, k < x → wrongS ms (List.getD (α := Int) l k 0) = false, m := fun x => l.length - x, s := fun x => [(8, .t (I x))] }) [LI l, .one (.clo 24 [] [(2000, 0)])] [(2000, .cells [li .i64 q, .d (.sl MT ms)])] (.t (I (idxOf (wrongS ms) l))) [(2000, .cells [li .i64 q, .d (.sl MT ms)])]
theorem v_idxI (l : List Int) (q : Int) (ms : List Ms) : (V_idxI l q ms).holds = P_idxI l q ms := by kernel_rfl
theorem ok_idxI : FnOk Try.prog 39 (CE.gen c_idxI).con := fnGe T_idxI c_idxI L_ok T_idxI_ok mixed Try.func39 (by kernel_rfl) (by kernel_rfl) fun args hp fr cs r up h hcs => by
  unfold c_idxI at h
  split at h
  · rename_i l p
    split at h
    · rename_i q ms hpp
      injection h with h; injection h with h1 h2; injection h2 with h2 h3; subst h1 h2 h3
      exact ⟨[0, 1, 4, 5, 7, 8, 9, 16], (fun _ _ => some { X := Nat, inv := fun x => x ≤ l.length ∧ ∀ k, k < x → wrongS ms (List.getD (α := Int) l k 0) = false, m := fun x => l.length - x, s := fun x => [(8, .t (I x))] }), nR, [(2000, p)], [], [LI l, .one (.clo 24 [] [(2000, 0)])], [(2000, .cells [li .i64 q, .d (.sl MT ms)])], _, _,
        Meets.reads1 p [LI l, .one (.clo 24 [] [(2000, 0)])] (.cells [li .i64 q, .d (.sl MT ms)]) (.t (I (idxOf (wrongS ms) l))) hpp rfl rfl rfl rfl rfl rfl (castH (v_idxI l q ms) (p_idxI l q ms))⟩
    · cases h
  · cases h
abbrev T_conI : Tab := [(39, .gen c_idxI)]
theorem T_conI_ok : TOk Try.prog T_conI := ⟨ok_idxI, trivial⟩
noncomputable abbrev V_conI (l : List Int) (q : Int) (ms : List Ms) : VC := vcGe L T_conI Try.f27 [0, 1, 4] (fun _ _ => none) [LI l, .one (.clo 24 [] [(2000, 0)])] [(2000, .cells [li .i64 q, .d (.sl MT ms)])] (.t (B (l.any (wrongS ms)))) [(2000, .cells [li .i64 q, .d (.sl MT ms)])]
theorem v_conI (l : List Int) (q : Int) (ms : List Ms) : (V_conI l q ms).holds = P_conI l q ms := by kernel_rfl
theorem ok_conI : FnOk Try.prog 27 (CE.gen c_conI).con := fnGe T_conI c_conI L_ok T_conI_ok mixed Try.func27 (by kernel_rfl) (by kernel_rfl) fun args hp fr cs r up h hcs => by
  unfold c_conI at h
  split at h
  · rename_i l p
    split at h
    · rename_i q ms hpp
      injection h with h; injection h with h1 h2; injection h2 with h2 h3; subst h1 h2 h3
      exact ⟨[0, 1, 4], nA, nR, [(2000, p)], [], [LI l, .one (.clo 24 [] [(2000, 0)])], [(2000, .cells [li .i64 q, .d (.sl MT ms)])], _, _,
        Meets.reads1 p [LI l, .one (.clo 24 [] [(2000, 0)])] (.cells [li .i64 q, .d (.sl MT ms)]) (.t (B (l.any (wrongS ms)))) hpp rfl rfl rfl rfl rfl rfl (castH (v_conI l q ms) (p_conI l q ms))⟩
    · cases h
  · cases h
theorem ok_sounds : FnOk Try.prog 35 (CE.pu c_sounds).con := okP [] L_ok trivial mixed Try.func35 fun args cs r h hcs => by
  unfold c_sounds at h
  split at h; rotate_left; cases h
  rename_i b k n d l
  injection h with h; injection h with h1 h2; subst h1 h2
  exact puV [0, 1, 2] nA nR (okV (p_sounds b k n d l) (by kernel_rfl))
theorem ok_idxM : FnOk Try.prog 43 (CE.pu c_idxM).con := okP [(35, .pu c_sounds)] L_ok ⟨ok_sounds, trivial⟩ mixed Try.func43 fun args cs r h hcs => by
  unfold c_idxM at h
  split at h; rotate_left; cases h
  rename_i l
  injection h with h; injection h with h1 h2; subst h1 h2
  exact puV [0, 1, 4, 5, 7, 8, 9, 16] (fun _ _ => some { X := Nat, inv := fun x => x ≤ l.length ∧ ∀ k, k < x → soundsM (List.getD (α := Ms) l k ms0) = false, m := fun x => l.length - x, s := fun x => [(8, .t (I x))] }) nR (okV (p_idxM l) (by kernel_rfl))
theorem ok_conM : FnOk Try.prog 36 (CE.pu c_conM).con := okP [(43, .pu c_idxM)] L_ok ⟨ok_idxM, trivial⟩ mixed Try.func36 fun args cs r h hcs => by
  unfold c_conM at h
  split at h; rotate_left; cases h
  rename_i l
  injection h with h; injection h with h1 h2; subst h1 h2
  exact puV [0, 1, 4] nA nR (okV (p_conM l) (by kernel_rfl))
theorem ok_same : FnOk Try.prog 13 (CE.pu c_same).con := okP [] L_ok trivial mixed Try.func13 fun args cs r h hcs => by
  unfold c_same at h
  split at h; rotate_left; cases h
  rename_i l m
  injection h with h; injection h with h1 h2; subst h1 h2
  exact puV [0, 1, 4, 5, 10, 14, 25] (fun _ _ => some { X := Nat, inv := fun x => x ≤ l.length ∧ l.take x = m.take x, m := fun x => l.length - x, s := fun x => [(5, .t (I x))] }) nR (okV (p_same l m) (by kernel_rfl))
theorem ok_sameI : FnOk Try.prog 16 (CE.pu c_sameI).con := okP [] L_ok trivial mixed Try.func16 fun args cs r h hcs => by
  unfold c_sameI at h
  split at h; rotate_left; cases h
  rename_i l m
  injection h with h; injection h with h1 h2; subst h1 h2
  exact puV [0, 1, 4, 5, 10, 14, 25] (fun _ _ => some { X := Nat, inv := fun x => x ≤ l.length ∧ l.take x = m.take x, m := fun x => l.length - x, s := fun x => [(5, .t (I x))] }) nR (okV (p_sameI l m) (by kernel_rfl))
theorem ok_unfold : FnOk Try.prog 14 (CE.pu c_unfold).con := okP [(31, .pu c_areBlocks), (32, .pu c_bend)] L_ok ⟨ok_areBlocks, ok_bend, trivial⟩ mixed Try.func14 fun args cs r h hcs => by
  unfold c_unfold at h
  split at h; rotate_left; cases h
  rename_i l
  injection h with h; injection h with h1 h2; subst h1 h2
  exact puV [0, 2, 3, 4, 6, 7, 10, 11, 12, 13, 14, 22] (fun i σ => if i = 5 then some { X := Nat, inv := fun x => x ≤ l.length, m := fun x => l.length - x, s := fun x => [(13, .t (I x)), (4, .t (.one (.own (rm 4) (.sl (.ti .i64) (unfB (l.take x))))))], h := fun x => [(rm 4, .gr 3 1 (unfB (l.take x)).length)] } else some { X := Nat, inv := fun y => y ≤ (spanB (List.getD (α := Bk) l (dI (slD σ 13)).toNat bk0)).length, m := fun y => (spanB (List.getD (α := Bk) l (dI (slD σ 13)).toNat bk0)).length - y, s := fun y => [(7, .t (I ((List.getD (α := Bk) l (dI (slD σ 13)).toNat bk0).1 + y))), (4, .t (.one (.own (rm 4) (.sl (.ti .i64) (unfB (l.take (dI (slD σ 13)).toNat) ++ (spanB (List.getD (α := Bk) l (dI (slD σ 13)).toNat bk0)).take y)))))], h := fun y => [(rm 4, .gr 3 1 (unfB (l.take (dI (slD σ 13)).toNat) ++ (spanB (List.getD (α := Bk) l (dI (slD σ 13)).toNat bk0)).take y).length)] }) nR (okV (p_unfold l) (by kernel_rfl))
abbrev T_blocks1 : Tab := [(41, .pu c_ofM)]
theorem T_blocks1_ok : TOk Try.prog T_blocks1 := ⟨ok_ofM, trivial⟩
noncomputable abbrev V_blocks1 (q : Int) (ms : List Ms) (l : List (Int × Bool)) (go : Lp (Bk × Unit)) : VC := vcGe L T_blocks1 Try.f40 [0, 1, 2, 4, 5, 6, 7, 13, 22, 27, 50, 60] (fun i σ => if i = 2 then some { X := Nat, inv := fun x => x ≤ ms.length ∧ (x < ms.length → opensB ms (getM l) x = true), m := fun x => ms.length - x, s := fun x => [(5, .t (I x))], h := fun x => [(2000, .ob sgK (histB (foldTo ms (getM l) x)) go)] } else some { X := Nat, inv := fun y => runB ms (getM l) (dI (slD σ 5)).toNat y, m := fun y => ms.length - y, s := fun y => [(7, .t (I y))] }) [.one (.yl 2000), .one (.ptr 2001 0), .one (.ptr 2002 0)] [(2000, .ob sgK [] go), (2001, .cells [li .i64 q, .d (.sl MT ms)]), (2002, .cells [.mp 2003]), (2003, .mp (.ti .i64) .tb l)] (.tup []) [(2000, .ob sgK (histB (foldTo ms (getM l) ms.length)) go), (2001, .cells [li .i64 q, .d (.sl MT ms)]), (2002, .cells [.mp 2003]), (2003, .mp (.ti .i64) .tb l)]
theorem v_blocks1 (q : Int) (ms : List Ms) (l : List (Int × Bool)) (go : Lp (Bk × Unit)) : (V_blocks1 q ms l go).holds = P_blocks1 q ms l go := by kernel_rfl
theorem ok_blocks1 : FnOk Try.prog 40 (CE.gen c_blocks1).con := fnGe T_blocks1 c_blocks1 L_ok T_blocks1_ok mixed Try.func40 (by kernel_rfl) (by kernel_rfl) fun args hp fr cs r up h hcs => by
  unfold c_blocks1 at h
  split at h
  · rename_i m v s
    split at h
    · rename_i go q ms a hm hv hs
      split at h
      · rename_i l ha
        injection h with h; injection h with h1 h2; injection h2 with h2 h3; subst h1 h2 h3
        have e1 : m ≠ v := fun e => by subst e; rw [hm] at hv; cases hv
        have e2 : m ≠ s := fun e => by subst e; rw [hm] at hs; cases hs
        have e3 : m ≠ a := fun e => by subst e; rw [hm] at ha; cases ha
        have e4 : v ≠ s := fun e => by subst e; rw [hv] at hs; cases hs
        have e5 : v ≠ a := fun e => by subst e; rw [hv] at ha; cases ha
        have e6 : s ≠ a := fun e => by subst e; rw [hs] at ha; cases ha
        exact ⟨[0, 1, 2, 4, 5, 6, 7, 13, 22, 27, 50, 60], (fun i σ => if i = 2 then some { X := Nat, inv := fun x => x ≤ ms.length ∧ (x < ms.length → opensB ms (getM l) x = true), m := fun x => ms.length - x, s := fun x => [(5, .t (I x))], h := fun x => [(2000, .ob sgK (histB (foldTo ms (getM l) x)) go)] } else some { X := Nat, inv := fun y => runB ms (getM l) (dI (slD σ 5)).toNat y, m := fun y => ms.length - y, s := fun y => [(7, .t (I y))] }), nR, [(2000, m), (2001, v), (2002, s), (2003, a)], [], [.one (.yl 2000), .one (.ptr 2001 0), .one (.ptr 2002 0)], [(2000, .ob sgK [] go), (2001, .cells [li .i64 q, .d (.sl MT ms)]), (2002, .cells [.mp 2003]), (2003, .mp (.ti .i64) .tb l)], .tup [], [(2000, .ob sgK (histB (foldTo ms (getM l) ms.length)) go), (2001, .cells [li .i64 q, .d (.sl MT ms)]), (2002, .cells [.mp 2003]), (2003, .mp (.ti .i64) .tb l)],
          Meets.of [(2000, m), (2001, v), (2002, s), (2003, a)] [] _ _ _ _ (by simp) (by simp [e1, e2, e3, e4, e5, e6]) rfl rfl
          (by simp only [List.forall_mem_cons]; exact ⟨⟨_, rfl, hm⟩, ⟨_, rfl, hv⟩, ⟨_, rfl, hs⟩, ⟨_, rfl, ha⟩, fun _ h => by cases h⟩) (fun q hq => by cases hq)
          (by simp only [List.append_nil, List.forall_mem_cons]; refine ⟨fun o ho => ?_, fun o ho => ?_, fun o ho => ?_, fun o ho => ?_, fun _ h => by cases h⟩ <;> injection ho with ho <;> subst ho
              · exact upd1 _ _ _
              · rw [upd1_ne _ _ _ (Ne.symm e1)]; exact hv
              · rw [upd1_ne _ _ _ (Ne.symm e2)]; exact hs
              · rw [upd1_ne _ _ _ (Ne.symm e3)]; exact ha)
          (by simp) rfl rfl rfl rfl rfl rfl rfl (castH (v_blocks1 q ms l go) (p_blocks1 q ms l go (hcs _ (.head _)).1 (hcs _ (.head _)).2.1 (hcs _ (.head _)).2.2))⟩
      · cases h
    · cases h
  · cases h
abbrev T_blocks : Tab := [(40, .gen c_blocks1)]
theorem T_blocks_ok : TOk Try.prog T_blocks := ⟨ok_blocks1, trivial⟩
noncomputable abbrev V_blocks (p : Int) (ms : List Ms) (l : List (Int × Bool)) : VC := vcGe L T_blocks Try.f28 [0, 1, 2, 3, 4] (fun _ _ => none) [V p ms, .one (.mp 2000)] [(2000, .mp (.ti .i64) .tb l)] (.t (.one (.clo 40 [] [(2, 0), (3, 0)]))) [(2000, .mp (.ti .i64) .tb l), (2, .cells [li .i64 p, .d (.sl MT ms)]), (3, .cells [.mp 2000])]
theorem v_blocks (p : Int) (ms : List Ms) (l : List (Int × Bool)) : (V_blocks p ms l).holds = P_blocks p ms l := by kernel_rfl
theorem ok_blocks : FnOk Try.prog 28 (CE.gen c_blocks).con := fnGe T_blocks c_blocks L_ok T_blocks_ok mixed Try.func28 (by kernel_rfl) (by kernel_rfl) fun args hp fr cs r up h hcs => by
  unfold c_blocks at h
  split at h
  · rename_i p ms a
    split at h
    · rename_i l ha hf hf1
      injection h with h; injection h with h1 h2; injection h2 with h2 h3; subst h1 h2 h3
      have e1 : a ≠ fr := fun e => by rw [e, hf] at ha; cases ha
      have e2 : a ≠ fr + 1 := fun e => by rw [e, hf1] at ha; cases ha
      have e3 : fr ≠ fr + 1 := by omega
      exact ⟨[0, 1, 2, 3, 4], nA, nR, [(2000, a)], [(2, fr), (3, fr + 1)], [V p ms, .one (.mp 2000)], [(2000, .mp (.ti .i64) .tb l)], .t (.one (.clo 40 [] [(2, 0), (3, 0)])), [(2000, .mp (.ti .i64) .tb l), (2, .cells [li .i64 p, .d (.sl MT ms)]), (3, .cells [.mp 2000])],
        Meets.of [(2000, a)] [(2, fr), (3, fr + 1)] _ _ _ _ (by simp) (by simp [e1, e2]) rfl rfl
        (by simp only [List.forall_mem_cons]; exact ⟨⟨_, rfl, ha⟩, fun _ h => by cases h⟩)
        (by simp only [List.forall_mem_cons]; exact ⟨hf, hf1, fun _ h => by cases h⟩)
        (by simp only [List.cons_append, List.nil_append, List.forall_mem_cons]; refine ⟨fun o ho => ?_, fun o ho => ?_, fun o ho => ?_, fun _ h => by cases h⟩ <;> injection ho with ho <;> subst ho
            · rw [upd2n _ _ _ e1 e2]; exact ha
            · exact upd2a _ _ _ e3
            · exact upd2b _ _ _ _ _)
        (by simp) rfl rfl rfl rfl rfl rfl rfl (castH (v_blocks p ms l) (p_blocks p ms l))⟩
    · cases h
  · cases h
theorem ok_fold : FnOk Try.prog 11 (CE.pu c_fold).con := okP [(24, .gen c_wrong), (26, .pu c_folds), (27, .gen c_conI), (28, .gen c_blocks), (40, .gen c_blocks1)] L_ok ⟨ok_wrong, ok_folds, ok_conI, ok_blocks, ok_blocks1, trivial⟩ mixed Try.func11 fun args cs r h hcs => by
  unfold c_fold at h
  split at h; rotate_left; cases h
  rename_i p ms st
  injection h with h; injection h with h1 h2; subst h1 h2
  exact puV [0, 1, 2, 4, 5, 6, 7, 9, 10, 11, 13, 17, 21, 26, 27, 28, 29, 33, 37, 38, 42] (fun _ _ => some { X := Nat, inv := fun x => x ≤ st.length, m := fun x => st.length - x, s := fun x => [(28, .t (I x))], h := fun x => [(md 25, .mp (.ti .i64) .tb (stopsM (st.take x)))] }) (fun _ _ => some { sg := sgK, go := goF, h := fun hist => [(10, .cells [.own (rm 10) (.sl KT (unH hist))]), (rm 10, .gr 42 2 hist.length)], js := [] }) (okV (p_fold p ms st) (by kernel_rfl))
theorem ok_rUnfold : FnOk Try.prog 15 (CE.pu c_rUnfold).con := okP [(33, .pu c_rBlocks), (34, .pu c_rEnd)] L_ok ⟨ok_rBlocks, ok_rEnd, trivial⟩ mixed Try.func15 fun args cs r h hcs => by
  unfold c_rUnfold at h
  split at h; rotate_left; cases h
  rename_i l
  injection h with h; injection h with h1 h2; subst h1 h2
  exact puV [0, 2, 3, 4, 5, 6, 7, 11, 15, 29] (fun i σ => if i = 6 then some { X := Nat, inv := fun x => x ≤ l.length, m := fun x => l.length - x, s := fun x => [(6, .t (I x)), (5, .t (.one (.own (rm 5) (.sl (.ti .i64) (unfB (l.take x))))))], h := fun x => [(rm 5, .gr 3 1 (unfB (l.take x)).length)] } else some { X := Nat, inv := fun y => y ≤ (spanB (List.getD (α := Bk) l (dI (slD σ 6)).toNat bk0)).length, m := fun y => (spanB (List.getD (α := Bk) l (dI (slD σ 6)).toNat bk0)).length - y, s := fun y => [(7, .t (I ((List.getD (α := Bk) l (dI (slD σ 6)).toNat bk0).1 + y))), (5, .t (.one (.own (rm 5) (.sl (.ti .i64) (unfB (l.take (dI (slD σ 6)).toNat) ++ (spanB (List.getD (α := Bk) l (dI (slD σ 6)).toNat bk0)).take y)))))], h := fun y => [(rm 5, .gr 3 1 (unfB (l.take (dI (slD σ 6)).toNat) ++ (spanB (List.getD (α := Bk) l (dI (slD σ 6)).toNat bk0)).take y).length)] }) nR (okV (p_rUnfold l) (by kernel_rfl))
theorem ok_rFold : FnOk Try.prog 12 (CE.pu c_rFold).con := okP [(20, .pu c_joins), (21, .pu c_hasI), (29, .pu c_rView), (30, .pu c_rin)] (LV_ok [] [42, 1000004, 1000054, 1000093] false) ⟨ok_joins, ok_hasI, ok_rView, ok_rin, trivial⟩ mixed Try.func12 fun args cs r h hcs => by
  unfold c_rFold at h
  split at h; rotate_left; cases h
  rename_i p ms st
  injection h with h; injection h with h1 h2; subst h1 h2
  exact puV [0, 1, 2, 4, 5, 6, 7, 8, 9, 10, 14, 17, 21, 33, 38, 50, 77, 89] (fun i _ => if i = 7 then some { X := Nat, inv := fun x => x ≤ st.length ∧ ∀ k, k < x → wrongS ms (List.getD (α := Int) st k 0) = false, m := fun x => st.length - x, s := fun x => [(7, .t (I x))] } else some { X := Nat, inv := fun x => x ≤ ms.length, m := fun x => ms.length - x, s := fun x => [(9, .t (I x)), (8, .t (.one (.vr (rm 8) (foldTo ms (inL st) x).length)))], h := fun x => [(rm 8, .vec KT 42 (foldTo ms (inL st) x))] }) nR (okV (p_rFold p ms st) (by kernel_rfl))
theorem ok_width : FnOk Try.prog 37 (CE.pu c_width).con := okP [] (LV_ok [] [] true) trivial mixed Try.func37 fun args cs r h hcs => by
  unfold c_width at h
  split at h; rotate_left; cases h
  rename_i b k n d l
  injection h with h; injection h with h1 h2; subst h1 h2
  exact puV [0, 1, 2, 3, 5, 8, 9, 10, 11, 16] (fun _ _ => some { X := Nat, inv := fun x => x ≤ l.length, m := fun x => l.length - x, s := fun x => [(10, .t (I x))], h := fun x => [(md 6, .mp KT .tb (distM (startsW (l.take x))))] }) nR (okV (p_width b k n d l) (by kernel_rfl))
theorem ok_starts : FnOk Try.prog 22 (CE.pu c_starts).con := okP [] L_ok trivial mixed Try.func22 fun args cs r h hcs => by
  unfold c_starts at h
  split at h; rotate_left; cases h
  rename_i l
  injection h with h; injection h with h1 h2; subst h1 h2
  exact puV [0, 2, 3, 4, 5, 6, 10, 15, 28, 29] (fun i σ => if i = 3 then some { X := Nat, inv := fun x => x ≤ l.length, m := fun x => l.length - x, s := fun x => [(4, .t (I x)), (3, .t (I (dist (startsW (l.take x))).length))] } else some { X := Nat, inv := fun y => y ≤ (dI (slD σ 4)).toNat, m := fun y => (dI (slD σ 4)).toNat - y, s := fun y => [(6, .t (I y)), (5, .t (B (!decide (startW (List.getD (α := Wr) l (dI (slD σ 4)).toNat wr0) ∈ startsW (l.take y)))))] }) nR (okV (p_starts l) (by kernel_rfl))
theorem ok_widths : FnOk Try.prog 17 (CE.pu c_widths).con := okP [(26, .pu c_folds), (31, .pu c_areBlocks), (32, .pu c_bend), (35, .pu c_sounds), (36, .pu c_conM), (37, .pu c_width)] L_ok ⟨ok_folds, ok_areBlocks, ok_bend, ok_sounds, ok_conM, ok_width, trivial⟩ mixed Try.func17 fun args cs r h hcs => by
  unfold c_widths at h
  split at h; rotate_left; cases h
  rename_i p ms l
  injection h with h; injection h with h1 h2; subst h1 h2
  exact puV [0, 1, 2, 4, 5, 6, 7, 9, 17, 18, 19, 20, 21, 45, 47, 51, 63] (fun _ _ => some { X := Nat, inv := fun x => x ≤ l.length ∧ (l.take x).all (widOk ms) = true, m := fun x => l.length - x, s := fun x => [(20, .t (I x)), (7, .t (.one (.own (rm 7) (.sl (.ti .i64) ((l.take x).map (widB ms))))))], h := fun x => [(rm 7, .gr 3 1 ((l.take x).map (widB ms)).length)] }) nR (okV (p_widths p ms l) (by kernel_rfl))
theorem ok_rWidths : FnOk Try.prog 18 (CE.pu c_rWidths).con := okP [(22, .pu c_starts), (29, .pu c_rView), (33, .pu c_rBlocks), (34, .pu c_rEnd)] (LV_ok [] [] true) ⟨ok_starts, ok_rView, ok_rBlocks, ok_rEnd, trivial⟩ mixed Try.func18 fun args cs r h hcs => by
  unfold c_rWidths at h
  split at h; rotate_left; cases h
  rename_i p ms l
  injection h with h; injection h with h1 h2; subst h1 h2
  exact puV [0, 1, 2, 4, 5, 6, 7, 8, 9, 10, 20, 24, 35, 47, 65, 71, 80] (fun i σ => if i = 7 then some { X := Nat, inv := fun x => x ≤ l.length ∧ (l.take x).all (widOk ms) = true, m := fun x => l.length - x, s := fun x => [(9, .t (I x)), (8, .t (.one (.own (rm 8) (.sl (.ti .i64) ((l.take x).map (widB ms))))))], h := fun x => [(rm 8, .gr 3 1 ((l.take x).map (widB ms)).length)] } else some { X := Nat, inv := fun y => y ≤ (spanB (List.getD (α := Bk) l (dI (slD σ 9)).toNat bk0)).length ∧ ∀ j, j < y → ((List.getD (α := Bk) l (dI (slD σ 9)).toNat bk0).2 > 0 ∧ soundsM (List.getD (α := Ms) ms ((List.getD (α := Bk) l (dI (slD σ 9)).toNat bk0).1.toNat + j) ms0) = true) → False, m := fun y => (spanB (List.getD (α := Bk) l (dI (slD σ 9)).toNat bk0)).length - y, s := fun y => [(10, .t (I ((List.getD (α := Bk) l (dI (slD σ 9)).toNat bk0).1 + y)))] }) nR (okV (p_rWidths p ms l) (by kernel_rfl))
end Go.Proofs.Ytdkggjgmlccjcaa
