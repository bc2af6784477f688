/- The functions meet their contracts. Written by a program (wip/tools/gen.py). -/
import Derived.Test.YtiplcokpckkopaaDoorPaperq
import Derived.Test.YtiplcokpckkopaaDoorMeterk
import Derived.Test.YtiplcokpckkopaaDoorFoldk
import Derived.Test.YtiplcokpckkopaaDoorDigestk
namespace Go.Proofs.YtiplcokpckkopaaDoor
open Go.Sy Go.RatLaw
set_option linter.unusedVariables false
set_option maxHeartbeats 4000000
set_option maxRecDepth 100000
set_option linter.unusedSimpArgs false

theorem ok_zrat : FnOk Tryd.prog 33 (CE.pu c_zrat).con := okP [] L_ok trivial mixed Tryd.func33 fun args cs r h hcs => by
  unfold c_zrat at h
  split at h; rotate_left; cases h
  rename_i n d
  injection h with h; injection h with h1 h2; subst h1 h2
  exact puV [0, 1, 4, 7] nA nR (okV (p_zrat n d) (by kernel_rfl))
theorem ok_zfew : FnOk Tryd.prog 9 (CE.pu c_zfew).con := okP [(21, .pu c_fewV)] L_ok ⟨ok_fewV, trivial⟩ mixed Tryd.func9 fun args cs r h hcs => by
  unfold c_zfew at h
  split at h; rotate_left; cases h
  rename_i p ms l pages
  injection h with h; injection h with h1 h2; subst h1 h2
  exact puV [0, 1, 2, 3, 6] nA nR (okV (p_zfew p ms l pages) (by kernel_rfl))
theorem ok_zid : FnOk Tryd.prog 22 (CE.pu c_zid).con := okP [] L_ok trivial mixed Tryd.func22 fun args cs r h hcs => by
  unfold c_zid at h
  split at h; rotate_left; cases h
  rename_i n
  injection h with h; injection h with h1 h2; subst h1 h2
  exact puV [0, 2] nA nR (okV (p_zid n) (by kernel_rfl))
theorem ok_zrid : FnOk Tryd.prog 25 (CE.pu c_zrid).con := okP [] L_ok trivial mixed Tryd.func25 fun args cs r h hcs => by
  unfold c_zrid at h
  split at h; rotate_left; cases h
  rename_i n
  injection h with h; injection h with h1 h2; subst h1 h2
  exact puV [0, 2] nA nR (okV (p_zrid n) (by kernel_rfl))
theorem ok_zblk : FnOk Tryd.prog 23 (CE.pu c_zblk).con := okP [(34, .pu c_widths)] L_ok ⟨ok_widths, trivial⟩ mixed Tryd.func23 fun args cs r h hcs => by
  unfold c_zblk at h
  split at h; rotate_left; cases h
  rename_i p ms l
  injection h with h; injection h with h1 h2; subst h1 h2
  exact puV [0, 1, 2, 4, 6] nA nR (okV (p_zblk p ms l) (by kernel_rfl))
theorem ok_zrblk : FnOk Tryd.prog 19 (CE.pu c_zrblk).con := okP [(32, .pu c_rWidths)] L_ok ⟨ok_rWidths, trivial⟩ mixed Tryd.func19 fun args cs r h hcs => by
  unfold c_zrblk at h
  split at h; rotate_left; cases h
  rename_i p ms l
  injection h with h; injection h with h1 h2; subst h1 h2
  exact puV [0, 1, 2, 4, 6] nA nR (okV (p_zrblk p ms l) (by kernel_rfl))
theorem ok_zpag : FnOk Tryd.prog 56 (CE.pu c_zpag).con := okP [] L_ok trivial mixed Tryd.func56 fun args cs r h hcs => by
  unfold c_zpag at h
  split at h; rotate_left; cases h
  rename_i l many
  injection h with h; injection h with h1 h2; subst h1 h2
  exact puV [0, 1, 4, 5, 7, 8, 9, 10, 11, 29] (fun _ _ => some { X := Nat, inv := fun x => x ≤ l.length ∧ pagFrom many 0 l = pagFrom many (lastP l x) (l.drop x), m := fun x => l.length - x, s := fun x => [(10, .t (I x)), (5, .t (I (lastP l x)))] }) nR (okV (p_zpag l many) (by kernel_rfl))
theorem ok_zrpag : FnOk Tryd.prog 40 (CE.pu c_zrpag).con := okP [] L_ok trivial mixed Tryd.func40 fun args cs r h hcs => by
  unfold c_zrpag at h
  split at h; rotate_left; cases h
  rename_i l many
  injection h with h; injection h with h1 h2; subst h1 h2
  exact puV [0, 1, 4, 5, 6, 10, 37] (fun _ _ => some { X := Nat, inv := fun x => x ≤ l.length ∧ pagFrom many 0 l = pagFrom many (lastP l x) (l.drop x), m := fun x => l.length - x, s := fun x => [(6, .t (I x)), (5, .t (I (lastP l x)))] }) nR (okV (p_zrpag l many) (by kernel_rfl))
theorem ok_zbad : FnOk Tryd.prog 39 (CE.pu c_zbad).con := okP [(56, .pu c_zpag)] L_ok ⟨ok_zpag, trivial⟩ mixed Tryd.func39 fun args cs r h hcs => by
  unfold c_zbad at h
  split at h; rotate_left; cases h
  rename_i l good
  injection h with h; injection h with h1 h2; subst h1 h2
  exact puV [0, 1, 4, 5, 6, 7, 8, 9, 13, 19, 20, 21, 22, 43] (fun _ _ => some { X := Nat, inv := fun x => x ≤ l.length, m := fun x => l.length - x, s := fun x => [(21, .t (I x)), (6, .t (I (cntB l good x)))] }) nR (okV (p_zbad l good) (by kernel_rfl))
theorem ok_zidx : FnOk Tryd.prog 41 (CE.pu c_zidx).con := okP [] L_ok trivial mixed Tryd.func41 fun args cs r h hcs => by
  unfold c_zidx at h
  split at h; rotate_left; cases h
  rename_i l v
  injection h with h; injection h with h1 h2; subst h1 h2
  exact puV [0, 1, 4, 5, 7, 8, 9, 16] (fun _ _ => some { X := Nat, inv := fun x => x ≤ l.length ∧ ∀ k, k < x → (v == List.getD (α := Bool) l k false) = false, m := fun x => l.length - x, s := fun x => [(8, .t (I x))] }) nR (okV (p_zidx l v) (by kernel_rfl))
theorem ok_zcon : FnOk Tryd.prog 31 (CE.pu c_zcon).con := okP [(41, .pu c_zidx)] L_ok ⟨ok_zidx, trivial⟩ mixed Tryd.func31 fun args cs r h hcs => by
  unfold c_zcon at h
  split at h; rotate_left; cases h
  rename_i l v
  injection h with h; injection h with h1 h2; subst h1 h2
  exact puV [0, 1, 4] nA nR (okV (p_zcon l v) (by kernel_rfl))
theorem ok_zlist : FnOk Tryd.prog 53 (CE.pu c_zlist).con := okP [] L_ok trivial mixed Tryd.func53 fun args cs r h hcs => by
  unfold c_zlist at h
  split at h; rotate_left; cases h
  rename_i l
  injection h with h; injection h with h1 h2; subst h1 h2
  exact puV [0, 2] nA nR (okV (p_zlist l) (by kernel_rfl))
theorem ok_zarepg : FnOk Tryd.prog 28 (CE.pu c_zarepg).con := okP [(23, .pu c_zblk), (39, .pu c_zbad)] L_ok ⟨ok_zblk, ok_zbad, trivial⟩ mixed Tryd.func28 fun args cs r h hcs => by
  unfold c_zarepg at h
  split at h; rotate_left; cases h
  rename_i p ms l pages
  injection h with h; injection h with h1 h2; subst h1 h2
  exact puV [0, 1, 2, 3, 6, 8, 12] nA nR (okV (p_zarepg p ms l pages) (by kernel_rfl))
theorem ok_zrarepg : FnOk Tryd.prog 30 (CE.pu c_zrarepg).con := okP [(19, .pu c_zrblk), (40, .pu c_zrpag)] L_ok ⟨ok_zrblk, ok_zrpag, trivial⟩ mixed Tryd.func30 fun args cs r h hcs => by
  unfold c_zrarepg at h
  split at h; rotate_left; cases h
  rename_i p ms l pages
  injection h with h; injection h with h1 h2; subst h1 h2
  exact puV [0, 1, 2, 3, 6] nA nR (okV (p_zrarepg p ms l pages) (by kernel_rfl))
theorem ok_zrlists : FnOk Tryd.prog 27 (CE.pu c_zrlists).con := okP [] L_ok trivial mixed Tryd.func27 fun args cs r h hcs => by
  unfold c_zrlists at h
  split at h; rotate_left; cases h
  rename_i p ms l f u ed ve
  injection h with h; injection h with h1 h2; subst h1 h2
  exact puV [0, 1, 2, 3, 4, 5, 7, 10, 11, 12, 13, 14, 15, 31, 74] (fun i σ => if i = 3 then some { X := Nat, inv := fun x => x ≤ (onPage l f u).length, m := fun x => (onPage l f u).length - x, s := fun x => [(12, .t (I (f + x))), (11, .t (.one (.own (rm 25) (.sl (.tl (.ti .i64)) (listsTo p ms l f u ed ve x)))))], h := fun x => [(rm 25, .gr 47 1 (listsTo p ms l f u ed ve x).length)] } else some { X := Nat, inv := fun y => y ≤ (notesM (atM ms (List.getD (α := Bk) l (dI (slD σ 12)).toNat bk0).1)).length, m := fun y => (notesM (atM ms (List.getD (α := Bk) l (dI (slD σ 12)).toNat bk0).1)).length - y, s := fun y => [(14, .t (I y)), (11, .t (.one (.own (rm 25) (.sl (.tl (.ti .i64)) (listsIn p ms l f u ed ve ((dI (slD σ 12)).toNat - f.toNat) y)))))], h := fun y => [(rm 25, .gr 47 1 (listsIn p ms l f u ed ve ((dI (slD σ 12)).toNat - f.toNat) y).length)] }) nR (okV (p_zrlists p ms l f u ed ve (hcs _ (.head _))) (by kernel_rfl))
abbrev T_zlists1 : Tab := [(53, .pu c_zlist)]
theorem T_zlists1_ok : TOk Tryd.prog T_zlists1 := ⟨ok_zlist, trivial⟩
noncomputable abbrev V_zlists1 (p : Int) (ms : List Ms) (l : List Bk) (f u ed ve : Int) (go : Lp (List Int × Unit)) : VC := vcGe L T_zlists1 Tryd.f52 [0, 1, 2, 3, 4, 5, 8, 9, 11, 12, 25, 31, 32, 33, 34, 64, 66, 67, 68, 69, 102] (fun i σ => if i = 2 then some { X := Nat, inv := fun x => x ≤ (onPage l f u).length, m := fun x => (onPage l f u).length - x, s := fun x => [(33, .t (I x))], h := fun x => [(2000, .ob sgL (hisL (listsTo p ms l f u ed ve x)) go)] } else some { X := Nat, inv := fun y => y ≤ (notesM (atM ms (List.getD (α := Bk) (onPage l f u) (dI (slD σ 33)).toNat bk0).1)).length, m := fun y => (notesM (atM ms (List.getD (α := Bk) (onPage l f u) (dI (slD σ 33)).toNat bk0).1)).length - y, s := fun y => [(68, .t (I y))], h := fun y => [(2000, .ob sgL (hisL (listsIn p ms l f u ed ve (dI (slD σ 33)).toNat y)) go)] }) [.one (.yl 2000), .one (.ptr 2001 0), .one (.ptr 2002 0), .one (.ptr 2003 0), .one (.ptr 2004 0), .one (.ptr 2005 0)] [(2000, .ob sgL [] go), (2001, .cells [li .i64 p, .d (.sl MT ms)]), (2002, .cells [li .i64 ed]), (2003, .cells [li .i64 ve]), (2004, .cells [li .i64 f, li .i64 u]), (2005, .cells [.d (.sl KT l)])] (.tup []) [(2000, .ob sgL (hisL (listsS p ms l f u ed ve)) go), (2001, .cells [li .i64 p, .d (.sl MT ms)]), (2002, .cells [li .i64 ed]), (2003, .cells [li .i64 ve]), (2004, .cells [li .i64 f, li .i64 u]), (2005, .cells [.d (.sl KT l)])]
theorem v_zlists1 (p : Int) (ms : List Ms) (l : List Bk) (f u ed ve : Int) (go : Lp (List Int × Unit)) : (V_zlists1 p ms l f u ed ve go).holds = P_zlists1 p ms l f u ed ve go := by kernel_rfl
theorem ok_zlists1 : FnOk Tryd.prog 52 (CE.gen c_zlists1).con := fnGe T_zlists1 c_zlists1 L_ok T_zlists1_ok mixed Tryd.func52 (by kernel_rfl) (by kernel_rfl) fun args hp fr cs r up h hcs => by
  unfold c_zlists1 at h
  split at h
  · rename_i m v e s q b
    split at h
    · rename_i hnd
      split at h
      · rename_i go p ms ed ve f u l hm hv he hs hq hb
        injection h with h; injection h with h1 h2; injection h2 with h2 h3; subst h1 h2 h3
        have hn := hnd
        simp only [List.nodup_cons, List.mem_cons, List.not_mem_nil, or_false, not_or] at hn
        obtain ⟨⟨e1, e2, e3, e4, e5⟩, _⟩ := hn
        exact ⟨[0, 1, 2, 3, 4, 5, 8, 9, 11, 12, 25, 31, 32, 33, 34, 64, 66, 67, 68, 69, 102], (fun i σ => if i = 2 then some { X := Nat, inv := fun x => x ≤ (onPage l f u).length, m := fun x => (onPage l f u).length - x, s := fun x => [(33, .t (I x))], h := fun x => [(2000, .ob sgL (hisL (listsTo p ms l f u ed ve x)) go)] } else some { X := Nat, inv := fun y => y ≤ (notesM (atM ms (List.getD (α := Bk) (onPage l f u) (dI (slD σ 33)).toNat bk0).1)).length, m := fun y => (notesM (atM ms (List.getD (α := Bk) (onPage l f u) (dI (slD σ 33)).toNat bk0).1)).length - y, s := fun y => [(68, .t (I y))], h := fun y => [(2000, .ob sgL (hisL (listsIn p ms l f u ed ve (dI (slD σ 33)).toNat y)) go)] }), nR, [(2000, m), (2001, v), (2002, e), (2003, s), (2004, q), (2005, b)], [], [.one (.yl 2000), .one (.ptr 2001 0), .one (.ptr 2002 0), .one (.ptr 2003 0), .one (.ptr 2004 0), .one (.ptr 2005 0)], [(2000, .ob sgL [] go), (2001, .cells [li .i64 p, .d (.sl MT ms)]), (2002, .cells [li .i64 ed]), (2003, .cells [li .i64 ve]), (2004, .cells [li .i64 f, li .i64 u]), (2005, .cells [.d (.sl KT l)])], .tup [], [(2000, .ob sgL (hisL (listsS p ms l f u ed ve)) go), (2001, .cells [li .i64 p, .d (.sl MT ms)]), (2002, .cells [li .i64 ed]), (2003, .cells [li .i64 ve]), (2004, .cells [li .i64 f, li .i64 u]), (2005, .cells [.d (.sl KT l)])],
          Meets.of [(2000, m), (2001, v), (2002, e), (2003, s), (2004, q), (2005, b)] [] _ _ _ _ (by simp) (by simpa using hnd) rfl rfl
          (by simp only [List.forall_mem_cons]; exact ⟨⟨_, rfl, hm⟩, ⟨_, rfl, hv⟩, ⟨_, rfl, he⟩, ⟨_, rfl, hs⟩, ⟨_, rfl, hq⟩, ⟨_, rfl, hb⟩, fun _ h => by cases h⟩) (fun q hq => by cases hq)
          (by simp only [List.append_nil, List.forall_mem_cons]; refine ⟨fun o ho => ?_, fun o ho => ?_, fun o ho => ?_, fun o ho => ?_, fun o ho => ?_, fun o ho => ?_, fun _ h => by cases h⟩ <;> injection ho with ho <;> subst ho
              · exact upd1 _ _ _
              · rw [upd1_ne _ _ _ (Ne.symm e1)]; exact hv
              · rw [upd1_ne _ _ _ (Ne.symm e2)]; exact he
              · rw [upd1_ne _ _ _ (Ne.symm e3)]; exact hs
              · rw [upd1_ne _ _ _ (Ne.symm e4)]; exact hq
              · rw [upd1_ne _ _ _ (Ne.symm e5)]; exact hb)
          (by simp) rfl rfl rfl rfl rfl rfl rfl (castH (v_zlists1 p ms l f u ed ve go) (p_zlists1 p ms l f u ed ve go (hcs _ (.head _)).1 (hcs _ (.head _)).2.1 (hcs _ (.head _)).2.2))⟩
      · cases h
    · cases h
  · cases h
abbrev T_zlists : Tab := [(52, .gen c_zlists1)]
theorem T_zlists_ok : TOk Tryd.prog T_zlists := ⟨ok_zlists1, trivial⟩
noncomputable abbrev V_zlists (p : Int) (ms : List Ms) (l : List Bk) (f u ed ve : Int) : VC := vcGe L T_zlists Tryd.f35 [0, 1, 2, 3, 4, 5, 6, 7, 8, 9, 10] (fun _ _ => none) [V p ms, LB l, Q f u, I ed, I ve] [] (.t (.one (.clo 52 [] [(5, 0), (8, 0), (9, 0), (7, 0), (6, 0)]))) [(5, .cells [li .i64 p, .d (.sl MT ms)]), (6, .cells [.d (.sl KT l)]), (7, .cells [li .i64 f, li .i64 u]), (8, .cells [li .i64 ed]), (9, .cells [li .i64 ve])]
theorem v_zlists (p : Int) (ms : List Ms) (l : List Bk) (f u ed ve : Int) : (V_zlists p ms l f u ed ve).holds = P_zlists p ms l f u ed ve := by kernel_rfl
theorem ok_zlists : FnOk Tryd.prog 35 (CE.gen c_zlists).con := fnGe T_zlists c_zlists L_ok T_zlists_ok mixed Tryd.func35 (by kernel_rfl) (by kernel_rfl) fun args hp fr cs r up h hcs => by
  unfold c_zlists at h
  split at h
  · rename_i p ms l f u ed ve
    split at h
    · rename_i hf hf1 hf2 hf3 hf4
      injection h with h; injection h with h1 h2; injection h2 with h2 h3; subst h1 h2 h3
      exact ⟨[0, 1, 2, 3, 4, 5, 6, 7, 8, 9, 10], nA, nR, [], [(5, fr), (6, fr + 1), (7, fr + 2), (8, fr + 3), (9, fr + 4)], [V p ms, LB l, Q f u, I ed, I ve], [], .t (.one (.clo 52 [] [(5, 0), (8, 0), (9, 0), (7, 0), (6, 0)])), [(5, .cells [li .i64 p, .d (.sl MT ms)]), (6, .cells [.d (.sl KT l)]), (7, .cells [li .i64 f, li .i64 u]), (8, .cells [li .i64 ed]), (9, .cells [li .i64 ve])],
        Meets.of [] [(5, fr), (6, fr + 1), (7, fr + 2), (8, fr + 3), (9, fr + 4)] _ _ _ _ (by simp) (by simp) rfl rfl (fun q hq => by cases hq)
        (by simp only [List.forall_mem_cons]; exact ⟨hf, hf1, hf2, hf3, hf4, fun _ h => by cases h⟩)
        (by simp only [List.nil_append, List.forall_mem_cons]; refine ⟨fun o ho => ?_, fun o ho => ?_, fun o ho => ?_, fun o ho => ?_, fun o ho => ?_, fun _ h => by cases h⟩ <;> injection ho with ho <;> subst ho <;> (unfold upd; simp [look_cons]; rfl))
        (by simp) rfl rfl rfl rfl rfl rfl rfl (castH (v_zlists p ms l f u ed ve) (p_zlists p ms l f u ed ve))⟩
    · cases h
  · cases h
theorem ok_zdig : FnOk Tryd.prog 24 (CE.pu c_zdig).con := okP [(35, .gen c_zlists), (36, .pu c_chain), (52, .gen c_zlists1)] L_ok ⟨ok_zlists, ok_chain, ok_zlists1, trivial⟩ mixed Tryd.func24 fun args cs r h hcs => by
  unfold c_zdig at h
  split at h; rotate_left; cases h
  rename_i p ms l f u ed ve
  injection h with h; injection h with h1 h2; subst h1 h2
  exact puV [0, 1, 2, 3, 4, 5, 7, 10, 11, 12, 18, 19, 23] nA (fun _ _ => some { sg := sgL, go := goP, h := fun hist => [(11, .cells [.own (rm 11) (.sl (.tl (.ti .i64)) (unL hist))]), (rm 11, .gr 47 1 hist.length)], js := [] }) (okV (p_zdig p ms l f u ed ve (hcs _ (.head _)) (hcs _ (.tail _ (.head _))) (hcs _ (.tail _ (.tail _ (.head _)))) (hcs _ (.tail _ (.tail _ (.tail _ (.head _))))) (hcs _ (.tail _ (.tail _ (.tail _ (.tail _ (.head _))))))) (by kernel_rfl))
theorem ok_zpdig : FnOk Tryd.prog 10 (CE.pu c_zpdig).con := okP [(22, .pu c_zid), (23, .pu c_zblk), (24, .pu c_zdig)] L_ok ⟨ok_zid, ok_zblk, ok_zdig, trivial⟩ mixed Tryd.func10 fun args cs r h hcs => by
  unfold c_zpdig at h
  split at h; rotate_left; cases h
  rename_i p ms l f u ed ve
  injection h with h; injection h with h1 h2; subst h1 h2
  exact puV [0, 1, 2, 3, 4, 5, 7, 10, 11, 44] nA nR (okV (p_zpdig p ms l f u ed ve (hcs _ (.head _)) (hcs _ (.tail _ (.head _)))) (by kernel_rfl))
theorem ok_zrdig : FnOk Tryd.prog 11 (CE.pu c_zrdig).con := okP [(19, .pu c_zrblk), (25, .pu c_zrid), (26, .pu c_rChain), (27, .pu c_zrlists)] L_ok ⟨ok_zrblk, ok_zrid, ok_rChain, ok_zrlists, trivial⟩ mixed Tryd.func11 fun args cs r h hcs => by
  unfold c_zrdig at h
  split at h; rotate_left; cases h
  rename_i p ms l f u ed ve
  injection h with h; injection h with h1 h2; subst h1 h2
  exact puV [0, 1, 2, 3, 4, 5, 7, 10, 11, 44] nA nR (okV (p_zrdig p ms l f u ed ve (hcs _ (.head _)) (hcs _ (.tail _ (.head _)))) (by kernel_rfl))
abbrev T_zprint1 : Tab := [(24, .pu c_zdig)]
theorem T_zprint1_ok : TOk Tryd.prog T_zprint1 := ⟨ok_zdig, trivial⟩
noncomputable abbrev V_zprint1 (i f u id p : Int) (ms : List Ms) (ed ve : Int) (l : List Bk) : VC := vcGe L T_zprint1 Tryd.f29 [0, 1, 2, 3, 4, 5, 6, 8, 9, 25] (fun _ _ => none) [I i, Q f u, .one (.ptr 2000 0), .one (.ptr 2001 0), .one (.ptr 2002 0), .one (.ptr 2003 0), .one (.ptr 2004 0)] [(2000, .cells [li .i64 id]), (2001, .cells [li .i64 p, .d (.sl MT ms)]), (2002, .cells [li .i64 ed]), (2003, .cells [li .i64 ve]), (2004, .cells [.d (.sl KT l)])] (.t (SH (id + i) p ed ve (i + 1) (digS p ms l f u ed ve))) [(2000, .cells [li .i64 id]), (2001, .cells [li .i64 p, .d (.sl MT ms)]), (2002, .cells [li .i64 ed]), (2003, .cells [li .i64 ve]), (2004, .cells [.d (.sl KT l)])]
theorem v_zprint1 (i f u id p : Int) (ms : List Ms) (ed ve : Int) (l : List Bk) : (V_zprint1 i f u id p ms ed ve l).holds = P_zprint1 i f u id p ms ed ve l := by kernel_rfl
theorem ok_zprint1 : FnOk Tryd.prog 29 (CE.gen c_zprint1).con := fnGe T_zprint1 c_zprint1 L_ok T_zprint1_ok mixed Tryd.func29 (by kernel_rfl) (by kernel_rfl) fun args hp fr cs r up h hcs => by
  unfold c_zprint1 at h
  split at h
  · rename_i i f u a v e s b
    split at h
    · rename_i hnd
      split at h
      · rename_i id p ms ed ve l ha hv he hs hb
        injection h with h; injection h with h1 h2; injection h2 with h2 h3; subst h1 h2 h3
        obtain ⟨c1, c2, c3, c4, c5, c6, c7⟩ := hcs _ (.head _)
        exact ⟨[0, 1, 2, 3, 4, 5, 6, 8, 9, 25], nA, nR, [(2000, a), (2001, v), (2002, e), (2003, s), (2004, b)], [], [I i, Q f u, .one (.ptr 2000 0), .one (.ptr 2001 0), .one (.ptr 2002 0), .one (.ptr 2003 0), .one (.ptr 2004 0)], [(2000, .cells [li .i64 id]), (2001, .cells [li .i64 p, .d (.sl MT ms)]), (2002, .cells [li .i64 ed]), (2003, .cells [li .i64 ve]), (2004, .cells [.d (.sl KT l)])], .t (SH (id + i) p ed ve (i + 1) (digS p ms l f u ed ve)), [(2000, .cells [li .i64 id]), (2001, .cells [li .i64 p, .d (.sl MT ms)]), (2002, .cells [li .i64 ed]), (2003, .cells [li .i64 ve]), (2004, .cells [.d (.sl KT l)])],
          Meets.of [(2000, a), (2001, v), (2002, e), (2003, s), (2004, b)] [] _ _ _ _ (by simp) (by simpa using hnd) rfl rfl
          (by simp only [List.forall_mem_cons]; exact ⟨⟨_, rfl, ha⟩, ⟨_, rfl, hv⟩, ⟨_, rfl, he⟩, ⟨_, rfl, hs⟩, ⟨_, rfl, hb⟩, fun _ h => by cases h⟩) (fun q hq => by cases hq)
          (by simp only [List.append_nil, List.forall_mem_cons]; refine ⟨fun o ho => ?_, fun o ho => ?_, fun o ho => ?_, fun o ho => ?_, fun o ho => ?_, fun _ h => by cases h⟩ <;> injection ho with ho <;> subst ho
              · exact ha
              · exact hv
              · exact he
              · exact hs
              · exact hb)
          (by simp) rfl rfl rfl rfl rfl rfl rfl (by have e0 := v_zprint1 i f u id p ms ed ve l; unfold V_zprint1 vcGe at e0; rw [e0]; exact p_zprint1 i f u id p ms ed ve l c1 c2 c3 c4 c5 c6 c7)⟩
      · cases h
    · cases h
  · cases h
theorem ok_zprint : FnOk Tryd.prog 12 (CE.pu c_zprint).con := okP [(22, .pu c_zid), (28, .pu c_zarepg), (29, .gen c_zprint1)] L_ok ⟨ok_zid, ok_zarepg, ok_zprint1, trivial⟩ mixed Tryd.func12 fun args cs r h hcs => by
  unfold c_zprint at h
  split at h; rotate_left; cases h
  rename_i p ms l pages ed ve id
  injection h with h; injection h with h1 h2; subst h1 h2
  exact puV [0, 1, 2, 3, 4, 5, 6, 7, 9, 10, 11, 12, 13, 14, 15, 16, 17, 18, 39, 47, 48, 49, 50] (fun _ _ => some { X := Nat, inv := fun x => x ≤ pages.length, m := fun x => pages.length - x, s := fun x => [(49, .t (I x)), (15, .t (.one (.own (rm 15) (.sl ShT (sheetsTo p ms l pages ed ve id x)))))], h := fun x => [(rm 15, .gr 31 6 (sheetsTo p ms l pages ed ve id x).length)] }) nR (okV (p_zprint p ms l pages ed ve id (hcs _ (.head _)) (hcs _ (.tail _ (.head _)))) (by kernel_rfl))
theorem ok_zrprint : FnOk Tryd.prog 13 (CE.pu c_zrprint).con := okP [(25, .pu c_zrid), (26, .pu c_rChain), (27, .pu c_zrlists), (30, .pu c_zrarepg)] L_ok ⟨ok_zrid, ok_rChain, ok_zrlists, ok_zrarepg, trivial⟩ mixed Tryd.func13 fun args cs r h hcs => by
  unfold c_zrprint at h
  split at h; rotate_left; cases h
  rename_i p ms l pages ed ve id
  injection h with h; injection h with h1 h2; subst h1 h2
  exact puV [0, 1, 2, 3, 4, 5, 6, 12, 13, 14, 15, 16, 36, 42, 46] (fun _ _ => some { X := Nat, inv := fun x => x ≤ pages.length, m := fun x => pages.length - x, s := fun x => [(15, .t (I x)), (14, .t (.one (.own (rm 14) (.sl ShT (sheetsTo p ms l pages ed ve id x)))))], h := fun x => [(rm 14, .gr 31 6 (sheetsTo p ms l pages ed ve id x).length)] }) nR (okV (p_zrprint p ms l pages ed ve id (hcs _ (.head _)) (hcs _ (.tail _ (.head _)))) (by kernel_rfl))
theorem ok_zsame : FnOk Tryd.prog 14 (CE.pu c_zsame).con := okP [] L_ok trivial mixed Tryd.func14 fun args cs r h hcs => by
  unfold c_zsame at h
  split at h; rotate_left; cases h
  rename_i l m
  injection h with h; injection h with h1 h2; subst h1 h2
  exact puV [0, 1, 4, 5, 10, 14, 25] (fun _ _ => some { X := Nat, inv := fun x => x ≤ l.length ∧ l.take x = m.take x, m := fun x => l.length - x, s := fun x => [(5, .t (I x))] }) nR (okV (p_zsame l m) (by kernel_rfl))
theorem ok_zright : FnOk Tryd.prog 15 (CE.pu c_zright).con := okP [(22, .pu c_zid), (24, .pu c_zdig), (28, .pu c_zarepg), (31, .pu c_zcon)] L_ok ⟨ok_zid, ok_zdig, ok_zarepg, ok_zcon, trivial⟩ mixed Tryd.func15 fun args cs r h hcs => by
  unfold c_zright at h
  split at h; rotate_left; cases h
  rename_i p ms l pages a b c d e g
  injection h with h; injection h with h1 h2; subst h1 h2
  exact puV [0, 1, 2, 3, 4, 7, 8, 9, 10, 15, 39] nA nR (okV (p_zright p ms l pages a b c d e g (hcs _ (.head _)) (hcs _ (.tail _ (.head _)))) (by kernel_rfl))
theorem ok_zrright : FnOk Tryd.prog 16 (CE.pu c_zrright).con := okP [(25, .pu c_zrid), (26, .pu c_rChain), (27, .pu c_zrlists), (30, .pu c_zrarepg)] L_ok ⟨ok_zrid, ok_rChain, ok_zrlists, ok_zrarepg, trivial⟩ mixed Tryd.func16 fun args cs r h hcs => by
  unfold c_zrright at h
  split at h; rotate_left; cases h
  rename_i p ms l pages a b c d e g
  injection h with h; injection h with h1 h2; subst h1 h2
  exact puV [0, 1, 2, 3, 4, 7, 8, 9, 14, 43] nA nR (okV (p_zrright p ms l pages a b c d e g (hcs _ (.head _)) (hcs _ (.tail _ (.head _)))) (by kernel_rfl))
end Go.Proofs.YtiplcokpckkopaaDoor
