/- The functions meet their contracts. Written by a program (wip/tools/gen.py). -/
import Derived.Test.YtcklbglladijlaaDecideq
import Derived.Test.YtcklbglladijlaaFormk
namespace Go.Proofs.Ytcklbglladijlaa
open Go.Sy Go.RatLaw
set_option linter.unusedVariables false
set_option maxHeartbeats 4000000
set_option maxRecDepth 100000
set_option linter.unusedSimpArgs false

-- ok_del2 stands in Ge
theorem ok_cmpNan : FnOk Try.prog 103 (CE.pu c_cmpNan).con := okP [] L_ok trivial mixed Try.func103 fun args cs r h hcs => by
 unfold c_cmpNan at h
 split at h; rotate_left; cases h
 rename_i a
 injection h with h; injection h with h1 h2; subst h1 h2
 exact puV [0, 2] nA nR (okV (p_cmpNan a) (by kernel_rfl))
theorem ok_cmpLess : FnOk Try.prog 92 (CE.pu c_cmpLess).con := okP [(103, .pu c_cmpNan)] L_ok ⟨ok_cmpNan, trivial⟩ mixed Try.func92 fun args cs r h hcs => by
 unfold c_cmpLess at h
 split at h; rotate_left; cases h
 rename_i a b
 injection h with h; injection h with h1 h2; subst h1 h2
 exact puV [0, 1, 4] nA nR (okV (p_cmpLess a b) (by kernel_rfl))
theorem ok_slNan : FnOk Try.prog 93 (CE.pu c_slNan).con := okP [] L_ok trivial mixed Try.func93 fun args cs r h hcs => by
 unfold c_slNan at h
 split at h; rotate_left; cases h
 rename_i a
 injection h with h; injection h with h1 h2; subst h1 h2
 exact puV [0, 2] nA nR (okV (p_slNan a) (by kernel_rfl))
theorem ok_bsI : FnOk Try.prog 75 (CE.pu c_bsI).con := okP [(92, .pu c_cmpLess), (93, .pu c_slNan)] L_ok ⟨ok_cmpLess, ok_slNan, trivial⟩ mixed Try.func75 fun args cs r h hcs => by
 unfold c_bsI at h
 split at h; rotate_left; cases h
 rename_i l n
 injection h with h; injection h with h1 h2; subst h1 h2
 exact puV [0, 1, 4, 5, 6, 7, 8, 9, 15, 27] (fun _ _ => some { X := Nat × Nat, inv := fun p => p.1 ≤ p.2 ∧ p.2 ≤ l.length ∧ p.1 ≤ below l n ∧ below l n ≤ p.2, m := fun p => p.2 - p.1, s := fun p => [(7, .t (I p.1)), (8, .t (I p.2))] }) nR (okV (p_bsI l n (hcs _ (.head _)) (hcs _ (.tail _ (.head _)))) (by kernel_rfl))
theorem ok_clI1 : FnOk Try.prog 77 (CE.gen c_clI1).con := okG [] (LV_ok [] [3] false) trivial mixed Try.func77 fun args hp fr cs r up h hcs => by
 unfold c_clI1 at h
 split at h; rotate_left; cases h
 split at h; rotate_left; cases h
 rename_i h_x
 split at h; rotate_left; cases h
 rename_i hd
 injection h with h; injection h with h1 h2; injection h2 with h2 h3; subst h1 h2 h3
 exact geV (okV (v := vcGe _ _ _ [0, 2, 4] nA [.one (.nn true (.sl (.ti .i64) []))] [] (.t (.one (.vr 5000002 0))) [(5000002, .vec (.ti .i64) 3 [])] nR) (p_clI1) (by kernel_rfl)) [] [(5000002, fr)]
  all0 (frC h_x all0) (upC (fun o ho => by injection ho with ho; subst ho; unfold upd; simp [look_cons, Go.Sy.look] <;> rfl) all0)
theorem ok_clI2 : FnOk Try.prog 77 (CE.gen c_clI2).con := okG [] (LV_ok [] [3] false) trivial mixed Try.func77 fun args hp fr cs r up h hcs => by
 unfold c_clI2 at h
 split at h; rotate_left; cases h
 rename_i l
 split at h; rotate_left; cases h
 rename_i h_x
 split at h; rotate_left; cases h
 rename_i hd
 injection h with h; injection h with h1 h2; injection h2 with h2 h3; subst h1 h2 h3
 exact geV (okV (v := vcGe _ _ _ [0, 2, 4] nA [.one (.nn false (.sl (.ti .i64) l))] [] (.t (.one (.vr 70005 l.length))) [(70005, .vec (.ti .i64) 3 l)] nR) (p_clI2 l (hcs _ (.head _))) (by kernel_rfl)) [] [(70005, fr)]
  all0 (frC h_x all0) (upC (fun o ho => by injection ho with ho; subst ho; unfold upd; simp [look_cons, Go.Sy.look] <;> rfl) all0)
theorem ok_clI : FnOk Try.prog 77 (CE.gen c_clI).con := (FnOk.or ok_clI1 ok_clI2)
theorem ok_cloneI : FnOk Try.prog 77 (CE.fr (cloneC (.ti .i64) 3 5000)).con := clone_ok ok_clI (fun hp fr h => by simp [c_clI, c_clI1, orC, h, Go.Sy.distinct, Go.Sy.mem]) (fun l hp fr h => by simp [c_clI, c_clI1, c_clI2, orC, h, Go.Sy.distinct, Go.Sy.mem])
theorem ok_clD1 : FnOk Try.prog 29 (CE.gen c_clD1).con := okG [] (LV_ok [] [25] false) trivial mixed Try.func29 fun args hp fr cs r up h hcs => by
 unfold c_clD1 at h
 split at h; rotate_left; cases h
 split at h; rotate_left; cases h
 rename_i h_x
 split at h; rotate_left; cases h
 rename_i hd
 injection h with h; injection h with h1 h2; injection h2 with h2 h3; subst h1 h2 h3
 exact geV (okV (v := vcGe _ _ _ [0, 2, 4] nA [.one (.nn true (.sl DTT []))] [] (.t (.one (.vr 5000002 0))) [(5000002, .vec DTT 25 [])] nR) (p_clD1) (by kernel_rfl)) [] [(5000002, fr)]
  all0 (frC h_x all0) (upC (fun o ho => by injection ho with ho; subst ho; unfold upd; simp [look_cons, Go.Sy.look] <;> rfl) all0)
theorem ok_clD2 : FnOk Try.prog 29 (CE.gen c_clD2).con := okG [] (LV_ok [] [25] false) trivial mixed Try.func29 fun args hp fr cs r up h hcs => by
 unfold c_clD2 at h
 split at h; rotate_left; cases h
 rename_i l
 split at h; rotate_left; cases h
 rename_i h_x
 split at h; rotate_left; cases h
 rename_i hd
 injection h with h; injection h with h1 h2; injection h2 with h2 h3; subst h1 h2 h3
 exact geV (okV (v := vcGe _ _ _ [0, 2, 4] nA [.one (.nn false (.sl DTT l))] [] (.t (.one (.vr 70005 l.length))) [(70005, .vec DTT 25 l)] nR) (p_clD2 l (hcs _ (.head _))) (by kernel_rfl)) [] [(70005, fr)]
  all0 (frC h_x all0) (upC (fun o ho => by injection ho with ho; subst ho; unfold upd; simp [look_cons, Go.Sy.look] <;> rfl) all0)
theorem ok_clD : FnOk Try.prog 29 (CE.gen c_clD).con := (FnOk.or ok_clD1 ok_clD2)
theorem ok_cloneD : FnOk Try.prog 29 (CE.fr (cloneC DTT 25 5000)).con := clone_ok ok_clD (fun hp fr h => by simp [c_clD, c_clD1, orC, h, Go.Sy.distinct, Go.Sy.mem]) (fun l hp fr h => by simp [c_clD, c_clD1, c_clD2, orC, h, Go.Sy.distinct, Go.Sy.mem])
theorem ok_openR : FnOk Try.prog 51 (CE.pu c_openR).con := okP [(23, .pu c_valid), (72, .gen c_copied), (73, .pu c_idxCu), (74, .gen c_del2)] L_ok ⟨ok_valid, ok_copied, ok_idxCu, ok_del2, trivial⟩ mixed Try.func51 fun args cs r h hcs => by
 unfold c_openR at h
 split at h; rotate_left; cases h
 rename_i b r e j t n c x y z
 injection h with h; injection h with h1 h2; subst h1 h2
 exact puV [0, 1, 2, 3, 4, 5, 6, 9, 16, 19, 26] nA nR (okV (p_openR b r e j t n c x y z) (by kernel_rfl))
theorem ok_areWorks : FnOk Try.prog 44 (CE.pu c_areWorks).con := okP [(23, .pu c_valid)] L_ok ⟨ok_valid, trivial⟩ mixed Try.func44 fun args cs r h hcs => by
 unfold c_areWorks at h
 split at h; rotate_left; cases h
 rename_i u_ws
 split at h; rotate_left; cases h
 rename_i ws hu_ws
 obtain rfl := asRow_eq hu_ws
 injection h with h; injection h with h1 h2; subst h1 h2
 exact puV [0, 2, 3, 5, 6, 7, 8, 9, 38] (fun _ _ => some { X := Nat, inv := fun k => k ≤ ws.length ∧ worksFrom 0 ws = worksFrom (lastW ws k) (ws.drop k), m := fun k => ws.length - k, s := fun k => [(8, .t (I k)), (3, .t (I (lastW ws k)))] }) nR (okV (p_areWorks ws) (by kernel_rfl))
theorem ok_stTake : FnOk Try.prog 70 (CE.gen c_stTake).con := okG [(89, .fr (cloneC T3T 62 100)), (90, .fr (cloneC T3T 99 100)), (91, .fr (cloneC T3T 67 100))] L_ok ⟨ok_cloneR, ok_cloneE, ok_cloneC, trivial⟩ mixed Try.func70 fun args hp fr cs r up h hcs => by
 unfold c_stTake at h
 split at h; rotate_left; cases h
 rename_i s v br u_pt u_nt b r e j t n c tm
 split at h; rotate_left; cases h
 rename_i pt hu_pt
 obtain rfl := asRow_eq hu_pt
 split at h; rotate_left; cases h
 rename_i nt hu_nt
 obtain rfl := asRow_eq hu_nt
 split at h; rotate_left; cases h
 rename_i y0 y1 y2 y3 y4 y5 y6 y7 y8 u_ws h_s
 split at h; rotate_left; cases h
 rename_i ws hu_ws
 obtain rfl := asRow_eq hu_ws
 split at h; rotate_left; cases h
 rename_i hd
 injection h with h; injection h with h1 h2; injection h2 with h2 h3; subst h1 h2 h3
 exact geV (okV (v := vcGe _ _ _ [0, 1, 3, 4, 18, 26] nA [.one (.ptr 2000 0), .agg [.d (.lit (.int .i64 v)), .d (.sl BTT br), .d (.sl PTTT pt), .d (.sl NTTT nt), .d (.lit (.int .i64 b)), .d (.sl T3T r), .d (.sl T3T e), .d (.lit (.int .i64 j)), .d (.lit (.int .i64 t)), .d (.lit (.int .i64 n)), .d (.sl T3T c), .d (.sl T3T tm)]] [(2000, .cells [.d y0, .d y1, .d y2, .d y3, .d y4, .d y5, .d y6, .d y7, .d y8, .d (.sl WTT ws)])] (.tup []) [(2000, SCX (takeW ((v, (br, (pt, nt))), ((b, (r, (e, ((j, (t, n)), c)))), tm))) ws)] (fun i _ => if i = 3 then some { sg := [], go := { go := fun _ => true }, fz := [(4, 1), (4, 2), (4, 6)] } else none)) (p_stTake v br pt nt b r e j t n c tm y0 y1 y2 y3 y4 y5 y6 y7 y8 ws (hcs _ (.head _)) (hcs _ (.tail _ (.head _))) (hcs _ (.tail _ (.tail _ (.head _))))) (by kernel_rfl)) [(2000, s)] []
  (inC ⟨_, rfl, h_s⟩ all0) all0 (upC (fun o ho => by injection ho with ho; subst ho; unfold upd; simp [look_cons, Go.Sy.look] <;> rfl) all0)
theorem ok_newState : FnOk Try.prog 58 (CE.gen c_newState).con := okG [(70, .gen c_stTake)] L_ok ⟨ok_stTake, trivial⟩ mixed Try.func58 fun args hp fr cs r up h hcs => by
 unfold c_newState at h
 split at h; rotate_left; cases h
 rename_i u_ws
 split at h; rotate_left; cases h
 rename_i ws hu_ws
 obtain rfl := asRow_eq hu_ws
 split at h; rotate_left; cases h
 rename_i h_s
 split at h; rotate_left; cases h
 rename_i hd
 injection h with h; injection h with h1 h2; injection h2 with h2 h3; subst h1 h2 h3
 exact geV (okV (v := vcGe _ _ _ [0, 2, 3, 11] nA [.one (.d (.sl WTT ws))] [] (.t (.one (.ptr 6 0))) [(6, SCX (firstR ws) ws)] nR) (p_newState ws (hcs _ (.head _))) (by kernel_rfl)) [] [(6, fr)]
  all0 (frC h_s all0) (upC (fun o ho => by injection ho with ho; subst ho; unfold upd; simp [look_cons, Go.Sy.look] <;> rfl) all0)
theorem ok_ver1 : FnOk Try.prog 69 (CE.gen c_ver1).con := okG [] L_ok trivial mixed Try.func69 fun args hp fr cs r up h hcs => by
 unfold c_ver1 at h
 split at h; rotate_left; cases h
 rename_i v br u_pt u_nt b r e j t n c tm p
 split at h; rotate_left; cases h
 rename_i pt hu_pt
 obtain rfl := asRow_eq hu_pt
 split at h; rotate_left; cases h
 rename_i nt hu_nt
 obtain rfl := asRow_eq hu_nt
 split at h; rotate_left; cases h
 rename_i x1 x2 x3 x4 x5 x6 h_p
 split at h; rotate_left; cases h
 rename_i hd
 injection h with h; injection h with h1 h2; injection h2 with h2 h3; subst h1 h2 h3
 exact geV (okV (v := vcGe _ _ _ [0, 1, 2, 3] nA [.agg [.d (.lit (.int .i64 v)), .d (.sl BTT br), .d (.sl PTTT pt), .d (.sl NTTT nt), .d (.lit (.int .i64 b)), .d (.sl T3T r), .d (.sl T3T e), .d (.lit (.int .i64 j)), .d (.lit (.int .i64 t)), .d (.lit (.int .i64 n)), .d (.sl T3T c), .d (.sl T3T tm)], .one (.ptr 2000 0)] [(2000, .cells [.d (.lit (.int .i64 x1)), .d (.lit (.int .i64 x2)), .d (.lit (.int .i64 x3)), .d (.lit (.int .i64 x4)), .d (.lit (.int .i64 x5)), .d (.lit (.int .i64 x6))])] (.t (B (isVer x4 ((v, (br, (pt, nt))), ((b, (r, (e, ((j, (t, n)), c)))), tm))))) [(2000, .cells [.d (.lit (.int .i64 x1)), .d (.lit (.int .i64 x2)), .d (.lit (.int .i64 x3)), .d (.lit (.int .i64 x4)), .d (.lit (.int .i64 x5)), .d (.lit (.int .i64 x6))])] nR) (p_ver1 v br pt nt b r e j t n c tm x1 x2 x3 x4 x5 x6) (by kernel_rfl)) [(2000, p)] []
  (inC ⟨_, rfl, h_p⟩ all0) all0 (upC (fun o ho => by injection ho with ho; subst ho; unfold upd; simp [look_cons, Go.Sy.look, h_p] <;> rfl) all0)
theorem ok_ixW : FnOk Try.prog 68 (CE.gen c_ixW).con := okG [(69, .gen c_ver1)] L_ok ⟨ok_ver1, trivial⟩ mixed Try.func68 fun args hp fr cs r up h hcs => by
 unfold c_ixW at h
 split at h; rotate_left; cases h
 rename_i u_ws p
 split at h; rotate_left; cases h
 rename_i ws hu_ws
 obtain rfl := asRow_eq hu_ws
 split at h; rotate_left; cases h
 rename_i x1 x2 x3 x4 x5 x6 h_p
 split at h; rotate_left; cases h
 rename_i hd
 injection h with h; injection h with h1 h2; injection h2 with h2 h3; subst h1 h2 h3
 exact geV (okV (v := vcGe _ _ _ [0, 1, 4, 5, 7, 8, 9, 16] (fun _ _ => some { X := Nat, inv := fun k => k ≤ ws.length ∧ ∀ i, i < k → isVer x4 (List.getD (α := Wk) ws i wk0) = false, m := fun k => ws.length - k, s := fun k => [(8, .t (I k))] }) [.one (.d (.sl WTT ws)), .one (.clo 69 [] [(2000, 0)])] [(2000, .cells [.d (.lit (.int .i64 x1)), .d (.lit (.int .i64 x2)), .d (.lit (.int .i64 x3)), .d (.lit (.int .i64 x4)), .d (.lit (.int .i64 x5)), .d (.lit (.int .i64 x6))])] (.t (I (gidx (isVer x4) ws))) [(2000, .cells [.d (.lit (.int .i64 x1)), .d (.lit (.int .i64 x2)), .d (.lit (.int .i64 x3)), .d (.lit (.int .i64 x4)), .d (.lit (.int .i64 x5)), .d (.lit (.int .i64 x6))])] nR) (p_ixW ws x1 x2 x3 x4 x5 x6) (by kernel_rfl)) [(2000, p)] []
  (inC ⟨_, rfl, h_p⟩ all0) all0 (upC (fun o ho => by injection ho with ho; subst ho; unfold upd; simp [look_cons, Go.Sy.look, h_p] <;> rfl) all0)
theorem ok_version : FnOk Try.prog 46 (CE.gen c_version).con := okG [(68, .gen c_ixW), (69, .gen c_ver1), (70, .gen c_stTake)] L_ok ⟨ok_ixW, ok_ver1, ok_stTake, trivial⟩ mixed Try.func46 fun args hp fr cs r up h hcs => by
 unfold c_version at h
 split at h; rotate_left; cases h
 rename_i s x1 x2 x3 x4 x5 x6
 split at h; rotate_left; cases h
 rename_i v b r e j t n c o u_ws h_s
 split at h; rotate_left; cases h
 rename_i ws hu_ws
 obtain rfl := asRow_eq hu_ws
 split at h; rotate_left; cases h
 rename_i hd
 injection h with h; injection h with h1 h2; injection h2 with h2 h3; subst h1 h2 h3
 exact geV (okV (v := vcGe _ _ _ [0, 1, 3, 4, 5, 13, 21, 30] nA [.one (.ptr 2000 0), .agg [.d (.lit (.int .i64 x1)), .d (.lit (.int .i64 x2)), .d (.lit (.int .i64 x3)), .d (.lit (.int .i64 x4)), .d (.lit (.int .i64 x5)), .d (.lit (.int .i64 x6))]] [(2000, .cells [.d (.lit (.int .i64 v)), .d (.lit (.int .i64 b)), .d (.sl T3T r), .d (.sl T3T e), .d (.lit (.int .i64 j)), .d (.lit (.int .i64 t)), .d (.lit (.int .i64 n)), .d (.sl T3T c), .d (.sl (.ti .i64) o), .d (.sl WTT ws)])] (.t (I (versionS ws (v, ((b, (r, (e, ((j, (t, n)), c)))), o)) (x1, (x2, (x3, (x4, (x5, x6)))))).2)) [(2000, SCX (versionS ws (v, ((b, (r, (e, ((j, (t, n)), c)))), o)) (x1, (x2, (x3, (x4, (x5, x6)))))).1 ws)] nR) (p_version v b r e j t n c o ws x1 x2 x3 x4 x5 x6 (hcs _ (.head _))) (by kernel_rfl)) [(2000, s)] []
  (inC ⟨_, rfl, h_s⟩ all0) all0 (upC (fun o ho => by injection ho with ho; subst ho; unfold upd; simp [look_cons, Go.Sy.look] <;> rfl) all0)
theorem ok_reform : FnOk Try.prog 48 (CE.gen c_reform).con := okG [] L_ok trivial mixed Try.func48 fun args hp fr cs r up h hcs => by
 unfold c_reform at h
 split at h; rotate_left; cases h
 rename_i s b' r' e' j' t' n' c' q
 split at h; rotate_left; cases h
 rename_i v b r e j t n c o u_ws h_s
 split at h; rotate_left; cases h
 rename_i ws hu_ws
 obtain rfl := asRow_eq hu_ws
 split at h; rotate_left; cases h
 rename_i hd
 injection h with h; injection h with h1 h2; injection h2 with h2 h3; subst h1 h2 h3
 exact geV (okV (v := vcGe _ _ _ [0, 1, 2, 4, 6, 8, 13] nA [.one (.ptr 2000 0), .agg [.d (.lit (.int .i64 b')), .d (.sl T3T r'), .d (.sl T3T e'), .d (.lit (.int .i64 j')), .d (.lit (.int .i64 t')), .d (.lit (.int .i64 n')), .d (.sl T3T c')], .one (.d (.lit (.int .i64 q)))] [(2000, .cells [.d (.lit (.int .i64 v)), .d (.lit (.int .i64 b)), .d (.sl T3T r), .d (.sl T3T e), .d (.lit (.int .i64 j)), .d (.lit (.int .i64 t)), .d (.lit (.int .i64 n)), .d (.sl T3T c), .d (.sl (.ti .i64) o), .d (.sl WTT ws)])] (.t (I q)) [(2000, SCX (reformS (v, ((b, (r, (e, ((j, (t, n)), c)))), o)) ((b', (r', (e', ((j', (t', n')), c')))), q)).1 ws)] nR) (p_reform v b r e j t n c o ws b' r' e' j' t' n' c' q) (by kernel_rfl)) [(2000, s)] []
  (inC ⟨_, rfl, h_s⟩ all0) all0 (upC (fun o ho => by injection ho with ho; subst ho; unfold upd; simp [look_cons, Go.Sy.look] <;> rfl) all0)
theorem ok_ossia : FnOk Try.prog 55 (CE.gen c_ossia).con := okG [(75, .pu c_bsI), (76, .gen c_delI), (77, .fr (cloneC (.ti .i64) 3 5000)), (78, .gen c_ins)] (LV_ok [] [3] false) ⟨ok_bsI, ok76, ok_cloneI, ok78, trivial⟩ mixed Try.func55 fun args hp fr cs r up h hcs => by
 unfold c_ossia at h
 split at h; rotate_left; cases h
 rename_i s x1 x2 x3 x4 x5 x6
 split at h; rotate_left; cases h
 rename_i v b r e j t n c o u_ws h_s
 split at h; rotate_left; cases h
 rename_i ws hu_ws
 obtain rfl := asRow_eq hu_ws
 split at h; rotate_left; cases h
 rename_i hd
 injection h with h; injection h with h1 h2; injection h2 with h2 h3; subst h1 h2 h3
 exact geV (okV (v := vcGe _ _ _ [0, 1, 3, 4, 5, 6, 29, 55, 56, 62, 77] nA [.one (.ptr 2000 0), .agg [.d (.lit (.int .i64 x1)), .d (.lit (.int .i64 x2)), .d (.lit (.int .i64 x3)), .d (.lit (.int .i64 x4)), .d (.lit (.int .i64 x5)), .d (.lit (.int .i64 x6))]] [(2000, .cells [.d (.lit (.int .i64 v)), .d (.lit (.int .i64 b)), .d (.sl T3T r), .d (.sl T3T e), .d (.lit (.int .i64 j)), .d (.lit (.int .i64 t)), .d (.lit (.int .i64 n)), .d (.sl T3T c), .d (.sl (.ti .i64) o), .d (.sl WTT ws)])] (.t (I (ossiaS (v, ((b, (r, (e, ((j, (t, n)), c)))), o)) (x1, (x2, (x3, (x4, (x5, x6)))))).2)) [(2000, SCX (ossiaS (v, ((b, (r, (e, ((j, (t, n)), c)))), o)) (x1, (x2, (x3, (x4, (x5, x6)))))).1 ws)] nR) (p_ossia v b r e j t n c o ws x1 x2 x3 x4 x5 x6 (hcs _ (.head _)) (hcs _ (.tail _ (.head _)))) (by kernel_rfl)) [(2000, s)] []
  (inC ⟨_, rfl, h_s⟩ all0) all0 (upC (fun o ho => by injection ho with ho; subst ho; unfold upd; simp [look_cons, Go.Sy.look] <;> rfl) all0)
theorem ok_do1 : FnOk Try.prog 45 (CE.gen c_do1).con := okG [(46, .gen c_version)] L_ok ⟨ok_version, trivial⟩ mixed Try.func45 fun args hp fr cs r up h hcs => by
 unfold c_do1 at h
 split at h; rotate_left; cases h
 rename_i sc xc
 split at h; rotate_left; cases h
 rename_i s h_sc
 split at h; rotate_left; cases h
 rename_i x1 x2 x3 x4 x5 x6 h_xc
 split at h; rotate_left; cases h
 rename_i v b r e j t n c o u_ws h_s
 split at h; rotate_left; cases h
 rename_i ws hu_ws
 obtain rfl := asRow_eq hu_ws
 split at h; rotate_left; cases h
 rename_i hd
 injection h with h; injection h with h1 h2; injection h2 with h2 h3; subst h1 h2 h3
 have e_sc_xc : sc ≠ xc := distinct_ne hd (i := 0) (j := 1) (by decide) rfl rfl
 have e_sc_s : sc ≠ s := distinct_ne hd (i := 0) (j := 2) (by decide) rfl rfl
 have e_xc_s : xc ≠ s := distinct_ne hd (i := 1) (j := 2) (by decide) rfl rfl
 exact geV (okV (v := vcGe _ _ _ [0, 1, 2] nA [.one (.ptr 2000 0), .one (.ptr 2001 0)] [(2000, .cells [.ptr 2002 0]), (2001, .cells [.d (.lit (.int .i64 x1)), .d (.lit (.int .i64 x2)), .d (.lit (.int .i64 x3)), .d (.lit (.int .i64 x4)), .d (.lit (.int .i64 x5)), .d (.lit (.int .i64 x6))]), (2002, .cells [.d (.lit (.int .i64 v)), .d (.lit (.int .i64 b)), .d (.sl T3T r), .d (.sl T3T e), .d (.lit (.int .i64 j)), .d (.lit (.int .i64 t)), .d (.lit (.int .i64 n)), .d (.sl T3T c), .d (.sl (.ti .i64) o), .d (.sl WTT ws)])] (.t (I (versionS ws (v, ((b, (r, (e, ((j, (t, n)), c)))), o)) (x1, (x2, (x3, (x4, (x5, x6)))))).2)) [(2000, .cells [.ptr 2002 0]), (2001, .cells [.d (.lit (.int .i64 x1)), .d (.lit (.int .i64 x2)), .d (.lit (.int .i64 x3)), .d (.lit (.int .i64 x4)), .d (.lit (.int .i64 x5)), .d (.lit (.int .i64 x6))]), (2002, SCX (versionS ws (v, ((b, (r, (e, ((j, (t, n)), c)))), o)) (x1, (x2, (x3, (x4, (x5, x6)))))).1 ws)] nR) (p_do1 v b r e j t n c o ws x1 x2 x3 x4 x5 x6 (hcs _ (.head _))) (by kernel_rfl)) [(2000, sc), (2001, xc), (2002, s)] []
  (inC ⟨_, rfl, h_sc⟩ (inC ⟨_, rfl, h_xc⟩ (inC ⟨_, rfl, h_s⟩ all0))) all0 (upC (fun o ho => by injection ho with ho; subst ho; unfold upd; simp [look_cons, Go.Sy.look, e_sc_xc, Ne.symm e_sc_xc, e_sc_s, Ne.symm e_sc_s, e_xc_s, Ne.symm e_xc_s, h_sc] <;> rfl) (upC (fun o ho => by injection ho with ho; subst ho; unfold upd; simp [look_cons, Go.Sy.look, e_sc_xc, Ne.symm e_sc_xc, e_sc_s, Ne.symm e_sc_s, e_xc_s, Ne.symm e_xc_s, h_xc] <;> rfl) (upC (fun o ho => by injection ho with ho; subst ho; unfold upd; simp [look_cons, Go.Sy.look, e_sc_xc, Ne.symm e_sc_xc, e_sc_s, Ne.symm e_sc_s, e_xc_s, Ne.symm e_xc_s] <;> rfl) all0))) (by simp [e_sc_xc, Ne.symm e_sc_xc, e_sc_s, Ne.symm e_sc_s, e_xc_s, Ne.symm e_xc_s])
theorem ok_do2 : FnOk Try.prog 47 (CE.gen c_do2).con := okG [(48, .gen c_reform), (49, .pu c_cut)] L_ok ⟨ok_reform, ok_cut, trivial⟩ mixed Try.func47 fun args hp fr cs r up h hcs => by
 unfold c_do2 at h
 split at h; rotate_left; cases h
 rename_i sc xc
 split at h; rotate_left; cases h
 rename_i s h_sc
 split at h; rotate_left; cases h
 rename_i x4 x5 x6 h_xc
 split at h; rotate_left; cases h
 rename_i v b r e j t n c o u_ws h_s
 split at h; rotate_left; cases h
 rename_i ws hu_ws
 obtain rfl := asRow_eq hu_ws
 split at h; rotate_left; cases h
 rename_i hd
 injection h with h; injection h with h1 h2; injection h2 with h2 h3; subst h1 h2 h3
 have e_sc_xc : sc ≠ xc := distinct_ne hd (i := 0) (j := 1) (by decide) rfl rfl
 have e_sc_s : sc ≠ s := distinct_ne hd (i := 0) (j := 2) (by decide) rfl rfl
 have e_xc_s : xc ≠ s := distinct_ne hd (i := 1) (j := 2) (by decide) rfl rfl
 exact geV (okV (v := vcGe _ _ _ [0, 1, 2] nA [.one (.ptr 2000 0), .one (.ptr 2001 0)] [(2000, .cells [.ptr 2002 0]), (2001, .cells [.d (.lit (.int .i64 x4)), .d (.lit (.int .i64 x5)), .d (.lit (.int .i64 x6))]), (2002, .cells [.d (.lit (.int .i64 v)), .d (.lit (.int .i64 b)), .d (.sl T3T r), .d (.sl T3T e), .d (.lit (.int .i64 j)), .d (.lit (.int .i64 t)), .d (.lit (.int .i64 n)), .d (.sl T3T c), .d (.sl (.ti .i64) o), .d (.sl WTT ws)])] (.t (I (cutS (b, (r, (e, ((j, (t, n)), c)))) (x4, (x5, x6))).2)) [(2000, .cells [.ptr 2002 0]), (2001, .cells [.d (.lit (.int .i64 x4)), .d (.lit (.int .i64 x5)), .d (.lit (.int .i64 x6))]), (2002, SCX (reformS (v, ((b, (r, (e, ((j, (t, n)), c)))), o)) (cutS (b, (r, (e, ((j, (t, n)), c)))) (x4, (x5, x6)))).1 ws)] nR) (p_do2 v b r e j t n c o ws x4 x5 x6) (by kernel_rfl)) [(2000, sc), (2001, xc), (2002, s)] []
  (inC ⟨_, rfl, h_sc⟩ (inC ⟨_, rfl, h_xc⟩ (inC ⟨_, rfl, h_s⟩ all0))) all0 (upC (fun o ho => by injection ho with ho; subst ho; unfold upd; simp [look_cons, Go.Sy.look, e_sc_xc, Ne.symm e_sc_xc, e_sc_s, Ne.symm e_sc_s, e_xc_s, Ne.symm e_xc_s, h_sc] <;> rfl) (upC (fun o ho => by injection ho with ho; subst ho; unfold upd; simp [look_cons, Go.Sy.look, e_sc_xc, Ne.symm e_sc_xc, e_sc_s, Ne.symm e_sc_s, e_xc_s, Ne.symm e_xc_s, h_xc] <;> rfl) (upC (fun o ho => by injection ho with ho; subst ho; unfold upd; simp [look_cons, Go.Sy.look, e_sc_xc, Ne.symm e_sc_xc, e_sc_s, Ne.symm e_sc_s, e_xc_s, Ne.symm e_xc_s] <;> rfl) all0))) (by simp [e_sc_xc, Ne.symm e_sc_xc, e_sc_s, Ne.symm e_sc_s, e_xc_s, Ne.symm e_xc_s])
theorem ok_do3 : FnOk Try.prog 50 (CE.gen c_do3).con := okG [(48, .gen c_reform), (51, .pu c_openR)] L_ok ⟨ok_reform, ok_openR, trivial⟩ mixed Try.func50 fun args hp fr cs r up h hcs => by
 unfold c_do3 at h
 split at h; rotate_left; cases h
 rename_i sc xc
 split at h; rotate_left; cases h
 rename_i s h_sc
 split at h; rotate_left; cases h
 rename_i x4 x5 x6 h_xc
 split at h; rotate_left; cases h
 rename_i v b r e j t n c o u_ws h_s
 split at h; rotate_left; cases h
 rename_i ws hu_ws
 obtain rfl := asRow_eq hu_ws
 split at h; rotate_left; cases h
 rename_i hd
 injection h with h; injection h with h1 h2; injection h2 with h2 h3; subst h1 h2 h3
 have e_sc_xc : sc ≠ xc := distinct_ne hd (i := 0) (j := 1) (by decide) rfl rfl
 have e_sc_s : sc ≠ s := distinct_ne hd (i := 0) (j := 2) (by decide) rfl rfl
 have e_xc_s : xc ≠ s := distinct_ne hd (i := 1) (j := 2) (by decide) rfl rfl
 exact geV (okV (v := vcGe _ _ _ [0, 1, 2] nA [.one (.ptr 2000 0), .one (.ptr 2001 0)] [(2000, .cells [.ptr 2002 0]), (2001, .cells [.d (.lit (.int .i64 x4)), .d (.lit (.int .i64 x5)), .d (.lit (.int .i64 x6))]), (2002, .cells [.d (.lit (.int .i64 v)), .d (.lit (.int .i64 b)), .d (.sl T3T r), .d (.sl T3T e), .d (.lit (.int .i64 j)), .d (.lit (.int .i64 t)), .d (.lit (.int .i64 n)), .d (.sl T3T c), .d (.sl (.ti .i64) o), .d (.sl WTT ws)])] (.t (I (openS (b, (r, (e, ((j, (t, n)), c)))) (x4, (x5, x6))).2)) [(2000, .cells [.ptr 2002 0]), (2001, .cells [.d (.lit (.int .i64 x4)), .d (.lit (.int .i64 x5)), .d (.lit (.int .i64 x6))]), (2002, SCX (reformS (v, ((b, (r, (e, ((j, (t, n)), c)))), o)) (openS (b, (r, (e, ((j, (t, n)), c)))) (x4, (x5, x6)))).1 ws)] nR) (p_do3 v b r e j t n c o ws x4 x5 x6) (by kernel_rfl)) [(2000, sc), (2001, xc), (2002, s)] []
  (inC ⟨_, rfl, h_sc⟩ (inC ⟨_, rfl, h_xc⟩ (inC ⟨_, rfl, h_s⟩ all0))) all0 (upC (fun o ho => by injection ho with ho; subst ho; unfold upd; simp [look_cons, Go.Sy.look, e_sc_xc, Ne.symm e_sc_xc, e_sc_s, Ne.symm e_sc_s, e_xc_s, Ne.symm e_xc_s, h_sc] <;> rfl) (upC (fun o ho => by injection ho with ho; subst ho; unfold upd; simp [look_cons, Go.Sy.look, e_sc_xc, Ne.symm e_sc_xc, e_sc_s, Ne.symm e_sc_s, e_xc_s, Ne.symm e_xc_s, h_xc] <;> rfl) (upC (fun o ho => by injection ho with ho; subst ho; unfold upd; simp [look_cons, Go.Sy.look, e_sc_xc, Ne.symm e_sc_xc, e_sc_s, Ne.symm e_sc_s, e_xc_s, Ne.symm e_xc_s] <;> rfl) all0))) (by simp [e_sc_xc, Ne.symm e_sc_xc, e_sc_s, Ne.symm e_sc_s, e_xc_s, Ne.symm e_xc_s])
theorem ok_do4 : FnOk Try.prog 52 (CE.gen c_do4).con := okG [(48, .gen c_reform), (53, .pu c_times)] L_ok ⟨ok_reform, ok_times, trivial⟩ mixed Try.func52 fun args hp fr cs r up h hcs => by
 unfold c_do4 at h
 split at h; rotate_left; cases h
 rename_i xc sc
 split at h; rotate_left; cases h
 rename_i x1 x2 x3 x4 x5 x6 h_xc
 split at h; rotate_left; cases h
 rename_i s h_sc
 split at h; rotate_left; cases h
 rename_i v b r e j t n c o u_ws h_s
 split at h; rotate_left; cases h
 rename_i ws hu_ws
 obtain rfl := asRow_eq hu_ws
 split at h; rotate_left; cases h
 rename_i hd
 injection h with h; injection h with h1 h2; injection h2 with h2 h3; subst h1 h2 h3
 have e_xc_sc : xc ≠ sc := distinct_ne hd (i := 0) (j := 1) (by decide) rfl rfl
 have e_xc_s : xc ≠ s := distinct_ne hd (i := 0) (j := 2) (by decide) rfl rfl
 have e_sc_s : sc ≠ s := distinct_ne hd (i := 1) (j := 2) (by decide) rfl rfl
 exact geV (okV (v := vcGe _ _ _ [0, 1, 2, 5] nA [.one (.ptr 2000 0), .one (.ptr 2001 0)] [(2000, .cells [.d (.lit (.int .i64 x1)), .d (.lit (.int .i64 x2)), .d (.lit (.int .i64 x3)), .d (.lit (.int .i64 x4)), .d (.lit (.int .i64 x5)), .d (.lit (.int .i64 x6))]), (2001, .cells [.ptr 2002 0]), (2002, .cells [.d (.lit (.int .i64 v)), .d (.lit (.int .i64 b)), .d (.sl T3T r), .d (.sl T3T e), .d (.lit (.int .i64 j)), .d (.lit (.int .i64 t)), .d (.lit (.int .i64 n)), .d (.sl T3T c), .d (.sl (.ti .i64) o), .d (.sl WTT ws)])] (.t (I (timesD (v, ((b, (r, (e, ((j, (t, n)), c)))), o)) (x1, (x2, (x3, (x4, (x5, x6)))))).2)) [(2000, .cells [.d (.lit (.int .i64 x1)), .d (.lit (.int .i64 x2)), .d (.lit (.int .i64 x3)), .d (.lit (.int .i64 x4)), .d (.lit (.int .i64 x5)), .d (.lit (.int .i64 x6))]), (2001, .cells [.ptr 2002 0]), (2002, SCX (timesD (v, ((b, (r, (e, ((j, (t, n)), c)))), o)) (x1, (x2, (x3, (x4, (x5, x6)))))).1 ws)] nR) (p_do4 v b r e j t n c o ws x1 x2 x3 x4 x5 x6) (by kernel_rfl)) [(2000, xc), (2001, sc), (2002, s)] []
  (inC ⟨_, rfl, h_xc⟩ (inC ⟨_, rfl, h_sc⟩ (inC ⟨_, rfl, h_s⟩ all0))) all0 (upC (fun o ho => by injection ho with ho; subst ho; unfold upd; simp [look_cons, Go.Sy.look, e_xc_sc, Ne.symm e_xc_sc, e_xc_s, Ne.symm e_xc_s, e_sc_s, Ne.symm e_sc_s, h_xc] <;> rfl) (upC (fun o ho => by injection ho with ho; subst ho; unfold upd; simp [look_cons, Go.Sy.look, e_xc_sc, Ne.symm e_xc_sc, e_xc_s, Ne.symm e_xc_s, e_sc_s, Ne.symm e_sc_s, h_sc] <;> rfl) (upC (fun o ho => by injection ho with ho; subst ho; unfold upd; simp [look_cons, Go.Sy.look, e_xc_sc, Ne.symm e_xc_sc, e_xc_s, Ne.symm e_xc_s, e_sc_s, Ne.symm e_sc_s] <;> rfl) all0))) (by simp [e_xc_sc, Ne.symm e_xc_sc, e_xc_s, Ne.symm e_xc_s, e_sc_s, Ne.symm e_sc_s])
theorem ok_do5 : FnOk Try.prog 54 (CE.gen c_do5).con := okG [(55, .gen c_ossia)] L_ok ⟨ok_ossia, trivial⟩ mixed Try.func54 fun args hp fr cs r up h hcs => by
 unfold c_do5 at h
 split at h; rotate_left; cases h
 rename_i sc xc
 split at h; rotate_left; cases h
 rename_i s h_sc
 split at h; rotate_left; cases h
 rename_i x1 x2 x3 x4 x5 x6 h_xc
 split at h; rotate_left; cases h
 rename_i v b r e j t n c o u_ws h_s
 split at h; rotate_left; cases h
 rename_i ws hu_ws
 obtain rfl := asRow_eq hu_ws
 split at h; rotate_left; cases h
 rename_i hd
 injection h with h; injection h with h1 h2; injection h2 with h2 h3; subst h1 h2 h3
 have e_sc_xc : sc ≠ xc := distinct_ne hd (i := 0) (j := 1) (by decide) rfl rfl
 have e_sc_s : sc ≠ s := distinct_ne hd (i := 0) (j := 2) (by decide) rfl rfl
 have e_xc_s : xc ≠ s := distinct_ne hd (i := 1) (j := 2) (by decide) rfl rfl
 exact geV (okV (v := vcGe _ _ _ [0, 1, 2] nA [.one (.ptr 2000 0), .one (.ptr 2001 0)] [(2000, .cells [.ptr 2002 0]), (2001, .cells [.d (.lit (.int .i64 x1)), .d (.lit (.int .i64 x2)), .d (.lit (.int .i64 x3)), .d (.lit (.int .i64 x4)), .d (.lit (.int .i64 x5)), .d (.lit (.int .i64 x6))]), (2002, .cells [.d (.lit (.int .i64 v)), .d (.lit (.int .i64 b)), .d (.sl T3T r), .d (.sl T3T e), .d (.lit (.int .i64 j)), .d (.lit (.int .i64 t)), .d (.lit (.int .i64 n)), .d (.sl T3T c), .d (.sl (.ti .i64) o), .d (.sl WTT ws)])] (.t (I (ossiaS (v, ((b, (r, (e, ((j, (t, n)), c)))), o)) (x1, (x2, (x3, (x4, (x5, x6)))))).2)) [(2000, .cells [.ptr 2002 0]), (2001, .cells [.d (.lit (.int .i64 x1)), .d (.lit (.int .i64 x2)), .d (.lit (.int .i64 x3)), .d (.lit (.int .i64 x4)), .d (.lit (.int .i64 x5)), .d (.lit (.int .i64 x6))]), (2002, SCX (ossiaS (v, ((b, (r, (e, ((j, (t, n)), c)))), o)) (x1, (x2, (x3, (x4, (x5, x6)))))).1 ws)] nR) (p_do5 v b r e j t n c o ws x1 x2 x3 x4 x5 x6 (hcs _ (.head _)) (hcs _ (.tail _ (.head _)))) (by kernel_rfl)) [(2000, sc), (2001, xc), (2002, s)] []
  (inC ⟨_, rfl, h_sc⟩ (inC ⟨_, rfl, h_xc⟩ (inC ⟨_, rfl, h_s⟩ all0))) all0 (upC (fun o ho => by injection ho with ho; subst ho; unfold upd; simp [look_cons, Go.Sy.look, e_sc_xc, Ne.symm e_sc_xc, e_sc_s, Ne.symm e_sc_s, e_xc_s, Ne.symm e_xc_s, h_sc] <;> rfl) (upC (fun o ho => by injection ho with ho; subst ho; unfold upd; simp [look_cons, Go.Sy.look, e_sc_xc, Ne.symm e_sc_xc, e_sc_s, Ne.symm e_sc_s, e_xc_s, Ne.symm e_xc_s, h_xc] <;> rfl) (upC (fun o ho => by injection ho with ho; subst ho; unfold upd; simp [look_cons, Go.Sy.look, e_sc_xc, Ne.symm e_sc_xc, e_sc_s, Ne.symm e_sc_s, e_xc_s, Ne.symm e_xc_s] <;> rfl) all0))) (by simp [e_sc_xc, Ne.symm e_sc_xc, e_sc_s, Ne.symm e_sc_s, e_xc_s, Ne.symm e_xc_s])
theorem ok_do : FnOk Try.prog 28 (CE.gen c_do).con := okG [(45, .gen c_do1), (47, .gen c_do2), (50, .gen c_do3), (52, .gen c_do4), (54, .gen c_do5)] L_ok ⟨ok_do1, ok_do2, ok_do3, ok_do4, ok_do5, trivial⟩ mixed Try.func28 fun args hp fr cs r up h hcs => by
 unfold c_do at h
 split at h; rotate_left; cases h
 rename_i s x1 x2 x3 x4 x5 x6
 split at h; rotate_left; cases h
 rename_i v b r e j t n c o u_ws h_s
 split at h; rotate_left; cases h
 rename_i ws hu_ws
 obtain rfl := asRow_eq hu_ws
 split at h; rotate_left; cases h
 rename_i hd
 injection h with h; injection h with h1 h2; injection h2 with h2 h3; subst h1 h2 h3
 exact geV (okV (v := vcGe _ _ _ [0, 1, 2, 3, 4, 5, 6, 7, 8, 31] nA [.one (.ptr 2000 0), .agg [.d (.lit (.int .i64 x1)), .d (.lit (.int .i64 x2)), .d (.lit (.int .i64 x3)), .d (.lit (.int .i64 x4)), .d (.lit (.int .i64 x5)), .d (.lit (.int .i64 x6))]] [(2000, .cells [.d (.lit (.int .i64 v)), .d (.lit (.int .i64 b)), .d (.sl T3T r), .d (.sl T3T e), .d (.lit (.int .i64 j)), .d (.lit (.int .i64 t)), .d (.lit (.int .i64 n)), .d (.sl T3T c), .d (.sl (.ti .i64) o), .d (.sl WTT ws)])] (.t (I (doS ws (v, ((b, (r, (e, ((j, (t, n)), c)))), o)) (x1, (x2, (x3, (x4, (x5, x6)))))).2)) [(2000, SCX (doS ws (v, ((b, (r, (e, ((j, (t, n)), c)))), o)) (x1, (x2, (x3, (x4, (x5, x6)))))).1 ws)] (fun i _ => if i = 3 then some { sg := [], go := { go := fun _ => true }, sp := some (3, 2, [1, 2, 3, 4, 5]) } else none)) (p_do v b r e j t n c o ws x1 x2 x3 x4 x5 x6 (hcs _ (.head _)) (hcs _ (.tail _ (.head _))) (hcs _ (.tail _ (.tail _ (.head _))))) (by kernel_rfl)) [(2000, s)] []
  (inC ⟨_, rfl, h_s⟩ all0) all0 (upC (fun o ho => by injection ho with ho; subst ho; unfold upd; simp [look_cons, Go.Sy.look] <;> rfl) all0)
theorem ok_isTime : FnOk Try.prog 27 (CE.pu c_isTime).con := okP [] L_ok trivial mixed Try.func27 fun args cs r h hcs => by
 unfold c_isTime at h
 split at h; rotate_left; cases h
 rename_i n
 injection h with h; injection h with h1 h2; subst h1 h2
 exact puV [0, 2] nA nR (okV (p_isTime n) (by kernel_rfl))
theorem ok_until1 : FnOk Try.prog 82 (CE.gen c_until1).con := okG [] L_ok trivial mixed Try.func82 fun args hp fr cs r up h hcs => by
 unfold c_until1 at h
 split at h; rotate_left; cases h
 rename_i z d k t
 split at h; rotate_left; cases h
 rename_i go h_z
 split at h; rotate_left; cases h
 rename_i ds h_d
 split at h; rotate_left; cases h
 rename_i kn h_k
 split at h; rotate_left; cases h
 rename_i tm h_t
 split at h; rotate_left; cases h
 rename_i hd
 injection h with h; injection h with h1 h2; injection h2 with h2 h3; subst h1 h2 h3
 have e_z_d : z ≠ d := distinct_ne hd (i := 0) (j := 1) (by decide) rfl rfl
 have e_z_k : z ≠ k := distinct_ne hd (i := 0) (j := 2) (by decide) rfl rfl
 have e_z_t : z ≠ t := distinct_ne hd (i := 0) (j := 3) (by decide) rfl rfl
 have e_d_k : d ≠ k := distinct_ne hd (i := 1) (j := 2) (by decide) rfl rfl
 have e_d_t : d ≠ t := distinct_ne hd (i := 1) (j := 3) (by decide) rfl rfl
 have e_k_t : k ≠ t := distinct_ne hd (i := 2) (j := 3) (by decide) rfl rfl
 exact geV (okV (v := vcGe _ _ _ [0, 1, 2, 3, 6, 7, 8, 9, 10, 28] (fun _ _ => some { X := Nat, inv := fun x => x ≤ ds.length ∧ (∀ i, i < x → inTime kn tm (List.getD (α := De) ds i de0) = true) ∧ ∀ i, 0 < i → i ≤ x → go ((h1 ds).take i) = true, m := fun x => ds.length - x, s := fun x => [(9, .t (I x))], h := fun x => [(2000, .ob [DTT] ((h1 ds).take x) go)] }) [.one (.yl 2000), .one (.ptr 2001 0), .one (.ptr 2002 0), .one (.ptr 2003 0)] [(2000, .ob [DTT] [] go), (2001, .cells [.d (.sl DTT ds)]), (2002, .cells [.d (.lit (.int .i64 kn))]), (2003, .cells [.d (.lit (.int .i64 tm))])] (.tup []) [(2000, .ob [DTT] (gfed go [] (h1 (untilL ds kn tm))) go), (2001, .cells [.d (.sl DTT ds)]), (2002, .cells [.d (.lit (.int .i64 kn))]), (2003, .cells [.d (.lit (.int .i64 tm))])] nR) (p_until1 ds kn tm go (hcs _ (.head _))) (by kernel_rfl)) [(2000, z), (2001, d), (2002, k), (2003, t)] []
  (inC ⟨_, rfl, h_z⟩ (inC ⟨_, rfl, h_d⟩ (inC ⟨_, rfl, h_k⟩ (inC ⟨_, rfl, h_t⟩ all0)))) all0 (upC (fun o ho => by injection ho with ho; subst ho; unfold upd; simp [look_cons, Go.Sy.look, e_z_d, Ne.symm e_z_d, e_z_k, Ne.symm e_z_k, e_z_t, Ne.symm e_z_t, e_d_k, Ne.symm e_d_k, e_d_t, Ne.symm e_d_t, e_k_t, Ne.symm e_k_t] <;> rfl) (upC (fun o ho => by injection ho with ho; subst ho; unfold upd; simp [look_cons, Go.Sy.look, e_z_d, Ne.symm e_z_d, e_z_k, Ne.symm e_z_k, e_z_t, Ne.symm e_z_t, e_d_k, Ne.symm e_d_k, e_d_t, Ne.symm e_d_t, e_k_t, Ne.symm e_k_t, h_d] <;> rfl) (upC (fun o ho => by injection ho with ho; subst ho; unfold upd; simp [look_cons, Go.Sy.look, e_z_d, Ne.symm e_z_d, e_z_k, Ne.symm e_z_k, e_z_t, Ne.symm e_z_t, e_d_k, Ne.symm e_d_k, e_d_t, Ne.symm e_d_t, e_k_t, Ne.symm e_k_t, h_k] <;> rfl) (upC (fun o ho => by injection ho with ho; subst ho; unfold upd; simp [look_cons, Go.Sy.look, e_z_d, Ne.symm e_z_d, e_z_k, Ne.symm e_z_k, e_z_t, Ne.symm e_z_t, e_d_k, Ne.symm e_d_k, e_d_t, Ne.symm e_d_t, e_k_t, Ne.symm e_k_t, h_t] <;> rfl) all0)))) (by simp [e_z_d, Ne.symm e_z_d, e_z_k, Ne.symm e_z_k, e_z_t, Ne.symm e_z_t, e_d_k, Ne.symm e_d_k, e_d_t, Ne.symm e_d_t, e_k_t, Ne.symm e_k_t])
theorem ok_until : FnOk Try.prog 59 (CE.gen c_until).con := okG [(82, .gen c_until1)] L_ok ⟨ok_until1, trivial⟩ mixed Try.func59 fun args hp fr cs r up h hcs => by
 unfold c_until at h
 split at h; rotate_left; cases h
 rename_i ds kn tm
 split at h; rotate_left; cases h
 rename_i h_d
 split at h; rotate_left; cases h
 rename_i h_k
 split at h; rotate_left; cases h
 rename_i h_t
 split at h; rotate_left; cases h
 rename_i hd
 injection h with h; injection h with h1 h2; injection h2 with h2 h3; subst h1 h2 h3
 have e_d_k : fr ≠ (fr + 1) := distinct_ne hd (i := 0) (j := 1) (by decide) rfl rfl
 have e_d_t : fr ≠ (fr + 2) := distinct_ne hd (i := 0) (j := 2) (by decide) rfl rfl
 have e_k_t : (fr + 1) ≠ (fr + 2) := distinct_ne hd (i := 1) (j := 2) (by decide) rfl rfl
 exact geV (okV (v := vcGe _ _ _ [0, 1, 2, 3, 4, 5, 6] nA [.one (.d (.sl DTT ds)), .one (.d (.lit (.int .i64 kn))), .one (.d (.lit (.int .i64 tm)))] [] (.t (.one (.clo 82 [] [(3, 0), (4, 0), (5, 0)]))) [(3, .cells [.d (.sl DTT ds)]), (4, CI kn), (5, CI tm)] nR) (p_until ds kn tm) (by kernel_rfl)) [] [(3, fr), (4, (fr + 1)), (5, (fr + 2))]
  all0 (frC h_d (frC h_k (frC h_t all0))) (upC (fun o ho => by injection ho with ho; subst ho; unfold upd; simp [look_cons, Go.Sy.look, e_d_k, Ne.symm e_d_k, e_d_t, Ne.symm e_d_t, e_k_t, Ne.symm e_k_t] <;> rfl) (upC (fun o ho => by injection ho with ho; subst ho; unfold upd; simp [look_cons, Go.Sy.look, e_d_k, Ne.symm e_d_k, e_d_t, Ne.symm e_d_t, e_k_t, Ne.symm e_k_t] <;> rfl) (upC (fun o ho => by injection ho with ho; subst ho; unfold upd; simp [look_cons, Go.Sy.look, e_d_k, Ne.symm e_d_k, e_d_t, Ne.symm e_d_t, e_k_t, Ne.symm e_k_t] <;> rfl) all0))) (by simp [e_d_k, Ne.symm e_d_k, e_d_t, Ne.symm e_d_t, e_k_t, Ne.symm e_k_t])
theorem ok_run : FnOk Try.prog 32 (CE.gen c_run).con := okG [(28, .gen c_do), (58, .gen c_newState), (59, .gen c_until), (82, .gen c_until1)] L_ok ⟨ok_do, ok_newState, ok_until, ok_until1, trivial⟩ mixed Try.func32 fun args hp fr cs r up h hcs => by
 unfold c_run at h
 split at h; rotate_left; cases h
 rename_i u_ws ds kn tm
 split at h; rotate_left; cases h
 rename_i ws hu_ws
 obtain rfl := asRow_eq hu_ws
 split at h; rotate_left; cases h
 rename_i h_s
 split at h; rotate_left; cases h
 rename_i hd
 injection h with h; injection h with h1 h2; injection h2 with h2 h3; subst h1 h2 h3
 exact geV (okV (v := vcGe _ _ _ [0, 1, 2, 3, 8, 9, 10, 11, 17, 18, 22, 23, 24] nA [.one (.d (.sl WTT ws)), .one (.d (.sl DTT ds)), .one (.d (.lit (.int .i64 kn))), .one (.d (.lit (.int .i64 tm)))] [] (.tup [.one (.ptr 101300 0), B (runS ws (firstR ws) (untilL ds kn tm)).2]) [(101300, SCX (runS ws (firstR ws) (untilL ds kn tm)).1 ws)] (fun _ _ => some { sg := [DTT], go := goRun ws, h := fun hist => [(101300, SCX (runS ws (firstR ws) (unD hist)).1 ws)], jh := fun hist => [(101300, SCX (runS ws (firstR ws) (unD hist)).1 ws), (8, .cells [.ptr 101300 0])], js := [(.rt, fun hist => (runS ws (firstR ws) (unD hist)).2 = false)] })) (p_run ws ds kn tm (hcs _ (.head _)) (hcs _ (.tail _ (.head _)))) (by kernel_rfl)) [] [(101300, fr)]
  all0 (frC h_s all0) (upC (fun o ho => by injection ho with ho; subst ho; unfold upd; simp [look_cons, Go.Sy.look] <;> rfl) all0)
theorem ok_allA : FnOk Try.prog 26 (CE.gen c_allA).con := okG [(27, .pu c_isTime), (32, .gen c_run), (44, .pu c_areWorks)] L_ok ⟨ok_isTime, ok_run, ok_areWorks, trivial⟩ mixed Try.func26 fun args hp fr cs r up h hcs => by
 unfold c_allA at h
 split at h; rotate_left; cases h
 rename_i u_ws ds
 split at h; rotate_left; cases h
 rename_i ws hu_ws
 obtain rfl := asRow_eq hu_ws
 split at h; rotate_left; cases h
 rename_i hd
 injection h with h; injection h with h1 h2; injection h2 with h2 h3; subst h1 h2 h3
 exact geV (okV (v := vcGe _ _ _ [0, 1, 4, 5, 6, 7, 8, 16, 17, 18, 19, 20, 40] (fun _ _ => some { X := Nat, inv := fun k => k ≤ ds.length ∧ ordFrom 0 0 ds = ordFrom k (lastD ds k) (ds.drop k), m := fun k => ds.length - k, s := fun k => [(19, .t (I k)), (6, .t (I (lastD ds k)))] }) [.one (.d (.sl WTT ws)), .one (.d (.sl DTT ds))] [] (.tup [.one nilP, B false]) [] nR) (p_allA ws ds (hcs _ (.head _))) (by kernel_rfl)) [] []
  all0 all0 all0
theorem ok_allB : FnOk Try.prog 26 (CE.gen c_allB).con := okG [(27, .pu c_isTime), (32, .gen c_run), (44, .pu c_areWorks)] L_ok ⟨ok_isTime, ok_run, ok_areWorks, trivial⟩ mixed Try.func26 fun args hp fr cs r up h hcs => by
 unfold c_allB at h
 split at h; rotate_left; cases h
 rename_i u_ws ds
 split at h; rotate_left; cases h
 rename_i ws hu_ws
 obtain rfl := asRow_eq hu_ws
 split at h; rotate_left; cases h
 rename_i h_s
 split at h; rotate_left; cases h
 rename_i hd
 injection h with h; injection h with h1 h2; injection h2 with h2 h3; subst h1 h2 h3
 exact geV (okV (v := vcGe _ _ _ [0, 1, 4, 5, 6, 7, 8, 16, 17, 18, 19, 20, 40] (fun _ _ => some { X := Nat, inv := fun k => k ≤ ds.length ∧ ordFrom 0 0 ds = ordFrom k (lastD ds k) (ds.drop k), m := fun k => ds.length - k, s := fun k => [(19, .t (I k)), (6, .t (I (lastD ds k)))] }) [.one (.d (.sl WTT ws)), .one (.d (.sl DTT ds))] [] (.tup [.one (.ptr 104800 0), B (runS ws (firstR ws) ds).2]) [(104800, SCX (runS ws (firstR ws) ds).1 ws)] nR) (p_allB ws ds (hcs _ (.head _))) (by kernel_rfl)) [] [(104800, fr)]
  all0 (frC h_s all0) (upC (fun o ho => by injection ho with ho; subst ho; unfold upd; simp [look_cons, Go.Sy.look] <;> rfl) all0)
theorem ok_valA : FnOk Try.prog 13 (CE.gen c_valA).con := okG [(26, .gen c_allA)] L_ok ⟨ok_allA, trivial⟩ mixed Try.func13 fun args hp fr cs r up h hcs => by
 unfold c_valA at h
 split at h; rotate_left; cases h
 rename_i u_ws ds
 split at h; rotate_left; cases h
 rename_i ws hu_ws
 obtain rfl := asRow_eq hu_ws
 split at h; rotate_left; cases h
 rename_i hd
 injection h with h; injection h with h1 h2; injection h2 with h2 h3; subst h1 h2 h3
 exact geV (okV (v := vcGe _ _ _ [0, 1, 4, 6] nA [.one (.d (.sl WTT ws)), .one (.d (.sl DTT ds))] [] (.t (B (validD ws ds))) [] nR) (p_valA ws ds (hcs _ (.head _))) (by kernel_rfl)) [] []
  all0 all0 all0
theorem ok_valB : FnOk Try.prog 13 (CE.gen c_valB).con := okG [(26, .gen c_allB)] L_ok ⟨ok_allB, trivial⟩ mixed Try.func13 fun args hp fr cs r up h hcs => by
 unfold c_valB at h
 split at h; rotate_left; cases h
 rename_i u_ws ds
 split at h; rotate_left; cases h
 rename_i ws hu_ws
 obtain rfl := asRow_eq hu_ws
 split at h; rotate_left; cases h
 rename_i hd
 injection h with h; injection h with h1 h2; injection h2 with h2 h3; subst h1 h2 h3
 exact geV (okV (v := vcGe _ _ _ [0, 1, 4, 6] nA [.one (.d (.sl WTT ws)), .one (.d (.sl DTT ds))] [] (.t (B (validD ws ds))) [] nR) (p_valB ws ds (hcs _ (.head _))) (by kernel_rfl)) [] []
  all0 all0 all0
theorem ok_dValid : FnOk Try.prog 13 (CE.pu c_dValid).con := FnOk.cases ok_valA ok_valB fun args hp fr cs r up h hcs => by
 simp only [CE.con] at h
 split at h
 ·rename_i cs0 r0 h0
  injection h with h; injection h with h1 h2; injection h2 with h2 h3; subst h1 h2 h3
  unfold c_dValid at h0
  split at h0
  ·rename_i u_ws ds
   split at h0
   ·rename_i ws hu
    obtain rfl := asRow_eq hu
    injection h0 with h0; injection h0 with h1 h2; subst h1 h2
    by_cases hc : ordB ws ds = true
    ·exact ⟨_, .inr rfl, _, rfl, fun p hp => by rw [List.mem_singleton.1 hp]; exact hc⟩
    ·exact ⟨_, .inl rfl, _, rfl, fun p hp => by rw [List.mem_singleton.1 hp]; simpa using hc⟩
   ·cases h0
  ·cases h0
 ·cases h
theorem ok_pushA : FnOk Try.prog 11 (CE.gen c_pushA).con := okG [(26, .gen c_allA), (27, .pu c_isTime), (28, .gen c_do), (29, .fr (cloneC DTT 25 5000))] L_ok ⟨ok_allA, ok_isTime, ok_do, ok_cloneD, trivial⟩ mixed Try.func11 fun args hp fr cs r up h hcs => by
 unfold c_pushA at h
 split at h; rotate_left; cases h
 rename_i u_ws ds x1 x2 x3 x4 x5 x6
 split at h; rotate_left; cases h
 rename_i ws hu_ws
 obtain rfl := asRow_eq hu_ws
 split at h; rotate_left; cases h
 rename_i hd
 injection h with h; injection h with h1 h2; injection h2 with h2 h3; subst h1 h2 h3
 exact geV (okV (v := vcGe _ _ _ [0, 1, 2, 5, 6, 7, 8, 9, 10, 11, 20, 46, 60, 67] nA [.one (.d (.sl WTT ws)), .one (.d (.sl DTT ds)), .agg [.d (.lit (.int .i64 x1)), .d (.lit (.int .i64 x2)), .d (.lit (.int .i64 x3)), .d (.lit (.int .i64 x4)), .d (.lit (.int .i64 x5)), .d (.lit (.int .i64 x6))]] [] (.tup [DL (pushS ws ds (x1, (x2, (x3, (x4, (x5, x6)))))).1, I (pushS ws ds (x1, (x2, (x3, (x4, (x5, x6)))))).2]) [] nR) (p_pushA ws ds x1 x2 x3 x4 x5 x6 (hcs _ (.head _))) (by kernel_rfl)) [] []
  all0 all0 all0
theorem ok_pushB : FnOk Try.prog 11 (CE.gen c_pushB).con := okG [(26, .gen c_allB), (27, .pu c_isTime), (28, .gen c_do), (29, .fr (cloneC DTT 25 5000))] L_ok ⟨ok_allB, ok_isTime, ok_do, ok_cloneD, trivial⟩ mixed Try.func11 fun args hp fr cs r up h hcs => by
 unfold c_pushB at h
 split at h; rotate_left; cases h
 rename_i u_ws ds x1 x2 x3 x4 x5 x6
 split at h; rotate_left; cases h
 rename_i ws hu_ws
 obtain rfl := asRow_eq hu_ws
 split at h; rotate_left; cases h
 rename_i hd
 injection h with h; injection h with h1 h2; injection h2 with h2 h3; subst h1 h2 h3
 exact geV (okV (v := vcGe _ _ _ [0, 1, 2, 5, 6, 7, 8, 9, 10, 11, 20, 46, 60, 67] nA [.one (.d (.sl WTT ws)), .one (.d (.sl DTT ds)), .agg [.d (.lit (.int .i64 x1)), .d (.lit (.int .i64 x2)), .d (.lit (.int .i64 x3)), .d (.lit (.int .i64 x4)), .d (.lit (.int .i64 x5)), .d (.lit (.int .i64 x6))]] [] (.tup [DL (pushS ws ds (x1, (x2, (x3, (x4, (x5, x6)))))).1, I (pushS ws ds (x1, (x2, (x3, (x4, (x5, x6)))))).2]) [] nR) (p_pushB ws ds x1 x2 x3 x4 x5 x6 (hcs _ (.head _))) (by kernel_rfl)) [] []
  all0 all0 all0
theorem ok_dPush : FnOk Try.prog 11 (CE.pu c_dPush).con := FnOk.cases ok_pushA ok_pushB fun args hp fr cs r up h hcs => by
 simp only [CE.con] at h
 split at h
 ·rename_i cs0 r0 h0
  injection h with h; injection h with h1 h2; injection h2 with h2 h3; subst h1 h2 h3
  unfold c_dPush at h0
  split at h0
  ·rename_i u_ws ds x1 x2 x3 x4 x5 x6
   split at h0
   ·rename_i ws hu
    obtain rfl := asRow_eq hu
    injection h0 with h0; injection h0 with h1 h2; subst h1 h2
    by_cases hc : ordB ws ds = true
    ·exact ⟨_, .inr rfl, _, rfl, fun p hp => by rw [List.mem_singleton.1 hp]; exact hc⟩
    ·exact ⟨_, .inl rfl, _, rfl, fun p hp => by rw [List.mem_singleton.1 hp]; simpa using hc⟩
   ·cases h0
  ·cases h0
 ·cases h
theorem ok_atA : FnOk Try.prog 16 (CE.gen c_atA).con := okG [(26, .gen c_allA), (27, .pu c_isTime), (32, .gen c_run)] L_ok ⟨ok_allA, ok_isTime, ok_run, trivial⟩ mixed Try.func16 fun args hp fr cs r up h hcs => by
 unfold c_atA at h
 split at h; rotate_left; cases h
 rename_i u_ws ds kn tm
 split at h; rotate_left; cases h
 rename_i ws hu_ws
 obtain rfl := asRow_eq hu_ws
 split at h; rotate_left; cases h
 rename_i hd
 injection h with h; injection h with h1 h2; injection h2 with h2 h3; subst h1 h2 h3
 exact geV (okV (v := vcGe _ _ _ [0, 1, 2, 3, 8, 9, 11, 12, 13, 36] nA [.one (.d (.sl WTT ws)), .one (.d (.sl DTT ds)), .one (.d (.lit (.int .i64 kn))), .one (.d (.lit (.int .i64 tm)))] [] (resR (atD ws ds kn tm)) [] nR) (p_atA ws ds kn tm (hcs _ (.head _))) (by kernel_rfl)) [] []
  all0 all0 all0
theorem ok_atB : FnOk Try.prog 16 (CE.gen c_atB).con := okG [(26, .gen c_allB), (27, .pu c_isTime), (32, .gen c_run)] L_ok ⟨ok_allB, ok_isTime, ok_run, trivial⟩ mixed Try.func16 fun args hp fr cs r up h hcs => by
 unfold c_atB at h
 split at h; rotate_left; cases h
 rename_i u_ws ds kn tm
 split at h; rotate_left; cases h
 rename_i ws hu_ws
 obtain rfl := asRow_eq hu_ws
 split at h; rotate_left; cases h
 rename_i hd
 injection h with h; injection h with h1 h2; injection h2 with h2 h3; subst h1 h2 h3
 exact geV (okV (v := vcGe _ _ _ [0, 1, 2, 3, 8, 9, 11, 12, 13, 36] nA [.one (.d (.sl WTT ws)), .one (.d (.sl DTT ds)), .one (.d (.lit (.int .i64 kn))), .one (.d (.lit (.int .i64 tm)))] [] (resR (atD ws ds kn tm)) [] nR) (p_atB ws ds kn tm (hcs _ (.head _))) (by kernel_rfl)) [] []
  all0 all0 all0
theorem ok_dAt : FnOk Try.prog 16 (CE.pu c_dAt).con := FnOk.cases ok_atA ok_atB fun args hp fr cs r up h hcs => by
 simp only [CE.con] at h
 split at h
 ·rename_i cs0 r0 h0
  injection h with h; injection h with h1 h2; injection h2 with h2 h3; subst h1 h2 h3
  unfold c_dAt at h0
  split at h0
  ·rename_i u_ws ds kn tm
   split at h0
   ·rename_i ws hu
    obtain rfl := asRow_eq hu
    injection h0 with h0; injection h0 with h1 h2; subst h1 h2
    by_cases hc : ordB ws ds = true
    ·exact ⟨_, .inr rfl, _, rfl, fun p hp => by rw [List.mem_singleton.1 hp]; exact hc⟩
    ·exact ⟨_, .inl rfl, _, rfl, fun p hp => by rw [List.mem_singleton.1 hp]; simpa using hc⟩
   ·cases h0
  ·cases h0
 ·cases h
theorem ok_rFind : FnOk Try.prog 22 (CE.pu c_rFind).con := okP [] L_ok trivial mixed Try.func22 fun args cs r h hcs => by
 unfold c_rFind at h
 split at h; rotate_left; cases h
 rename_i u_ws x
 split at h; rotate_left; cases h
 rename_i ws hu_ws
 obtain rfl := asRow_eq hu_ws
 injection h with h; injection h with h1 h2; subst h1 h2
 exact puV [0, 1, 4, 5, 9, 19] (fun _ _ => some { X := Nat, inv := fun k => k ≤ ws.length ∧ ∀ i, i < k → isVer x (List.getD (α := Wk) ws i wk0) = false, m := fun k => ws.length - k, s := fun k => [(5, .t (I k))] }) nR (okV (p_rFind ws x) (by kernel_rfl))
theorem ok_rFirst : FnOk Try.prog 56 (CE.pu c_rFirst).con := okP [] L_ok trivial mixed Try.func56 fun args cs r h hcs => by
 unfold c_rFirst at h
 split at h; rotate_left; cases h
 rename_i u_ws
 split at h; rotate_left; cases h
 rename_i ws hu_ws
 obtain rfl := asRow_eq hu_ws
 injection h with h; injection h with h1 h2; subst h1 h2
 exact puV [0, 2, 12] nA nR (okV (p_rFirst ws (hcs _ (.head _))) (by kernel_rfl))
theorem ok_rWorks : FnOk Try.prog 31 (CE.pu c_rWorks).con := okP [(57, .pu c_rFValid)] L_ok ⟨ok_rFValid, trivial⟩ mixed Try.func31 fun args cs r h hcs => by
 unfold c_rWorks at h
 split at h; rotate_left; cases h
 rename_i u_ws
 split at h; rotate_left; cases h
 rename_i ws hu_ws
 obtain rfl := asRow_eq hu_ws
 injection h with h; injection h with h1 h2; subst h1 h2
 exact puV [0, 2, 3, 4, 5, 13, 17, 57] (fun _ _ => some { X := Nat, inv := fun k => k ≤ ws.length ∧ worksFrom 0 ws = worksFrom (lastW ws k) (ws.drop k), m := fun k => ws.length - k, s := fun k => [(4, .t (I k)), (3, .t (I (lastW ws k)))] }) nR (okV (p_rWorks ws) (by kernel_rfl))
theorem ok_rOssia : FnOk Try.prog 38 (CE.pu c_rOssia).con := okP [] L_ok trivial mixed Try.func38 fun args cs r h hcs => by
 unfold c_rOssia at h
 split at h; rotate_left; cases h
 rename_i v b r e j t n c o x1 x2 x3 x4 x5 x6
 injection h with h; injection h with h1 h2; subst h1 h2
 exact puV [0, 1, 2, 3, 4, 5, 6, 7, 8, 31, 37, 47, 75, 92, 112, 119] (fun _ _ => some { X := Nat, inv := fun k => k ≤ o.length, m := fun k => o.length - k, s := fun k => [(8, .t (I k)), (7, .t (I (ossO x4 x5 o k).2)), (6, .t (.one (.own (rm 6) (.sl (.ti .i64) (ossO x4 x5 o k).1))))], h := fun k => [(rm 6, .gr 3 1 (ossO x4 x5 o k).1.length)] }) nR (okV (p_rOssia v b r e j t n c o x1 x2 x3 x4 x5 x6 (hcs _ (.head _)) (hcs _ (.tail _ (.head _)))) (by kernel_rfl))
theorem ok_rDo : FnOk Try.prog 21 (CE.pu c_rDo).con := okP [(22, .pu c_rFind), (35, .pu c_rCut), (36, .pu c_rOpen), (37, .pu c_rTimes), (38, .pu c_rOssia)] L_ok ⟨ok_rFind, ok_rCut, ok_rOpen, ok_rTimes, ok_rOssia, trivial⟩ mixed Try.func21 fun args cs r h hcs => by
 unfold c_rDo at h
 split at h; rotate_left; cases h
 rename_i u_ws v b r e j t n c o x1 x2 x3 x4 x5 x6
 split at h; rotate_left; cases h
 rename_i ws hu_ws
 obtain rfl := asRow_eq hu_ws
 injection h with h; injection h with h1 h2; subst h1 h2
 exact puV [0, 1, 2, 4, 5, 6, 7, 8, 9, 10, 13, 14, 27, 30, 40, 56, 72, 76, 89, 97] nA nR (okV (p_rDo ws v b r e j t n c o x1 x2 x3 x4 x5 x6 (hcs _ (.head _)) (hcs _ (.tail _ (.head _)))) (by kernel_rfl))
theorem ok_rTime : FnOk Try.prog 20 (CE.pu c_rTime).con := okP [] L_ok trivial mixed Try.func20 fun args cs r h hcs => by
 unfold c_rTime at h
 split at h; rotate_left; cases h
 rename_i n
 injection h with h; injection h with h1 h2; subst h1 h2
 exact puV [0, 2] nA nR (okV (p_rTime n) (by kernel_rfl))
theorem ok_rAfter : FnOk Try.prog 30 (CE.pu c_rAfter).con := okP [(21, .pu c_rDo), (56, .pu c_rFirst)] L_ok ⟨ok_rDo, ok_rFirst, trivial⟩ mixed Try.func30 fun args cs r h hcs => by
 unfold c_rAfter at h
 split at h; rotate_left; cases h
 rename_i u_ws ds
 split at h; rotate_left; cases h
 rename_i ws hu_ws
 obtain rfl := asRow_eq hu_ws
 injection h with h; injection h with h1 h2; subst h1 h2
 exact puV [0, 1, 4, 5, 6, 7, 8, 9, 15, 29, 32] (fun _ _ => some { X := Nat, inv := fun k => k ≤ ds.length ∧ (runS ws (firstR ws) (ds.take k)).2 = true, m := fun k => ds.length - k, s := fun k => [(7, .t (I k))], h := fun k => [(6, RC (runS ws (firstR ws) (ds.take k)).1)] }) nR (okV (p_rAfter ws ds (hcs _ (.head _))) (by kernel_rfl))
theorem ok_rValidD : FnOk Try.prog 14 (CE.pu c_rValidD).con := okP [(20, .pu c_rTime), (30, .pu c_rAfter), (31, .pu c_rWorks)] L_ok ⟨ok_rTime, ok_rAfter, ok_rWorks, trivial⟩ mixed Try.func14 fun args cs r h hcs => by
 unfold c_rValidD at h
 split at h; rotate_left; cases h
 rename_i u_ws ds
 split at h; rotate_left; cases h
 rename_i ws hu_ws
 obtain rfl := asRow_eq hu_ws
 injection h with h; injection h with h1 h2; subst h1 h2
 exact puV [0, 1, 4, 5, 6, 8, 16, 20, 48] (fun _ _ => some { X := Nat, inv := fun k => k ≤ ds.length ∧ ordFrom 0 0 ds = ordFrom k (lastD ds k) (ds.drop k), m := fun k => ds.length - k, s := fun k => [(6, .t (I k)), (5, .t (I (lastD ds k)))] }) nR (okV (p_rValidD ws ds) (by kernel_rfl))
theorem ok_rSameI : FnOk Try.prog 34 (CE.pu c_rSameI).con := okP [] L_ok trivial mixed Try.func34 fun args cs r h hcs => by
 unfold c_rSameI at h
 split at h; rotate_left; cases h
 rename_i l m
 injection h with h; injection h with h1 h2; subst h1 h2
 exact puV [0, 1, 4, 5, 10, 14, 25] (fun _ _ => some { X := Nat, inv := fun x => x ≤ l.length ∧ l.take x = m.take x, m := fun x => l.length - x, s := fun x => [(5, .t (I x))] }) nR (okV (p_rSameI l m) (by kernel_rfl))
theorem ok_rSameR : FnOk Try.prog 18 (CE.pu c_rSameR).con := okP [(33, .pu c_same), (34, .pu c_rSameI)] L_ok ⟨ok_same, ok_rSameI, trivial⟩ mixed Try.func18 fun args cs r h hcs => by
 unfold c_rSameR at h
 split at h; rotate_left; cases h
 rename_i v b r e j t n c o v' b' r' e' j' t' n' c' o'
 injection h with h; injection h with h1 h2; subst h1 h2
 exact puV [0, 1, 2, 3, 4] nA nR (okV (p_rSameR v b r e j t n c o v' b' r' e' j' t' n' c' o') (by kernel_rfl))
theorem ok_rSameD : FnOk Try.prog 15 (CE.pu c_rSameD).con := okP [] L_ok trivial mixed Try.func15 fun args cs r h hcs => by
 unfold c_rSameD at h
 split at h; rotate_left; cases h
 rename_i l m
 injection h with h; injection h with h1 h2; subst h1 h2
 exact puV [0, 1, 4, 5, 10, 14, 25] (fun _ _ => some { X := Nat, inv := fun x => x ≤ l.length ∧ l.take x = m.take x, m := fun x => l.length - x, s := fun x => [(5, .t (I x))] }) nR (okV (p_rSameD l m) (by kernel_rfl))
theorem ok_rFew : FnOk Try.prog 10 (CE.pu c_rFew).con := okP [(25, .pu c_few)] L_ok ⟨ok_few, trivial⟩ mixed Try.func10 fun args cs r h hcs => by
 unfold c_rFew at h
 split at h; rotate_left; cases h
 rename_i u_ws ds
 split at h; rotate_left; cases h
 rename_i ws hu_ws
 obtain rfl := asRow_eq hu_ws
 injection h with h; injection h with h1 h2; subst h1 h2
 exact puV [0, 1, 4, 5, 13, 32] (fun _ _ => some { X := Nat, inv := fun k => k ≤ ws.length ∧ k ≤ 7 ∧ ∀ i, i < k → fewW (List.getD (α := Wk) ws i wk0) = true, m := fun k => ws.length - k, s := fun k => [(5, .t (I k))] }) nR (okV (p_rFew ws ds) (by kernel_rfl))
end Go.Proofs.Ytcklbglladijlaa
