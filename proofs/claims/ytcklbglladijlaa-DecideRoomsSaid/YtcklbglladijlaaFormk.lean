/- The functions meet their contracts. Written by a program (wip/tools/gen.py). -/
import Derived.Test.YtcklbglladijlaaFormq
namespace Go.Proofs.Ytcklbglladijlaa
open Go.Sy Go.RatLaw
set_option linter.unusedVariables false
set_option maxHeartbeats 4000000
set_option maxRecDepth 100000
set_option linter.unusedSimpArgs false

theorem ok_wi1 : FnOk Try.prog 85 (CE.gen c_wi1).con := okG [] L_ok trivial mixed Try.func85 fun args hp fr cs r up h hcs => by
 unfold c_wi1 at h
 split at h; rotate_left; cases h
 rename_i q1 q2 q3 p
 split at h; rotate_left; cases h
 rename_i x h_p
 split at h; rotate_left; cases h
 rename_i hd
 injection h with h; injection h with h1 h2; injection h2 with h2 h3; subst h1 h2 h3
 exact geV (okV (v := vcGe _ _ _ [0, 1, 2, 3] nA [.agg [.d (.lit (.int .i64 q1)), .d (.lit (.int .i64 q2)), .d (.lit (.int .i64 q3))], .one (.ptr 2000 0)] [(2000, .cells [.d (.lit (.int .i64 x))])] (.t (B (inP x (q1, (q2, q3))))) [(2000, .cells [.d (.lit (.int .i64 x))])] nR) (p_wi1 q1 q2 q3 x) (by kernel_rfl)) [(2000, p)] []
  (inC ⟨_, rfl, h_p⟩ all0) all0 (upC (fun o ho => by injection ho with ho; subst ho; unfold upd; simp [look_cons, Go.Sy.look, h_p] <;> rfl) all0)
theorem ok_ae1 : FnOk Try.prog 64 (CE.gen c_ae1).con := okG [] L_ok trivial mixed Try.func64 fun args hp fr cs r up h hcs => by
 unfold c_ae1 at h
 split at h; rotate_left; cases h
 rename_i q1 q2 q3 p
 split at h; rotate_left; cases h
 rename_i x y z h_p
 split at h; rotate_left; cases h
 rename_i hd
 injection h with h; injection h with h1 h2; injection h2 with h2 h3; subst h1 h2 h3
 exact geV (okV (v := vcGe _ _ _ [0, 1, 2, 3] nA [.agg [.d (.lit (.int .i64 q1)), .d (.lit (.int .i64 q2)), .d (.lit (.int .i64 q3))], .one (.ptr 2000 0)] [(2000, .cells [.d (.lit (.int .i64 x)), .d (.lit (.int .i64 y)), .d (.lit (.int .i64 z))])] (.t (B (coverP x y (q1, (q2, q3))))) [(2000, .cells [.d (.lit (.int .i64 x)), .d (.lit (.int .i64 y)), .d (.lit (.int .i64 z))])] nR) (p_ae1 q1 q2 q3 x y z) (by kernel_rfl)) [(2000, p)] []
  (inC ⟨_, rfl, h_p⟩ all0) all0 (upC (fun o ho => by injection ho with ho; subst ho; unfold upd; simp [look_cons, Go.Sy.look, h_p] <;> rfl) all0)
theorem ok_ba1 : FnOk Try.prog 101 (CE.gen c_ba1).con := okG [] L_ok trivial mixed Try.func101 fun args hp fr cs r up h hcs => by
 unfold c_ba1 at h
 split at h; rotate_left; cases h
 rename_i q1 q2 q3 p
 split at h; rotate_left; cases h
 rename_i x h_p
 split at h; rotate_left; cases h
 rename_i hd
 injection h with h; injection h with h1 h2; injection h2 with h2 h3; subst h1 h2 h3
 exact geV (okV (v := vcGe _ _ _ [0, 1, 2, 3] nA [.agg [.d (.lit (.int .i64 q1)), .d (.lit (.int .i64 q2)), .d (.lit (.int .i64 q3))], .one (.ptr 2000 0)] [(2000, .cells [.d (.lit (.int .i64 x))])] (.t (B (startP x (q1, (q2, q3))))) [(2000, .cells [.d (.lit (.int .i64 x))])] nR) (p_ba1 q1 q2 q3 x) (by kernel_rfl)) [(2000, p)] []
  (inC ⟨_, rfl, h_p⟩ all0) all0 (upC (fun o ho => by injection ho with ho; subst ho; unfold upd; simp [look_cons, Go.Sy.look, h_p] <;> rfl) all0)
theorem ok_ie1 : FnOk Try.prog 106 (CE.gen c_ie1).con := okG [] L_ok trivial mixed Try.func106 fun args hp fr cs r up h hcs => by
 unfold c_ie1 at h
 split at h; rotate_left; cases h
 rename_i q1 q2 q3 p q
 split at h; rotate_left; cases h
 rename_i x h_p
 split at h; rotate_left; cases h
 rename_i y h_q
 split at h; rotate_left; cases h
 rename_i hd
 injection h with h; injection h with h1 h2; injection h2 with h2 h3; subst h1 h2 h3
 have e_p_q : p ≠ q := distinct_ne hd (i := 0) (j := 1) (by decide) rfl rfl
 exact geV (okV (v := vcGe _ _ _ [0, 1, 2, 3, 4] nA [.agg [.d (.lit (.int .i64 q1)), .d (.lit (.int .i64 q2)), .d (.lit (.int .i64 q3))], .one (.ptr 2000 0), .one (.ptr 2001 0)] [(2000, .cells [.d (.lit (.int .i64 x))]), (2001, .cells [.d (.lit (.int .i64 y))])] (.t (B (endHit x y (q1, (q2, q3))))) [(2000, .cells [.d (.lit (.int .i64 x))]), (2001, .cells [.d (.lit (.int .i64 y))])] nR) (p_ie1 q1 q2 q3 x y) (by kernel_rfl)) [(2000, p), (2001, q)] []
  (inC ⟨_, rfl, h_p⟩ (inC ⟨_, rfl, h_q⟩ all0)) all0 (upC (fun o ho => by injection ho with ho; subst ho; unfold upd; simp [look_cons, Go.Sy.look, e_p_q, Ne.symm e_p_q, h_p] <;> rfl) (upC (fun o ho => by injection ho with ho; subst ho; unfold upd; simp [look_cons, Go.Sy.look, e_p_q, Ne.symm e_p_q, h_q] <;> rfl) all0)) (by simp [e_p_q, Ne.symm e_p_q])
theorem ok_ixR1 : FnOk Try.prog 84 (CE.gen c_ixR1).con := okG [(85, .gen c_wi1)] L_ok ⟨ok_wi1, trivial⟩ mixed Try.func84 fun args hp fr cs r up h hcs => by
 unfold c_ixR1 at h
 split at h; rotate_left; cases h
 rename_i l p
 split at h; rotate_left; cases h
 rename_i x h_p
 split at h; rotate_left; cases h
 rename_i hd
 injection h with h; injection h with h1 h2; injection h2 with h2 h3; subst h1 h2 h3
 exact geV (okV (v := vcGe _ _ _ [0, 1, 4, 5, 7, 8, 9, 16] (fun _ _ => some { X := Nat, inv := fun k => k ≤ l.length ∧ ∀ i, i < k → inP x (List.getD (α := T3) l i t30) = false, m := fun k => l.length - k, s := fun k => [(8, .t (I k))] }) [.one (.d (.sl T3T l)), .one (.clo 85 [] [(2000, 0)])] [(2000, .cells [.d (.lit (.int .i64 x))])] (.t (I (gidx (inP x) l))) [(2000, .cells [.d (.lit (.int .i64 x))])] nR) (p_ixR1 l x) (by kernel_rfl)) [(2000, p)] []
  (inC ⟨_, rfl, h_p⟩ all0) all0 (upC (fun o ho => by injection ho with ho; subst ho; unfold upd; simp [look_cons, Go.Sy.look, h_p] <;> rfl) all0)
theorem ok_ixR2 : FnOk Try.prog 84 (CE.gen c_ixR2).con := okG [(64, .gen c_ae1)] L_ok ⟨ok_ae1, trivial⟩ mixed Try.func84 fun args hp fr cs r up h hcs => by
 unfold c_ixR2 at h
 split at h; rotate_left; cases h
 rename_i l p
 split at h; rotate_left; cases h
 rename_i x y z h_p
 split at h; rotate_left; cases h
 rename_i hd
 injection h with h; injection h with h1 h2; injection h2 with h2 h3; subst h1 h2 h3
 exact geV (okV (v := vcGe _ _ _ [0, 1, 4, 5, 7, 8, 9, 16] (fun _ _ => some { X := Nat, inv := fun k => k ≤ l.length ∧ ∀ i, i < k → coverP x y (List.getD (α := T3) l i t30) = false, m := fun k => l.length - k, s := fun k => [(8, .t (I k))] }) [.one (.d (.sl T3T l)), .one (.clo 64 [] [(2000, 0)])] [(2000, .cells [.d (.lit (.int .i64 x)), .d (.lit (.int .i64 y)), .d (.lit (.int .i64 z))])] (.t (I (gidx (coverP x y) l))) [(2000, .cells [.d (.lit (.int .i64 x)), .d (.lit (.int .i64 y)), .d (.lit (.int .i64 z))])] nR) (p_ixR2 l x y z) (by kernel_rfl)) [(2000, p)] []
  (inC ⟨_, rfl, h_p⟩ all0) all0 (upC (fun o ho => by injection ho with ho; subst ho; unfold upd; simp [look_cons, Go.Sy.look, h_p] <;> rfl) all0)
theorem ok_ixR3 : FnOk Try.prog 84 (CE.gen c_ixR3).con := okG [(101, .gen c_ba1)] L_ok ⟨ok_ba1, trivial⟩ mixed Try.func84 fun args hp fr cs r up h hcs => by
 unfold c_ixR3 at h
 split at h; rotate_left; cases h
 rename_i l p
 split at h; rotate_left; cases h
 rename_i x h_p
 split at h; rotate_left; cases h
 rename_i hd
 injection h with h; injection h with h1 h2; injection h2 with h2 h3; subst h1 h2 h3
 exact geV (okV (v := vcGe _ _ _ [0, 1, 4, 5, 7, 8, 9, 16] (fun _ _ => some { X := Nat, inv := fun k => k ≤ l.length ∧ ∀ i, i < k → startP x (List.getD (α := T3) l i t30) = false, m := fun k => l.length - k, s := fun k => [(8, .t (I k))] }) [.one (.d (.sl T3T l)), .one (.clo 101 [] [(2000, 0)])] [(2000, .cells [.d (.lit (.int .i64 x))])] (.t (I (gidx (startP x) l))) [(2000, .cells [.d (.lit (.int .i64 x))])] nR) (p_ixR3 l x) (by kernel_rfl)) [(2000, p)] []
  (inC ⟨_, rfl, h_p⟩ all0) all0 (upC (fun o ho => by injection ho with ho; subst ho; unfold upd; simp [look_cons, Go.Sy.look, h_p] <;> rfl) all0)
theorem ok_ixR : FnOk Try.prog 84 (CE.gen c_ixR).con := (FnOk.or ok_ixR1 (FnOk.or ok_ixR2 ok_ixR3))
theorem ok_cfR1 : FnOk Try.prog 63 (CE.gen c_cfR1).con := okG [(84, .gen c_ixR)] L_ok ⟨ok_ixR, trivial⟩ mixed Try.func63 fun args hp fr cs r up h hcs => by
 unfold c_cfR1 at h
 split at h; rotate_left; cases h
 rename_i l p
 split at h; rotate_left; cases h
 rename_i x h_p
 split at h; rotate_left; cases h
 rename_i hd
 injection h with h; injection h with h1 h2; injection h2 with h2 h3; subst h1 h2 h3
 exact geV (okV (v := vcGe _ _ _ [0, 1, 4] nA [.one (.d (.sl T3T l)), .one (.clo 85 [] [(2000, 0)])] [(2000, .cells [.d (.lit (.int .i64 x))])] (.t (B (l.any (inP x)))) [(2000, .cells [.d (.lit (.int .i64 x))])] nR) (p_cfR1 l x) (by kernel_rfl)) [(2000, p)] []
  (inC ⟨_, rfl, h_p⟩ all0) all0 (upC (fun o ho => by injection ho with ho; subst ho; unfold upd; simp [look_cons, Go.Sy.look, h_p] <;> rfl) all0)
theorem ok_cfR2 : FnOk Try.prog 63 (CE.gen c_cfR2).con := okG [(84, .gen c_ixR)] L_ok ⟨ok_ixR, trivial⟩ mixed Try.func63 fun args hp fr cs r up h hcs => by
 unfold c_cfR2 at h
 split at h; rotate_left; cases h
 rename_i l p
 split at h; rotate_left; cases h
 rename_i x y z h_p
 split at h; rotate_left; cases h
 rename_i hd
 injection h with h; injection h with h1 h2; injection h2 with h2 h3; subst h1 h2 h3
 exact geV (okV (v := vcGe _ _ _ [0, 1, 4] nA [.one (.d (.sl T3T l)), .one (.clo 64 [] [(2000, 0)])] [(2000, .cells [.d (.lit (.int .i64 x)), .d (.lit (.int .i64 y)), .d (.lit (.int .i64 z))])] (.t (B (l.any (coverP x y)))) [(2000, .cells [.d (.lit (.int .i64 x)), .d (.lit (.int .i64 y)), .d (.lit (.int .i64 z))])] nR) (p_cfR2 l x y z) (by kernel_rfl)) [(2000, p)] []
  (inC ⟨_, rfl, h_p⟩ all0) all0 (upC (fun o ho => by injection ho with ho; subst ho; unfold upd; simp [look_cons, Go.Sy.look, h_p] <;> rfl) all0)
theorem ok_cfR : FnOk Try.prog 63 (CE.gen c_cfR).con := (FnOk.or ok_cfR1 ok_cfR2)
theorem ok_ixE : FnOk Try.prog 108 (CE.gen c_ixE).con := okG [(106, .gen c_ie1)] L_ok ⟨ok_ie1, trivial⟩ mixed Try.func108 fun args hp fr cs r up h hcs => by
 unfold c_ixE at h
 split at h; rotate_left; cases h
 rename_i l p q
 split at h; rotate_left; cases h
 rename_i x h_p
 split at h; rotate_left; cases h
 rename_i y h_q
 split at h; rotate_left; cases h
 rename_i hd
 injection h with h; injection h with h1 h2; injection h2 with h2 h3; subst h1 h2 h3
 have e_p_q : p ≠ q := distinct_ne hd (i := 0) (j := 1) (by decide) rfl rfl
 exact geV (okV (v := vcGe _ _ _ [0, 1, 4, 5, 7, 8, 9, 16] (fun _ _ => some { X := Nat, inv := fun k => k ≤ l.length ∧ ∀ i, i < k → endHit x y (List.getD (α := T3) l i t30) = false, m := fun k => l.length - k, s := fun k => [(8, .t (I k))] }) [.one (.d (.sl T3T l)), .one (.clo 106 [] [(2000, 0), (2001, 0)])] [(2000, .cells [.d (.lit (.int .i64 x))]), (2001, .cells [.d (.lit (.int .i64 y))])] (.t (I (gidx (endHit x y) l))) [(2000, .cells [.d (.lit (.int .i64 x))]), (2001, .cells [.d (.lit (.int .i64 y))])] nR) (p_ixE l x y) (by kernel_rfl)) [(2000, p), (2001, q)] []
  (inC ⟨_, rfl, h_p⟩ (inC ⟨_, rfl, h_q⟩ all0)) all0 (upC (fun o ho => by injection ho with ho; subst ho; unfold upd; simp [look_cons, Go.Sy.look, e_p_q, Ne.symm e_p_q, h_p] <;> rfl) (upC (fun o ho => by injection ho with ho; subst ho; unfold upd; simp [look_cons, Go.Sy.look, e_p_q, Ne.symm e_p_q, h_q] <;> rfl) all0)) (by simp [e_p_q, Ne.symm e_p_q])
theorem ok_cfE : FnOk Try.prog 105 (CE.gen c_cfE).con := okG [(108, .gen c_ixE)] L_ok ⟨ok_ixE, trivial⟩ mixed Try.func105 fun args hp fr cs r up h hcs => by
 unfold c_cfE at h
 split at h; rotate_left; cases h
 rename_i l p q
 split at h; rotate_left; cases h
 rename_i x h_p
 split at h; rotate_left; cases h
 rename_i y h_q
 split at h; rotate_left; cases h
 rename_i hd
 injection h with h; injection h with h1 h2; injection h2 with h2 h3; subst h1 h2 h3
 have e_p_q : p ≠ q := distinct_ne hd (i := 0) (j := 1) (by decide) rfl rfl
 exact geV (okV (v := vcGe _ _ _ [0, 1, 4] nA [.one (.d (.sl T3T l)), .one (.clo 106 [] [(2000, 0), (2001, 0)])] [(2000, .cells [.d (.lit (.int .i64 x))]), (2001, .cells [.d (.lit (.int .i64 y))])] (.t (B (l.any (endHit x y)))) [(2000, .cells [.d (.lit (.int .i64 x))]), (2001, .cells [.d (.lit (.int .i64 y))])] nR) (p_cfE l x y) (by kernel_rfl)) [(2000, p), (2001, q)] []
  (inC ⟨_, rfl, h_p⟩ (inC ⟨_, rfl, h_q⟩ all0)) all0 (upC (fun o ho => by injection ho with ho; subst ho; unfold upd; simp [look_cons, Go.Sy.look, e_p_q, Ne.symm e_p_q, h_p] <;> rfl) (upC (fun o ho => by injection ho with ho; subst ho; unfold upd; simp [look_cons, Go.Sy.look, e_p_q, Ne.symm e_p_q, h_q] <;> rfl) all0)) (by simp [e_p_q, Ne.symm e_p_q])
theorem ok_isWithin : FnOk Try.prog 65 (CE.pu c_isWithin).con := okP [(63, .gen c_cfR), (85, .gen c_wi1)] L_ok ⟨ok_cfR, ok_wi1, trivial⟩ mixed Try.func65 fun args cs r h hcs => by
 unfold c_isWithin at h
 split at h; rotate_left; cases h
 rename_i b r e j t n c x
 injection h with h; injection h with h1 h2; subst h1 h2
 exact puV [0, 1, 2, 3, 4] nA nR (okV (p_isWithin b r e j t n c x) (by kernel_rfl))
theorem ok_areRepeats : FnOk Try.prog 39 (CE.pu c_areRepeats).con := okP [] L_ok trivial mixed Try.func39 fun args cs r h hcs => by
 unfold c_areRepeats at h
 split at h; rotate_left; cases h
 rename_i b r e j t n c
 injection h with h; injection h with h1 h2; subst h1 h2
 exact puV [0, 1, 2, 3, 5, 8, 9, 10, 11, 42] (fun _ _ => some { X := Nat, inv := fun x => x ≤ r.length ∧ repsFrom b 0 r = repsFrom b (lastT r x) (r.drop x), m := fun x => r.length - x, s := fun x => [(10, .t (I x)), (3, .t (I (lastT r x)))] }) nR (okV (p_areRepeats b r e j t n c) (by kernel_rfl))
theorem ok_areEndings : FnOk Try.prog 40 (CE.pu c_areEndings).con := okP [(63, .gen c_cfR), (64, .gen c_ae1)] L_ok ⟨ok_cfR, ok_ae1, trivial⟩ mixed Try.func40 fun args cs r h hcs => by
 unfold c_areEndings at h
 split at h; rotate_left; cases h
 rename_i b r e j t n c
 injection h with h; injection h with h1 h2; subst h1 h2
 exact puV [0, 1, 2, 3, 5, 6, 9, 10, 11, 12, 44] (fun _ _ => some { X := Nat, inv := fun x => x ≤ e.length ∧ endsFrom r 0 e = endsFrom r (lastT e x) (e.drop x), m := fun x => e.length - x, s := fun x => [(11, .t (I x)), (3, .t (I (lastT e x)))] }) nR (okV (p_areEndings b r e j t n c) (by kernel_rfl))
theorem ok_isJump : FnOk Try.prog 41 (CE.pu c_isJump).con := okP [(65, .pu c_isWithin)] L_ok ⟨ok_isWithin, trivial⟩ mixed Try.func41 fun args cs r h hcs => by
 unfold c_isJump at h
 split at h; rotate_left; cases h
 rename_i b r e j t n c
 injection h with h; injection h with h1 h2; subst h1 h2
 exact puV [0, 1, 2, 3, 9, 47] nA nR (okV (p_isJump b r e j t n c) (by kernel_rfl))
theorem ok_isCut : FnOk Try.prog 66 (CE.pu c_isCut).con := okP [] L_ok trivial mixed Try.func66 fun args cs r h hcs => by
 unfold c_isCut at h
 split at h; rotate_left; cases h
 rename_i b r e j t n c x y z
 injection h with h; injection h with h1 h2; subst h1 h2
 exact puV [0, 1, 2, 3, 4] nA nR (okV (p_isCut b r e j t n c x y z) (by kernel_rfl))
theorem ok_areCuts : FnOk Try.prog 42 (CE.pu c_areCuts).con := okP [(66, .pu c_isCut)] L_ok ⟨ok_isCut, trivial⟩ mixed Try.func42 fun args cs r h hcs => by
 unfold c_areCuts at h
 split at h; rotate_left; cases h
 rename_i b r e j t n c
 injection h with h; injection h with h1 h2; subst h1 h2
 exact puV [0, 1, 2, 3, 5, 9, 10, 11, 12, 23, 25] (fun _ _ => some { X := Nat, inv := fun x => x ≤ c.length ∧ (c.take x).all (cutB b) = true ∧ (c.take x).Nodup, m := fun x => c.length - x, s := fun x => [(11, .t (I x))], h := fun x => [(md 6, .mp T3T .tb (seenC (c.take x)))] }) nR (okV (p_areCuts b r e j t n c) (by kernel_rfl))
theorem ok_isEnding : FnOk Try.prog 102 (CE.pu c_isEnding).con := okP [(105, .gen c_cfE), (106, .gen c_ie1)] L_ok ⟨ok_cfE, ok_ie1, trivial⟩ mixed Try.func102 fun args cs r h hcs => by
 unfold c_isEnding at h
 split at h; rotate_left; cases h
 rename_i b r e j t n c x y
 injection h with h; injection h with h1 h2; subst h1 h2
 exact puV [0, 1, 2, 3, 4, 5, 6] nA nR (okV (p_isEnding b r e j t n c x y) (by kernel_rfl))
theorem ok_bars1 : FnOk Try.prog 100 (CE.gen c_bars1).con := okG [(84, .gen c_ixR), (101, .gen c_ba1), (102, .pu c_isEnding)] L_ok ⟨ok_ixR, ok_ba1, ok_isEnding, trivial⟩ mixed Try.func100 fun args hp fr cs r up h hcs => by
 unfold c_bars1 at h
 split at h; rotate_left; cases h
 rename_i z f u o a
 split at h; rotate_left; cases h
 rename_i go h_z
 split at h; rotate_left; cases h
 rename_i x h_f
 split at h; rotate_left; cases h
 rename_i y h_u
 split at h; rotate_left; cases h
 rename_i b r e j t n c h_o
 split at h; rotate_left; cases h
 rename_i g h_a
 split at h; rotate_left; cases h
 rename_i hd
 injection h with h; injection h with h1 h2; injection h2 with h2 h3; subst h1 h2 h3
 have e_z_f : z ≠ f := distinct_ne hd (i := 0) (j := 1) (by decide) rfl rfl
 have e_z_u : z ≠ u := distinct_ne hd (i := 0) (j := 2) (by decide) rfl rfl
 have e_z_o : z ≠ o := distinct_ne hd (i := 0) (j := 3) (by decide) rfl rfl
 have e_z_a : z ≠ a := distinct_ne hd (i := 0) (j := 4) (by decide) rfl rfl
 have e_f_u : f ≠ u := distinct_ne hd (i := 1) (j := 2) (by decide) rfl rfl
 have e_f_o : f ≠ o := distinct_ne hd (i := 1) (j := 3) (by decide) rfl rfl
 have e_f_a : f ≠ a := distinct_ne hd (i := 1) (j := 4) (by decide) rfl rfl
 have e_u_o : u ≠ o := distinct_ne hd (i := 2) (j := 3) (by decide) rfl rfl
 have e_u_a : u ≠ a := distinct_ne hd (i := 2) (j := 4) (by decide) rfl rfl
 have e_o_a : o ≠ a := distinct_ne hd (i := 3) (j := 4) (by decide) rfl rfl
 exact geV (okV (v := vcGe _ _ _ [0, 1, 2, 3, 4, 6, 7, 8, 9, 10, 11, 15, 17, 24, 28, 37, 42, 50, 63, 66, 67] (fun i σ => if i = 1 then some { X := Int × List Int, inv := fun q => x ≤ q.1 ∧ onG go (partS r e x y (!g)) q.2 (partS r e q.1 y (!g)), m := fun q => (y - q.1).toNat, s := fun _ => [(6, .t (.one (.ptr 6 0)))], h := fun q => [(2000, .ob sgI (h1 q.2) go), (6, CI q.1)] } else if i = 11 then some { X := Int × List Int, inv := fun q => firstP (List.getD (α := T3) r (dI (slD σ 7)).toNat t30) (!g) ≤ q.1 ∧ q.1 ≤ (List.getD (α := T3) r (dI (slD σ 7)).toNat t30).2.2 + 1 ∧ onG go (partS r e x y (!g)) q.2 (passesL e (List.getD (α := T3) r (dI (slD σ 7)).toNat t30) q.1 ++ partS r e (List.getD (α := T3) r (dI (slD σ 7)).toNat t30).2.1 y (!g)), m := fun q => ((List.getD (α := T3) r (dI (slD σ 7)).toNat t30).2.2 + 1 - q.1).toNat, s := fun q => [(10, .t (I q.1))], h := fun q => [(2000, .ob sgI (h1 q.2) go)] } else some { X := Int × List Int, inv := fun q => (List.getD (α := T3) r (dI (slD σ 7)).toNat t30).1 ≤ q.1 ∧ q.1 ≤ (List.getD (α := T3) r (dI (slD σ 7)).toNat t30).2.1 ∧ onG go (partS r e x y (!g)) q.2 (((intsF q.1 (List.getD (α := T3) r (dI (slD σ 7)).toNat t30).2.1).filter fun i => playedB e i (dI (slD σ 10))) ++ (passesL e (List.getD (α := T3) r (dI (slD σ 7)).toNat t30) (dI (slD σ 10) + 1) ++ partS r e (List.getD (α := T3) r (dI (slD σ 7)).toNat t30).2.1 y (!g))), m := fun q => ((List.getD (α := T3) r (dI (slD σ 7)).toNat t30).2.1 - q.1).toNat, s := fun q => [(11, .t (I q.1))], h := fun q => [(2000, .ob sgI (h1 q.2) go)] }) [.one (.yl 2000), .one (.ptr 2001 0), .one (.ptr 2002 0), .one (.ptr 2003 0), .one (.ptr 2004 0)] [(2000, .ob [.ti .i64] [] go), (2001, .cells [.d (.lit (.int .i64 x))]), (2002, .cells [.d (.lit (.int .i64 y))]), (2003, .cells [.d (.lit (.int .i64 b)), .d (.sl T3T r), .d (.sl T3T e), .d (.lit (.int .i64 j)), .d (.lit (.int .i64 t)), .d (.lit (.int .i64 n)), .d (.sl T3T c)]), (2004, .cells [.d (.lit (.bool g))])] (.tup []) [(2000, .ob [.ti .i64] (gfed go [] (h1 (partS r e x y (!g)))) go), (2001, .cells [.d (.lit (.int .i64 x))]), (2002, .cells [.d (.lit (.int .i64 y))]), (2003, .cells [.d (.lit (.int .i64 b)), .d (.sl T3T r), .d (.sl T3T e), .d (.lit (.int .i64 j)), .d (.lit (.int .i64 t)), .d (.lit (.int .i64 n)), .d (.sl T3T c)]), (2004, .cells [.d (.lit (.bool g))])] nR) (p_bars1 b r e j t n c x y g go (hcs _ (.head _)) (hcs _ (.tail _ (.head _)))) (by kernel_rfl)) [(2000, z), (2001, f), (2002, u), (2003, o), (2004, a)] []
  (inC ⟨_, rfl, h_z⟩ (inC ⟨_, rfl, h_f⟩ (inC ⟨_, rfl, h_u⟩ (inC ⟨_, rfl, h_o⟩ (inC ⟨_, rfl, h_a⟩ all0))))) all0 (upC (fun o ho => by injection ho with ho; subst ho; unfold upd; simp [look_cons, Go.Sy.look, e_z_f, Ne.symm e_z_f, e_z_u, Ne.symm e_z_u, e_z_o, Ne.symm e_z_o, e_z_a, Ne.symm e_z_a, e_f_u, Ne.symm e_f_u, e_f_o, Ne.symm e_f_o, e_f_a, Ne.symm e_f_a, e_u_o, Ne.symm e_u_o, e_u_a, Ne.symm e_u_a, e_o_a, Ne.symm e_o_a] <;> rfl) (upC (fun o ho => by injection ho with ho; subst ho; unfold upd; simp [look_cons, Go.Sy.look, e_z_f, Ne.symm e_z_f, e_z_u, Ne.symm e_z_u, e_z_o, Ne.symm e_z_o, e_z_a, Ne.symm e_z_a, e_f_u, Ne.symm e_f_u, e_f_o, Ne.symm e_f_o, e_f_a, Ne.symm e_f_a, e_u_o, Ne.symm e_u_o, e_u_a, Ne.symm e_u_a, e_o_a, Ne.symm e_o_a, h_f] <;> rfl) (upC (fun o ho => by injection ho with ho; subst ho; unfold upd; simp [look_cons, Go.Sy.look, e_z_f, Ne.symm e_z_f, e_z_u, Ne.symm e_z_u, e_z_o, Ne.symm e_z_o, e_z_a, Ne.symm e_z_a, e_f_u, Ne.symm e_f_u, e_f_o, Ne.symm e_f_o, e_f_a, Ne.symm e_f_a, e_u_o, Ne.symm e_u_o, e_u_a, Ne.symm e_u_a, e_o_a, Ne.symm e_o_a, h_u] <;> rfl) (upC (fun o ho => by injection ho with ho; subst ho; unfold upd; simp [look_cons, Go.Sy.look, e_z_f, Ne.symm e_z_f, e_z_u, Ne.symm e_z_u, e_z_o, Ne.symm e_z_o, e_z_a, Ne.symm e_z_a, e_f_u, Ne.symm e_f_u, e_f_o, Ne.symm e_f_o, e_f_a, Ne.symm e_f_a, e_u_o, Ne.symm e_u_o, e_u_a, Ne.symm e_u_a, e_o_a, Ne.symm e_o_a, h_o] <;> rfl) (upC (fun o ho => by injection ho with ho; subst ho; unfold upd; simp [look_cons, Go.Sy.look, e_z_f, Ne.symm e_z_f, e_z_u, Ne.symm e_z_u, e_z_o, Ne.symm e_z_o, e_z_a, Ne.symm e_z_a, e_f_u, Ne.symm e_f_u, e_f_o, Ne.symm e_f_o, e_f_a, Ne.symm e_f_a, e_u_o, Ne.symm e_u_o, e_u_a, Ne.symm e_u_a, e_o_a, Ne.symm e_o_a, h_a] <;> rfl) all0))))) (by simp [e_z_f, Ne.symm e_z_f, e_z_u, Ne.symm e_z_u, e_z_o, Ne.symm e_z_o, e_z_a, Ne.symm e_z_a, e_f_u, Ne.symm e_f_u, e_f_o, Ne.symm e_f_o, e_f_a, Ne.symm e_f_a, e_u_o, Ne.symm e_u_o, e_u_a, Ne.symm e_u_a, e_o_a, Ne.symm e_o_a])
theorem ok_bars : FnOk Try.prog 88 (CE.gen c_bars).con := okG [(100, .gen c_bars1)] L_ok ⟨ok_bars1, trivial⟩ mixed Try.func88 fun args hp fr cs r up h hcs => by
 unfold c_bars at h
 split at h; rotate_left; cases h
 rename_i b r e j t n c x y g
 split at h; rotate_left; cases h
 rename_i h_o
 split at h; rotate_left; cases h
 rename_i h_f
 split at h; rotate_left; cases h
 rename_i h_u
 split at h; rotate_left; cases h
 rename_i h_a
 split at h; rotate_left; cases h
 rename_i hd
 injection h with h; injection h with h1 h2; injection h2 with h2 h3; subst h1 h2 h3
 have e_o_f : fr ≠ (fr + 1) := distinct_ne hd (i := 0) (j := 1) (by decide) rfl rfl
 have e_o_u : fr ≠ (fr + 2) := distinct_ne hd (i := 0) (j := 2) (by decide) rfl rfl
 have e_o_a : fr ≠ (fr + 3) := distinct_ne hd (i := 0) (j := 3) (by decide) rfl rfl
 have e_f_u : (fr + 1) ≠ (fr + 2) := distinct_ne hd (i := 1) (j := 2) (by decide) rfl rfl
 have e_f_a : (fr + 1) ≠ (fr + 3) := distinct_ne hd (i := 1) (j := 3) (by decide) rfl rfl
 have e_u_a : (fr + 2) ≠ (fr + 3) := distinct_ne hd (i := 2) (j := 3) (by decide) rfl rfl
 exact geV (okV (v := vcGe _ _ _ [0, 1, 2, 3, 4, 5, 6, 7, 8] nA [.agg [.d (.lit (.int .i64 b)), .d (.sl T3T r), .d (.sl T3T e), .d (.lit (.int .i64 j)), .d (.lit (.int .i64 t)), .d (.lit (.int .i64 n)), .d (.sl T3T c)], .one (.d (.lit (.int .i64 x))), .one (.d (.lit (.int .i64 y))), .one (.d (.lit (.bool g)))] [] (.t (.one (.clo 100 [] [(5, 0), (6, 0), (4, 0), (7, 0)]))) [(4, .cells [.d (.lit (.int .i64 b)), .d (.sl T3T r), .d (.sl T3T e), .d (.lit (.int .i64 j)), .d (.lit (.int .i64 t)), .d (.lit (.int .i64 n)), .d (.sl T3T c)]), (5, .cells [li .i64 x]), (6, .cells [li .i64 y]), (7, .cells [lb g])] nR) (p_bars b r e j t n c x y g) (by kernel_rfl)) [] [(4, fr), (5, (fr + 1)), (6, (fr + 2)), (7, (fr + 3))]
  all0 (frC h_o (frC h_f (frC h_u (frC h_a all0)))) (upC (fun o ho => by injection ho with ho; subst ho; unfold upd; simp [look_cons, Go.Sy.look, e_o_f, Ne.symm e_o_f, e_o_u, Ne.symm e_o_u, e_o_a, Ne.symm e_o_a, e_f_u, Ne.symm e_f_u, e_f_a, Ne.symm e_f_a, e_u_a, Ne.symm e_u_a] <;> rfl) (upC (fun o ho => by injection ho with ho; subst ho; unfold upd; simp [look_cons, Go.Sy.look, e_o_f, Ne.symm e_o_f, e_o_u, Ne.symm e_o_u, e_o_a, Ne.symm e_o_a, e_f_u, Ne.symm e_f_u, e_f_a, Ne.symm e_f_a, e_u_a, Ne.symm e_u_a] <;> rfl) (upC (fun o ho => by injection ho with ho; subst ho; unfold upd; simp [look_cons, Go.Sy.look, e_o_f, Ne.symm e_o_f, e_o_u, Ne.symm e_o_u, e_o_a, Ne.symm e_o_a, e_f_u, Ne.symm e_f_u, e_f_a, Ne.symm e_f_a, e_u_a, Ne.symm e_u_a] <;> rfl) (upC (fun o ho => by injection ho with ho; subst ho; unfold upd; simp [look_cons, Go.Sy.look, e_o_f, Ne.symm e_o_f, e_o_u, Ne.symm e_o_u, e_o_a, Ne.symm e_o_a, e_f_u, Ne.symm e_f_u, e_f_a, Ne.symm e_f_a, e_u_a, Ne.symm e_u_a] <;> rfl) all0)))) (by simp [e_o_f, Ne.symm e_o_f, e_o_u, Ne.symm e_o_u, e_o_a, Ne.symm e_o_a, e_f_u, Ne.symm e_f_u, e_f_a, Ne.symm e_f_a, e_u_a, Ne.symm e_u_a])
theorem ok_vis1 : FnOk Try.prog 87 (CE.gen c_vis1).con := okG [] L_ok trivial mixed Try.func87 fun args hp fr cs r up h hcs => by
 unfold c_vis1 at h
 split at h; rotate_left; cases h
 rename_i x p q
 split at h; rotate_left; cases h
 rename_i m h_p
 split at h; rotate_left; cases h
 rename_i z h_q
 split at h; rotate_left; cases h
 rename_i l h_m
 split at h; rotate_left; cases h
 rename_i hist go h_z
 split at h; rotate_left; cases h
 rename_i hd
 injection h with h; injection h with h1 h2; injection h2 with h2 h3; subst h1 h2 h3
 have e_p_q : p ≠ q := distinct_ne hd (i := 0) (j := 1) (by decide) rfl rfl
 have e_p_m : p ≠ m := distinct_ne hd (i := 0) (j := 2) (by decide) rfl rfl
 have e_p_z : p ≠ z := distinct_ne hd (i := 0) (j := 3) (by decide) rfl rfl
 have e_q_m : q ≠ m := distinct_ne hd (i := 1) (j := 2) (by decide) rfl rfl
 have e_q_z : q ≠ z := distinct_ne hd (i := 1) (j := 3) (by decide) rfl rfl
 have e_m_z : m ≠ z := distinct_ne hd (i := 2) (j := 3) (by decide) rfl rfl
 exact geV (okV (v := vcGe _ _ _ [0, 1, 2, 4, 8] nA [.one (.d (.lit (.int .i64 x))), .one (.ptr 2000 0), .one (.ptr 2001 0)] [(2000, .cells [.mp 2002]), (2001, .cells [.yl 2003]), (2002, .mp (.ti .i64) (.ti .i64) l), (2003, .ob [T2T] hist go)] (.t (B (go (snocV hist ((x, (mgetI x l).getD 0 + 1), ()))))) [(2000, .cells [.mp 2002]), (2001, .cells [.yl 2003]), (2002, .mp (.ti .i64) (.ti .i64) (bump l x)), (2003, .ob [T2T] (snocV hist ((x, (mgetI x l).getD 0 + 1), ())) go)] nR) (p_vis1 x l hist go (hcs _ (.head _)) (hcs _ (.tail _ (.head _)))) (by kernel_rfl)) [(2000, p), (2001, q), (2002, m), (2003, z)] []
  (inC ⟨_, rfl, h_p⟩ (inC ⟨_, rfl, h_q⟩ (inC ⟨_, rfl, h_m⟩ (inC ⟨_, rfl, h_z⟩ all0)))) all0 (upC (fun o ho => by injection ho with ho; subst ho; unfold upd; simp [look_cons, Go.Sy.look, e_p_q, Ne.symm e_p_q, e_p_m, Ne.symm e_p_m, e_p_z, Ne.symm e_p_z, e_q_m, Ne.symm e_q_m, e_q_z, Ne.symm e_q_z, e_m_z, Ne.symm e_m_z, h_p] <;> rfl) (upC (fun o ho => by injection ho with ho; subst ho; unfold upd; simp [look_cons, Go.Sy.look, e_p_q, Ne.symm e_p_q, e_p_m, Ne.symm e_p_m, e_p_z, Ne.symm e_p_z, e_q_m, Ne.symm e_q_m, e_q_z, Ne.symm e_q_z, e_m_z, Ne.symm e_m_z, h_q] <;> rfl) (upC (fun o ho => by injection ho with ho; subst ho; unfold upd; simp [look_cons, Go.Sy.look, e_p_q, Ne.symm e_p_q, e_p_m, Ne.symm e_p_m, e_p_z, Ne.symm e_p_z, e_q_m, Ne.symm e_q_m, e_q_z, Ne.symm e_q_z, e_m_z, Ne.symm e_m_z] <;> rfl) (upC (fun o ho => by injection ho with ho; subst ho; unfold upd; simp [look_cons, Go.Sy.look, e_p_q, Ne.symm e_p_q, e_p_m, Ne.symm e_p_m, e_p_z, Ne.symm e_p_z, e_q_m, Ne.symm e_q_m, e_q_z, Ne.symm e_q_z, e_m_z, Ne.symm e_m_z] <;> rfl) all0)))) (by simp [e_p_q, Ne.symm e_p_q, e_p_m, Ne.symm e_p_m, e_p_z, Ne.symm e_p_z, e_q_m, Ne.symm e_q_m, e_q_z, Ne.symm e_q_z, e_m_z, Ne.symm e_m_z])
theorem ok_vis : FnOk Try.prog 86 (CE.gen c_vis).con := okG [(87, .gen c_vis1), (88, .gen c_bars), (100, .gen c_bars1)] L_ok ⟨ok_vis1, ok_bars, ok_bars1, trivial⟩ mixed Try.func86 fun args hp fr cs r up h hcs => by
 unfold c_vis at h
 split at h; rotate_left; cases h
 rename_i z o
 split at h; rotate_left; cases h
 rename_i go h_z
 split at h; rotate_left; cases h
 rename_i b r e j t n c h_o
 split at h; rotate_left; cases h
 rename_i hd
 injection h with h; injection h with h1 h2; injection h2 with h2 h3; subst h1 h2 h3
 have e_z_o : z ≠ o := distinct_ne hd (i := 0) (j := 1) (by decide) rfl rfl
 exact geV (okV (v := vcGe _ _ _ [0, 1, 2, 3, 4, 5, 6, 7, 8, 17, 23, 24, 28, 34, 35, 39] nA [.one (.yl 2000), .one (.ptr 2001 0)] [(2000, .ob [T2T] [] go), (2001, .cells [.d (.lit (.int .i64 b)), .d (.sl T3T r), .d (.sl T3T e), .d (.lit (.int .i64 j)), .d (.lit (.int .i64 t)), .d (.lit (.int .i64 n)), .d (.sl T3T c)])] (.tup []) [(2000, .ob [T2T] (gfed go [] (h1 (visS (wholeF (b, (r, (e, ((j, (t, n)), c)))))))) go), (2001, .cells [.d (.lit (.int .i64 b)), .d (.sl T3T r), .d (.sl T3T e), .d (.lit (.int .i64 j)), .d (.lit (.int .i64 t)), .d (.lit (.int .i64 n)), .d (.sl T3T c)])] (fun i _ => if i = 8 then some { sg := sgI, go := goV go [] ((partS r e 0 (untilJ b j) false).length), h := fun hist => [(md 9, .mp (.ti .i64) (.ti .i64) (cntM (unI hist))), (2000, .ob sgV (h1 (visS (unI hist))) go)], js := [(.rt, fun _ => True)] } else some { inv := fun _ => live go (h1 (visS (partS r e 0 (untilJ b j) false))), sg := sgI, go := goV go (partS r e 0 (untilJ b j) false) ((wholeF (b, (r, (e, ((j, (t, n)), c))))).length), h := fun hist => [(md 9, .mp (.ti .i64) (.ti .i64) (cntM (partS r e 0 (untilJ b j) false ++ unI hist))), (2000, .ob sgV (h1 (visS (partS r e 0 (untilJ b j) false ++ unI hist))) go)], js := [(.rt, fun _ => True)] })) (p_vis b r e j t n c go (hcs _ (.head _)) (hcs _ (.tail _ (.head _)))) (by kernel_rfl)) [(2000, z), (2001, o)] []
  (inC ⟨_, rfl, h_z⟩ (inC ⟨_, rfl, h_o⟩ all0)) all0 (upC (fun o ho => by injection ho with ho; subst ho; unfold upd; simp [look_cons, Go.Sy.look, e_z_o, Ne.symm e_z_o] <;> rfl) (upC (fun o ho => by injection ho with ho; subst ho; unfold upd; simp [look_cons, Go.Sy.look, e_z_o, Ne.symm e_z_o, h_o] <;> rfl) all0)) (by simp [e_z_o, Ne.symm e_z_o])
theorem ok_visits : FnOk Try.prog 67 (CE.gen c_visits).con := okG [(86, .gen c_vis)] L_ok ⟨ok_vis, trivial⟩ mixed Try.func67 fun args hp fr cs r up h hcs => by
 unfold c_visits at h
 split at h; rotate_left; cases h
 rename_i b r e j t n c
 split at h; rotate_left; cases h
 rename_i h_o
 split at h; rotate_left; cases h
 rename_i hd
 injection h with h; injection h with h1 h2; injection h2 with h2 h3; subst h1 h2 h3
 exact geV (okV (v := vcGe _ _ _ [0, 1, 2] nA [.agg [.d (.lit (.int .i64 b)), .d (.sl T3T r), .d (.sl T3T e), .d (.lit (.int .i64 j)), .d (.lit (.int .i64 t)), .d (.lit (.int .i64 n)), .d (.sl T3T c)]] [] (.t (.one (.clo 86 [] [(1, 0)]))) [(1, .cells [.d (.lit (.int .i64 b)), .d (.sl T3T r), .d (.sl T3T e), .d (.lit (.int .i64 j)), .d (.lit (.int .i64 t)), .d (.lit (.int .i64 n)), .d (.sl T3T c)])] nR) (p_visits b r e j t n c) (by kernel_rfl)) [] [(1, fr)]
  all0 (frC h_o all0) (upC (fun o ho => by injection ho with ho; subst ho; unfold upd; simp [look_cons, Go.Sy.look] <;> rfl) all0)
theorem ok_isShort : FnOk Try.prog 43 (CE.pu c_isShort).con := okP [(67, .gen c_visits), (86, .gen c_vis)] L_ok ⟨ok_visits, ok_vis, trivial⟩ mixed Try.func43 fun args cs r h hcs => by
 unfold c_isShort at h
 split at h; rotate_left; cases h
 rename_i b r e j t n c
 injection h with h; injection h with h1 h2; subst h1 h2
 exact puV [0, 1, 2, 3, 5, 8, 10] nA (fun _ _ => some { sg := sgV, go := goShort, h := fun hist => [(3, CI hist.length), (2, .cells [lb false])], js := [(.rt, fun _ => True)] }) (okV (p_isShort b r e j t n c (hcs _ (.head _))) (by kernel_rfl))
theorem ok_valid : FnOk Try.prog 23 (CE.pu c_valid).con := okP [(39, .pu c_areRepeats), (40, .pu c_areEndings), (41, .pu c_isJump), (42, .pu c_areCuts), (43, .pu c_isShort)] L_ok ⟨ok_areRepeats, ok_areEndings, ok_isJump, ok_areCuts, ok_isShort, trivial⟩ mixed Try.func23 fun args cs r h hcs => by
 unfold c_valid at h
 split at h; rotate_left; cases h
 rename_i b r e j t n c
 injection h with h; injection h with h1 h2; subst h1 h2
 exact puV [0, 1, 2, 3] nA nR (okV (p_valid b r e j t n c) (by kernel_rfl))
theorem ok_idxCu : FnOk Try.prog 73 (CE.pu c_idxCu).con := okP [] L_ok trivial mixed Try.func73 fun args cs r h hcs => by
 unfold c_idxCu at h
 split at h; rotate_left; cases h
 rename_i l x y z
 injection h with h; injection h with h1 h2; subst h1 h2
 exact puV [0, 1, 3, 4, 5, 7, 8, 9, 16] (fun _ _ => some { X := Nat, inv := fun k => k ≤ l.length ∧ ∀ i, i < k → List.getD (α := T3) l i t30 ≠ (x, (y, z)), m := fun k => l.length - k, s := fun k => [(8, .t (I k))] }) nR (okV (p_idxCu l x y z) (by kernel_rfl))
theorem ok_contC : FnOk Try.prog 71 (CE.pu c_contC).con := okP [(73, .pu c_idxCu)] L_ok ⟨ok_idxCu, trivial⟩ mixed Try.func71 fun args cs r h hcs => by
 unfold c_contC at h
 split at h; rotate_left; cases h
 rename_i l x y z
 injection h with h; injection h with h1 h2; subst h1 h2
 exact puV [0, 1, 3, 4] nA nR (okV (p_contC l x y z) (by kernel_rfl))
theorem ok_rWithin : FnOk Try.prog 97 (CE.pu c_rWithin).con := okP [] L_ok trivial mixed Try.func97 fun args cs r h hcs => by
 unfold c_rWithin at h
 split at h; rotate_left; cases h
 rename_i r x
 injection h with h; injection h with h1 h2; subst h1 h2
 exact puV [0, 1, 4, 5, 9, 27] (fun _ _ => some { X := Nat, inv := fun k => k ≤ r.length ∧ ∀ i, i < k → inP x (List.getD (α := T3) r i t30) = false, m := fun k => r.length - k, s := fun k => [(5, .t (I k))] }) nR (okV (p_rWithin r x) (by kernel_rfl))
theorem ok_rRepeats : FnOk Try.prog 79 (CE.pu c_rRepeats).con := okP [] L_ok trivial mixed Try.func79 fun args cs r h hcs => by
 unfold c_rRepeats at h
 split at h; rotate_left; cases h
 rename_i r b
 injection h with h; injection h with h1 h2; subst h1 h2
 exact puV [0, 1, 4, 5, 6, 9, 13, 60] (fun _ _ => some { X := Nat, inv := fun x => x ≤ r.length ∧ repsFrom b 0 r = repsFrom b (lastT r x) (r.drop x), m := fun x => r.length - x, s := fun x => [(6, .t (I x)), (5, .t (I (lastT r x)))] }) nR (okV (p_rRepeats r b) (by kernel_rfl))
theorem ok_rInside : FnOk Try.prog 96 (CE.pu c_rInside).con := okP [] L_ok trivial mixed Try.func96 fun args cs r h hcs => by
 unfold c_rInside at h
 split at h; rotate_left; cases h
 rename_i r x y
 injection h with h; injection h with h1 h2; subst h1 h2
 exact puV [0, 1, 2, 6, 7, 11, 29] (fun _ _ => some { X := Nat, inv := fun k => k ≤ r.length ∧ ∀ i, i < k → coverP x y (List.getD (α := T3) r i t30) = false, m := fun k => r.length - k, s := fun k => [(7, .t (I k))] }) nR (okV (p_rInside r x y) (by kernel_rfl))
theorem ok_rEndings : FnOk Try.prog 80 (CE.pu c_rEndings).con := okP [(96, .pu c_rInside)] L_ok ⟨ok_rInside, trivial⟩ mixed Try.func80 fun args cs r h hcs => by
 unfold c_rEndings at h
 split at h; rotate_left; cases h
 rename_i b r e j t n c
 injection h with h; injection h with h1 h2; subst h1 h2
 exact puV [0, 1, 2, 3, 4, 5, 9, 14, 52] (fun _ _ => some { X := Nat, inv := fun x => x ≤ e.length ∧ endsFrom r 0 e = endsFrom r (lastT e x) (e.drop x), m := fun x => e.length - x, s := fun x => [(4, .t (I x)), (3, .t (I (lastT e x)))] }) nR (okV (p_rEndings b r e j t n c) (by kernel_rfl))
theorem ok_rJump : FnOk Try.prog 81 (CE.pu c_rJump).con := okP [(97, .pu c_rWithin)] L_ok ⟨ok_rWithin, trivial⟩ mixed Try.func81 fun args cs r h hcs => by
 unfold c_rJump at h
 split at h; rotate_left; cases h
 rename_i b r e j t n c
 injection h with h; injection h with h1 h2; subst h1 h2
 exact puV [0, 1, 2, 3, 8, 44] nA nR (okV (p_rJump b r e j t n c) (by kernel_rfl))
theorem ok_rCut1 : FnOk Try.prog 60 (CE.pu c_rCut1).con := okP [] L_ok trivial mixed Try.func60 fun args cs r h hcs => by
 unfold c_rCut1 at h
 split at h; rotate_left; cases h
 rename_i b r e j t n c x y z
 injection h with h; injection h with h1 h2; subst h1 h2
 exact puV [0, 1, 2, 3, 4] nA nR (okV (p_rCut1 b r e j t n c x y z) (by kernel_rfl))
theorem ok_rHas : FnOk Try.prog 61 (CE.pu c_rHas).con := okP [] L_ok trivial mixed Try.func61 fun args cs r h hcs => by
 unfold c_rHas at h
 split at h; rotate_left; cases h
 rename_i l x y z
 injection h with h; injection h with h1 h2; subst h1 h2
 exact puV [0, 1, 3, 4, 5, 9, 17] (fun _ _ => some { X := Nat, inv := fun k => k ≤ l.length ∧ ∀ i, i < k → List.getD (α := T3) l i t30 ≠ (x, (y, z)), m := fun k => l.length - k, s := fun k => [(5, .t (I k))] }) nR (okV (p_rHas l x y z) (by kernel_rfl))
theorem ok_rPlayed : FnOk Try.prog 99 (CE.pu c_rPlayed).con := okP [] L_ok trivial mixed Try.func99 fun args cs r h hcs => by
 unfold c_rPlayed at h
 split at h; rotate_left; cases h
 rename_i b r e j t n c x y
 injection h with h; injection h with h1 h2; subst h1 h2
 exact puV [0, 1, 2, 3, 6, 7, 8, 13, 36] (fun _ _ => some { X := Nat, inv := fun k => k ≤ e.length ∧ ∀ i, i < k → endHit x y (List.getD (α := T3) e i t30) = false, m := fun k => e.length - k, s := fun k => [(7, .t (I k))] }) nR (okV (p_rPlayed b r e j t n c x y) (by kernel_rfl))
theorem ok_rStarts : FnOk Try.prog 98 (CE.pu c_rStarts).con := okP [] L_ok trivial mixed Try.func98 fun args cs r h hcs => by
 unfold c_rStarts at h
 split at h; rotate_left; cases h
 rename_i b r e j t n c x
 injection h with h; injection h with h1 h2; subst h1 h2
 exact puV [0, 1, 2, 4, 5, 10, 20] (fun _ _ => some { X := Nat, inv := fun k => k ≤ r.length ∧ ∀ i, i < k → startP x (List.getD (α := T3) r i t30) = false, m := fun k => r.length - k, s := fun k => [(5, .t (I k))] }) nR (okV (p_rStarts b r e j t n c x) (by kernel_rfl))
theorem ok_rPart : FnOk Try.prog 83 (CE.gen c_rPart).con := okG [(98, .pu c_rStarts), (99, .pu c_rPlayed)] L_ok ⟨ok_rStarts, ok_rPlayed, trivial⟩ mixed Try.func83 fun args hp fr cs r up h hcs => by
 unfold c_rPart at h
 split at h; rotate_left; cases h
 rename_i b r e j t n c x y g
 split at h; rotate_left; cases h
 rename_i h_w
 split at h; rotate_left; cases h
 rename_i hd
 injection h with h; injection h with h1 h2; injection h2 with h2 h3; subst h1 h2 h3
 exact geV (okV (v := vcGe _ _ _ [0, 1, 2, 3, 4, 8, 9, 10, 11, 12, 13, 14, 15, 19, 24, 36, 43, 51, 57] (fun i σ => if i = 3 then some { X := Int × List Int, inv := fun q => x ≤ q.1 ∧ q.2 ++ partS r e q.1 y g = partS r e x y g, m := fun q => (y - q.1).toNat, s := fun q => [(10, .t (I q.1)), (9, .t (.one (.own (rm 9) (.sl (.ti .i64) q.2))))], h := fun q => [(rm 9, .gr 3 1 q.2.length)] } else if i = 13 then some { X := Int × List Int, inv := fun q => firstP (List.getD (α := T3) r (dI (slD σ 11)).toNat t30) g ≤ q.1 ∧ q.1 ≤ (List.getD (α := T3) r (dI (slD σ 11)).toNat t30).2.2 + 1 ∧ q.2 ++ (passesL e (List.getD (α := T3) r (dI (slD σ 11)).toNat t30) q.1 ++ partS r e (List.getD (α := T3) r (dI (slD σ 11)).toNat t30).2.1 y g) = partS r e x y g, m := fun q => ((List.getD (α := T3) r (dI (slD σ 11)).toNat t30).2.2 + 1 - q.1).toNat, s := fun q => [(14, .t (I q.1)), (9, .t (.one (.own (rm 9) (.sl (.ti .i64) q.2))))], h := fun q => [(rm 9, .gr 3 1 q.2.length)] } else some { X := Int × List Int, inv := fun q => (List.getD (α := T3) r (dI (slD σ 11)).toNat t30).1 ≤ q.1 ∧ q.1 ≤ (List.getD (α := T3) r (dI (slD σ 11)).toNat t30).2.1 ∧ q.2 ++ (((intsF q.1 (List.getD (α := T3) r (dI (slD σ 11)).toNat t30).2.1).filter fun i => playedB e i (dI (slD σ 14))) ++ (passesL e (List.getD (α := T3) r (dI (slD σ 11)).toNat t30) (dI (slD σ 14) + 1) ++ partS r e (List.getD (α := T3) r (dI (slD σ 11)).toNat t30).2.1 y g)) = partS r e x y g, m := fun q => ((List.getD (α := T3) r (dI (slD σ 11)).toNat t30).2.1 - q.1).toNat, s := fun q => [(15, .t (I q.1)), (9, .t (.one (.own (rm 9) (.sl (.ti .i64) q.2))))], h := fun q => [(rm 9, .gr 3 1 q.2.length)] }) [.agg [.d (.lit (.int .i64 b)), .d (.sl T3T r), .d (.sl T3T e), .d (.lit (.int .i64 j)), .d (.lit (.int .i64 t)), .d (.lit (.int .i64 n)), .d (.sl T3T c)], .one (.d (.lit (.int .i64 x))), .one (.d (.lit (.int .i64 y))), .one (.d (.lit (.bool g)))] [] (.t (.one (.own 70009 (.sl (.ti .i64) (partS r e x y g))))) [(70009, .gr 3 1 (partS r e x y g).length)] nR) (p_rPart b r e j t n c x y g (hcs _ (.head _))) (by kernel_rfl)) [] [(70009, fr)]
  all0 (frC h_w all0) (upC (fun o ho => by injection ho with ho; subst ho; unfold upd; simp [look_cons, Go.Sy.look] <;> rfl) all0)
theorem ok_rWhole : FnOk Try.prog 62 (CE.pu c_rWhole).con := okP [(83, .gen c_rPart)] L_ok ⟨ok_rPart, trivial⟩ mixed Try.func62 fun args cs r h hcs => by
 unfold c_rWhole at h
 split at h; rotate_left; cases h
 rename_i b r e j t n c
 injection h with h; injection h with h1 h2; subst h1 h2
 exact puV [0, 1, 2, 3, 7] nA nR (okV (p_rWhole b r e j t n c (hcs _ (.head _))) (by kernel_rfl))
theorem ok_rFValid : FnOk Try.prog 57 (CE.pu c_rFValid).con := okP [(60, .pu c_rCut1), (61, .pu c_rHas), (62, .pu c_rWhole), (79, .pu c_rRepeats), (80, .pu c_rEndings), (81, .pu c_rJump)] L_ok ⟨ok_rCut1, ok_rHas, ok_rWhole, ok_rRepeats, ok_rEndings, ok_rJump, trivial⟩ mixed Try.func57 fun args cs r h hcs => by
 unfold c_rFValid at h
 split at h; rotate_left; cases h
 rename_i b r e j t n c
 injection h with h; injection h with h1 h2; subst h1 h2
 exact puV [0, 1, 2, 3, 35, 40, 63] (fun _ _ => some { X := Nat, inv := fun k => k ≤ c.length ∧ (c.take k).all (cutB b) = true ∧ (c.take k).Nodup, m := fun k => c.length - k, s := fun k => [(3, .t (I k))] }) nR (okV (p_rFValid b r e j t n c) (by kernel_rfl))
theorem ok_same : FnOk Try.prog 33 (CE.pu c_same).con := okP [] L_ok trivial mixed Try.func33 fun args cs r h hcs => by
 unfold c_same at h
 split at h; rotate_left; cases h
 rename_i b r e j t n c b' r' e' j' t' n' c'
 injection h with h; injection h with h1 h2; subst h1 h2
 exact puV [0, 1, 2, 3, 4, 5, 6, 7, 46, 51, 64, 69, 82, 87, 100] (fun i _ => if i = 4 then some { X := Nat, inv := fun x => x ≤ r.length ∧ r.take x = r'.take x, m := fun x => r.length - x, s := fun x => [(5, .t (I x))] } else if i = 9 then some { X := Nat, inv := fun x => x ≤ e.length ∧ e.take x = e'.take x, m := fun x => e.length - x, s := fun x => [(6, .t (I x))] } else some { X := Nat, inv := fun x => x ≤ c.length ∧ c.take x = c'.take x, m := fun x => c.length - x, s := fun x => [(7, .t (I x))] }) nR (okV (p_same b r e j t n c b' r' e' j' t' n' c') (by kernel_rfl))
theorem ok_few : FnOk Try.prog 25 (CE.pu c_few).con := okP [] L_ok trivial mixed Try.func25 fun args cs r h hcs => by
 unfold c_few at h
 split at h; rotate_left; cases h
 rename_i b r e j t n c
 injection h with h; injection h with h1 h2; subst h1 h2
 exact puV [0, 1, 2] nA nR (okV (p_few b r e j t n c) (by kernel_rfl))
theorem ok_rCut : FnOk Try.prog 35 (CE.pu c_rCut).con := okP [(57, .pu c_rFValid), (60, .pu c_rCut1), (61, .pu c_rHas)] L_ok ⟨ok_rFValid, ok_rCut1, ok_rHas, trivial⟩ mixed Try.func35 fun args cs r h hcs => by
 unfold c_rCut at h
 split at h; rotate_left; cases h
 rename_i b r e j t n c x y z
 injection h with h; injection h with h1 h2; subst h1 h2
 exact puV [0, 1, 2, 3, 4, 5, 6, 15, 21, 26, 36] nA nR (okV (p_rCut b r e j t n c x y z) (by kernel_rfl))
theorem ok_rOpen : FnOk Try.prog 36 (CE.pu c_rOpen).con := okP [(57, .pu c_rFValid), (61, .pu c_rHas)] L_ok ⟨ok_rFValid, ok_rHas, trivial⟩ mixed Try.func36 fun args cs r h hcs => by
 unfold c_rOpen at h
 split at h; rotate_left; cases h
 rename_i b r e j t n c x y z
 injection h with h; injection h with h1 h2; subst h1 h2
 exact puV [0, 1, 2, 3, 4, 5, 6, 7, 10, 17, 32] nA nR (okV (p_rOpen b r e j t n c x y z) (by kernel_rfl))
theorem ok_rTimes : FnOk Try.prog 37 (CE.pu c_rTimes).con := okP [(57, .pu c_rFValid), (62, .pu c_rWhole)] (LV_ok [] [62] false) ⟨ok_rFValid, ok_rWhole, trivial⟩ mixed Try.func37 fun args cs r h hcs => by
 unfold c_rTimes at h
 split at h; rotate_left; cases h
 rename_i b r e j t n c x y
 injection h with h; injection h with h1 h2; subst h1 h2
 exact puV [0, 1, 2, 3, 6, 7, 8, 11, 21, 28, 38, 40, 44] nA nR (okV (p_rTimes b r e j t n c x y) (by kernel_rfl))
theorem ok_clR1 : FnOk Try.prog 89 (CE.gen c_clR1).con := okG [] (LV_ok [] [62] false) trivial mixed Try.func89 fun args hp fr cs r up h hcs => by
 unfold c_clR1 at h
 split at h; rotate_left; cases h
 split at h; rotate_left; cases h
 rename_i h_x
 split at h; rotate_left; cases h
 rename_i hd
 injection h with h; injection h with h1 h2; injection h2 with h2 h3; subst h1 h2 h3
 exact geV (okV (v := vcGe _ _ _ [0, 2, 4] nA [.one (.nn true (.sl T3T []))] [] (.t (.one (.vr 5000002 0))) [(5000002, .vec T3T 62 [])] nR) (p_clR1) (by kernel_rfl)) [] [(5000002, fr)]
  all0 (frC h_x all0) (upC (fun o ho => by injection ho with ho; subst ho; unfold upd; simp [look_cons, Go.Sy.look] <;> rfl) all0)
theorem ok_clR2 : FnOk Try.prog 89 (CE.gen c_clR2).con := okG [] (LV_ok [] [62] false) trivial mixed Try.func89 fun args hp fr cs r up h hcs => by
 unfold c_clR2 at h
 split at h; rotate_left; cases h
 rename_i l
 split at h; rotate_left; cases h
 rename_i h_x
 split at h; rotate_left; cases h
 rename_i hd
 injection h with h; injection h with h1 h2; injection h2 with h2 h3; subst h1 h2 h3
 exact geV (okV (v := vcGe _ _ _ [0, 2, 4] nA [.one (.nn false (.sl T3T l))] [] (.t (.one (.vr 70005 l.length))) [(70005, .vec T3T 62 l)] nR) (p_clR2 l (hcs _ (.head _))) (by kernel_rfl)) [] [(70005, fr)]
  all0 (frC h_x all0) (upC (fun o ho => by injection ho with ho; subst ho; unfold upd; simp [look_cons, Go.Sy.look] <;> rfl) all0)
theorem ok_clR : FnOk Try.prog 89 (CE.gen c_clR).con := (FnOk.or ok_clR1 ok_clR2)
theorem ok_cloneR : FnOk Try.prog 89 (CE.fr (cloneC T3T 62 100)).con := clone_ok ok_clR (fun hp fr h => by simp [c_clR, c_clR1, orC, h, Go.Sy.distinct, Go.Sy.mem]) (fun l hp fr h => by simp [c_clR, c_clR1, c_clR2, orC, h, Go.Sy.distinct, Go.Sy.mem])
theorem ok_clE1 : FnOk Try.prog 90 (CE.gen c_clE1).con := okG [] (LV_ok [] [99] false) trivial mixed Try.func90 fun args hp fr cs r up h hcs => by
 unfold c_clE1 at h
 split at h; rotate_left; cases h
 split at h; rotate_left; cases h
 rename_i h_x
 split at h; rotate_left; cases h
 rename_i hd
 injection h with h; injection h with h1 h2; injection h2 with h2 h3; subst h1 h2 h3
 exact geV (okV (v := vcGe _ _ _ [0, 2, 4] nA [.one (.nn true (.sl T3T []))] [] (.t (.one (.vr 5000002 0))) [(5000002, .vec T3T 99 [])] nR) (p_clE1) (by kernel_rfl)) [] [(5000002, fr)]
  all0 (frC h_x all0) (upC (fun o ho => by injection ho with ho; subst ho; unfold upd; simp [look_cons, Go.Sy.look] <;> rfl) all0)
theorem ok_clE2 : FnOk Try.prog 90 (CE.gen c_clE2).con := okG [] (LV_ok [] [99] false) trivial mixed Try.func90 fun args hp fr cs r up h hcs => by
 unfold c_clE2 at h
 split at h; rotate_left; cases h
 rename_i l
 split at h; rotate_left; cases h
 rename_i h_x
 split at h; rotate_left; cases h
 rename_i hd
 injection h with h; injection h with h1 h2; injection h2 with h2 h3; subst h1 h2 h3
 exact geV (okV (v := vcGe _ _ _ [0, 2, 4] nA [.one (.nn false (.sl T3T l))] [] (.t (.one (.vr 70005 l.length))) [(70005, .vec T3T 99 l)] nR) (p_clE2 l (hcs _ (.head _))) (by kernel_rfl)) [] [(70005, fr)]
  all0 (frC h_x all0) (upC (fun o ho => by injection ho with ho; subst ho; unfold upd; simp [look_cons, Go.Sy.look] <;> rfl) all0)
theorem ok_clE : FnOk Try.prog 90 (CE.gen c_clE).con := (FnOk.or ok_clE1 ok_clE2)
theorem ok_cloneE : FnOk Try.prog 90 (CE.fr (cloneC T3T 99 100)).con := clone_ok ok_clE (fun hp fr h => by simp [c_clE, c_clE1, orC, h, Go.Sy.distinct, Go.Sy.mem]) (fun l hp fr h => by simp [c_clE, c_clE1, c_clE2, orC, h, Go.Sy.distinct, Go.Sy.mem])
theorem ok_clC1 : FnOk Try.prog 91 (CE.gen c_clC1).con := okG [] (LV_ok [] [67] false) trivial mixed Try.func91 fun args hp fr cs r up h hcs => by
 unfold c_clC1 at h
 split at h; rotate_left; cases h
 split at h; rotate_left; cases h
 rename_i h_x
 split at h; rotate_left; cases h
 rename_i hd
 injection h with h; injection h with h1 h2; injection h2 with h2 h3; subst h1 h2 h3
 exact geV (okV (v := vcGe _ _ _ [0, 2, 4] nA [.one (.nn true (.sl T3T []))] [] (.t (.one (.vr 5000002 0))) [(5000002, .vec T3T 67 [])] nR) (p_clC1) (by kernel_rfl)) [] [(5000002, fr)]
  all0 (frC h_x all0) (upC (fun o ho => by injection ho with ho; subst ho; unfold upd; simp [look_cons, Go.Sy.look] <;> rfl) all0)
theorem ok_clC2 : FnOk Try.prog 91 (CE.gen c_clC2).con := okG [] (LV_ok [] [67] false) trivial mixed Try.func91 fun args hp fr cs r up h hcs => by
 unfold c_clC2 at h
 split at h; rotate_left; cases h
 rename_i l
 split at h; rotate_left; cases h
 rename_i h_x
 split at h; rotate_left; cases h
 rename_i hd
 injection h with h; injection h with h1 h2; injection h2 with h2 h3; subst h1 h2 h3
 exact geV (okV (v := vcGe _ _ _ [0, 2, 4] nA [.one (.nn false (.sl T3T l))] [] (.t (.one (.vr 70005 l.length))) [(70005, .vec T3T 67 l)] nR) (p_clC2 l (hcs _ (.head _))) (by kernel_rfl)) [] [(70005, fr)]
  all0 (frC h_x all0) (upC (fun o ho => by injection ho with ho; subst ho; unfold upd; simp [look_cons, Go.Sy.look] <;> rfl) all0)
theorem ok_clC : FnOk Try.prog 91 (CE.gen c_clC).con := (FnOk.or ok_clC1 ok_clC2)
theorem ok_cloneC : FnOk Try.prog 91 (CE.fr (cloneC T3T 67 100)).con := clone_ok ok_clC (fun hp fr h => by simp [c_clC, c_clC1, orC, h, Go.Sy.distinct, Go.Sy.mem]) (fun l hp fr h => by simp [c_clC, c_clC1, c_clC2, orC, h, Go.Sy.distinct, Go.Sy.mem])
theorem ok_copied : FnOk Try.prog 72 (CE.gen c_copied).con := okG [(89, .fr (cloneC T3T 62 100)), (90, .fr (cloneC T3T 99 100)), (91, .fr (cloneC T3T 67 100))] L_ok ⟨ok_cloneR, ok_cloneE, ok_cloneC, trivial⟩ mixed Try.func72 fun args hp fr cs r up h hcs => by
 unfold c_copied at h
 split at h; rotate_left; cases h
 rename_i b r e j t n c
 split at h; rotate_left; cases h
 rename_i h_x
 split at h; rotate_left; cases h
 rename_i h_y
 split at h; rotate_left; cases h
 rename_i h_z
 split at h; rotate_left; cases h
 rename_i hd
 injection h with h; injection h with h1 h2; injection h2 with h2 h3; subst h1 h2 h3
 have e_x_y : fr ≠ (fr + 1) := distinct_ne hd (i := 0) (j := 1) (by decide) rfl rfl
 have e_x_z : fr ≠ (fr + 2) := distinct_ne hd (i := 0) (j := 2) (by decide) rfl rfl
 have e_y_z : (fr + 1) ≠ (fr + 2) := distinct_ne hd (i := 1) (j := 2) (by decide) rfl rfl
 exact geV (okV (v := vcGe _ _ _ [0, 1, 2, 14, 15] nA [.agg [.d (.lit (.int .i64 b)), .d (.sl T3T r), .d (.sl T3T e), .d (.lit (.int .i64 j)), .d (.lit (.int .i64 t)), .d (.lit (.int .i64 n)), .d (.sl T3T c)]] [] (.t (.agg [li .i64 b, .vr 100500 r.length, .vr 100800 e.length, li .i64 j, li .i64 t, li .i64 n, .vr 101100 c.length])) [(100500, .vec T3T 62 r), (100800, .vec T3T 99 e), (101100, .vec T3T 67 c)] nR) (p_copied b r e j t n c (hcs _ (.head _)) (hcs _ (.tail _ (.head _))) (hcs _ (.tail _ (.tail _ (.head _))))) (by kernel_rfl)) [] [(100500, fr), (100800, (fr + 1)), (101100, (fr + 2))]
  all0 (frC h_x (frC h_y (frC h_z all0))) (upC (fun o ho => by injection ho with ho; subst ho; unfold upd; simp [look_cons, Go.Sy.look, e_x_y, Ne.symm e_x_y, e_x_z, Ne.symm e_x_z, e_y_z, Ne.symm e_y_z] <;> rfl) (upC (fun o ho => by injection ho with ho; subst ho; unfold upd; simp [look_cons, Go.Sy.look, e_x_y, Ne.symm e_x_y, e_x_z, Ne.symm e_x_z, e_y_z, Ne.symm e_y_z] <;> rfl) (upC (fun o ho => by injection ho with ho; subst ho; unfold upd; simp [look_cons, Go.Sy.look, e_x_y, Ne.symm e_x_y, e_x_z, Ne.symm e_x_z, e_y_z, Ne.symm e_y_z] <;> rfl) all0))) (by simp [e_x_y, Ne.symm e_x_y, e_x_z, Ne.symm e_x_z, e_y_z, Ne.symm e_y_z])
theorem ok_cut : FnOk Try.prog 49 (CE.pu c_cut).con := okP [(23, .pu c_valid), (66, .pu c_isCut), (71, .pu c_contC), (72, .gen c_copied)] L_ok ⟨ok_valid, ok_isCut, ok_contC, ok_copied, trivial⟩ mixed Try.func49 fun args cs r h hcs => by
 unfold c_cut at h
 split at h; rotate_left; cases h
 rename_i b r e j t n c x y z
 injection h with h; injection h with h1 h2; subst h1 h2
 exact puV [0, 1, 2, 3, 4, 5, 6, 18, 24, 31, 37] nA nR (okV (p_cut b r e j t n c x y z) (by kernel_rfl))
theorem ok_times : FnOk Try.prog 53 (CE.pu c_times).con := okP [(23, .pu c_valid), (43, .pu c_isShort), (72, .gen c_copied)] L_ok ⟨ok_valid, ok_isShort, ok_copied, trivial⟩ mixed Try.func53 fun args cs r h hcs => by
 unfold c_times at h
 split at h; rotate_left; cases h
 rename_i b r e j t n c x y
 injection h with h; injection h with h1 h2; subst h1 h2
 exact puV [0, 1, 2, 3, 6, 7, 8, 13, 24, 33, 39, 43] nA nR (okV (p_times b r e j t n c x y) (by kernel_rfl))
end Go.Proofs.Ytcklbglladijlaa
