/- The functions meet their contracts. Written by a program (wip/tools/gen.py). -/
import Derived.Test.YtfbbkknfcmofcaaDoorSealq
import Derived.Test.YtfbbkknfcmofcaaDoorDigestk
import Derived.Test.YtfbbkknfcmofcaaDoorMarksk
namespace Go.Proofs.YtfbbkknfcmofcaaDoor
open Go.Sy Go.RatLaw
set_option linter.unusedVariables false
set_option maxHeartbeats 4000000
set_option linter.unusedSimpArgs false

abbrev T_rin : Tab := []
theorem T_rin_ok : TOk Tryd.prog T_rin := trivial
theorem ok_rin : FnOk Tryd.prog 40 (CE.pu c_rin).con := fnPuR T_rin c_rin L_ok T_rin_ok mixed Tryd.func40 (by kernel_rfl) (by kernel_rfl) fun args cs r h hcs => by
  unfold c_rin at h
  split at h
  · rename_i n a b
    injection h with h; injection h with h1 h2; subst h1 h2
    exact ⟨[0, 1, 2, 6], (fun _ _ => none), (fun _ _ => none), rfl, rfl, rfl, castH (p := P_rin n a b) (by kernel_rfl) (p_rin n a b)⟩
  · cases h
abbrev T_rID : Tab := [(40, .pu c_rin)]
theorem T_rID_ok : TOk Tryd.prog T_rID := ⟨ok_rin, trivial⟩
theorem ok_rID : FnOk Tryd.prog 29 (CE.pu c_rID).con := fnPuR T_rID c_rID L_ok T_rID_ok mixed Tryd.func29 (by kernel_rfl) (by kernel_rfl) fun args cs r h hcs => by
  unfold c_rID at h
  split at h
  · rename_i n
    injection h with h; injection h with h1 h2; subst h1 h2
    exact ⟨[0, 2], (fun _ _ => none), (fun _ _ => none), rfl, rfl, rfl, castH (p := P_rID n) (by kernel_rfl) (p_rID n)⟩
  · cases h
abbrev T_rin37 : Tab := []
theorem T_rin37_ok : TOk Tryd.prog T_rin37 := trivial
theorem ok_rin37 : FnOk Tryd.prog 41 (CE.pu c_rin37).con := fnPuR T_rin37 c_rin37 L_ok T_rin37_ok mixed Tryd.func41 (by kernel_rfl) (by kernel_rfl) fun args cs r h hcs => by
  unfold c_rin37 at h
  split at h
  · rename_i n a b
    injection h with h; injection h with h1 h2; subst h1 h2
    exact ⟨[0, 1, 2, 6], (fun _ _ => none), (fun _ _ => none), rfl, rfl, rfl, castH (p := P_rin37 n a b) (by kernel_rfl) (p_rin37 n a b)⟩
  · cases h
abbrev T_rEntry : Tab := [(29, .pu c_rID), (41, .pu c_rin37)]
theorem T_rEntry_ok : TOk Tryd.prog T_rEntry := ⟨ok_rID, ok_rin37, trivial⟩
theorem ok_rEntry : FnOk Tryd.prog 30 (CE.pu c_rEntry).con := fnPuR T_rEntry c_rEntry L_ok T_rEntry_ok mixed Tryd.func30 (by kernel_rfl) (by kernel_rfl) fun args cs r h hcs => by
  unfold c_rEntry at h
  split at h
  · rename_i t k a b c g
    injection h with h; injection h with h1 h2; subst h1 h2
    exact ⟨[0, 1, 2, 3, 7, 12, 13, 31, 44, 64, 79], (fun _ _ => none), (fun _ _ => none), rfl, rfl, rfl, castH (p := P_rEntry t k a b c g) (by kernel_rfl) (p_rEntry t k a b c g)⟩
  · cases h
abbrev T_kinds : Tab := []
theorem T_kinds_ok : TOk Tryd.prog T_kinds := trivial
theorem v_kinds  : (vcGe L T_kinds Tryd.f44 [0, 1] (fun _ _ => none) [] [] (.t (.one (.mp 80003))) [(80003, .mp (.ti .i64) (.tp (.tp (.tp (.ti .i64) (.ti .i64)) (.tp (.tp (.ti .i64) (.ti .i64)) (.tp (.ti .i64) (.ti .i64)))) .tb) kMap)]).holds = P_kinds  := by kernel_rfl
theorem w_kinds   : (vcGe L T_kinds Tryd.f44 [0, 1] (fun _ _ => none) [] [] (.t (.one (.mp 80003))) [(80003, .mp (.ti .i64) (.tp (.tp (.tp (.ti .i64) (.ti .i64)) (.tp (.tp (.ti .i64) (.ti .i64)) (.tp (.ti .i64) (.ti .i64)))) .tb) kMap)]).holds ∧ True := by
  rw [v_kinds]
  exact ⟨p_kinds  , trivial⟩
theorem ok_kinds : FnOk Tryd.prog 44 (CE.gen c_kinds).con := fnGe T_kinds c_kinds L_ok T_kinds_ok mixed Tryd.func44 (by kernel_rfl) (by kernel_rfl) fun args hp fr cs r up h hcs => by
  unfold c_kinds at h
  split at h
  · skip
    split at h
    · rename_i h_m
      split at h
      · rename_i hd
        injection h with h; injection h with h1 h2; injection h2 with h2 h3; subst h1 h2 h3
        exact ⟨[0, 1], (fun _ _ => none), (fun _ _ => none), [], [(80003, fr)], [], [], (.t (.one (.mp 80003))), [(80003, .mp (.ti .i64) (.tp (.tp (.tp (.ti .i64) (.ti .i64)) (.tp (.tp (.ti .i64) (.ti .i64)) (.tp (.ti .i64) (.ti .i64)))) .tb) kMap)],
          Meets.of [] [(80003, fr)] _ _ _ _ (by simp) (by simp) rfl rfl
          (fun q hq => by cases hq)
          (by simp only [List.forall_mem_cons]; exact ⟨h_m, fun _ h => by cases h⟩)
          (by simp only [List.cons_append, List.nil_append, List.append_nil, List.forall_mem_cons]; exact ⟨fun o ho => by injection ho with ho; subst ho; exact (by unfold upd; simp [look_cons, Go.Sy.look] <;> rfl), fun _ h => by cases h⟩)
          (by simp) rfl rfl rfl rfl rfl rfl rfl (by apply And.left (b := True); exact w_kinds)⟩
      · cases h
    · cases h
  · cases h
theorem okf_kinds : FnOk Tryd.prog 44 (CE.fr cf_kinds).con := FnOk.toFr ok_kinds fun args hp fr h => by unfold cf_kinds c_kinds; split <;> simp_all
abbrev T_formed : Tab := [(44, .fr cf_kinds)]
theorem T_formed_ok : TOk Tryd.prog T_formed := ⟨okf_kinds, trivial⟩
theorem ok_formed : FnOk Tryd.prog 33 (CE.pu c_formed).con := fnPuR T_formed c_formed L_ok T_formed_ok mixed Tryd.func33 (by kernel_rfl) (by kernel_rfl) fun args cs r h hcs => by
  unfold c_formed at h
  split at h
  · rename_i t k a b c g
    injection h with h; injection h with h1 h2; subst h1 h2
    exact ⟨[0, 1, 2, 3, 4, 5, 6, 35, 42, 43, 44, 62], (fun _ _ => some { X := Unit, inv := fun _ => True, m := fun _ => 0, s := fun _ => [], un := some 4 }), (fun _ _ => none), rfl, rfl, rfl, castH (p := P_formed t k a b c g) (by kernel_rfl) (p_formed t k a b c g)⟩
  · cases h
abbrev T_bChain : Tab := [(45, .pu c_chain)]
theorem T_bChain_ok : TOk Tryd.prog T_bChain := ⟨ok_chain, trivial⟩
theorem ok_bChain : FnOk Tryd.prog 35 (CE.pu c_bChain).con := fnPuR T_bChain c_bChain L_ok T_bChain_ok mixed Tryd.func35 (by kernel_rfl) (by kernel_rfl) fun args cs r h hcs => by
  unfold c_bChain at h
  split at h
  · rename_i s l h
    injection h with h; injection h with h1 h2; subst h1 h2
    exact ⟨[0, 1, 2, 3, 5, 10, 18, 19, 20, 21], (fun _ _ => some { X := Nat, inv := fun k => k ≤ l.length, m := fun k => l.length - k, s := fun k => [(20, .t (I k)), (3, .t (.one (.own (rm 15) (.sl (.tl (.ti .i64)) (listsE s (l.take k))))))], h := fun k => [(rm 15, .gr 28 1 (listsE s (l.take k)).length)] }), (fun _ _ => none), rfl, rfl, rfl, castH (p := P_bChain s l h) (by kernel_rfl) (p_bChain s l h (hcs _ (.head _)) (hcs _ (.tail _ (.head _))) (hcs _ (.tail _ (.tail _ (.head _)))))⟩
  · cases h
abbrev T_right : Tab := [(33, .pu c_formed), (35, .pu c_bChain)]
theorem T_right_ok : TOk Tryd.prog T_right := ⟨ok_formed, ok_bChain, trivial⟩
theorem ok_right : FnOk Tryd.prog 32 (CE.pu c_right).con := fnPuR T_right c_right L_ok T_right_ok mixed Tryd.func32 (by kernel_rfl) (by kernel_rfl) fun args cs r h hcs => by
  unfold c_right at h
  split at h
  · rename_i s l h
    injection h with h; injection h with h1 h2; subst h1 h2
    exact ⟨[0, 1, 2, 3, 4, 21, 24, 25, 26, 27, 50], (fun _ _ => some { X := Nat, inv := fun k => k ≤ l.length ∧ entsFrom 0 l = entsFrom (lastE l k) (l.drop k), m := fun k => l.length - k, s := fun k => [(26, .t (I k))] }), (fun _ _ => none), rfl, rfl, rfl, castH (p := P_right s l h) (by kernel_rfl) (p_right s l h (hcs _ (.head _)) (hcs _ (.tail _ (.head _))))⟩
  · cases h
abbrev T_sValid : Tab := [(32, .pu c_right)]
theorem T_sValid_ok : TOk Tryd.prog T_sValid := ⟨ok_right, trivial⟩
theorem ok_sValid : FnOk Tryd.prog 21 (CE.pu c_sValid).con := fnPuR T_sValid c_sValid L_ok T_sValid_ok mixed Tryd.func21 (by kernel_rfl) (by kernel_rfl) fun args cs r h hcs => by
  unfold c_sValid at h
  split at h
  · rename_i s l h
    injection h with h; injection h with h1 h2; subst h1 h2
    exact ⟨[0, 1, 2], (fun _ _ => none), (fun _ _ => none), rfl, rfl, rfl, castH (p := P_sValid s l h) (by kernel_rfl) (p_sValid s l h (hcs _ (.head _)) (hcs _ (.tail _ (.head _))))⟩
  · cases h
abbrev T_rInts : Tab := []
theorem T_rInts_ok : TOk Tryd.prog T_rInts := trivial
theorem ok_rInts : FnOk Tryd.prog 42 (CE.pu c_rInts).con := fnPuR T_rInts c_rInts L_ok T_rInts_ok mixed Tryd.func42 (by kernel_rfl) (by kernel_rfl) fun args cs r h hcs => by
  unfold c_rInts at h
  split at h
  · rename_i t k a b c g
    injection h with h; injection h with h1 h2; subst h1 h2
    exact ⟨[0, 1, 2], (fun _ _ => none), (fun _ _ => none), rfl, rfl, rfl, castH (p := P_rInts t k a b c g) (by kernel_rfl) (p_rInts t k a b c g (hcs _ (.head _)))⟩
  · cases h
abbrev T_rChainE : Tab := [(42, .pu c_rInts), (43, .pu c_rChain)]
theorem T_rChainE_ok : TOk Tryd.prog T_rChainE := ⟨ok_rInts, ok_rChain, trivial⟩
theorem ok_rChainE : FnOk Tryd.prog 31 (CE.pu c_rChainE).con := fnPuR T_rChainE c_rChainE L_ok T_rChainE_ok mixed Tryd.func31 (by kernel_rfl) (by kernel_rfl) fun args cs r h hcs => by
  unfold c_rChainE at h
  split at h
  · rename_i s l
    injection h with h; injection h with h1 h2; subst h1 h2
    exact ⟨[0, 1, 4, 5, 6, 9, 18], (fun _ _ => some { X := Nat, inv := fun k => k ≤ l.length, m := fun k => l.length - k, s := fun k => [(6, .t (I k)), (5, .t (.one (.own (rm 5) (.sl (.tl (.ti .i64)) (listsE s (l.take k))))))], h := fun k => [(rm 5, .gr 28 1 (listsE s (l.take k)).length)] }), (fun _ _ => none), rfl, rfl, rfl, castH (p := P_rChainE s l) (by kernel_rfl) (p_rChainE s l (hcs _ (.head _)) (hcs _ (.tail _ (.head _))) (hcs _ (.tail _ (.tail _ (.head _)))))⟩
  · cases h
abbrev T_rValidL : Tab := [(29, .pu c_rID), (30, .pu c_rEntry), (31, .pu c_rChainE)]
theorem T_rValidL_ok : TOk Tryd.prog T_rValidL := ⟨ok_rID, ok_rEntry, ok_rChainE, trivial⟩
theorem ok_rValidL : FnOk Tryd.prog 17 (CE.pu c_rValidL).con := fnPuR T_rValidL c_rValidL L_ok T_rValidL_ok mixed Tryd.func17 (by kernel_rfl) (by kernel_rfl) fun args cs r h hcs => by
  unfold c_rValidL at h
  split at h
  · rename_i s l h
    injection h with h; injection h with h1 h2; subst h1 h2
    exact ⟨[0, 1, 2, 3, 4, 14, 19, 49], (fun _ _ => some { X := Nat, inv := fun k => k ≤ l.length ∧ entsFrom 0 l = entsFrom (lastE l k) (l.drop k), m := fun k => l.length - k, s := fun k => [(3, .t (I k))] }), (fun _ _ => none), rfl, rfl, rfl, castH (p := P_rValidL s l h) (by kernel_rfl) (p_rValidL s l h (hcs _ (.head _)) (hcs _ (.tail _ (.head _))))⟩
  · cases h
abbrev T_eqE : Tab := []
theorem T_eqE_ok : TOk Tryd.prog T_eqE := trivial
theorem ok_eqE : FnOk Tryd.prog 36 (CE.pu c_eqE).con := fnPuR T_eqE c_eqE L_ok T_eqE_ok mixed Tryd.func36 (by kernel_rfl) (by kernel_rfl) fun args cs r h hcs => by
  unfold c_eqE at h
  split at h
  · rename_i l m
    injection h with h; injection h with h1 h2; subst h1 h2
    exact ⟨[0, 1, 4, 5, 10, 12, 13, 14, 24], (fun _ _ => some { X := Nat, inv := fun x => x ≤ l.length ∧ l.take x = m.take x, m := fun x => l.length - x, s := fun x => [(13, .t (I x))] }), (fun _ _ => none), rfl, rfl, rfl, castH (p := P_eqE l m) (by kernel_rfl) (p_eqE l m)⟩
  · cases h
abbrev T_clN1 : Tab := []
theorem T_clN1_ok : TOk Tryd.prog T_clN1 := trivial
theorem v_clN1  : (vcGe (LV [] [40] false) T_clN1 Tryd.f34 [0, 2, 4] (fun _ _ => none) [.one (.nn true (.sl (.tp (.ti .i64) (.tp (.ti .i64) (.tp (.ti .i64) (.tp (.ti .i64) (.tp (.ti .i64) (.ti .u64)))))) []))] [] (.t (.one (.vr 5000002 0))) [(5000002, .vec (.tp (.ti .i64) (.tp (.ti .i64) (.tp (.ti .i64) (.tp (.ti .i64) (.tp (.ti .i64) (.ti .u64)))))) 40 [])]).holds = P_clN1  := by kernel_rfl
theorem w_clN1   : (vcGe (LV [] [40] false) T_clN1 Tryd.f34 [0, 2, 4] (fun _ _ => none) [.one (.nn true (.sl (.tp (.ti .i64) (.tp (.ti .i64) (.tp (.ti .i64) (.tp (.ti .i64) (.tp (.ti .i64) (.ti .u64)))))) []))] [] (.t (.one (.vr 5000002 0))) [(5000002, .vec (.tp (.ti .i64) (.tp (.ti .i64) (.tp (.ti .i64) (.tp (.ti .i64) (.tp (.ti .i64) (.ti .u64)))))) 40 [])]).holds ∧ True := by
  rw [v_clN1]
  exact ⟨p_clN1  , trivial⟩
theorem ok_clN1 : FnOk Tryd.prog 34 (CE.gen c_clN1).con := fnGe T_clN1 c_clN1 (LV_ok [] [40] false) T_clN1_ok mixed Tryd.func34 (by kernel_rfl) (by kernel_rfl) fun args hp fr cs r up h hcs => by
  unfold c_clN1 at h
  split at h
  · skip
    split at h
    · rename_i h_x
      split at h
      · rename_i hd
        injection h with h; injection h with h1 h2; injection h2 with h2 h3; subst h1 h2 h3
        exact ⟨[0, 2, 4], (fun _ _ => none), (fun _ _ => none), [], [(5000002, fr)], [.one (.nn true (.sl (.tp (.ti .i64) (.tp (.ti .i64) (.tp (.ti .i64) (.tp (.ti .i64) (.tp (.ti .i64) (.ti .u64)))))) []))], [], (.t (.one (.vr 5000002 0))), [(5000002, .vec (.tp (.ti .i64) (.tp (.ti .i64) (.tp (.ti .i64) (.tp (.ti .i64) (.tp (.ti .i64) (.ti .u64)))))) 40 [])],
          Meets.of [] [(5000002, fr)] _ _ _ _ (by simp) (by simp) rfl rfl
          (fun q hq => by cases hq)
          (by simp only [List.forall_mem_cons]; exact ⟨h_x, fun _ h => by cases h⟩)
          (by simp only [List.cons_append, List.nil_append, List.append_nil, List.forall_mem_cons]; exact ⟨fun o ho => by injection ho with ho; subst ho; exact (by unfold upd; simp [look_cons, Go.Sy.look] <;> rfl), fun _ h => by cases h⟩)
          (by simp) rfl rfl rfl rfl rfl rfl rfl (by apply And.left (b := True); exact w_clN1)⟩
      · cases h
    · cases h
  · cases h
abbrev T_clN2 : Tab := []
theorem T_clN2_ok : TOk Tryd.prog T_clN2 := trivial
theorem v_clN2 (l : List En) : (vcGe (LV [] [40] false) T_clN2 Tryd.f34 [0, 2, 4] (fun _ _ => none) [.one (.nn false (.sl (.tp (.ti .i64) (.tp (.ti .i64) (.tp (.ti .i64) (.tp (.ti .i64) (.tp (.ti .i64) (.ti .u64)))))) l))] [] (.t (.one (.vr 70005 l.length))) [(70005, .vec (.tp (.ti .i64) (.tp (.ti .i64) (.tp (.ti .i64) (.tp (.ti .i64) (.tp (.ti .i64) (.ti .u64)))))) 40 l)]).holds = P_clN2 l := by kernel_rfl
theorem w_clN2 (l : List En) (h_0 : l.length ≤ 5000) : (vcGe (LV [] [40] false) T_clN2 Tryd.f34 [0, 2, 4] (fun _ _ => none) [.one (.nn false (.sl (.tp (.ti .i64) (.tp (.ti .i64) (.tp (.ti .i64) (.tp (.ti .i64) (.tp (.ti .i64) (.ti .u64)))))) l))] [] (.t (.one (.vr 70005 l.length))) [(70005, .vec (.tp (.ti .i64) (.tp (.ti .i64) (.tp (.ti .i64) (.tp (.ti .i64) (.tp (.ti .i64) (.ti .u64)))))) 40 l)]).holds ∧ True := by
  rw [v_clN2]
  exact ⟨p_clN2 l h_0, trivial⟩
theorem ok_clN2 : FnOk Tryd.prog 34 (CE.gen c_clN2).con := fnGe T_clN2 c_clN2 (LV_ok [] [40] false) T_clN2_ok mixed Tryd.func34 (by kernel_rfl) (by kernel_rfl) fun args hp fr cs r up h hcs => by
  unfold c_clN2 at h
  split at h
  · rename_i l
    split at h
    · rename_i h_x
      split at h
      · rename_i hd
        injection h with h; injection h with h1 h2; injection h2 with h2 h3; subst h1 h2 h3
        exact ⟨[0, 2, 4], (fun _ _ => none), (fun _ _ => none), [], [(70005, fr)], [.one (.nn false (.sl (.tp (.ti .i64) (.tp (.ti .i64) (.tp (.ti .i64) (.tp (.ti .i64) (.tp (.ti .i64) (.ti .u64)))))) l))], [], (.t (.one (.vr 70005 l.length))), [(70005, .vec (.tp (.ti .i64) (.tp (.ti .i64) (.tp (.ti .i64) (.tp (.ti .i64) (.tp (.ti .i64) (.ti .u64)))))) 40 l)],
          Meets.of [] [(70005, fr)] _ _ _ _ (by simp) (by simp) rfl rfl
          (fun q hq => by cases hq)
          (by simp only [List.forall_mem_cons]; exact ⟨h_x, fun _ h => by cases h⟩)
          (by simp only [List.cons_append, List.nil_append, List.append_nil, List.forall_mem_cons]; exact ⟨fun o ho => by injection ho with ho; subst ho; exact (by unfold upd; simp [look_cons, Go.Sy.look] <;> rfl), fun _ h => by cases h⟩)
          (by simp) rfl rfl rfl rfl rfl rfl rfl (by apply And.left (b := True); exact w_clN2 l (hcs _ (.head _)))⟩
      · cases h
    · cases h
  · cases h
theorem ok_clN : FnOk Tryd.prog 34 (CE.gen c_clN).con := (FnOk.or ok_clN1 ok_clN2)
theorem ok_cloneN : FnOk Tryd.prog 34 (CE.fr (cloneC E6T 40 5000)).con := clone_ok ok_clN (fun hp fr h => by simp [c_clN, c_clN1, orC, h, Go.Sy.distinct, Go.Sy.mem]) (fun l hp fr h => by simp [c_clN, c_clN1, c_clN2, orC, h, Go.Sy.distinct, Go.Sy.mem])
abbrev T_sAppend : Tab := [(32, .pu c_right), (33, .pu c_formed), (34, .fr (cloneC E6T 40 5000)), (35, .pu c_bChain)]
theorem T_sAppend_ok : TOk Tryd.prog T_sAppend := ⟨ok_right, ok_formed, ok_cloneN, ok_bChain, trivial⟩
theorem ok_sAppend : FnOk Tryd.prog 18 (CE.pu c_sAppend).con := fnPuR T_sAppend c_sAppend L_ok T_sAppend_ok mixed Tryd.func18 (by kernel_rfl) (by kernel_rfl) fun args cs r h hcs => by
  unfold c_sAppend at h
  split at h
  · rename_i s l h t k a b c g
    injection h with h; injection h with h1 h2; subst h1 h2
    exact ⟨[0, 1, 2, 3, 4, 5, 6, 7, 13, 23, 27, 50, 54], (fun _ _ => none), (fun _ _ => none), rfl, rfl, rfl, castH (p := P_sAppend s l h t k a b c g) (by kernel_rfl) (p_sAppend s l h t k a b c g (hcs _ (.head _)) (hcs _ (.tail _ (.head _))) (hcs _ (.tail _ (.tail _ (.head _)))) (hcs _ (.tail _ (.tail _ (.tail _ (.head _))))))⟩
  · cases h
abbrev T_sBegins : Tab := [(21, .pu c_sValid), (36, .pu c_eqE)]
theorem T_sBegins_ok : TOk Tryd.prog T_sBegins := ⟨ok_sValid, ok_eqE, trivial⟩
theorem ok_sBegins : FnOk Tryd.prog 20 (CE.pu c_sBegins).con := fnPuR T_sBegins c_sBegins L_ok T_sBegins_ok mixed Tryd.func20 (by kernel_rfl) (by kernel_rfl) fun args cs r h hcs => by
  unfold c_sBegins at h
  split at h
  · rename_i s l h s' l' h'
    injection h with h; injection h with h1 h2; subst h1 h2
    exact ⟨[0, 1, 2, 3, 4, 5, 6, 14], (fun _ _ => none), (fun _ _ => none), rfl, rfl, rfl, castH (p := P_sBegins s l h s' l' h') (by kernel_rfl) (p_sBegins s l h s' l' h' (hcs _ (.head _)) (hcs _ (.tail _ (.head _))) (hcs _ (.tail _ (.tail _ (.head _)))) (hcs _ (.tail _ (.tail _ (.tail _ (.head _))))))⟩
  · cases h
abbrev T_rFewE : Tab := []
theorem T_rFewE_ok : TOk Tryd.prog T_rFewE := trivial
theorem ok_rFewE : FnOk Tryd.prog 10 (CE.pu c_rFewE).con := fnPuR T_rFewE c_rFewE L_ok T_rFewE_ok mixed Tryd.func10 (by kernel_rfl) (by kernel_rfl) fun args cs r h hcs => by
  unfold c_rFewE at h
  split at h
  · rename_i s l h
    injection h with h; injection h with h1 h2; subst h1 h2
    exact ⟨[0, 1, 2], (fun _ _ => none), (fun _ _ => none), rfl, rfl, rfl, castH (p := P_rFewE s l h) (by kernel_rfl) (p_rFewE s l h)⟩
  · cases h
end Go.Proofs.YtfbbkknfcmofcaaDoor
