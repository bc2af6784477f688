/- The functions meet their contracts. Written by a program (wip/tools/gen.py). -/
import Derived.Test.YtgibafageolbnaaDoorMarksq
import Derived.Test.YtgibafageolbnaaDoorDigestk
namespace Go.Proofs.YtgibafageolbnaaDoor
open Go.Sy Go.RatLaw
set_option linter.unusedVariables false
set_option maxHeartbeats 4000000
set_option linter.unusedSimpArgs false

abbrev T_within : Tab := []
theorem T_within_ok : TOk Tryd.prog T_within := trivial
theorem ok_within : FnOk Tryd.prog 49 (CE.pu c_within).con := fnPuR T_within c_within L_ok T_within_ok mixed Tryd.func49 (by kernel_rfl) (by kernel_rfl) fun args cs r h hcs => by
  unfold c_within at h
  split at h
  · rename_i n a b
    injection h with h; injection h with h1 h2; subst h1 h2
    exact ⟨[0, 1, 2, 6], (fun _ _ => none), (fun _ _ => none), rfl, rfl, rfl, castH (p := P_within n a b) (by kernel_rfl) (p_within n a b)⟩
  · cases h
abbrev T_isID : Tab := [(49, .pu c_within)]
theorem T_isID_ok : TOk Tryd.prog T_isID := ⟨ok_within, trivial⟩
theorem ok_isID : FnOk Tryd.prog 48 (CE.pu c_isID).con := fnPuR T_isID c_isID L_ok T_isID_ok mixed Tryd.func48 (by kernel_rfl) (by kernel_rfl) fun args cs r h hcs => by
  unfold c_isID at h
  split at h
  · rename_i n
    injection h with h; injection h with h1 h2; subst h1 h2
    exact ⟨[0, 2], (fun _ _ => none), (fun _ _ => none), rfl, rfl, rfl, castH (p := P_isID n) (by kernel_rfl) (p_isID n)⟩
  · cases h
abbrev T_isReader : Tab := [(48, .pu c_isID), (49, .pu c_within)]
theorem T_isReader_ok : TOk Tryd.prog T_isReader := ⟨ok_isID, ok_within, trivial⟩
theorem ok_isReader : FnOk Tryd.prog 58 (CE.pu c_isReader).con := fnPuR T_isReader c_isReader L_ok T_isReader_ok mixed Tryd.func58 (by kernel_rfl) (by kernel_rfl) fun args cs r h hcs => by
  unfold c_isReader at h
  split at h
  · rename_i p d s
    injection h with h; injection h with h1 h2; subst h1 h2
    exact ⟨[0, 1, 2], (fun _ _ => none), (fun _ _ => none), rfl, rfl, rfl, castH (p := P_isReader p d s) (by kernel_rfl) (p_isReader p d s)⟩
  · cases h
abbrev T_lay2 : Tab := [(58, .pu c_isReader)]
theorem T_lay2_ok : TOk Tryd.prog T_lay2 := ⟨ok_isReader, trivial⟩
theorem ok_lay2 : FnOk Tryd.prog 60 (CE.pu c_lay2).con := fnPuR T_lay2 c_lay2 L_ok T_lay2_ok mixed Tryd.func60 (by kernel_rfl) (by kernel_rfl) fun args cs r h hcs => by
  unfold c_lay2 at h
  split at h
  · rename_i p d s
    injection h with h; injection h with h1 h2; subst h1 h2
    exact ⟨[0, 1, 2], (fun _ _ => none), (fun _ _ => none), rfl, rfl, rfl, castH (p := P_lay2 p d s) (by kernel_rfl) (p_lay2 p d s)⟩
  · cases h
abbrev T_lay4 : Tab := [(49, .pu c_within)]
theorem T_lay4_ok : TOk Tryd.prog T_lay4 := ⟨ok_within, trivial⟩
theorem ok_lay4 : FnOk Tryd.prog 62 (CE.pu c_lay4).con := fnPuR T_lay4 c_lay4 L_ok T_lay4_ok mixed Tryd.func62 (by kernel_rfl) (by kernel_rfl) fun args cs r h hcs => by
  unfold c_lay4 at h
  split at h
  · rename_i p d s
    injection h with h; injection h with h1 h2; subst h1 h2
    exact ⟨[0, 1, 2], (fun _ _ => none), (fun _ _ => none), rfl, rfl, rfl, castH (p := P_lay4 p d s) (by kernel_rfl) (p_lay4 p d s)⟩
  · cases h
abbrev T_lay6 : Tab := []
theorem T_lay6_ok : TOk Tryd.prog T_lay6 := trivial
theorem ok_lay6 : FnOk Tryd.prog 64 (CE.pu c_lay6).con := fnPuR T_lay6 c_lay6 L_ok T_lay6_ok mixed Tryd.func64 (by kernel_rfl) (by kernel_rfl) fun args cs r h hcs => by
  unfold c_lay6 at h
  split at h
  · rename_i p d s
    injection h with h; injection h with h1 h2; subst h1 h2
    exact ⟨[0, 1, 2], (fun _ _ => none), (fun _ _ => none), rfl, rfl, rfl, castH (p := P_lay6 p d s) (by kernel_rfl) (p_lay6 p d s)⟩
  · cases h
abbrev T_odd : Tab := []
theorem T_odd_ok : TOk Tryd.prog T_odd := trivial
theorem ok_odd : FnOk Tryd.prog 47 (CE.pu c_odd).con := fnPuR T_odd c_odd L_ok T_odd_ok mixed Tryd.func47 (by kernel_rfl) (by kernel_rfl) fun args cs r h hcs => by
  unfold c_odd at h
  split at h
  · rename_i c
    injection h with h; injection h with h1 h2; subst h1 h2
    exact ⟨[0, 2], (fun _ _ => none), (fun _ _ => none), rfl, rfl, rfl, castH (p := P_odd c) (by kernel_rfl) (p_odd c)⟩
  · cases h
abbrev T_ixRu : Tab := [(47, .pu c_odd)]
theorem T_ixRu_ok : TOk Tryd.prog T_ixRu := ⟨ok_odd, trivial⟩
theorem ok_ixRu : FnOk Tryd.prog 66 (CE.pu c_ixRu).con := fnPuR T_ixRu c_ixRu L_ok T_ixRu_ok mixed Tryd.func66 (by kernel_rfl) (by kernel_rfl) fun args cs r h hcs => by
  unfold c_ixRu at h
  split at h
  · rename_i l
    injection h with h; injection h with h1 h2; subst h1 h2
    exact ⟨[0, 1, 4, 5, 7, 8, 9, 16], (fun _ _ => some { X := Nat, inv := fun k => k ≤ l.length ∧ ∀ i, i < k → oddC (List.getD (α := Int) l i 0) = false, m := fun k => l.length - k, s := fun k => [(8, .t (I k))] }), (fun _ _ => none), rfl, rfl, rfl, castH (p := P_ixRu l) (by kernel_rfl) (p_ixRu l)⟩
  · cases h
abbrev T_cfRu : Tab := [(66, .pu c_ixRu)]
theorem T_cfRu_ok : TOk Tryd.prog T_cfRu := ⟨ok_ixRu, trivial⟩
theorem ok_cfRu : FnOk Tryd.prog 50 (CE.pu c_cfRu).con := fnPuR T_cfRu c_cfRu L_ok T_cfRu_ok mixed Tryd.func50 (by kernel_rfl) (by kernel_rfl) fun args cs r h hcs => by
  unfold c_cfRu at h
  split at h
  · rename_i l
    injection h with h; injection h with h1 h2; subst h1 h2
    exact ⟨[0, 1, 4], (fun _ _ => none), (fun _ _ => none), rfl, rfl, rfl, castH (p := P_cfRu l) (by kernel_rfl) (p_cfRu l)⟩
  · cases h
abbrev T_layers : Tab := [(58, .pu c_isReader), (60, .pu c_lay2), (62, .pu c_lay4), (64, .pu c_lay6)]
theorem T_layers_ok : TOk Tryd.prog T_layers := ⟨ok_isReader, ok_lay2, ok_lay4, ok_lay6, trivial⟩
theorem v_layers  : (vcGe L T_layers Tryd.f46 [0] (fun _ _ => none) [] [] (.t (.one (.mp 80001))) [(80001, .fm [(1, .agg [.clo 58 [] [], .clo 59 [] []]), (2, .agg [.clo 60 [] [], .clo 61 [] []]), (3, .agg [.clo 62 [] [], .clo 63 [] []]), (4, .agg [.clo 64 [] [], .clo 65 [] []])])]).holds = P_layers  := by kernel_rfl
theorem w_layers   : (vcGe L T_layers Tryd.f46 [0] (fun _ _ => none) [] [] (.t (.one (.mp 80001))) [(80001, .fm [(1, .agg [.clo 58 [] [], .clo 59 [] []]), (2, .agg [.clo 60 [] [], .clo 61 [] []]), (3, .agg [.clo 62 [] [], .clo 63 [] []]), (4, .agg [.clo 64 [] [], .clo 65 [] []])])]).holds ∧ True := by
  rw [v_layers]
  exact ⟨p_layers  , trivial⟩
theorem ok_layers : FnOk Tryd.prog 46 (CE.gen c_layers).con := fnGe T_layers c_layers L_ok T_layers_ok mixed Tryd.func46 (by kernel_rfl) (by kernel_rfl) fun args hp fr cs r up h hcs => by
  unfold c_layers at h
  split at h
  · skip
    split at h
    · rename_i h_m
      split at h
      · rename_i hd
        injection h with h; injection h with h1 h2; injection h2 with h2 h3; subst h1 h2 h3
        exact ⟨[0], (fun _ _ => none), (fun _ _ => none), [], [(80001, fr)], [], [], (.t (.one (.mp 80001))), [(80001, .fm [(1, .agg [.clo 58 [] [], .clo 59 [] []]), (2, .agg [.clo 60 [] [], .clo 61 [] []]), (3, .agg [.clo 62 [] [], .clo 63 [] []]), (4, .agg [.clo 64 [] [], .clo 65 [] []])])],
          Meets.of [] [(80001, fr)] _ _ _ _ (by simp) (by simp) rfl rfl
          (fun q hq => by cases hq)
          (by simp only [List.forall_mem_cons]; exact ⟨h_m, fun _ h => by cases h⟩)
          (by simp only [List.cons_append, List.nil_append, List.append_nil, List.forall_mem_cons]; exact ⟨fun o ho => by injection ho with ho; subst ho; exact (by unfold upd; simp [look_cons, Go.Sy.look] <;> rfl), fun _ h => by cases h⟩)
          (by simp) rfl rfl rfl rfl rfl rfl rfl (by apply And.left (b := True); exact w_layers)⟩
      · cases h
    · cases h
  · cases h
theorem okf_layers : FnOk Tryd.prog 46 (CE.fr cf_layers).con := FnOk.toFr ok_layers fun args hp fr h => by unfold cf_layers c_layers; split <;> simp_all
abbrev T_mkValid : Tab := [(46, .fr cf_layers), (47, .pu c_odd), (48, .pu c_isID), (49, .pu c_within), (50, .pu c_cfRu), (58, .pu c_isReader), (60, .pu c_lay2), (62, .pu c_lay4), (64, .pu c_lay6)]
theorem T_mkValid_ok : TOk Tryd.prog T_mkValid := ⟨okf_layers, ok_odd, ok_isID, ok_within, ok_cfRu, ok_isReader, ok_lay2, ok_lay4, ok_lay6, trivial⟩
theorem ok_mkValid : FnOk Tryd.prog 30 (CE.pu c_mkValid).con := fnPuR T_mkValid c_mkValid L_ok T_mkValid_ok mixed Tryd.func30 (by kernel_rfl) (by kernel_rfl) fun args cs r h hcs => by
  unfold c_mkValid at h
  split at h
  · rename_i id kind y p d s ver note val q
    injection h with h; injection h with h1 h2; subst h1 h2
    exact ⟨[0, 1, 2, 3, 4, 5, 6, 47, 50], (fun _ _ => none), (fun i _ => if i = 1 then some { sg := [], go := { go := fun _ => true }, sp := some (1, 2, [1, 2, 3, 4]) } else none), rfl, rfl, rfl, castH (p := P_mkValid id kind y p d s ver note val q) (by kernel_rfl) (p_mkValid id kind y p d s ver note val q)⟩
  · cases h
end Go.Proofs.YtgibafageolbnaaDoor
