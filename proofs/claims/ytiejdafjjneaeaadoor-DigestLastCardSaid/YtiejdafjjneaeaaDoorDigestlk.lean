/- The functions meet their contracts. Written by a program (wip/tools/gen.py). -/
import Derived.Test.YtiejdafjjneaeaaDoorDigestlq
namespace Go.Proofs.YtiejdafjjneaeaaDoor
open Go.Sy Go.RatLaw
set_option linter.unusedVariables false

abbrev T_turned : Tab := []
theorem T_turned_ok : TOk Tryd.prog T_turned := trivial
theorem ok_turned : FnOk Tryd.prog 18 (CE.pu c_turned).con := fnPuR T_turned c_turned (LV_ok [] [3, 1000006] false) T_turned_ok mixed Tryd.func18 (by kernel_rfl) (by kernel_rfl) fun args cs r h hcs => by
  unfold c_turned at h
  split at h
  · rename_i l w b
    injection h with h; injection h with h1 h2; subst h1 h2
    exact ⟨[0, 1, 2, 6, 7, 8, 9, 10, 13, 31, 47], (fun _ _ => none), (fun _ _ => none), rfl, rfl, rfl, castH (p := P_turned l w b) (by kernel_rfl) (p_turned l w b (hcs _ (.head _)) (hcs _ (.tail _ (.head _))) (hcs _ (.tail _ (.tail _ (.head _)))) (hcs _ (.tail _ (.tail _ (.tail _ (.head _))))) (hcs _ (.tail _ (.tail _ (.tail _ (.tail _ (.head _)))))))⟩
  · cases h
abbrev T_DMatches : Tab := [(9, .pu c_head), (10, .pu c_rFew), (11, .pu c_sum), (12, .pu c_rSum), (13, .pu c_next), (14, .pu c_rNext), (15, .pu c_chain), (16, .pu c_rChain)]
theorem T_DMatches_ok : TOk Tryd.prog T_DMatches := ⟨ok_head, ok_rFew, ok_sum, ok_rSum, ok_next, ok_rNext, ok_chain, ok_rChain, trivial⟩
theorem ok_DMatches : FnOk Tryd.prog 3 (CE.pu c_DMatches).con := fnPuR T_DMatches c_DMatches L_ok T_DMatches_ok mixed Tryd.func3 (by kernel_rfl) (by kernel_rfl) fun args cs r h hcs => by
  unfold c_DMatches at h
  split at h
  · rename_i b d l ll
    injection h with h; injection h with h1 h2; subst h1 h2
    exact ⟨[0, 1, 2, 3, 8, 9, 23], (fun _ _ => none), (fun _ _ => none), rfl, rfl, rfl, castH (p := P_DMatches b d l ll) (by kernel_rfl) (p_DMatches b d l ll (hcs _ (.head _)) (hcs _ (.tail _ (.head _))))⟩
  · cases h
abbrev T_DOne : Tab := [(9, .pu c_head), (11, .pu c_sum)]
theorem T_DOne_ok : TOk Tryd.prog T_DOne := ⟨ok_head, ok_sum, trivial⟩
theorem ok_DOne : FnOk Tryd.prog 4 (CE.pu c_DOne).con := fnPuR T_DOne c_DOne (LV_ok [] [5] false) T_DOne_ok mixed Tryd.func4 (by kernel_rfl) (by kernel_rfl) fun args cs r h hcs => by
  unfold c_DOne at h
  split at h
  · rename_i l w b
    injection h with h; injection h with h1 h2; subst h1 h2
    exact ⟨[0, 1, 2, 6, 7, 8, 17, 32], (fun _ _ => none), (fun _ _ => none), rfl, rfl, rfl, castH (p := P_DOne l w b) (by kernel_rfl) (p_DOne l w b (hcs _ (.head _)) (hcs _ (.tail _ (.head _))) (hcs _ (.tail _ (.tail _ (.head _)))) (hcs _ (.tail _ (.tail _ (.tail _ (.head _))))) (hcs _ (.tail _ (.tail _ (.tail _ (.tail _ (.head _)))))))⟩
  · cases h
abbrev T_DBehind : Tab := [(9, .pu c_head), (11, .pu c_sum)]
theorem T_DBehind_ok : TOk Tryd.prog T_DBehind := ⟨ok_head, ok_sum, trivial⟩
theorem ok_DBehind : FnOk Tryd.prog 5 (CE.pu c_DBehind).con := fnPuR T_DBehind c_DBehind L_ok T_DBehind_ok mixed Tryd.func5 (by kernel_rfl) (by kernel_rfl) fun args cs r h hcs => by
  unfold c_DBehind at h
  split at h
  · rename_i a b m
    injection h with h; injection h with h1 h2; subst h1 h2
    exact ⟨[0, 1, 2, 6, 7, 8, 9, 23], (fun _ _ => none), (fun _ _ => none), rfl, rfl, rfl, castH (p := P_DBehind a b m) (by kernel_rfl) (p_DBehind a b m)⟩
  · cases h
abbrev T_DTexts : Tab := [(9, .pu c_head), (11, .pu c_sum), (13, .pu c_next), (17, .pu c_rText), (18, .pu c_turned)]
theorem T_DTexts_ok : TOk Tryd.prog T_DTexts := ⟨ok_head, ok_sum, ok_next, ok_rText, ok_turned, trivial⟩
theorem ok_DTexts : FnOk Tryd.prog 6 (CE.pu c_DTexts).con := fnPuR T_DTexts c_DTexts L_ok T_DTexts_ok mixed Tryd.func6 (by kernel_rfl) (by kernel_rfl) fun args cs r h hcs => by
  unfold c_DTexts at h
  split at h
  · rename_i d l w b
    injection h with h; injection h with h1 h2; subst h1 h2
    exact ⟨[0, 1, 2, 3, 8, 9, 10, 11, 15, 36], (fun _ _ => none), (fun _ _ => none), rfl, rfl, rfl, castH (p := P_DTexts d l w b) (by kernel_rfl) (p_DTexts d l w b (hcs _ (.head _)) (hcs _ (.tail _ (.head _))) (hcs _ (.tail _ (.tail _ (.head _)))) (hcs _ (.tail _ (.tail _ (.tail _ (.head _))))) (hcs _ (.tail _ (.tail _ (.tail _ (.tail _ (.head _)))))))⟩
  · cases h
abbrev T_DChains : Tab := [(9, .pu c_head), (10, .pu c_rFew), (13, .pu c_next), (15, .pu c_chain)]
theorem T_DChains_ok : TOk Tryd.prog T_DChains := ⟨ok_head, ok_rFew, ok_next, ok_chain, trivial⟩
theorem ok_DChains : FnOk Tryd.prog 7 (CE.pu c_DChains).con := fnPuR T_DChains c_DChains L_ok T_DChains_ok mixed Tryd.func7 (by kernel_rfl) (by kernel_rfl) fun args cs r h hcs => by
  unfold c_DChains at h
  split at h
  · rename_i a b m l
    injection h with h; injection h with h1 h2; subst h1 h2
    exact ⟨[0, 1, 2, 3, 8, 9, 10, 11, 12, 13, 32], (fun _ _ => none), (fun _ _ => none), rfl, rfl, rfl, castH (p := P_DChains a b m l) (by kernel_rfl) (p_DChains a b m l (hcs _ (.head _)) (hcs _ (.tail _ (.head _))) (hcs _ (.tail _ (.tail _ (.head _)))) (hcs _ (.tail _ (.tail _ (.tail _ (.head _))))))⟩
  · cases h
abbrev T_DLast : Tab := [(9, .pu c_head), (10, .pu c_rFew), (15, .pu c_chain), (18, .pu c_turned)]
theorem T_DLast_ok : TOk Tryd.prog T_DLast := ⟨ok_head, ok_rFew, ok_chain, ok_turned, trivial⟩
theorem ok_DLast : FnOk Tryd.prog 8 (CE.pu c_DLast).con := fnPuR T_DLast c_DLast L_ok T_DLast_ok mixed Tryd.func8 (by kernel_rfl) (by kernel_rfl) fun args cs r h hcs => by
  unfold c_DLast at h
  split at h
  · rename_i ll l w b
    injection h with h; injection h with h1 h2; subst h1 h2
    exact ⟨[0, 1, 2, 3, 8, 9, 10, 11, 12, 13, 33], (fun _ _ => none), (fun _ _ => none), rfl, rfl, rfl, castH (p := P_DLast ll l w b) (by kernel_rfl) (p_DLast ll l w b (hcs _ (.head _)) (hcs _ (.tail _ (.head _))) (hcs _ (.tail _ (.tail _ (.head _)))) (hcs _ (.tail _ (.tail _ (.tail _ (.head _))))) (hcs _ (.tail _ (.tail _ (.tail _ (.tail _ (.head _)))))) (hcs _ (.tail _ (.tail _ (.tail _ (.tail _ (.tail _ (.head _))))))) (hcs _ (.tail _ (.tail _ (.tail _ (.tail _ (.tail _ (.tail _ (.head _)))))))))⟩
  · cases h
end Go.Proofs.YtiejdafjjneaeaaDoor
